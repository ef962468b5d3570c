/- What the proof stands on, part 2: the walk of each function, and plain laws of numbers. -/
import Derived.Test.YtiikffiembcboaaK1
import Derived.ChangeSlices
import Derived.WideShapes
import Derived.OpenShut
import Derived.Carry
import Derived.Laws.StructEq
import Derived.ChangeKeysEq
namespace Go.Proofs.Ytiikffiembcboaa.Sim
open Go
inductive OptI (E : Env) : Option Operand → Nat → Nat → Prop
  | none {d : Nat} : OptI E none d d
  | some {x : Operand} {k : IntKind} {d n : Nat} (h : aev E x = some (.int k (n : Nat))) : OptI E (some x) d n
section
variable {P : Program} {E : Env} {M : Mem} {d : Option Tmp} {ty : TypeId} {ps : String} {af : Array Edge} {g : Option (Nat × Bool)}
theorem run_bounds {ev : Operand → Value} {lo hi : Option Operand} {l h n c : Nat} (isS : Bool) (hlo : OptI E lo 0 l) (hhi : OptI E hi n h) (hev : ∀ x, (lo = some x ∨ hi = some x) → ∀ v, aev E x = some v → flatV v = true → ev x = v)
    (hlh : l ≤ h) (hhc : h ≤ c) (w : World) : (Instr.sliceBounds isS n c (lo.map ev) (hi.map ev) none).run P w = .ok (l, h, c) w := by
  cases hlo with
  | none =>
    cases hhi with
    | none => simp [Instr.sliceBounds]
    | some hx =>
      have := hev _ (.inr rfl) _ hx rfl
      simp [Instr.sliceBounds, Instr.sliceBound, this, asIntOf, hhc]
  | some hy =>
    have h2 := hev _ (.inl rfl) _ hy rfl
    cases hhi with
    | none =>
      simp [Instr.sliceBounds, Instr.sliceBound, h2, asIntOf, hlh]
    | some hx =>
      have := hev _ (.inr rfl) _ hx rfl
      simp [Instr.sliceBounds, Instr.sliceBound, this, h2, asIntOf, hhc, hlh]
theorem opt_mem {lo hi : Option Operand} {x y : Operand} {t : TypeId} (h : lo = some y ∨ hi = some y) : y ∈ (Op.slice t x lo hi none).operands := by
  rcases h with rfl | rfl <;> simp [Op.operands]
theorem FStep.sliceS {t e : TypeId} {x : Operand} {lo hi : Option Operand} {id o n l h sz : Nat} {b : Blk} (hx : aev E x = some (.slice (some ⟨id, o, none⟩) n 0)) (hlo : OptI E lo 0 l) (hhi : OptI E hi n h)
    (hb : M id = some b) (hs : b.es = sz) (ht : P.underlying t = some (.slice e)) (hsz : (P.info? e).map (·.size) = some sz) (hlh : l ≤ h) (hhn : h ≤ n) (hne : l = 0 ∨ l < h) :
    FStep P ⟨d, .slice t x lo hi none, ty, ps, af, g⟩ E M (.slice (some ⟨id, o + l * sz, none⟩) (h - l) 0) ⟨[id], []⟩ := by
  intro E' M' h1 h2 _ C ρ ac w hR
  have hb' : M' id = some b := by rw [h2 id (by simp)]; exact hb
  have hxv := hR.eval (x := x) (by rw [h1 x (by simp [Op.operands])]; exact hx)
  have hev : ∀ y, (lo = some y ∨ hi = some y) → ∀ v, aev E y = some v → flatV v = true → ac.eval y = v := fun y hy v hv hf =>
    flat_inv (hR.eval (x := y) (by rw [h1 y (opt_mem hy)]; exact hv)) hf
  unfold StepTo Oper.wp
  rcases slice_inv hxv with ⟨c, e1, hc, hD, hlim⟩ | ⟨h0, e1⟩
  · have hrun : (execOp ac.eval ⟨d, .slice t x lo hi none, ty, ps, af, g⟩).run P w = .ok (.value (.slice (some (if c = l then ⟨(ρ id).blk, (ρ id).off + o, none⟩ else ⟨(ρ id).blk, (ρ id).off + o + l * sz, none⟩)) (h - l) (c - l))) w := by
      by_cases hcl : c = l
      · simp only [execOp, e1, Instr.sliceAt, Instr.slice, Sem.run_bind, run_underlying ht, Result.andThen_ok, Option.map_none, run_bounds (P := P) true hlo hhi hev hlh (Nat.le_trans hhn hc), run_size hsz, Sem.run_pure, if_pos hcl]
      · simp only [execOp, e1, Instr.sliceAt, Instr.slice, Sem.run_bind, run_underlying ht, Result.andThen_ok, Option.map_none, run_bounds (P := P) true hlo hhi hev hlh (Nat.le_trans hhn hc), run_size hsz, Sem.run_pure, if_neg hcl, Option.map_some, addr_add]
    rw [hrun]
    refine ⟨_, rfl, ρ, hR, ?_⟩
    have hes := (hR.mem id b hb').es
    have h0 : c = l → l = 0 := fun hcl => by rcases hne with h | h <;> omega
    have hw : (if c = l then (⟨(ρ id).blk, (ρ id).off + o, none⟩ : Addr) else ⟨(ρ id).blk, (ρ id).off + o + l * sz, none⟩) = ⟨(ρ id).blk, (ρ id).off + (o + l * sz), none⟩ := by
      by_cases hcl : c = l
      · rw [if_pos hcl, h0 hcl]; simp
      · rw [if_neg hcl, Nat.add_assoc]
    rw [hw]
    refine VR.slice id (o + l * sz) (h - l) (c - l) hD (by simp) (fun _ => ⟨by omega, fun L hL => ?_⟩)
    have := hlim L hL
    rw [hes, hs] at this ⊢
    have e3 : l * sz + (c - l) * sz = c * sz := by rw [← Nat.add_mul]; congr 1; omega
    omega
  · subst h0
    obtain rfl : h = 0 := by omega
    obtain rfl : l = 0 := by omega
    have hrun : (execOp ac.eval ⟨d, .slice t x lo hi none, ty, ps, af, g⟩).run P w = .ok (.value (.slice none 0 0)) w := by
      simp only [execOp, e1, Instr.sliceAt, Instr.slice, Sem.run_bind, run_underlying ht, Result.andThen_ok, Option.map_none, run_bounds (P := P) true hlo hhi hev hlh (Nat.le_refl _), run_size hsz, Sem.run_pure, if_true, Nat.sub_zero]
    rw [hrun]
    exact ⟨_, rfl, ρ, hR, .nilS _ (by simp)⟩
theorem FStep.sliceA {t e : TypeId} {x : Operand} {lo hi : Option Operand} {id o n l h sz : Nat} {b : Blk} (hx : aev E x = some (.pointer (some ⟨id, o, none⟩))) (hlo : OptI E lo 0 l) (hhi : OptI E hi n h)
    (hb : M id = some b) (hs : b.es = sz) (ht : P.underlying t = some (.array n e)) (hsz : (P.info? e).map (·.size) = some sz) (hlh : l ≤ h) (hhn : h ≤ n) (hne : l = 0 ∨ l < n) (hroom : o + n * sz ≤ b.cells.length) :
    FStep P ⟨d, .slice t x lo hi none, ty, ps, af, g⟩ E M (.slice (some ⟨id, o + l * sz, none⟩) (h - l) 0) ⟨[id], []⟩ := by
  intro E' M' h1 h2 _ C ρ ac w hR
  have hb' : M' id = some b := by rw [h2 id (by simp)]; exact hb
  obtain ⟨e1, hD⟩ := ptr_inv (hR.eval (x := x) (by rw [h1 x (by simp [Op.operands])]; exact hx))
  have hev : ∀ y, (lo = some y ∨ hi = some y) → ∀ v, aev E y = some v → flatV v = true → ac.eval y = v := fun y hy v hv hf =>
    flat_inv (hR.eval (x := y) (by rw [h1 y (opt_mem hy)]; exact hv)) hf
  unfold StepTo Oper.wp
  have hrun : (execOp ac.eval ⟨d, .slice t x lo hi none, ty, ps, af, g⟩).run P w = .ok (.value (.slice (some ⟨(ρ id).blk, (ρ id).off + (o + l * sz), none⟩) (h - l) (n - l))) w := by
    by_cases hcl : n = l
    · have h0 : l = 0 := by rcases hne with h | h <;> omega
      simp only [execOp, e1, Instr.sliceAt, Instr.sureAddr, Sem.run_bind, run_underlying ht, Result.andThen_ok, Option.map_none, run_bounds (P := P) false hlo hhi hev hlh hhn, run_size hsz, Sem.run_pure, if_pos hcl]
      simp [h0]
    · simp only [execOp, e1, Instr.sliceAt, Instr.sureAddr, Sem.run_bind, run_underlying ht, Result.andThen_ok, Option.map_none, run_bounds (P := P) false hlo hhi hev hlh hhn, run_size hsz, Sem.run_pure, if_neg hcl, addr_add, Nat.add_assoc]
  rw [hrun]
  refine ⟨_, rfl, ρ, hR, VR.slice id (o + l * sz) (h - l) (n - l) hD (by simp) (fun _ => ⟨by omega, fun L hL => ?_⟩)⟩
  have hr := (hR.mem id b hb').room L hL
  rw [(hR.mem id b hb').es, hs]
  have e3 : l * sz + (n - l) * sz = n * sz := by rw [← Nat.add_mul]; congr 1; omega
  omega
theorem FStep.makeSliceC {t e : TypeId} {x y : Operand} {n k sz by' : Nat} {c z : Value} (id : Nat) (hx : aev E x = some (.int .i64 n)) (hy : aev E y = some (.int .i64 k)) (hnk : n ≤ k)
    (ht : P.underlying t = some (.slice e)) (hs : (P.info? e).map (·.size) = some sz) (h0 : sz ≠ 0) (hz : (P.info? e).map (·.zero) = some (some z)) (hzc : z.cells = Array.replicate sz c) (hc : flatV c = true)
    (hby : (P.info? e).map (·.bytes) = some by') (hlen : by' * k ≤ 281474976710656) (hn : k < 9223372036854775808) :
    FStep P ⟨d, .makeSlice t x y, ty, ps, af, g⟩ E M (.slice (some ⟨id, 0, none⟩) n 0) ⟨[], [(id, ⟨List.replicate (n * sz) c, true, sz⟩)]⟩ := by
  intro E' M' h1 _ h3 C ρ ac w hR
  have hid : M' id = none := h3 _ (List.mem_singleton_self _) (by simp)
  have e1 := flat_inv (hR.eval (x := x) (by rw [h1 x (by simp [Op.operands])]; exact hx)) rfl
  have e2 := flat_inv (hR.eval (x := y) (by rw [h1 y (by simp [Op.operands])]; exact hy)) rfl
  obtain ⟨ρ', hR', hρ, _⟩ := hR.alloc hid (cells := List.replicate (n * sz) c) (rcells := Array.replicate (k * sz) c) (elem := e) sz (by simpa using Nat.mul_le_mul_right _ hnk) (fun k y u h1 h2 => by
    have a1 := (List.getElem?_eq_some_iff.1 h1).2
    have a2 := (Array.getElem?_eq_some_iff.1 h2).2
    simp at a1 a2
    rw [← a1, ← a2]
    exact .flat _ hc)
  obtain ⟨info, hi, _⟩ := info_of hs
  have hby2 : info.bytes = by' := by rw [hi] at hby; simpa using hby
  have hwrap : IntKind.i64.wrap (n : Int) = n := IntWalk.i64_in _ (by omega)
  have hwrapk : IntKind.i64.wrap (k : Int) = k := IntWalk.i64_in _ (by omega)
  unfold StepTo Oper.wp
  have hlen' : ¬ (281474976710656 : Int) < (info.bytes : Int) * (k : Int) := by
    rw [hby2]
    have h9 := Int.ofNat_le.mpr hlen
    rw [Int.natCast_mul] at h9
    omega
  have : (execOp ac.eval ⟨d, .makeSlice t x y, ty, ps, af, g⟩).run P w = .ok (.value (.slice (some ⟨w.heap.size, 0, none⟩) n k)) (pushW w (.cells (Array.replicate (k * sz) c) e)) := by
    have hn0 : ¬ (n : Int) < 0 := by omega
    have hk0 : ¬ (k : Int) < 0 := by omega
    have hnk' : ¬ (k : Int) < (n : Int) := by omega
    simp only [execOp, e1, e2, Instr.makeSlice, Sem.run_bind, run_underlying ht, Result.andThen_ok, asInt, asIntOf, Sem.run_pure, typeInfo, hi, run_program, hwrap, hwrapk]
    simp only [hn0, hk0, hnk', decide_false, Bool.or_false, gt_iff_lt, hlen', show (2 : Int) ^ 48 = 281474976710656 from rfl, if_false, Bool.false_eq_true, Sem.run_bind,
      Result.andThen_ok, run_askRoom, Int.toNat_natCast, run_size hs]
    by_cases hz0 : k * sz = 0
    · simp [hz0, newRow, pushW, show Array.range 0 = #[] from rfl]
    · have hm := mod_replicate sz k c (.inr h0)
      rw [Array.size_replicate] at hm
      simp [hz0, run_zero hz, newRow, pushW, hzc, hm]
  rw [this]
  refine ⟨_, rfl, ρ', hR', ?_⟩
  have := VR.slice (m := .real) (ρ := ρ') (D := dom (upds M' [(id, ⟨List.replicate (n * sz) c, true, sz⟩)])) id 0 n k dom_upd (by simp) (fun _ => ⟨hnk, fun L hL => by
    rw [hρ] at hL ⊢
    simp only [Array.size_replicate, Option.some.injEq] at hL
    simp only; omega⟩)
  rw [hρ] at this
  exact this
theorem PureOp.toArr {t e : TypeId} {x : Operand} {id o n k : Nat} (hx : aev E x = some (.slice (some ⟨id, o, none⟩) n 0)) (ht : P.underlying t = some (.array k e)) (hk : k ≤ n) (h0 : n ≠ 0) :
    PureOp P (.sliceToArrayPointer t x) E (.pointer (some ⟨id, o, none⟩)) := fun D ρ ev hev => by
  obtain ⟨c, e1, hc, hD, _⟩ | ⟨h1, _⟩ := slice_inv (hev x (by simp [Op.operands]) _ hx)
  · have hk' : ¬ n < k := by omega
    exact ⟨_, .ptr id o hD, fun _ _ _ _ _ w => by simp [execOp, e1, Instr.arrayAt, run_underlying ht, hk']⟩
  · exact absurd h1 h0
end
theorem oneM {α : Type} {f : α → Value} (hf : ∀ x, (f x).oneCell' = true) (l : List α) : (l.map f).all (·.oneCell') = true := by
  rw [List.all_eq_true]
  intro x hx
  obtain ⟨y, _, rfl⟩ := List.mem_map.1 hx
  exact hf y
theorem OutL.husk {m : Nat} {nids : List Nat} {M : Mem} {n k es : Nat} {b' : Blk} {r : List Blk} (hM : M (hmap m nids k).blk = some b') (he : b'.es = es) (hr : OutL m nids M n (k + 1) r) : OutL m nids M n k (⟨[], false, es⟩ :: r) :=
  ⟨⟨b', hM, by simp, fun x hx => by simp at hx, fun h => by rcases h with h | h; cases h; exact absurd rfl h.2, he, Nat.zero_le _⟩, hr⟩
theorem OutL.part {m : Nat} {nids : List Nat} {M : Mem} {n k : Nat} {c c' : List Value} {rw rw' : Bool} {es : Nat} {r : List Blk} (hM : M (hmap m nids k).blk = some ⟨c', rw', es⟩)
    (hc : c'.take c.length = c) (hf : ∀ x ∈ c, flatV x = true) (hrw : rw = true ∨ (m ≤ k ∧ c ≠ []) → rw' = true) (hl : c.length ≤ c'.length) (hr : OutL m nids M n (k + 1) r) : OutL m nids M n k (⟨c, rw, es⟩ :: r) :=
  ⟨⟨_, hM, by rw [flat_map_ren hf]; exact hc, OkL.flat hf, hrw, rfl, hl⟩, hr⟩
theorem FitL.part {h : Rho} {n : Nat} {M : Mem} {c c' : List Value} {rw' : Bool} {es : Nat} {p : Nat × Nat} {r : List Blk} {g : List (Nat × Nat)} (h1 : M p.1 = some ⟨c', rw', es⟩) (h2 : (c'.drop p.2).take c.length = c)
    (h3 : ∀ x ∈ c, flatV x = true) (h4 : p.2 + c.length ≤ c'.length) (hr : FitL h n M r g) : FitL h n M (⟨c, false, es⟩ :: r) (p :: g) :=
  .cons h1 (by rw [flat_map_ren h3]; exact h2) (OkL.flat h3) h4 rfl (fun e => by cases e) hr
section
variable {P : Program} {T : Tab} (H : TabOk P T)
variable {ops : Array Oper} {k i : Nat} {os : List Oper} {E : Env} {M : Mem} {D : List Eff → Prop} {K : ASt → Prop}
  {d : Tmp} {ty : TypeId} {ps : String} {af : Array Edge} {g : Option (Nat × Bool)}
include H
theorem AWo.sliceS {t e : TypeId} {x : Operand} {lo hi : Option Operand} {id o n l h sz : Nat} {b : Blk} {v : Value} (hx : aev E x = some (.slice (some ⟨id, o, none⟩) n 0)) (hlo : OptI E lo 0 l) (hhi : OptI E hi n h)
    (hb : M id = some b) (hs : b.es = sz) (ht : T.sl.lookup t = some e) (hsz : T.sz.lookup e = some sz) (hlh : l ≤ h) (hhn : h ≤ n) (hne : l = 0 ∨ l < h) (hv : .slice (some ⟨id, o + l * sz, none⟩) (h - l) 0 = v)
    (hw : wantA ops E ⟨some d, .slice t x lo hi none, ty, ps, af, g⟩ = some true) (hd : Nat.blt d k = true)
    (hr : AWo P ops k (i + 1) os ⟨upd E d v, M⟩ (fun es' => D (⟨[id], []⟩ :: es')) K) :
    AWo P ops k i (⟨some d, .slice t x lo hi none, ty, ps, af, g⟩ :: os) ⟨E, M⟩ D K := by
  subst hv
  exact AWo.step (FStep.sliceS hx hlo hhi hb hs (H.sl t _ ht) (H.sz e _ hsz) hlh hhn hne) hw hd (fun p hp => by simp at hp) hr
theorem AWo.sliceA {t e : TypeId} {x : Operand} {lo hi : Option Operand} {id o n l h sz : Nat} {b : Blk} {v : Value} (hx : aev E x = some (.pointer (some ⟨id, o, none⟩))) (hlo : OptI E lo 0 l) (hhi : OptI E hi n h)
    (hb : M id = some b) (hs : b.es = sz) (ht : T.arr.lookup t = some (n, e)) (hsz : T.sz.lookup e = some sz) (hlh : l ≤ h) (hhn : h ≤ n) (hne : l = 0 ∨ l < n) (hroom : o + n * sz ≤ b.cells.length)
    (hv : .slice (some ⟨id, o + l * sz, none⟩) (h - l) 0 = v) (hw : wantA ops E ⟨some d, .slice t x lo hi none, ty, ps, af, g⟩ = some true) (hd : Nat.blt d k = true)
    (hr : AWo P ops k (i + 1) os ⟨upd E d v, M⟩ (fun es' => D (⟨[id], []⟩ :: es')) K) :
    AWo P ops k i (⟨some d, .slice t x lo hi none, ty, ps, af, g⟩ :: os) ⟨E, M⟩ D K := by
  subst hv
  exact AWo.step (FStep.sliceA hx hlo hhi hb hs (H.arr t _ _ ht) (H.sz e _ hsz) hlh hhn hne hroom) hw hd (fun p hp => by simp at hp) hr
theorem AWo.makeSliceC {t e : TypeId} {x y : Operand} {n c' sz by' : Nat} {c z : Value} (id : Nat) (cells : List Value) (hx : aev E x = some (.int .i64 n)) (hy : aev E y = some (.int .i64 c')) (hnk : n ≤ c')
    (ht : T.sl.lookup t = some e) (hs : T.sz.lookup e = some sz) (h0 : sz ≠ 0) (hz : T.zero.lookup e = some z) (hzc : z.cells = Array.replicate sz c) (hc : flatV c = true)
    (hby : T.by'.lookup e = some by') (hlen : by' * c' ≤ 281474976710656) (hn : c' < 9223372036854775808) (hcl : List.replicate (n * sz) c = cells) (hid : M id = none)
    (hw : wantA ops E ⟨some d, .makeSlice t x y, ty, ps, af, g⟩ = some true) (hd : Nat.blt d k = true)
    (hr : AWo P ops k (i + 1) os ⟨upd E d (.slice (some ⟨id, 0, none⟩) n 0), upd M id ⟨cells, true, sz⟩⟩ (fun es' => D (⟨[], [(id, ⟨cells, true, sz⟩)]⟩ :: es')) K) :
    AWo P ops k i (⟨some d, .makeSlice t x y, ty, ps, af, g⟩ :: os) ⟨E, M⟩ D K := by
  subst hcl
  exact AWo.step (FStep.makeSliceC id hx hy hnk (H.sl t _ ht) (H.sz e _ hs) h0 (H.zero e _ hz) hzc hc (H.by' e _ hby) hlen hn) hw hd (fun p hp _ => by simp at hp; subst hp; exact hid) hr
theorem AWo.storeAllN {t : TypeId} {a x : Operand} {id sz : Nat} {cells : List Value} {es : Nat} {vs : List Value} (ha : aev E a = some (.pointer (some ⟨id, 0, none⟩))) (hx : aev E x = some (.agg vs.toArray))
    (hb : M id = some ⟨cells, true, es⟩) (hs : T.sz.lookup t = some sz) (hl : vs.length = sz) (ho : cells.length = sz) (hc : vs.all (·.oneCell') = true)
    (hw : wantA ops E ⟨none, .store t a x, ty, ps, af, g⟩ = some true)
    (hr' : AWo P ops k (i + 1) os ⟨E, upd M id ⟨vs, true, es⟩⟩ (fun es' => D (⟨[id], [(id, ⟨vs, true, es⟩)]⟩ :: es')) K) :
    AWo P ops k i (⟨none, .store t a x, ty, ps, af, g⟩ :: os) ⟨E, M⟩ D K :=
  AWo.storeAll H ha hx hb (by rw [hl]; exact hs) (by omega) hc hw hr'
theorem PureOp.buildArr {t e : TypeId} {n sz : Nat} {parts : Array (Nat × Operand)} {z : Value} (vals : List (Nat × Value)) {out : List Value} (ht : T.arr.lookup t = some (n, e)) (hs : T.sz.lookup e = some sz)
    (hz : T.zero.lookup t = some z) (hzf : z.cells.toList.all flatV = true) (hp : parts.toList.map (fun p => (p.1, aev E p.2)) = vals.map (fun p => (p.1, some p.2)))
    (hf : fillL (fun i => some (i * sz, sz)) z.cells.toList vals = some out) : PureOp P (.build t parts) E (.agg out.toArray) := fun D ρ ev hx => by
  obtain ⟨out', h1, h2⟩ := fill_rel (D := D) (ρ := ρ) (ev := ev) parts.toList vals (rs := z.cells) (fun p hp v' hv => hx p.2 (by simp only [Op.operands, List.mem_toArray, List.mem_map]; exact ⟨p, hp, rfl⟩) v' hv) hp
    ⟨rfl, fun k x y h1 h2 => by rw [h1] at h2; cases h2; exact .flat _ (List.all_eq_true.1 hzf x (List.mem_of_getElem? h1))⟩ hf
  refine ⟨.agg out', .agg _ _ (by simpa using h2.1) fun k x y h3 h4 => h2.2 k x y (by simpa using h3) (by simpa using h4), fun _ _ _ _ _ w => ?_⟩
  have hpt : (parts.map fun p => (p.1, ev p.2)).toList = parts.toList.map fun p => (p.1, ev p.2) := by simp
  have h6 : Instr.fill (fun i => some (i * sz, sz)) z.cells (parts.map fun p => (p.1, ev p.2)).toList = some out' := by rw [hpt]; exact h1
  simp only [execOp, Instr.build, Sem.run_bind, run_zero (H.zero t _ hz), Result.andThen_ok, run_underlying (H.arr t _ _ ht), run_size (H.sz e _ hs), h6]
  simp
theorem PureOp.toArrT {t e : TypeId} {x : Operand} {id o n k : Nat} (hx : aev E x = some (.slice (some ⟨id, o, none⟩) n 0)) (ht : T.arr.lookup t = some (k, e)) (hk : k ≤ n) (h0 : n ≠ 0) :
    PureOp P (.sliceToArrayPointer t x) E (.pointer (some ⟨id, o, none⟩)) := PureOp.toArr hx (H.arr t _ _ ht) hk h0
end
end Go.Proofs.Ytiikffiembcboaa.Sim
namespace Go.Proofs.Ytiikffiembcboaa.Sim
open Go Go.RowKit Go.ChangeShapes Go.WideShapes
structure ROk (W : World) (p : Pl) (cells : List Value) (es : Nat) : Prop where
  lim : p.lim = none
  es : p.es = es
  at' : ∀ (i : Nat) (v : Value), cells[i]? = some v → W.cell? ⟨p.blk, p.off + i, none⟩ = some v
  flat : ∀ v ∈ cells, flatV v = true
theorem cell?_lt {W : World} {a : Addr} {v : Value} (h : W.cell? a = some v) : a.block < W.heap.size := by
  unfold World.cell? at h
  cases hb : W.heap[a.block]? with
  | none => rw [hb] at h; cases h
  | some o => exact (Array.getElem?_eq_some_iff.1 hb).1
theorem MemOk.ro {W : World} {ps : List Pl} {M0 : List Blk} (h : ∀ (k : Nat) (b : Blk), M0[k]? = some b → b.rw = false ∧ ∃ p, ps[k]? = some p ∧ ROk W p b.cells b.es) :
    MemOk (fun k => (ps[k]?).getD ⟨0, 0, none, 1⟩) (memL M0) W := by
  intro i b hb
  obtain ⟨hrw, p, hp, hk⟩ := h i b hb
  have e : (ps[i]?).getD ⟨0, 0, none, 1⟩ = p := by simp only [hp, Option.getD_some]
  refine ⟨fun hs => ?_, fun k v hv => ?_, fun hr => ?_, ?_, fun L hL => ?_⟩
  · rw [e]
    rcases hs with hs | hs
    · have := hs.1; rw [hrw] at this; cases this
    · obtain ⟨v, hv⟩ : ∃ v, b.cells[0]? = some v := by
        cases hc : b.cells with
        | nil => exact absurd hc hs
        | cons x r => exact ⟨x, rfl⟩
      exact cell?_lt (hk.at' 0 v hv)
  · exact ⟨v, by rw [e]; exact hk.at' k v hv, .flat v (hk.flat v (List.mem_of_getElem? hv))⟩
  · have := hr.1; rw [hrw] at this; cases this
  · rw [e]; exact hk.es
  · rw [e, hk.lim] at hL; cases hL
def SlArg (p : Pl) (n : Nat) (u : Value) : Prop := (∃ c, u = .slice (some ⟨p.blk, p.off, none⟩) n c ∧ n ≤ c) ∨ (n = 0 ∧ u = .slice none 0 0)
inductive LawArgs (ps : List Pl) : List Value → List Value → Prop
  | nil : LawArgs ps [] []
  | pure {v : Value} {vs us : List Value} (h : pureV v = true) (hr : LawArgs ps vs us) : LawArgs ps (v :: vs) (v :: us)
  | slice {k n : Nat} {p : Pl} {u : Value} {vs us : List Value} (hk : ps[k]? = some p) (hl : p.lim = none) (h : SlArg p n u) (hr : LawArgs ps vs us) : LawArgs ps (.slice (some ⟨k, 0, none⟩) n 0 :: vs) (u :: us)
theorem LawArgs.rel {ps : List Pl} {vs us : List Value} (h : LawArgs ps vs us) {D : Nat → Prop} (hD : ∀ k, k < ps.length → D k) :
    vs.length = us.length ∧ ∀ (k : Nat) (v u : Value), vs[k]? = some v → us[k]? = some u → VR .real D (fun k => (ps[k]?).getD ⟨0, 0, none, 1⟩) v u := by
  induction h with
  | nil => exact ⟨rfl, fun k v u h => by simp at h⟩
  | pure h _ ih =>
    refine ⟨by simp [ih.1], fun k v u h1 h2 => ?_⟩
    cases k with
    | zero => simp at h1 h2; subst h1; subst h2; exact .pure h
    | succ k => exact ih.2 k v u (by simpa using h1) (by simpa using h2)
  | @slice k0 n p u vs us hk hl h _ ih =>
    refine ⟨by simp [ih.1], fun k v u h1 h2 => ?_⟩
    cases k with
    | zero =>
      simp at h1 h2; subst h1; subst h2
      rcases h with ⟨c, rfl, hc⟩ | ⟨rfl, rfl⟩
      · have := VR.slice (m := .real) (ρ := fun k => (ps[k]?).getD ⟨0, 0, none, 1⟩) (D := D) k0 0 n c (hD _ (List.getElem?_eq_some_iff.1 hk).1) (by simp) (fun _ => ⟨hc, fun L hL => by simp only [hk, Option.getD_some, hl] at hL; cases hL⟩)
        simpa only [hk, Option.getD_some, Nat.add_zero] using this
      · exact .nilS _ (by simp)
    | succ k => exact ih.2 k v u (by simpa using h1) (by simpa using h2)
theorem GC.law {P : Program} {f : FuncId} {args : List Value} {M0 Mo : List Blk} (S : GC P f args M0 [.bool true] Mo) {W : World} (ps : List Pl) (hps : ps.length = M0.length)
    (hm : ∀ (k : Nat) (b : Blk), M0[k]? = some b → b.rw = false ∧ ∃ p, ps[k]? = some p ∧ ROk W p b.cells b.es) {rargs : List Value} (ha : LawArgs ps args rargs) :
    Calls P f rargs.toArray W fun e W' => e = .returned (.bool true) ∧ Below W.heap.size W W' := by
  have hD : ∀ k, k < ps.length → dom (memL M0) k := fun k hk => dom_memL.2 (by omega)
  obtain ⟨h1, h2⟩ := ha.rel hD
  exact Ctr.law S (fun b hb => by obtain ⟨k, hk⟩ := List.mem_iff_getElem?.1 hb; exact (hm k b hk).1) (MemOk.ro hm) h1 h2
section
variable {H : Type} {enc : TypeId × Value → H} {P : Program} {W : World} {base : Nat} {spare : Nat → Bool} {held : Bool}
theorem spot_none {t e : TypeId} {r : Reach} {base : Nat} {a : Addr} {n c : Nat} (ht : P.underlying t = some (.slice e)) (h : Value.okWide P W r base t (.slice (some a) n c)) : a.spot = none := by
  simp only [Value.okWide, ht, Cell.okWide, Cell.ok] at h
  exact h.2.2.2.1
theorem open_nums {t e : TypeId} {k : IntKind} {r : Reach} {base' : Nat} {v : Value} {d : DataW H} {pl : List MemPlace} (ht : P.underlying t = some (.slice e)) (he : P.underlying e = some (.int k)) (hc : P.cellsOf e = 1)
    (hv : Value.okWide P W r base' t v) (h : DataW.Trod enc P W base spare held t v d pl) :
    ∃ (p : Pl) (zs : List Int), ROk W p (zs.map (Value.int k)) 1 ∧ SlArg p zs.length v ∧ ∀ z ∈ zs, (Lit.int k z).wf = true := by
  obtain ⟨a0, len0, cap0, rfl⟩ := okWide_slice ht hv
  obtain ⟨fuel, hf⟩ := h
  rcases open_ints ht he hc hf with ⟨hcs, -⟩ | ⟨a, len, cap, zs, hcs, -, hl, hm, hz, -, hcell, hwf⟩
  · have hcs' : Value.slice a0 len0 cap0 = .slice none 0 0 := by simpa [Value.cells] using hcs
    exact ⟨⟨0, 0, none, 1⟩, [], ⟨rfl, rfl, fun i v h => by simp at h, fun v h => by simp at h⟩, .inr ⟨rfl, hcs'⟩, fun z h => by simp at h⟩
  · have hcs' : Value.slice a0 len0 cap0 = .slice (some a) len cap := by simpa [Value.cells] using hcs
    rw [hcs'] at hv ⊢
    have hsp := spot_none ht hv
    obtain ⟨b, o, s⟩ := a
    simp only at hsp; subst hsp
    have hle : len ≤ zs.length := by rw [hz]; split <;> omega
    refine ⟨⟨b, o, none, 1⟩, zs.take len, ⟨rfl, rfl, fun i v h => ?_, fun v h => ?_⟩, .inl ⟨cap, by simp [List.length_take, Nat.min_eq_left hle], by simp; omega⟩, fun z h => hwf z (List.mem_of_mem_take h)⟩
    · rw [List.getElem?_map] at h
      have hi : i < len := by
        rcases Nat.lt_or_ge i len with h1 | h1
        · exact h1
        · rw [List.getElem?_eq_none (by simp; omega)] at h; simp at h
      rw [List.getElem?_take, if_pos hi, List.getElem?_eq_getElem (by omega)] at h
      have h9 := hcell i (by omega)
      rw [addr_add] at h9
      rw [h9, ← Option.some.inj (show some (Value.int k zs[i]) = some v from h), List.getD_eq_getElem?_getD, List.getElem?_eq_getElem (by omega)]
      rfl
    · obtain ⟨z, _, rfl⟩ := List.mem_map.1 h; rfl
end
end Go.Proofs.Ytiikffiembcboaa.Sim
namespace Go.Proofs.Ytiikffiembcboaa.Sim
open Go
theorem agg_inv {D : Nat → Prop} {ρ : Rho} {cs : Array Value} {u : Value} (h : VR .real D ρ (.agg cs) u) : ∃ ys, u = .agg ys ∧ cs.size = ys.size ∧ ∀ (k : Nat) (x y : Value), cs[k]? = some x → ys[k]? = some y → VR .real D ρ x y := by
  cases h with
  | flat _ hf => simp [flatV] at hf
  | agg _ ys hs h => exact ⟨ys, rfl, hs, h⟩
section
variable {P : Program} {T : Tab} (H : TabOk P T) {E : Env}
include H
theorem TabOk.isAgg {t : TypeId} {b : Bool} (ht : T.agg.lookup t = some b) (w : World) : (Go.isAgg t).run P w = .ok b w := by
  rw [run_agg (H.agg t _ ht).1, (H.agg t _ ht).2]
theorem PureOp.idxV {x ix : Operand} {t e : TypeId} {n j : Nat} {cs : Array Value} {v : Value} {kd : IntKind} (hx : aev E x = some (.agg cs)) (hi : aev E ix = some (.int kd (j : Nat))) (ht : T.arr.lookup t = some (n, e))
    (hs : T.sz.lookup e = some 1) (ha : T.agg.lookup e = some false) (hj : j < n) (hv : cs[j]? = some v) : PureOp P (.index t x ix) E v := fun D ρ ev hev => by
  obtain ⟨ys, e1, hsz, hrel⟩ := agg_inv (hev x (by simp [Op.operands]) _ hx)
  have e2 := flat_inv (hev ix (by simp [Op.operands]) _ hi) rfl
  have hlt : j < cs.size := get_lt hv
  obtain ⟨y, hy⟩ := exists_get hlt hsz
  refine ⟨y, hrel j v y hv hy, fun _ _ _ _ _ w => ?_⟩
  simp [execOp, e1, e2, Instr.index, asIntOf, run_underlying (H.arr t _ _ ht), hj, run_size (H.sz e _ hs), part, TabOk.isAgg H ha, hy]
theorem PureOp.idxVM {α : Type} {f : α → Value} {l : List α} (dflt : α) {x ix : Operand} {t e : TypeId} {n j : Nat} {kd : IntKind} (hx : aev E x = some (.agg (l.map f).toArray)) (hi : aev E ix = some (.int kd (j : Nat))) (ht : T.arr.lookup t = some (n, e))
    (hs : T.sz.lookup e = some 1) (ha : T.agg.lookup e = some false) (hj : j < n) (hl : l.length = n) : PureOp P (.index t x ix) E (f (l.getD j dflt)) :=
  PureOp.idxV H hx hi ht hs ha hj (by rw [List.getElem?_toArray]; exact getM dflt (by omega))
omit H in
theorem PureOp.idxStr {x ix : Operand} {t : TypeId} {s : ByteArray} {j : Nat} {b : UInt8} {kd : IntKind} (hx : aev E x = some (.string s)) (hi : aev E ix = some (.int kd (j : Nat))) (ht : P.underlying t = some .string) (hb : s[j]? = some b) :
    PureOp P (.index t x ix) E (vi .u8 b.toNat) := fun D ρ ev hev => by
  have e1 := flat_inv (hev x (by simp [Op.operands]) _ hx) rfl
  have e2 := flat_inv (hev ix (by simp [Op.operands]) _ hi) rfl
  refine ⟨_, .flat _ rfl, fun _ _ _ _ _ w => ?_⟩
  simp [execOp, e1, e2, Instr.index, asIntOf, run_underlying ht, hb, vi]
omit H in
theorem PureOp.negU {x : Operand} {t : TypeId} {k : IntKind} {a : Nat} (m : Nat) (hx : aev E x = some (vi k a)) (hs : k.signed = false) (hm : 2 ^ k.bits = m) (ha : a ≤ m) : PureOp P (.unOp .neg t x) E (vi k ((m - a) % m)) :=
  (PureOp.neg hx).mono (by
    simp only [vi, Value.int.injEq, true_and]
    rw [← wrap_uns hs hm]
    subst hm
    simp only [IntKind.wrap, hs, Bool.false_and, Bool.false_eq_true, if_false]
    rw [Int.natCast_sub ha]
    have e : (((2 ^ k.bits : Nat) : Int) - a) = (0 - a) + (2 ^ k.bits : Int) := by simp; omega
    rw [e, Int.add_emod_right])
end
end Go.Proofs.Ytiikffiembcboaa.Sim
namespace Go.Proofs.Ytiikffiembcboaa.Sim
open Go
def vp (r : Nat) : Value := .int .i64 ((r : Int) - 1)
theorem vp_succ (q : Nat) : vp (q + 1) = vi .i64 q := by simp only [vp, vi]; congr 1; omega
section
variable {P : Program} {E : Env} {t t' : TypeId} {x y : Operand}
theorem PureOp.geP {r : Nat} (h1 : aev E x = some (vp r)) (h2 : aev E y = some (.int .i64 0)) : PureOp P (.binOp .geq t x y t') E (.bool (decide (0 < r))) :=
  PureOp.bin h1 h2 (by simp only [evalBin, Option.some.injEq, Value.bool.injEq]; rw [Bool.eq_iff_iff]; simp; omega)
theorem PureOp.subP {a : Nat} (h1 : aev E x = some (vi .i64 a)) (h2 : aev E y = some (.int .i64 1)) (h : a < 9223372036854775808) : PureOp P (.binOp .sub t x y t') E (vp a) :=
  PureOp.bin h1 h2 (by simp only [evalBin, vp]; rw [IntWalk.i64_in _ (by omega)])
theorem AW.joinT {n m : Nat} {σ : ASt} {Q : Exit → ASt → Prop} {c y : Code} (I : ASt → Prop) (h : AW P n m c σ (thenA (fun σ' => ∃ fm τ, Wk m fm σ' τ ∧ I τ) Q)) (h2 : ∀ τ, I τ → AW P n m y τ Q) :
    AW P n m c σ (thenA (fun σ' => AW P n m y σ' Q) Q) :=
  AW.mono h fun e σ' hq => by
    cases e with
    | normal => obtain ⟨fm, τ, hw, hI⟩ := hq; exact AW.weaken hw (h2 τ hI)
    | _ => exact hq
end
end Go.Proofs.Ytiikffiembcboaa.Sim
namespace Go.Proofs.Ytiikffiembcboaa.Sim
open Go
section
variable {P : Program} {E : Env}
theorem run_slNil' (d : Nat) {t e : TypeId} (a : Addr) (n c : Nat) (h : P.underlying t = some (.slice e)) (w : World) : (Op.equalIn (d + 1) t (.slice (some a) n c) (.slice none 0 0)).run P w = .ok false w := by
  simp [Op.equalIn, run_underlying h]
theorem run_slNil {t e : TypeId} (a : Addr) (n c : Nat) (h : P.underlying t = some (.slice e)) (w : World) : (Op.equal t (.slice (some a) n c) (.slice none 0 0)).run P w = .ok false w := run_slNil' 9999 a n c h w
theorem PureOp.slEqNil {t t' e : TypeId} {x : Operand} {id o n : Nat} (hu : P.underlying t = some (.slice e)) (h1 : aev E x = some (.slice (some ⟨id, o, none⟩) n 0)) (hn : n ≠ 0) :
    PureOp P (.binOp .eql t x (.const (.slice none 0 0)) t') E (.bool false) := fun D ρ ev hx => by
  have e2 : ev (.const (.slice none 0 0)) = .slice none 0 0 := flat_inv (hx (.const (.slice none 0 0)) (by simp [Op.operands]) _ rfl) rfl
  rcases slice_inv (hx x (by simp [Op.operands]) _ h1) with ⟨c, e1, _, _, _⟩ | ⟨h0, _⟩
  · exact ⟨_, .flat _ rfl, fun _ _ _ _ _ w => by simp [execOp, e1, e2, eqGuard, binOp, run_slNil _ _ _ hu]⟩
  · exact absurd h0 hn
end
end Go.Proofs.Ytiikffiembcboaa.Sim
namespace Go.Proofs.Ytiikffiembcboaa.Sim
open Go
section
variable {P : Program}
theorem run_eqItems_ints (d : Nat) {e : TypeId} {k : IntKind} (he : P.underlying e = some (.int k)) (hc : P.cellsOf e = 1) (l l' : List Nat) (w : World) : ∀ (is : List Nat), (∀ i ∈ is, i < l.length ∧ i < l'.length) →
    (Op.eqItems (d + 1) e (P.cellsOf e) (l.map (vi k)).toArray (l'.map (vi k)).toArray is).run P w = .ok (is.all fun i => l.getD i 0 == l'.getD i 0) w
  | [], _ => by simp [Op.eqItems]
  | i :: is, h => by
    obtain ⟨h1, h2⟩ := h i (List.mem_cons_self ..)
    have ih := run_eqItems_ints d he hc l l' w is fun j hj => h j (List.mem_cons_of_mem _ hj)
    have a1 : ((l.map (vi k)).toArray)[i]? = some (vi k (l.getD i 0)) := by rw [List.getElem?_toArray]; exact getM 0 h1
    have a2 : ((l'.map (vi k)).toArray)[i]? = some (vi k (l'.getD i 0)) := by rw [List.getElem?_toArray]; exact getM 0 h2
    have hp : ∀ (cs : Array Value) (v : Value), cs[i]? = some v → (part e cs i).run P w = .ok v w := fun cs v hv => by simp [part, isAgg, run_underlying he, hv]
    have e3 : (Op.equalIn (d + 1) e (vi k (l.getD i 0)) (vi k (l'.getD i 0))).run P w = .ok (l.getD i 0 == l'.getD i 0) w := by
      simp only [Op.equalIn, vi, Sem.run_bind, run_underlying he, Result.andThen_ok, if_true, Sem.run_pure]
      congr 1
      rw [Bool.eq_iff_iff]; simp; omega
    rw [hc] at ih
    simp only [Op.eqItems, Sem.run_bind, hc, Nat.mul_one, hp _ _ a1, hp _ _ a2, e3, Result.andThen_ok, Sem.run_ite, List.all_cons]
    cases hx : (l.getD i 0 == l'.getD i 0) with
    | true => simpa using ih
    | false => simp
theorem range_all (l l' : List Nat) (n : Nat) (hl : l.length = n) (hl' : l'.length = n) : ((List.range n).all fun i => l.getD i 0 == l'.getD i 0) = decide (l = l') := by
  rw [Bool.eq_iff_iff]
  simp only [List.all_eq_true, List.mem_range, beq_iff_eq, decide_eq_true_eq]
  refine ⟨fun h => ?_, fun h i _ => by rw [h]⟩
  apply List.ext_getElem (by omega)
  intro i h1 h2
  have := h i (by omega)
  rw [List.getD_eq_getElem?_getD, List.getD_eq_getElem?_getD, List.getElem?_eq_getElem h1, List.getElem?_eq_getElem h2] at this
  exact this
theorem run_eqArr (d : Nat) {t e : TypeId} {k : IntKind} {n : Nat} (hu : P.underlying t = some (.array n e)) (he : P.underlying e = some (.int k)) (hs : (P.info? e).map (·.size) = some 1) (hc : P.cellsOf e = 1) {l l' : List Nat} (hl : l.length = n) (hl' : l'.length = n) (w : World) :
    (Op.equalIn (d + 2) t (.agg (l.map (vi k)).toArray) (.agg (l'.map (vi k)).toArray)).run P w = .ok (decide (l = l')) w := by
  obtain ⟨i, hi, _⟩ := info_of hs
  rw [run_equalIn_array w (d + 1) _ _ hu hi, run_eqItems_ints d he hc l l' w _ (fun j hj => by have := List.mem_range.1 hj; omega), range_all l l' n hl hl']
theorem run_eqSt (d : Nat) {s t e : TypeId} {k : IntKind} {n : Nat} {f : Field} (hs : P.underlying s = some (.struct #[f])) (hn : f.name ≠ "_") (hf : f.type = t) (ho : f.offset = 0) (hh : P.stoodInHeld s = false)
    (hu : P.underlying t = some (.array n e)) (he : P.underlying e = some (.int k)) (hsz : (P.info? e).map (·.size) = some 1) (hst : (P.info? t).map (·.size) = some n) (hc : P.cellsOf e = 1) {l l' : List Nat} (hl : l.length = n) (hl' : l'.length = n) (w : World) :
    (Op.equalIn (d + 3) s (.agg (l.map (vi k)).toArray) (.agg (l'.map (vi k)).toArray)).run P w = .ok (decide (l = l')) w := by
  have hfo : P.fieldsOf s = #[f] := by simp [Program.fieldsOf, hs]
  rw [run_equalIn_struct w (d + 2) s _ _ (by rw [hfo]; exact hs) hh, hfo]
  have hp : ∀ (r : List Nat), r.length = n → (part f.type (r.map (vi k)).toArray f.offset).run P w = .ok (.agg (r.map (vi k)).toArray) w := fun r hr => by
    subst hf
    simp only [part, isAgg, Sem.run_bind, run_underlying hu, Result.andThen_ok, Sem.run_pure, if_true, run_size hst, ho, Nat.zero_add]
    congr 2
    apply Array.ext'
    simp
    exact List.take_of_length_le (by simp [hr])
  simp only [Op.eqFields, if_pos hn, Sem.run_bind, hp l hl, hp l' hl', Result.andThen_ok]
  subst hf
  rw [run_eqArr d hu he hsz hc hl hl']
  cases hd : decide (l = l') <;> simp
theorem PureOp.eqSt {E : Env} {x y : Operand} {s s' t e : TypeId} {k : IntKind} {n : Nat} {f : Field} {l l' : List Nat} (h1 : aev E x = some (.agg (l.map (vi k)).toArray)) (h2 : aev E y = some (.agg (l'.map (vi k)).toArray))
    (hs : P.underlying s = some (.struct #[f])) (hn : f.name ≠ "_") (hf : f.type = t) (ho : f.offset = 0) (hh : P.stoodInHeld s = false) (hg : P.eqGuardType P.depth s = false)
    (hu : P.underlying t = some (.array n e)) (he : P.underlying e = some (.int k)) (hsz : (P.info? e).map (·.size) = some 1) (hst : (P.info? t).map (·.size) = some n) (hc : P.cellsOf e = 1) (hl : l.length = n) (hl' : l'.length = n) :
    PureOp P (.binOp .eql s x y s') E (.bool (decide (l = l'))) := fun D ρ ev hx => by
  have e1 := flat_pure_inv (hx x (by simp [Op.operands]) _ h1) (pure_aggM flat_vi)
  have e2 := flat_pure_inv (hx y (by simp [Op.operands]) _ h2) (pure_aggM flat_vi)
  refine ⟨_, .flat _ rfl, fun _ _ _ _ _ w => ?_⟩
  have hr : (Op.equal s (.agg (l.map (vi k)).toArray) (.agg (l'.map (vi k)).toArray)).run P w = .ok (decide (l = l')) w := run_eqSt 9997 hs hn hf ho hh hu he hsz hst hc hl hl' w
  simp [execOp, e1, e2, eqGuard, hg, binOp, hr]
end
end Go.Proofs.Ytiikffiembcboaa.Sim
namespace Go.Proofs.Ytiikffiembcboaa.Sim
open Go Go.RowKit Go.ChangeShapes Go.WideShapes
def okI (ids : List Nat) : Value → Bool
  | .pointer (some ⟨i, _, none⟩) => ids.contains i
  | .slice (some ⟨i, _, none⟩) _ 0 => ids.contains i
  | v => flatV v
theorem okI_rel {m : Md} (hm : m ≠ .real) {D : Nat → Prop} {h : Rho} {ids : List Nat} {v : Value} (hv : okI ids v = true) (hD : ∀ i ∈ ids, D i) : VR m D h v (ren1 h v) := by
  unfold okI at hv
  split at hv
  · exact .ptr _ _ (hD _ (List.contains_iff_mem.1 hv))
  · exact .slice _ _ _ 0 (hD _ (List.contains_iff_mem.1 hv)) (fun _ => rfl) (fun e => absurd e hm)
  · rw [flat_ren1 hv]; exact .flat _ hv
theorem dom_all {N : Mem} {ids : List Nat} (h : (ids.all fun i => (N i).isSome) = true) : ∀ i ∈ ids, dom N i := fun i hi => by
  have := List.all_eq_true.1 h i hi
  exact Option.isSome_iff_exists.1 this
theorem WkM.ren {Dm : Nat → Prop} {fm : List (Nat × Nat)} {M N : Mem} {i : Nat} {cells c' : List Value} {rw rw' : Bool} {es : Nat} (ids : List Nat) (h1 : M ((fm.lookup i).getD i) = some ⟨c', rw', es⟩) (hc : cells.map (ren1 (idm fm)) = c')
    (hok : cells.all (okI ids) = true) (hD : ∀ i ∈ ids, Dm i) (h3 : rw = true → rw' = true) (h : WkM Dm fm M N) : WkM Dm fm M (Sim.upd N i ⟨cells, rw, es⟩) := by
  subst hc
  exact WkM.upd h1 (fun c x hx => ⟨ren1 (idm fm) x, by rw [List.getElem?_map, hx]; rfl, okI_rel (by simp) (List.all_eq_true.1 hok x (List.mem_of_getElem? hx)) hD⟩) h3 rfl (by simp) h
theorem PureOp.idxN {P : Program} {T : Tab} (H : TabOk P T) {E : Env} {x ix : Operand} {t e : TypeId} {id o n sz : Nat} {kd : IntKind} {j : Nat} (h1 : aev E x = some (.slice (some ⟨id, o, none⟩) n 0)) (h2 : aev E ix = some (.int kd (j : Nat)))
    (ht : T.sl.lookup t = some e) (hs : T.sz.lookup e = some sz) (hi : j < n) : PureOp P (.indexAddr t x ix) E (.pointer (some ⟨id, o + j * sz, none⟩)) := by
  have := PureOp.idx H h1 h2 ht hs (by omega)
  simpa using this
theorem nat_map {k : IntKind} {zs : List Int} (h : ∀ z ∈ zs, 0 ≤ z) : zs.map (Value.int k) = (zs.map Int.toNat).map (vi k) := by
  rw [List.map_map]
  refine List.map_congr_left fun z hz => ?_
  have := h z hz
  simp only [Function.comp, vi]
  congr 1
  omega
end Go.Proofs.Ytiikffiembcboaa.Sim
