/- Parts of slices and of arrays; slices with room; arrays of slices' cells. -/
import Derived.Test.YtiikffiembcboaaSim19
namespace Go.Proofs.Ytiikffiembcboaa.Sim
open Go

inductive OptI (E : Env) : Option Operand → Nat → Nat → Prop
  | none {d : Nat} : OptI E none d d
  | some {x : Operand} {k : IntKind} {d n : Nat} (h : aev E x = some (.int k (n : Nat))) : OptI E (some x) d n

section
variable {P : Program} {E : Env} {M : Mem} {d : Option Tmp} {ty : TypeId} {ps : String} {af : Array Edge} {g : Option (Nat × Bool)}

theorem run_bounds {ev : Operand → Value} {lo hi : Option Operand} {l h n c : Nat} (isS : Bool) (hlo : OptI E lo 0 l) (hhi : OptI E hi n h) (hev : ∀ x, (lo = some x ∨ hi = some x) → ∀ v, aev E x = some v → flatV v = true → ev x = v)
    (hlh : l ≤ h) (hhc : h ≤ c) (w : World) : (Instr.sliceBounds isS n c (lo.map ev) (hi.map ev) none).run P w = .ok (l, h, c) w := by
  cases hlo with
  | none =>
    cases hhi with
    | none => simp [Instr.sliceBounds]
    | some hx =>
      have := hev _ (.inr rfl) _ hx rfl
      simp [Instr.sliceBounds, Instr.sliceBound, this, asIntOf, hhc]
  | some hy =>
    have h2 := hev _ (.inl rfl) _ hy rfl
    cases hhi with
    | none =>
      simp [Instr.sliceBounds, Instr.sliceBound, h2, asIntOf, hlh]
    | some hx =>
      have := hev _ (.inr rfl) _ hx rfl
      simp [Instr.sliceBounds, Instr.sliceBound, this, h2, asIntOf, hhc, hlh]

theorem opt_mem {lo hi : Option Operand} {x y : Operand} {t : TypeId} (h : lo = some y ∨ hi = some y) : y ∈ (Op.slice t x lo hi none).operands := by
  rcases h with rfl | rfl <;> simp [Op.operands]

/-- a part of a slice -/
theorem FStep.sliceS {t e : TypeId} {x : Operand} {lo hi : Option Operand} {id o n l h sz : Nat} {b : Blk} (hx : aev E x = some (.slice (some ⟨id, o, none⟩) n 0)) (hlo : OptI E lo 0 l) (hhi : OptI E hi n h)
    (hb : M id = some b) (hs : b.es = sz) (ht : P.underlying t = some (.slice e)) (hsz : (P.info? e).map (·.size) = some sz) (hlh : l ≤ h) (hhn : h ≤ n) (hne : l = 0 ∨ l < h) :
    FStep P ⟨d, .slice t x lo hi none, ty, ps, af, g⟩ E M (.slice (some ⟨id, o + l * sz, none⟩) (h - l) 0) ⟨[id], []⟩ := by
  intro E' M' h1 h2 _ C ρ ac w hR
  have hb' : M' id = some b := by rw [h2 id (by simp)]; exact hb
  have hxv := hR.eval (x := x) (by rw [h1 x (by simp [Op.operands])]; exact hx)
  have hev : ∀ y, (lo = some y ∨ hi = some y) → ∀ v, aev E y = some v → flatV v = true → ac.eval y = v := fun y hy v hv hf =>
    flat_inv (hR.eval (x := y) (by rw [h1 y (opt_mem hy)]; exact hv)) hf
  unfold StepTo Oper.wp
  rcases slice_inv hxv with ⟨c, e1, hc, hD, hlim⟩ | ⟨h0, e1⟩
  · have hrun : (execOp ac.eval ⟨d, .slice t x lo hi none, ty, ps, af, g⟩).run P w = .ok (.value (.slice (some (if c = l then ⟨(ρ id).blk, (ρ id).off + o, none⟩ else ⟨(ρ id).blk, (ρ id).off + o + l * sz, none⟩)) (h - l) (c - l))) w := by
      by_cases hcl : c = l
      · simp only [execOp, e1, Instr.sliceAt, Instr.slice, Sem.run_bind, run_underlying ht, Result.andThen_ok, Option.map_none, run_bounds (P := P) true hlo hhi hev hlh (Nat.le_trans hhn hc), run_size hsz, Sem.run_pure, if_pos hcl]
      · simp only [execOp, e1, Instr.sliceAt, Instr.slice, Sem.run_bind, run_underlying ht, Result.andThen_ok, Option.map_none, run_bounds (P := P) true hlo hhi hev hlh (Nat.le_trans hhn hc), run_size hsz, Sem.run_pure, if_neg hcl, Option.map_some, addr_add]
    rw [hrun]
    refine ⟨_, rfl, ρ, hR, ?_⟩
    have hes := (hR.mem id b hb').es
    have h0 : c = l → l = 0 := fun hcl => by rcases hne with h | h <;> omega
    have hw : (if c = l then (⟨(ρ id).blk, (ρ id).off + o, none⟩ : Addr) else ⟨(ρ id).blk, (ρ id).off + o + l * sz, none⟩) = ⟨(ρ id).blk, (ρ id).off + (o + l * sz), none⟩ := by
      by_cases hcl : c = l
      · rw [if_pos hcl, h0 hcl]; simp
      · rw [if_neg hcl, Nat.add_assoc]
    rw [hw]
    refine VR.slice id (o + l * sz) (h - l) (c - l) hD (by simp) (fun _ => ⟨by omega, fun L hL => ?_⟩)
    have := hlim L hL
    rw [hes, hs] at this ⊢
    have e3 : l * sz + (c - l) * sz = c * sz := by rw [← Nat.add_mul]; congr 1; omega
    omega
  · subst h0
    obtain rfl : h = 0 := by omega
    obtain rfl : l = 0 := by omega
    have hrun : (execOp ac.eval ⟨d, .slice t x lo hi none, ty, ps, af, g⟩).run P w = .ok (.value (.slice none 0 0)) w := by
      simp only [execOp, e1, Instr.sliceAt, Instr.slice, Sem.run_bind, run_underlying ht, Result.andThen_ok, Option.map_none, run_bounds (P := P) true hlo hhi hev hlh (Nat.le_refl _), run_size hsz, Sem.run_pure, if_true, Nat.sub_zero]
    rw [hrun]
    exact ⟨_, rfl, ρ, hR, .nilS _ (by simp)⟩

/-- a part of an array -/
theorem FStep.sliceA {t e : TypeId} {x : Operand} {lo hi : Option Operand} {id o n l h sz : Nat} {b : Blk} (hx : aev E x = some (.pointer (some ⟨id, o, none⟩))) (hlo : OptI E lo 0 l) (hhi : OptI E hi n h)
    (hb : M id = some b) (hs : b.es = sz) (ht : P.underlying t = some (.array n e)) (hsz : (P.info? e).map (·.size) = some sz) (hlh : l ≤ h) (hhn : h ≤ n) (hne : l = 0 ∨ l < n) (hroom : o + n * sz ≤ b.cells.length) :
    FStep P ⟨d, .slice t x lo hi none, ty, ps, af, g⟩ E M (.slice (some ⟨id, o + l * sz, none⟩) (h - l) 0) ⟨[id], []⟩ := by
  intro E' M' h1 h2 _ C ρ ac w hR
  have hb' : M' id = some b := by rw [h2 id (by simp)]; exact hb
  obtain ⟨e1, hD⟩ := ptr_inv (hR.eval (x := x) (by rw [h1 x (by simp [Op.operands])]; exact hx))
  have hev : ∀ y, (lo = some y ∨ hi = some y) → ∀ v, aev E y = some v → flatV v = true → ac.eval y = v := fun y hy v hv hf =>
    flat_inv (hR.eval (x := y) (by rw [h1 y (opt_mem hy)]; exact hv)) hf
  unfold StepTo Oper.wp
  have hrun : (execOp ac.eval ⟨d, .slice t x lo hi none, ty, ps, af, g⟩).run P w = .ok (.value (.slice (some ⟨(ρ id).blk, (ρ id).off + (o + l * sz), none⟩) (h - l) (n - l))) w := by
    by_cases hcl : n = l
    · have h0 : l = 0 := by rcases hne with h | h <;> omega
      simp only [execOp, e1, Instr.sliceAt, Instr.sureAddr, Sem.run_bind, run_underlying ht, Result.andThen_ok, Option.map_none, run_bounds (P := P) false hlo hhi hev hlh hhn, run_size hsz, Sem.run_pure, if_pos hcl]
      simp [h0]
    · simp only [execOp, e1, Instr.sliceAt, Instr.sureAddr, Sem.run_bind, run_underlying ht, Result.andThen_ok, Option.map_none, run_bounds (P := P) false hlo hhi hev hlh hhn, run_size hsz, Sem.run_pure, if_neg hcl, addr_add, Nat.add_assoc]
  rw [hrun]
  refine ⟨_, rfl, ρ, hR, VR.slice id (o + l * sz) (h - l) (n - l) hD (by simp) (fun _ => ⟨by omega, fun L hL => ?_⟩)⟩
  have hr := (hR.mem id b hb').room L hL
  rw [(hR.mem id b hb').es, hs]
  have e3 : l * sz + (n - l) * sz = n * sz := by rw [← Nat.add_mul]; congr 1; omega
  omega

/-- a slice with room behind it -/
theorem FStep.makeSliceC {t e : TypeId} {x y : Operand} {n k sz by' : Nat} {c z : Value} (id : Nat) (hx : aev E x = some (.int .i64 n)) (hy : aev E y = some (.int .i64 k)) (hnk : n ≤ k)
    (ht : P.underlying t = some (.slice e)) (hs : (P.info? e).map (·.size) = some sz) (h0 : sz ≠ 0) (hz : (P.info? e).map (·.zero) = some (some z)) (hzc : z.cells = Array.replicate sz c) (hc : flatV c = true)
    (hby : (P.info? e).map (·.bytes) = some by') (hlen : by' * k ≤ 281474976710656) (hn : k < 9223372036854775808) :
    FStep P ⟨d, .makeSlice t x y, ty, ps, af, g⟩ E M (.slice (some ⟨id, 0, none⟩) n 0) ⟨[], [(id, ⟨List.replicate (n * sz) c, true, sz⟩)]⟩ := by
  intro E' M' h1 _ h3 C ρ ac w hR
  have hid : M' id = none := h3 _ (List.mem_singleton_self _) (by simp)
  have e1 := flat_inv (hR.eval (x := x) (by rw [h1 x (by simp [Op.operands])]; exact hx)) rfl
  have e2 := flat_inv (hR.eval (x := y) (by rw [h1 y (by simp [Op.operands])]; exact hy)) rfl
  obtain ⟨ρ', hR', hρ, _⟩ := hR.alloc hid (cells := List.replicate (n * sz) c) (rcells := Array.replicate (k * sz) c) (elem := e) sz (by simpa using Nat.mul_le_mul_right _ hnk) (fun k y u h1 h2 => by
    have a1 := (List.getElem?_eq_some_iff.1 h1).2
    have a2 := (Array.getElem?_eq_some_iff.1 h2).2
    simp at a1 a2
    rw [← a1, ← a2]
    exact .flat _ hc)
  obtain ⟨info, hi, _⟩ := info_of hs
  have hby2 : info.bytes = by' := by rw [hi] at hby; simpa using hby
  have hwrap : IntKind.i64.wrap (n : Int) = n := IntWalk.i64_in _ (by omega)
  have hwrapk : IntKind.i64.wrap (k : Int) = k := IntWalk.i64_in _ (by omega)
  unfold StepTo Oper.wp
  have hlen' : ¬ (281474976710656 : Int) < (info.bytes : Int) * (k : Int) := by
    rw [hby2]
    have h9 := Int.ofNat_le.mpr hlen
    rw [Int.natCast_mul] at h9
    omega
  have : (execOp ac.eval ⟨d, .makeSlice t x y, ty, ps, af, g⟩).run P w = .ok (.value (.slice (some ⟨w.heap.size, 0, none⟩) n k)) (pushW w (.cells (Array.replicate (k * sz) c) e)) := by
    have hn0 : ¬ (n : Int) < 0 := by omega
    have hk0 : ¬ (k : Int) < 0 := by omega
    have hnk' : ¬ (k : Int) < (n : Int) := by omega
    simp only [execOp, e1, e2, Instr.makeSlice, Sem.run_bind, run_underlying ht, Result.andThen_ok, asInt, asIntOf, Sem.run_pure, typeInfo, hi, run_program, hwrap, hwrapk]
    simp only [hn0, hk0, hnk', decide_false, Bool.or_false, gt_iff_lt, hlen', show (2 : Int) ^ 48 = 281474976710656 from rfl, if_false, Bool.false_eq_true, Sem.run_bind,
      Result.andThen_ok, run_askRoom, Int.toNat_natCast, run_size hs]
    by_cases hz0 : k * sz = 0
    · simp [hz0, newRow, pushW, show Array.range 0 = #[] from rfl]
    · have hm := mod_replicate sz k c (.inr h0)
      rw [Array.size_replicate] at hm
      simp [hz0, run_zero hz, newRow, pushW, hzc, hm]
  rw [this]
  refine ⟨_, rfl, ρ', hR', ?_⟩
  have := VR.slice (m := .real) (ρ := ρ') (D := dom (upds M' [(id, ⟨List.replicate (n * sz) c, true, sz⟩)])) id 0 n k dom_upd (by simp) (fun _ => ⟨hnk, fun L hL => by
    rw [hρ] at hL ⊢
    simp only [Array.size_replicate, Option.some.injEq] at hL
    simp only; omega⟩)
  rw [hρ] at this
  exact this

/-- a slice as an array -/
theorem PureOp.toArr {t e : TypeId} {x : Operand} {id o n k : Nat} (hx : aev E x = some (.slice (some ⟨id, o, none⟩) n 0)) (ht : P.underlying t = some (.array k e)) (hk : k ≤ n) (h0 : n ≠ 0) :
    PureOp P (.sliceToArrayPointer t x) E (.pointer (some ⟨id, o, none⟩)) := fun D ρ ev hev => by
  obtain ⟨c, e1, hc, hD, _⟩ | ⟨h1, _⟩ := slice_inv (hev x (by simp [Op.operands]) _ hx)
  · have hk' : ¬ n < k := by omega
    exact ⟨_, .ptr id o hD, fun _ _ _ _ _ w => by simp [execOp, e1, Instr.arrayAt, run_underlying ht, hk']⟩
  · exact absurd h1 h0

end

theorem oneM {α : Type} {f : α → Value} (hf : ∀ x, (f x).oneCell' = true) (l : List α) : (l.map f).all (·.oneCell') = true := by
  rw [List.all_eq_true]
  intro x hx
  obtain ⟨y, _, rfl⟩ := List.mem_map.1 hx
  exact hf y

theorem OutL.husk {m : Nat} {nids : List Nat} {M : Mem} {n k es : Nat} {b' : Blk} {r : List Blk} (hM : M (hmap m nids k).blk = some b') (he : b'.es = es) (hr : OutL m nids M n (k + 1) r) : OutL m nids M n k (⟨[], false, es⟩ :: r) :=
  ⟨⟨b', hM, by simp, fun x hx => by simp at hx, fun h => by rcases h with h | h; cases h; exact absurd rfl h.2, he, Nat.zero_le _⟩, hr⟩

/-- the first cells of a block are given back -/
theorem OutL.part {m : Nat} {nids : List Nat} {M : Mem} {n k : Nat} {c c' : List Value} {rw rw' : Bool} {es : Nat} {r : List Blk} (hM : M (hmap m nids k).blk = some ⟨c', rw', es⟩)
    (hc : c'.take c.length = c) (hf : ∀ x ∈ c, flatV x = true) (hrw : rw = true ∨ (m ≤ k ∧ c ≠ []) → rw' = true) (hl : c.length ≤ c'.length) (hr : OutL m nids M n (k + 1) r) : OutL m nids M n k (⟨c, rw, es⟩ :: r) :=
  ⟨⟨_, hM, by rw [flat_map_ren hf]; exact hc, OkL.flat hf, hrw, rfl, hl⟩, hr⟩

/-- a part of a block is handed in, only to be read -/
theorem FitL.part {h : Rho} {n : Nat} {M : Mem} {c c' : List Value} {rw' : Bool} {es : Nat} {p : Nat × Nat} {r : List Blk} {g : List (Nat × Nat)} (h1 : M p.1 = some ⟨c', rw', es⟩) (h2 : (c'.drop p.2).take c.length = c)
    (h3 : ∀ x ∈ c, flatV x = true) (h4 : p.2 + c.length ≤ c'.length) (hr : FitL h n M r g) : FitL h n M (⟨c, false, es⟩ :: r) (p :: g) :=
  .cons h1 (by rw [flat_map_ren h3]; exact h2) (OkL.flat h3) h4 rfl (fun e => by cases e) hr

section
variable {P : Program} {T : Tab} (H : TabOk P T)
variable {ops : Array Oper} {k i : Nat} {os : List Oper} {E : Env} {M : Mem} {D : List Eff → Prop} {K : ASt → Prop}
  {d : Tmp} {ty : TypeId} {ps : String} {af : Array Edge} {g : Option (Nat × Bool)}
include H

theorem AWo.sliceS {t e : TypeId} {x : Operand} {lo hi : Option Operand} {id o n l h sz : Nat} {b : Blk} {v : Value} (hx : aev E x = some (.slice (some ⟨id, o, none⟩) n 0)) (hlo : OptI E lo 0 l) (hhi : OptI E hi n h)
    (hb : M id = some b) (hs : b.es = sz) (ht : T.sl.lookup t = some e) (hsz : T.sz.lookup e = some sz) (hlh : l ≤ h) (hhn : h ≤ n) (hne : l = 0 ∨ l < h) (hv : .slice (some ⟨id, o + l * sz, none⟩) (h - l) 0 = v)
    (hw : wantA ops E ⟨some d, .slice t x lo hi none, ty, ps, af, g⟩ = some true) (hd : Nat.blt d k = true)
    (hr : AWo P ops k (i + 1) os ⟨upd E d v, M⟩ (fun es' => D (⟨[id], []⟩ :: es')) K) :
    AWo P ops k i (⟨some d, .slice t x lo hi none, ty, ps, af, g⟩ :: os) ⟨E, M⟩ D K := by
  subst hv
  exact AWo.step (FStep.sliceS hx hlo hhi hb hs (H.sl t _ ht) (H.sz e _ hsz) hlh hhn hne) hw hd (fun p hp => by simp at hp) hr

theorem AWo.sliceA {t e : TypeId} {x : Operand} {lo hi : Option Operand} {id o n l h sz : Nat} {b : Blk} {v : Value} (hx : aev E x = some (.pointer (some ⟨id, o, none⟩))) (hlo : OptI E lo 0 l) (hhi : OptI E hi n h)
    (hb : M id = some b) (hs : b.es = sz) (ht : T.arr.lookup t = some (n, e)) (hsz : T.sz.lookup e = some sz) (hlh : l ≤ h) (hhn : h ≤ n) (hne : l = 0 ∨ l < n) (hroom : o + n * sz ≤ b.cells.length)
    (hv : .slice (some ⟨id, o + l * sz, none⟩) (h - l) 0 = v) (hw : wantA ops E ⟨some d, .slice t x lo hi none, ty, ps, af, g⟩ = some true) (hd : Nat.blt d k = true)
    (hr : AWo P ops k (i + 1) os ⟨upd E d v, M⟩ (fun es' => D (⟨[id], []⟩ :: es')) K) :
    AWo P ops k i (⟨some d, .slice t x lo hi none, ty, ps, af, g⟩ :: os) ⟨E, M⟩ D K := by
  subst hv
  exact AWo.step (FStep.sliceA hx hlo hhi hb hs (H.arr t _ _ ht) (H.sz e _ hsz) hlh hhn hne hroom) hw hd (fun p hp => by simp at hp) hr

theorem AWo.makeSliceC {t e : TypeId} {x y : Operand} {n c' sz by' : Nat} {c z : Value} (id : Nat) (cells : List Value) (hx : aev E x = some (.int .i64 n)) (hy : aev E y = some (.int .i64 c')) (hnk : n ≤ c')
    (ht : T.sl.lookup t = some e) (hs : T.sz.lookup e = some sz) (h0 : sz ≠ 0) (hz : T.zero.lookup e = some z) (hzc : z.cells = Array.replicate sz c) (hc : flatV c = true)
    (hby : T.by'.lookup e = some by') (hlen : by' * c' ≤ 281474976710656) (hn : c' < 9223372036854775808) (hcl : List.replicate (n * sz) c = cells) (hid : M id = none)
    (hw : wantA ops E ⟨some d, .makeSlice t x y, ty, ps, af, g⟩ = some true) (hd : Nat.blt d k = true)
    (hr : AWo P ops k (i + 1) os ⟨upd E d (.slice (some ⟨id, 0, none⟩) n 0), upd M id ⟨cells, true, sz⟩⟩ (fun es' => D (⟨[], [(id, ⟨cells, true, sz⟩)]⟩ :: es')) K) :
    AWo P ops k i (⟨some d, .makeSlice t x y, ty, ps, af, g⟩ :: os) ⟨E, M⟩ D K := by
  subst hcl
  exact AWo.step (FStep.makeSliceC id hx hy hnk (H.sl t _ ht) (H.sz e _ hs) h0 (H.zero e _ hz) hzc hc (H.by' e _ hby) hlen hn) hw hd (fun p hp _ => by simp at hp; subst hp; exact hid) hr

theorem AWo.storeAllN {t : TypeId} {a x : Operand} {id sz : Nat} {cells : List Value} {es : Nat} {vs : List Value} (ha : aev E a = some (.pointer (some ⟨id, 0, none⟩))) (hx : aev E x = some (.agg vs.toArray))
    (hb : M id = some ⟨cells, true, es⟩) (hs : T.sz.lookup t = some sz) (hl : vs.length = sz) (ho : cells.length = sz) (hc : vs.all (·.oneCell') = true)
    (hw : wantA ops E ⟨none, .store t a x, ty, ps, af, g⟩ = some true)
    (hr' : AWo P ops k (i + 1) os ⟨E, upd M id ⟨vs, true, es⟩⟩ (fun es' => D (⟨[id], [(id, ⟨vs, true, es⟩)]⟩ :: es')) K) :
    AWo P ops k i (⟨none, .store t a x, ty, ps, af, g⟩ :: os) ⟨E, M⟩ D K :=
  AWo.storeAll H ha hx hb (by rw [hl]; exact hs) (by omega) hc hw hr'

theorem PureOp.buildArr {t e : TypeId} {n sz : Nat} {parts : Array (Nat × Operand)} {z : Value} (vals : List (Nat × Value)) {out : List Value} (ht : T.arr.lookup t = some (n, e)) (hs : T.sz.lookup e = some sz)
    (hz : T.zero.lookup t = some z) (hzf : z.cells.toList.all flatV = true) (hp : parts.toList.map (fun p => (p.1, aev E p.2)) = vals.map (fun p => (p.1, some p.2)))
    (hf : fillL (fun i => some (i * sz, sz)) z.cells.toList vals = some out) : PureOp P (.build t parts) E (.agg out.toArray) := fun D ρ ev hx => by
  obtain ⟨out', h1, h2⟩ := fill_rel (D := D) (ρ := ρ) (ev := ev) parts.toList vals (rs := z.cells) (fun p hp v' hv => hx p.2 (by simp only [Op.operands, List.mem_toArray, List.mem_map]; exact ⟨p, hp, rfl⟩) v' hv) hp
    ⟨rfl, fun k x y h1 h2 => by rw [h1] at h2; cases h2; exact .flat _ (List.all_eq_true.1 hzf x (List.mem_of_getElem? h1))⟩ hf
  refine ⟨.agg out', .agg _ _ (by simpa using h2.1) fun k x y h3 h4 => h2.2 k x y (by simpa using h3) (by simpa using h4), fun _ _ _ _ _ w => ?_⟩
  have hpt : (parts.map fun p => (p.1, ev p.2)).toList = parts.toList.map fun p => (p.1, ev p.2) := by simp
  have h6 : Instr.fill (fun i => some (i * sz, sz)) z.cells (parts.map fun p => (p.1, ev p.2)).toList = some out' := by rw [hpt]; exact h1
  simp only [execOp, Instr.build, Sem.run_bind, run_zero (H.zero t _ hz), Result.andThen_ok, run_underlying (H.arr t _ _ ht), run_size (H.sz e _ hs), h6]
  simp

theorem PureOp.toArrT {t e : TypeId} {x : Operand} {id o n k : Nat} (hx : aev E x = some (.slice (some ⟨id, o, none⟩) n 0)) (ht : T.arr.lookup t = some (k, e)) (hk : k ≤ n) (h0 : n ≠ 0) :
    PureOp P (.sliceToArrayPointer t x) E (.pointer (some ⟨id, o, none⟩)) := PureOp.toArr hx (H.arr t _ _ ht) hk h0
end

end Go.Proofs.Ytiikffiembcboaa.Sim
