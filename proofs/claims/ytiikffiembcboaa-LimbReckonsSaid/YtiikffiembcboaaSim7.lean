/- The operations that read and write memory; calls; results. -/
import Derived.Test.YtiikffiembcboaaSim6
import Derived.Laws.Cells
import Derived.Laws.Entries
namespace Go.Proofs.Ytiikffiembcboaa.Sim
open Go

variable {P : Program} {E : Env} {M : Mem} {d : Option Tmp} {ty : TypeId} {ps : String} {af : Array Edge} {g : Option (Nat × Bool)}

theorem cells_rel {m : Md} {D : Nat → Prop} {ρ : Rho} {v u : Value} (h : VR m D ρ v u) :
    v.cells.size = u.cells.size ∧ ∀ (k : Nat) (x y : Value), v.cells[k]? = some x → u.cells[k]? = some y → VR m D ρ x y := by
  have one : ∀ {v u : Value}, VR m D ρ v u → (#[v] : Array Value).size = (#[u] : Array Value).size ∧
      ∀ (k : Nat) (x y : Value), (#[v] : Array Value)[k]? = some x → (#[u] : Array Value)[k]? = some y → VR m D ρ x y := by
    intro v u h
    refine ⟨rfl, fun k x y hx hy => ?_⟩
    cases k with
    | zero => simp at hx hy; subst hx; subst hy; exact h
    | succ k => simp at hx
  cases h with
  | flat v hf => cases v <;> first | exact one (.flat _ hf) | simp [flatV] at hf
  | ptr i o hd => exact one (.ptr i o hd)
  | slice i o n c hd h1 h2 => exact one (.slice i o n c hd h1 h2)
  | nilS p h => exact one (.nilS p h)
  | dead p q c h1 => exact one (.dead p q c h1)
  | agg xs ys hs hh => exact ⟨hs, hh⟩
  | tuple xs ys hs hh => exact one (.tuple xs ys hs hh)
  | func fn xs ys xs' ys' hf hs hs' hh hh' => exact one (.func fn xs ys xs' ys' hf hs hs' hh hh')
  | iface t x y hh => exact one (.iface t x y hh)

theorem one_rel {m : Md} {D : Nat → Prop} {ρ : Rho} {v u : Value} (h : VR m D ρ v u) (hv : v.oneCell' = true) : u.oneCell' = true := by
  cases h with
  | flat => exact hv
  | ptr => rfl
  | slice => rfl
  | nilS => rfl
  | dead => rfl
  | agg => simp [Value.oneCell'] at hv
  | tuple => simp [Value.oneCell'] at hv
  | func => rfl
  | iface => rfl

theorem one_cells {v : Value} (hv : v.oneCell' = true) : v.cells = #[v] := by
  cases v <;> first | rfl | simp [Value.oneCell'] at hv

/-! ### loads -/

theorem FStep.load {t : TypeId} {a : Operand} {id o : Nat} {b : Blk} {v : Value} (ha : aev E a = some (.pointer (some ⟨id, o, none⟩))) (hb : M id = some b)
    (hu : (P.underlying t).isSome = true) (hg : aggB P t = false) (hv : b.cells[o]? = some v) : FStep P ⟨d, .load t a, ty, ps, af, g⟩ E M v ⟨[id], []⟩ := by
  intro E' M' h1 h2 _ C ρ ac w hR
  have hb' : M' id = some b := by rw [h2 id (by simp)]; exact hb
  obtain ⟨e1, _⟩ := ptr_inv (hR.eval (by rw [h1 a (by simp [Op.operands])]; exact ha))
  obtain ⟨u, hu', hv'⟩ := (hR.mem id b hb').cells o v hv
  unfold StepTo Oper.wp
  have : (execOp ac.eval ⟨d, .load t a, ty, ps, af, g⟩).run P w = .ok (.value u) w := by
    simp [execOp, e1, Instr.loadAt, Instr.sureAddr, loadVar, run_agg hu, hg, hu']
  rw [this]
  exact ⟨u, rfl, ρ, hR, hv'⟩

theorem pick_list {w : World} {D : Nat → Prop} {ρ : Rho} {i o : Nat} {b : Blk} (hc : ∀ (k : Nat) (v : Value), b.cells[k]? = some v → ∃ u, w.cell? ⟨(ρ i).blk, (ρ i).off + k, none⟩ = some u ∧ VR .real D ρ v u) :
    ∀ (sz : Nat), o + sz ≤ b.cells.length → ∃ us : List Value, us.length = sz ∧ (∀ (j : Nat) (u : Value), us[j]? = some u → w.cell? ⟨(ρ i).blk, (ρ i).off + o + j, none⟩ = some u) ∧
      ∀ (j : Nat) (v u : Value), ((b.cells.drop o).take sz)[j]? = some v → us[j]? = some u → VR .real D ρ v u := by
  intro sz
  induction sz with
  | zero => intro _; exact ⟨[], rfl, fun j u h => by simp at h, fun j v u h => by simp at h⟩
  | succ sz ih =>
    intro h
    obtain ⟨us, hl, h1, h2⟩ := ih (by omega)
    have hlt : o + sz < b.cells.length := by omega
    obtain ⟨u, hu, hv⟩ := hc (o + sz) _ (List.getElem?_eq_getElem hlt)
    refine ⟨us ++ [u], by simp [hl], fun j x hx => ?_, fun j v x hv' hx => ?_⟩
    · rcases Nat.lt_or_ge j us.length with hj | hj
      · rw [List.getElem?_append_left hj] at hx; exact h1 j x hx
      · rw [List.getElem?_append_right hj] at hx
        have : j - us.length = 0 := by
          rcases Nat.eq_zero_or_pos (j - us.length) with h0 | h0
          · exact h0
          · rw [List.getElem?_eq_none (by simp; omega)] at hx; cases hx
        rw [this] at hx
        simp only [List.getElem?_cons_zero, Option.some.injEq] at hx
        subst hx
        have : j = sz := by omega
        rw [this, Nat.add_assoc]; exact hu
    · rcases Nat.lt_or_ge j us.length with hj | hj
      · rw [List.getElem?_append_left hj] at hx
        refine h2 j v x ?_ hx
        rw [List.getElem?_take] at hv' ⊢
        rw [if_pos (by omega)] at hv' ⊢
        exact hv'
      · rw [List.getElem?_append_right hj] at hx
        have h0 : j - us.length = 0 := by
          rcases Nat.eq_zero_or_pos (j - us.length) with h0 | h0
          · exact h0
          · rw [List.getElem?_eq_none (by simp; omega)] at hx; cases hx
        rw [h0] at hx
        simp only [List.getElem?_cons_zero, Option.some.injEq] at hx
        subst hx
        have hj' : j = sz := by omega
        subst hj'
        rw [List.getElem?_take, if_pos (by omega), List.getElem?_drop] at hv'
        rw [List.getElem?_eq_getElem hlt] at hv'
        cases hv'
        exact hv

theorem FStep.loadAgg {t : TypeId} {a : Operand} {id o sz : Nat} {b : Blk} (ha : aev E a = some (.pointer (some ⟨id, o, none⟩))) (hb : M id = some b)
    (hu : (P.underlying t).isSome = true) (hg : aggB P t = true) (hs : (P.info? t).map (·.size) = some sz) (hl : o + sz ≤ b.cells.length) :
    FStep P ⟨d, .load t a, ty, ps, af, g⟩ E M (.agg ((b.cells.drop o).take sz).toArray) ⟨[id], []⟩ := by
  intro E' M' h1 h2 _ C ρ ac w hR
  have hb' : M' id = some b := by rw [h2 id (by simp)]; exact hb
  obtain ⟨e1, _⟩ := ptr_inv (hR.eval (by rw [h1 a (by simp [Op.operands])]; exact ha))
  obtain ⟨us, hul, hus, hrel⟩ := pick_list (o := o) (hR.mem id b hb').cells sz hl
  unfold StepTo Oper.wp
  have hrun : (loadCells ⟨(ρ id).blk, (ρ id).off + o, none⟩ sz).run P w = .ok us.toArray w := by
    rw [← hul]
    exact run_loadCells_list w _ us fun j v hv => by rw [addr_add]; exact hus j v hv
  have : (execOp ac.eval ⟨d, .load t a, ty, ps, af, g⟩).run P w = .ok (.value (.agg us.toArray)) w := by
    simp [execOp, e1, Instr.loadAt, Instr.sureAddr, loadVar, run_agg hu, hg, run_size hs, hrun]
  rw [this]
  refine ⟨_, rfl, ρ, hR, .agg _ _ ?_ fun k x y hx hy => hrel k x y (by simpa using hx) (by simpa using hy)⟩
  simp [hul]; omega

/-! ### stores -/

def setL (cells : List Value) (o : Nat) : List Value → List Value
  | [] => cells
  | v :: vs => setL (cells.set o v) (o + 1) vs

theorem upd_upd {α : Type} {f : Nat → Option α} {k : Nat} {a b : α} : upd (upd f k a) k b = upd f k b := by
  funext t; simp only [upd]; split <;> rfl

theorem upd_self {α : Type} {f : Nat → Option α} {k : Nat} {a : α} (h : f k = some a) : upd f k a = f := by
  funext t; simp only [upd]; split
  · rename_i h1; rw [h1, h]
  · rfl

theorem dom_upd {id : Nat} {b : Blk} : dom (upd M id b) id := ⟨b, by simp only [upd, if_true]⟩

theorem storeCells_sound {C : Ctx} {ρ : Rho} {E' : Env} {ac : Act} {id o : Nat} : ∀ (vs us : List Value) {M' : Mem} {w : World} {b : Blk} (i : Nat), Rep C ρ ⟨E', M'⟩ ac w → M' id = some b → b.rw = true →
    o + i + vs.length ≤ b.cells.length → vs.length = us.length → (∀ (k : Nat) (v u : Value), vs[k]? = some v → us[k]? = some u → VR .real (dom M') ρ v u) → (∀ v ∈ vs, v.oneCell' = true) →
    ∃ w', (storeCells ⟨(ρ id).blk, (ρ id).off + o, none⟩ us i).run P w = .ok () w' ∧ Rep C ρ ⟨E', upd M' id ⟨setL b.cells (o + i) vs, true, b.es⟩⟩ ac w'
  | [], us, M', w, b, i, hR, hb, hr, _, hl, _, _ => by
    obtain rfl : us = [] := by simpa using hl.symm
    refine ⟨w, by simp [storeCells], ?_⟩
    have : (⟨setL b.cells (o + i) [], true, b.es⟩ : Blk) = b := by cases b; simp only [setL] at *; subst hr; rfl
    rw [this, upd_self hb]
    exact hR
  | v :: vs, us, M', w, b, i, hR, hb, hr, ho, hl, hrel, hone => by
    obtain ⟨u, us, rfl⟩ : ∃ u r, us = u :: r := by cases us with
      | nil => simp at hl
      | cons u r => exact ⟨u, r, rfl⟩
    simp only [List.length_cons, Nat.add_right_cancel_iff] at hl ho
    have hvu := hrel 0 v u rfl rfl
    have hlt : o + i < b.cells.length := by omega
    obtain ⟨x, hx, _⟩ := (hR.mem id b hb).cells (o + i) _ (List.getElem?_eq_getElem hlt)
    have hsoft := ((hR.mem id b hb).rw ((hR.mem id b hb).owned hr (by omega))).soft ((ρ id).off + (o + i))
    have hR1 := hR.store hb hr hlt hvu
    have hv1 := one_rel hvu (hone v (List.mem_cons_self ..))
    have hdm : ∀ j, dom M' j → dom (upd M' id ⟨b.cells.set (o + i) v, true, b.es⟩) j := by
      rintro j ⟨bj, hj⟩
      by_cases hji : j = id
      · rw [hji]; exact dom_upd
      · exact ⟨bj, by simp only [upd, hji, if_false]; exact hj⟩
    obtain ⟨w', hrun, hR'⟩ := storeCells_sound (id := id) (o := o) vs us (i + 1) hR1 (b := ⟨b.cells.set (o + i) v, true, b.es⟩) (by simp only [upd, if_true]) rfl
      (by show o + (i + 1) + vs.length ≤ (b.cells.set (o + i) v).length; rw [List.length_set]; omega) hl
      (fun k v' u' h1 h2 => (hrel (k + 1) v' u' (by simpa using h1) (by simpa using h2)).mono hdm fun _ _ => rfl)
      (fun v' h' => hone v' (List.mem_cons_of_mem _ h'))
    refine ⟨w', ?_, ?_⟩
    · rw [storeCells, Sem.run_bind, run_store P w _ u .plain hv1, addr_add, Nat.add_assoc, hx]
      simp only [hsoft, Bool.false_eq_true, if_false, Result.andThen_ok]
      exact hrun
    · rw [upd_upd] at hR'
      simp only [setL]
      rw [Nat.add_assoc]
      exact hR'

theorem FStep.store {t : TypeId} {a x : Operand} {id o : Nat} {b : Blk} {v : Value} (ha : aev E a = some (.pointer (some ⟨id, o, none⟩))) (hx : aev E x = some v) (hb : M id = some b)
    (hr : b.rw = true) (hs : (P.info? t).map (·.size) = some v.cells.size) (ho : o + v.cells.size ≤ b.cells.length) (hc : v.cells.toList.all (·.oneCell') = true) :
    FStep P ⟨none, .store t a x, ty, ps, af, g⟩ E M undef ⟨[id], [(id, ⟨setL b.cells o v.cells.toList, true, b.es⟩)]⟩ := by
  intro E' M' h1 h2 _ C ρ ac w hR
  have hb' : M' id = some b := by rw [h2 id (by simp)]; exact hb
  obtain ⟨e1, _⟩ := ptr_inv (hR.eval (by rw [h1 a (by simp [Op.operands])]; exact ha))
  have hv := hR.eval (x := x) (by rw [h1 x (by simp [Op.operands])]; exact hx)
  obtain ⟨hsz, hrel⟩ := cells_rel hv
  obtain ⟨w', hrun, hR'⟩ := storeCells_sound (P := P) (o := o) v.cells.toList (ac.eval x).cells.toList 0 hR hb' hr (by simpa using ho) (by simpa using hsz)
    (fun k y z hy hz => hrel k y z (by simpa using hy) (by simpa using hz)) (fun y hy => by
      rw [List.all_eq_true] at hc
      exact hc y hy)
  unfold StepTo Oper.wp
  have : (execOp ac.eval ⟨none, .store t a x, ty, ps, af, g⟩).run P w = .ok .skip w' := by
    simp only [execOp, e1, Instr.storeAt, Instr.sureAddr, storeVar, Sem.run_bind, Sem.run_pure, Result.andThen_ok, run_size hs]
    rw [if_neg (by rw [hsz]; simp)]
    simp only [Result.andThen_ok, hrun]
  rw [this]
  refine ⟨undef, rfl, ρ, ?_, .flat _ rfl⟩
  simpa [upds] using hR'

/-! ### new blocks -/

theorem info_of {t : TypeId} {sz : Nat} (h : (P.info? t).map (·.size) = some sz) : ∃ i, P.info? t = some i ∧ i.size = sz := by
  cases hi : P.info? t with
  | none => rw [hi] at h; cases h
  | some i => rw [hi] at h; exact ⟨i, rfl, by simpa using h⟩

theorem run_zero {t : TypeId} {z : Value} (h : (P.info? t).map (·.zero) = some (some z)) (w : World) : (zeroValue t).run P w = .ok z w := by
  cases hi : P.info? t with
  | none => rw [hi] at h; cases h
  | some i =>
    rw [hi] at h
    simp only [Option.map_some, Option.some.injEq] at h
    simp [zeroValue, typeInfo, hi, h]

theorem FStep.alloc {t : TypeId} {z : Value} (id es : Nat) (hz : (P.info? t).map (·.zero) = some (some z)) (hf : z.cells.toList.all flatV = true) :
    FStep P ⟨d, .alloc t, ty, ps, af, g⟩ E M (.pointer (some ⟨id, 0, none⟩)) ⟨[], [(id, ⟨z.cells.toList, true, es⟩)]⟩ := by
  intro E' M' _ _ h3 C ρ ac w hR
  have hid : M' id = none := h3 _ (List.mem_singleton_self _) (by simp)
  obtain ⟨ρ', hR', hρ, _⟩ := hR.alloc hid (cells := z.cells.toList) (rcells := z.cells) (elem := t) es (by simp) (fun k v u h1 h2 => by
    rw [Array.getElem?_toList, h2] at h1
    cases h1
    rw [List.all_eq_true] at hf
    exact .flat _ (hf _ (Array.mem_toList_iff.2 (Array.mem_of_getElem? h2))))
  unfold StepTo Oper.wp
  have : (execOp ac.eval ⟨d, .alloc t, ty, ps, af, g⟩).run P w = .ok (.value (.pointer (some ⟨w.heap.size, 0, none⟩))) (pushW w (.cells z.cells t)) := by
    simp [execOp, Instr.alloc, run_zero hz, newVar, newRow, pushW]
  rw [this]
  refine ⟨_, rfl, ρ', hR', ?_⟩
  have := VR.ptr (m := .real) (ρ := ρ') (D := dom (upds M' [(id, ⟨z.cells.toList, true, es⟩)])) id 0 dom_upd
  rw [hρ] at this
  exact this

theorem FStep.box {t : TypeId} {x : Operand} {v : Value} (id es : Nat) (hx : aev E x = some v) :
    FStep P ⟨d, .box t x, ty, ps, af, g⟩ E M (.pointer (some ⟨id, 0, none⟩)) ⟨[], [(id, ⟨v.cells.toList, true, es⟩)]⟩ := by
  intro E' M' h1 _ h3 C ρ ac w hR
  have hid : M' id = none := h3 _ (List.mem_singleton_self _) (by simp)
  obtain ⟨hsz, hrel⟩ := cells_rel (hR.eval (x := x) (by rw [h1 x (by simp [Op.operands])]; exact hx))
  obtain ⟨ρ', hR', hρ, _⟩ := hR.alloc hid (cells := v.cells.toList) (rcells := (ac.eval x).cells) (elem := t) es (by simpa using Nat.le_of_eq hsz) (fun k y u h1 h2 => hrel k y u (by simpa using h1) h2)
  unfold StepTo Oper.wp
  have : (execOp ac.eval ⟨d, .box t x, ty, ps, af, g⟩).run P w = .ok (.value (.pointer (some ⟨w.heap.size, 0, none⟩))) (pushW w (.cells (ac.eval x).cells t)) := by
    simp [execOp, Instr.box, newVar, newRow, pushW]
  rw [this]
  refine ⟨_, rfl, ρ', hR', ?_⟩
  have := VR.ptr (m := .real) (ρ := ρ') (D := dom (upds M' [(id, ⟨v.cells.toList, true, es⟩)])) id 0 dom_upd
  rw [hρ] at this
  exact this

theorem mod_replicate (sz n : Nat) (c : Value) (h : n = 0 ∨ sz ≠ 0) : (Array.range (n * sz)).map (fun i => (Array.replicate sz c)[i % (Array.replicate sz c).size]!) = Array.replicate (n * sz) c := by
  apply Array.ext
  · simp
  · intro i h1 h2
    simp only [Array.size_map, Array.size_range] at h1
    have hs : sz ≠ 0 := by
      rcases h with h | h
      · subst h; simp at h1
      · exact h
    have : i % sz < sz := Nat.mod_lt _ (Nat.pos_of_ne_zero hs)
    simp [this]

theorem FStep.makeSlice {t e : TypeId} {x y : Operand} {n sz by' : Nat} {c z : Value} (id : Nat) (hx : aev E x = some (.int .i64 n)) (hy : aev E y = some (.int .i64 n))
    (ht : P.underlying t = some (.slice e)) (hs : (P.info? e).map (·.size) = some sz) (h0 : sz ≠ 0) (hz : (P.info? e).map (·.zero) = some (some z)) (hzc : z.cells = Array.replicate sz c) (hc : flatV c = true)
    (hby : (P.info? e).map (·.bytes) = some by') (hlen : by' * n ≤ 281474976710656) (hn : n < 9223372036854775808) :
    FStep P ⟨d, .makeSlice t x y, ty, ps, af, g⟩ E M (.slice (some ⟨id, 0, none⟩) n 0) ⟨[], [(id, ⟨List.replicate (n * sz) c, true, sz⟩)]⟩ := by
  intro E' M' h1 _ h3 C ρ ac w hR
  have hid : M' id = none := h3 _ (List.mem_singleton_self _) (by simp)
  have e1 := flat_inv (hR.eval (x := x) (by rw [h1 x (by simp [Op.operands])]; exact hx)) rfl
  have e2 := flat_inv (hR.eval (x := y) (by rw [h1 y (by simp [Op.operands])]; exact hy)) rfl
  obtain ⟨ρ', hR', hρ, _⟩ := hR.alloc hid (cells := List.replicate (n * sz) c) (rcells := Array.replicate (n * sz) c) (elem := e) sz (by simp) (fun k y u h1 h2 => by
    have a1 := (List.getElem?_eq_some_iff.1 h1).2
    have a2 := (Array.getElem?_eq_some_iff.1 h2).2
    simp at a1 a2
    rw [← a1, ← a2]
    exact .flat _ hc)
  obtain ⟨info, hi, _⟩ := info_of hs
  have hby2 : info.bytes = by' := by rw [hi] at hby; simpa using hby
  have hwrap : IntKind.i64.wrap (n : Int) = n := IntWalk.i64_in _ (by omega)
  unfold StepTo Oper.wp
  have hlen' : ¬ (281474976710656 : Int) < (info.bytes : Int) * (n : Int) := by
    rw [hby2]
    have h9 := Int.ofNat_le.mpr hlen
    rw [Int.natCast_mul] at h9
    omega
  have : (execOp ac.eval ⟨d, .makeSlice t x y, ty, ps, af, g⟩).run P w = .ok (.value (.slice (some ⟨w.heap.size, 0, none⟩) n n)) (pushW w (.cells (Array.replicate (n * sz) c) e)) := by
    have hn0 : ¬ (n : Int) < 0 := by omega
    simp only [execOp, e1, e2, Instr.makeSlice, Sem.run_bind, run_underlying ht, Result.andThen_ok, asInt, asIntOf, Sem.run_pure, typeInfo, hi, run_program, hwrap]
    simp only [hn0, decide_false, Bool.or_false, gt_iff_lt, hlen', Int.lt_irrefl, show (2 : Int) ^ 48 = 281474976710656 from rfl, if_false, Bool.false_eq_true, Sem.run_bind,
      Result.andThen_ok, run_askRoom, Int.toNat_natCast, run_size hs]
    by_cases hz0 : n * sz = 0
    · simp [hz0, newRow, pushW, show Array.range 0 = #[] from rfl]
    · have hm := mod_replicate sz n c (.inr h0)
      rw [Array.size_replicate] at hm
      simp [hz0, run_zero hz, newRow, pushW, hzc, hm]
  rw [this]
  refine ⟨_, rfl, ρ', hR', ?_⟩
  have := VR.slice (m := .real) (ρ := ρ') (D := dom (upds M' [(id, ⟨List.replicate (n * sz) c, true, sz⟩)])) id 0 n n dom_upd (by simp) (fun _ => ⟨Nat.le_refl _, fun L hL => by
    rw [hρ] at hL ⊢
    simp only [Array.size_replicate, Option.some.injEq] at hL
    simp only; omega⟩)
  rw [hρ] at this
  exact this

end Go.Proofs.Ytiikffiembcboaa.Sim
