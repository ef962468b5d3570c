/- Memory on both sides: a new block, a store; forgetting and renaming. -/
import Derived.Test.YtiikffiembcboaaSim4
namespace Go.Proofs.Ytiikffiembcboaa.Sim
open Go

def pushW (w : World) (o : Obj) : World := { w with heap := w.heap.push o }

theorem pushW_old {w : World} {o : Obj} {k : Nat} (h : k < w.heap.size) : (pushW w o).heap[k]? = w.heap[k]? := by
  simp only [pushW, Array.getElem?_push]
  rw [if_neg (by omega)]

theorem pushW_new {w : World} {o : Obj} : (pushW w o).heap[w.heap.size]? = some o := by
  show (w.heap.push o)[w.heap.size]? = some o
  simp

theorem Rep.alloc {C : Ctx} {ρ : Rho} {E : Env} {M : Mem} {a : Act} {w : World} (h : Rep C ρ ⟨E, M⟩ a w) {id : Nat} (hid : M id = none)
    {cells : List Value} {rcells : Array Value} {elem : TypeId} (es : Nat) (hl : cells.length ≤ rcells.size)
    (hc : ∀ (k : Nat) (v u : Value), cells[k]? = some v → rcells[k]? = some u → VR .real (dom M) ρ v u) :
    ∃ ρ', Rep C ρ' ⟨E, upd M id ⟨cells, true, es⟩⟩ a (pushW w (.cells rcells elem)) ∧ ρ' id = ⟨w.heap.size, 0, some rcells.size, es⟩ ∧ ∀ i, i ≠ id → ρ' i = ρ i := by
  let ρ' : Rho := fun i => if i = id then ⟨w.heap.size, 0, some rcells.size, es⟩ else ρ i
  have hne : ∀ i, i ≠ id → ρ' i = ρ i := fun i hi => by simp only [ρ', hi, if_false]
  have hid' : ρ' id = ⟨w.heap.size, 0, some rcells.size, es⟩ := by simp only [ρ', if_true]
  have hold : ∀ i, dom M i → ρ' i = ρ i := by
    rintro i ⟨b, hb⟩
    refine hne i fun e => ?_
    rw [e, hid] at hb; cases hb
  have hdom : ∀ i, dom M i → dom (upd M id ⟨cells, true, es⟩) i := by
    rintro i ⟨b, hb⟩
    by_cases hi : i = id
    · exact ⟨⟨cells, true, es⟩, by simp only [upd, hi, if_true]⟩
    · exact ⟨b, by simp only [upd, hi, if_false]; exact hb⟩
  have hcell : ∀ k u, rcells[k]? = some u → (pushW w (.cells rcells elem)).cell? ⟨w.heap.size, k, none⟩ = some u := by
    intro k u hu
    simp only [World.cell?, pushW_new]
    simpa using hu
  refine ⟨ρ', ⟨h.size, h.defers, fun t v hv => ?_, fun i b hb => ?_, fun i hi => ?_, fun i hi => ?_, fun i b hb hr => ?_, ?_⟩, hid', hne⟩
  · obtain ⟨u, hu, hv'⟩ := h.env t v hv
    exact ⟨u, hu, hv'.mono hdom hold⟩
  · simp only [upd] at hb
    by_cases hi : i = id
    · rw [if_pos hi] at hb; cases hb
      subst hi
      refine ⟨fun _ => by rw [hid']; simp [pushW], fun k v hk => ?_, fun _ => ⟨by rw [hid'], fun o => ?_, ?_, fun j bj hj hsj hne' => ?_⟩, by rw [hid'], by rw [hid']; intro L hL; simp only [Option.some.injEq] at hL; simp only; omega⟩
      · have hlt : k < rcells.size := Nat.lt_of_lt_of_le (List.getElem?_eq_some_iff.1 hk).1 hl
        have hu := Array.getElem?_eq_getElem hlt
        refine ⟨rcells[k], ?_, (hc k v _ hk hu).mono hdom hold⟩
        rw [hid']
        simp only [Nat.zero_add]
        exact hcell k _ hu
      · rw [hid']
        simp only [World.frozen?, pushW_new]
        simp
      · rw [hid']
        refine ⟨_, rfl, fun k hk => ?_⟩
        exact ⟨_, hcell k _ (Array.getElem?_eq_getElem hk)⟩
      · simp only [upd] at hj
        rw [if_neg hne'] at hj
        rw [hne j hne'] at hsj
        rw [hid', hne j hne']
        have := (h.mem j bj hj).lt hsj
        simp only
        omega
    · rw [if_neg hi] at hb
      have hB := h.mem i b hb
      have hheap : b.solid (ρ i) → (pushW w (.cells rcells elem)).heap[(ρ i).blk]? = w.heap[(ρ i).blk]? := fun hs => pushW_old (hB.lt hs)
      refine ⟨fun hs => by rw [hne i hi]; rw [hne i hi] at hs; simp only [pushW, Array.size_push]; have := hB.lt hs; omega, fun k v hk => ?_, fun hr => ?_, by rw [hne i hi]; exact hB.es, by rw [hne i hi]; exact hB.room⟩
      · obtain ⟨u, hu, hv⟩ := hB.cells k v hk
        rw [hne i hi]
        exact ⟨u, by rw [cell?_of_heap (hheap (Blk.solid_get hk))]; exact hu, hv.mono hdom hold⟩
      · rw [hne i hi] at hr
        have hW := hB.rw hr
        have hheap := hheap (.inl hr)
        refine ⟨by rw [hne i hi]; exact hW.off, fun o => by rw [hne i hi, frozen?_of_heap hheap]; exact hW.soft o, ?_, fun j bj hj hsj hne' => ?_⟩
        · obtain ⟨L, hL, hx⟩ := hW.lim
          rw [hne i hi]
          exact ⟨L, hL, fun k hk => by rw [cell?_of_heap hheap]; exact hx k hk⟩
        · rw [hne i hi]
          simp only [upd] at hj
          by_cases hji : j = id
          · rw [hji, hid']; have := hB.lt (.inl hr); simp only; omega
          · rw [if_neg hji] at hj
            rw [hne j hji] at hsj ⊢
            exact hW.lone j bj hj hsj hne'
  · obtain ⟨b, hb⟩ := h.low i hi
    rw [hold i ⟨b, hb⟩]; exact h.agree i hi
  · exact hdom i (h.low i hi)
  · simp only [upd] at hb
    by_cases hi : i = id
    · right; rw [hi, hid']; exact h.frame.size
    · rw [if_neg hi] at hb
      rw [hne i hi] at hr ⊢; exact h.own i b hb hr
  · exact h.frame.trans (RW' := fun _ => False) ⟨rfl, rfl, rfl, by simp [pushW], fun k hk _ => pushW_old hk⟩ (fun _ _ h => h.elim)

theorem setCell_heap_ne {w : World} {a : Addr} {u : Value} {k : Nat} (h : k ≠ a.block) : (w.setCell a u).heap[k]? = w.heap[k]? := by
  simp only [World.setCell, Array.getElem?_modify]
  rw [if_neg (by omega)]

theorem setCell_cell {w : World} {b o j : Nat} {u x : Value} (h : w.cell? ⟨b, o, none⟩ = some x) :
    (w.setCell ⟨b, o, none⟩ u).cell? ⟨b, j, none⟩ = if j = o then some u else w.cell? ⟨b, j, none⟩ := by
  simp only [World.cell?, World.setCell, Array.getElem?_modify, if_true] at h ⊢
  cases hb : w.heap[b]? with
  | none => rw [hb] at h; simp at h
  | some ob =>
    rw [hb] at h
    cases ob <;> simp at h ⊢
    rename_i c e fr
    by_cases hj : j = o
    · subst hj
      have : j < c.size := get_lt h
      simp [this]
    · rw [if_neg hj, Array.getElem?_setIfInBounds_ne (Ne.symm hj)]

theorem setCell_frozen {w : World} {a : Addr} {u : Value} {b o : Nat} : (w.setCell a u).frozen? ⟨b, o, none⟩ = w.frozen? ⟨b, o, none⟩ := by
  simp only [World.frozen?, World.setCell, Array.getElem?_modify]
  by_cases hb : a.block = b
  · rw [if_pos hb]
    cases h : w.heap[b]? with
    | none => rfl
    | some ob => cases ob <;> rfl
  · rw [if_neg hb]

theorem Rep.write {C : Ctx} {ρ : Rho} {E : Env} {M : Mem} {a : Act} {w : World} (h : Rep C ρ ⟨E, M⟩ a w) {id o L : Nat} {b : Blk} (hid : M id = some b) (hr : b.rw = true)
    (hL : (ρ id).lim = some L) (ho : o < L) {v u : Value} (hv : VR .real (dom M) ρ v u) {cells : List Value}
    (hc : ∀ (k : Nat) (y : Value), cells[k]? = some y → (k = o ∧ y = v) ∨ (k ≠ o ∧ b.cells[k]? = some y)) (hlen : cells.length ≤ L) :
    Rep C ρ ⟨E, upd M id ⟨cells, true, b.es⟩⟩ a (w.setCell ⟨(ρ id).blk, (ρ id).off + o, none⟩ u) := by
  have hdom : ∀ i, dom M i → dom (upd M id ⟨cells, true, b.es⟩) i := by
    rintro i ⟨b', hb'⟩
    by_cases hi : i = id
    · exact ⟨⟨cells, true, b.es⟩, by simp only [upd, hi, if_true]⟩
    · exact ⟨b', by simp only [upd, hi, if_false]; exact hb'⟩
  have hB := h.mem id b hid
  have ho' : b.own (ρ id) := ⟨hr, by rw [hL]; simp only [ne_eq, Option.some.injEq]; omega⟩
  have hW := hB.rw ho'
  have hoff := hW.off
  obtain ⟨L', hL', hx⟩ := hW.lim
  obtain rfl : L' = L := by rw [hL] at hL'; exact (Option.some.inj hL').symm
  obtain ⟨x0, hx0⟩ := hx o ho
  have hx0' : w.cell? ⟨(ρ id).blk, (ρ id).off + o, none⟩ = some x0 := by rw [hoff, Nat.zero_add]; exact hx0
  have hset := fun j => setCell_cell (j := j) (u := u) hx0'
  refine ⟨h.size, h.defers, fun t y hy => ?_, fun i b' hb' => ?_, h.agree, fun i hi => hdom i (h.low i hi), fun i b' hb' hr' => ?_, ?_⟩
  · obtain ⟨z, hz, hv'⟩ := h.env t y hy
    exact ⟨z, hz, hv'.mono hdom fun _ _ => rfl⟩
  · simp only [upd] at hb'
    by_cases hi : i = id
    · rw [if_pos hi] at hb'; cases hb'
      subst hi
      refine ⟨fun _ => by simp only [World.setCell, Array.size_modify]; exact hB.lt (.inl ho'), fun k y hk => ?_, fun _ => ⟨hoff, fun o' => by rw [setCell_frozen]; exact hW.soft o', ⟨L', hL, fun k hk => ?_⟩, fun j bj hj hsj hne => ?_⟩, hB.es, fun L2 h2 => ?_⟩
      · rw [hset]
        rcases hc k y hk with ⟨rfl, rfl⟩ | ⟨hko, hk'⟩
        · exact ⟨u, by simp, hv.mono hdom fun _ _ => rfl⟩
        · obtain ⟨z, hz, hv'⟩ := hB.cells k y hk'
          exact ⟨z, by rw [if_neg (by omega)]; exact hz, hv'.mono hdom fun _ _ => rfl⟩
      · rw [hset]
        split
        · exact ⟨u, rfl⟩
        · exact hx k hk
      · simp only [upd] at hj
        rw [if_neg hne] at hj
        exact hW.lone j bj hj hsj hne
      · rw [hL] at h2; cases h2; rw [hoff, Nat.zero_add]; exact hlen
    · rw [if_neg hi] at hb'
      have hB' := h.mem i b' hb'
      have hne : b'.solid (ρ i) → (ρ i).blk ≠ (ρ id).blk := fun hs => hW.lone i b' hb' hs hi
      have hheap : b'.solid (ρ i) → (w.setCell ⟨(ρ id).blk, (ρ id).off + o, none⟩ u).heap[(ρ i).blk]? = w.heap[(ρ i).blk]? := fun hs => setCell_heap_ne (hne hs)
      refine ⟨fun hs => by simp only [World.setCell, Array.size_modify]; exact hB'.lt hs, fun k y hk => ?_, fun hr' => ?_, hB'.es, hB'.room⟩
      · obtain ⟨z, hz, hv'⟩ := hB'.cells k y hk
        exact ⟨z, by rw [cell?_of_heap (hheap (Blk.solid_get hk))]; exact hz, hv'.mono hdom fun _ _ => rfl⟩
      · have hW' := hB'.rw hr'
        have hheap := hheap (.inl hr')
        refine ⟨hW'.off, fun o' => by rw [setCell_frozen]; exact hW'.soft o', ?_, fun j bj hj hsj hne' => ?_⟩
        · obtain ⟨L2, hL2, hx2⟩ := hW'.lim
          exact ⟨L2, hL2, fun k hk => by rw [cell?_of_heap hheap]; exact hx2 k hk⟩
        · simp only [upd] at hj
          by_cases hji : j = id
          · rw [hji]; exact Ne.symm (hne (.inl hr'))
          · rw [if_neg hji] at hj; exact hW'.lone j bj hj hsj hne'
  · simp only [upd] at hb'
    by_cases hi : i = id
    · rw [hi]; exact h.own id b hid ho'
    · rw [if_neg hi] at hb'; exact h.own i b' hb' hr'
  · refine h.frame.trans (RW' := fun k => k = (ρ id).blk) ⟨rfl, rfl, rfl, by simp [World.setCell], fun k _ hn => setCell_heap_ne hn⟩ fun k hk he => ?_
    rcases h.own id b hid ho' with h2 | h2
    · rw [he]; exact h2
    · rw [he] at hk; omega

theorem Rep.lim {C : Ctx} {ρ : Rho} {E : Env} {M : Mem} {a : Act} {w : World} (h : Rep C ρ ⟨E, M⟩ a w) {id : Nat} {b : Blk} (hid : M id = some b) (hr : b.rw = true) :
    ∃ L, (ρ id).lim = some L ∧ b.cells.length ≤ L := by
  have hB := h.mem id b hid
  by_cases h0 : (ρ id).lim = some 0
  · exact ⟨0, h0, by have := hB.room 0 h0; omega⟩
  · obtain ⟨L, hL, _⟩ := (hB.rw ⟨hr, h0⟩).lim
    have := hB.room L hL
    exact ⟨L, hL, by omega⟩

theorem Rep.store {C : Ctx} {ρ : Rho} {E : Env} {M : Mem} {a : Act} {w : World} (h : Rep C ρ ⟨E, M⟩ a w) {id o : Nat} {b : Blk} (hid : M id = some b) (hr : b.rw = true)
    (ho : o < b.cells.length) {v u : Value} (hv : VR .real (dom M) ρ v u) :
    Rep C ρ ⟨E, upd M id ⟨b.cells.set o v, true, b.es⟩⟩ a (w.setCell ⟨(ρ id).blk, (ρ id).off + o, none⟩ u) := by
  obtain ⟨L, hL, hl⟩ := h.lim hid hr
  refine h.write hid hr hL (by omega) hv (fun k y hk => ?_) (by simpa using hl)
  by_cases hko : k = o
  · subst hko
    simp only [List.getElem?_set_self ho, Option.some.injEq] at hk
    exact .inl ⟨rfl, hk.symm⟩
  · simp only [List.getElem?_set_ne (Ne.symm hko)] at hk
    exact .inr ⟨hko, hk⟩

/-- behind the end of what is told of a block -/
theorem Rep.push {C : Ctx} {ρ : Rho} {E : Env} {M : Mem} {a : Act} {w : World} (h : Rep C ρ ⟨E, M⟩ a w) {id L : Nat} {b : Blk} (hid : M id = some b) (hr : b.rw = true)
    (hL : (ρ id).lim = some L) (ho : b.cells.length < L) {v u : Value} (hv : VR .real (dom M) ρ v u) :
    Rep C ρ ⟨E, upd M id ⟨b.cells ++ [v], true, b.es⟩⟩ a (w.setCell ⟨(ρ id).blk, (ρ id).off + b.cells.length, none⟩ u) := by
  refine h.write hid hr hL ho hv (fun k y hk => ?_) (by simp; omega)
  rcases Nat.lt_or_ge k b.cells.length with h1 | h1
  · rw [List.getElem?_append_left h1] at hk
    exact .inr ⟨by omega, hk⟩
  · rw [List.getElem?_append_right h1] at hk
    have : k - b.cells.length < 1 := by simpa using (List.getElem?_eq_some_iff.1 hk).1
    have h2 : k = b.cells.length := by omega
    subst h2
    simp at hk
    exact .inl ⟨rfl, hk.symm⟩

/-- nothing more is told of a block -/
theorem Rep.kill {C : Ctx} {ρ : Rho} {E : Env} {M : Mem} {a : Act} {w : World} (h : Rep C ρ ⟨E, M⟩ a w) {id : Nat} {b : Blk} (hid : M id = some b) : Rep C ρ ⟨E, upd M id ⟨[], false, b.es⟩⟩ a w := by
  have hdom : ∀ i, dom M i → dom (upd M id ⟨[], false, b.es⟩) i := by
    rintro i ⟨b', hb'⟩
    by_cases hi : i = id
    · exact ⟨⟨[], false, b.es⟩, by simp only [upd, hi, if_true]⟩
    · exact ⟨b', by simp only [upd, hi, if_false]; exact hb'⟩
  refine ⟨h.size, h.defers, fun t y hy => ?_, fun i b' hb' => ?_, h.agree, fun i hi => hdom i (h.low i hi), fun i b' hb' hr' => ?_, h.frame⟩
  · obtain ⟨z, hz, hv'⟩ := h.env t y hy
    exact ⟨z, hz, hv'.mono hdom fun _ _ => rfl⟩
  · simp only [upd] at hb'
    by_cases hi : i = id
    · rw [if_pos hi] at hb'; cases hb'
      subst hi
      have hB := h.mem i b hid
      exact ⟨fun hs => by simp [Blk.solid, Blk.own] at hs, fun k v hk => by simp at hk, (fun hr => by cases hr.1), hB.es, fun L hL => by have := hB.room L hL; simp only [List.length_nil]; omega⟩
    · rw [if_neg hi] at hb'
      have hB := h.mem i b' hb'
      refine ⟨hB.lt, fun k y hk => ?_, fun hr' => ?_, hB.es, hB.room⟩
      · obtain ⟨z, hz, hv'⟩ := hB.cells k y hk
        exact ⟨z, hz, hv'.mono hdom fun _ _ => rfl⟩
      · have hW := hB.rw hr'
        refine ⟨hW.off, hW.soft, hW.lim, fun j bj hj hsj hne => ?_⟩
        simp only [upd] at hj
        by_cases hji : j = id
        · rw [if_pos hji] at hj; cases hj; simp [Blk.solid, Blk.own] at hsj
        · rw [if_neg hji] at hj; exact hW.lone j bj hj hsj hne
  · simp only [upd] at hb'
    by_cases hi : i = id
    · rw [if_pos hi] at hb'; cases hb'; cases hr'.1
    · rw [if_neg hi] at hb'; exact h.own i b' hb' hr'

/-- a block under another name -/
theorem Rep.move {C : Ctx} {ρ : Rho} {E : Env} {M : Mem} {a : Act} {w : World} (h : Rep C ρ ⟨E, M⟩ a w) {id nid : Nat} {b : Blk} (hid : M id = some b) (hn : M nid = none) :
    ∃ ρ', Rep C ρ' ⟨E, upd (upd M id ⟨[], false, b.es⟩) nid b⟩ a w ∧ ρ' nid = ρ id ∧ ∀ i, i ≠ nid → ρ' i = ρ i := by
  have hne0 : id ≠ nid := fun e => by rw [e, hn] at hid; cases hid
  let ρ' : Rho := fun i => if i = nid then ρ id else ρ i
  have hne : ∀ i, i ≠ nid → ρ' i = ρ i := fun i hi => by simp only [ρ', hi, if_false]
  have hnn : ρ' nid = ρ id := by simp only [ρ', if_true]
  have hold : ∀ i, dom M i → ρ' i = ρ i := by
    rintro i ⟨b', hb'⟩
    refine hne i fun e => ?_
    rw [e, hn] at hb'; cases hb'
  have hdom : ∀ i, dom M i → dom (upd (upd M id ⟨[], false, b.es⟩) nid b) i := by
    rintro i ⟨b', hb'⟩
    by_cases hi : i = nid
    · exact ⟨b, by simp only [upd, hi, if_true]⟩
    · by_cases hi2 : i = id
      · exact ⟨⟨[], false, b.es⟩, by simp only [upd, hi2, if_false, if_true]; rw [if_neg hne0]⟩
      · exact ⟨b', by simp only [upd, hi, hi2, if_false]; exact hb'⟩
  have hget : ∀ i b', upd (upd M id ⟨[], false, b.es⟩) nid b i = some b' → (i = nid ∧ b' = b) ∨ (i ≠ nid ∧ i = id ∧ b' = ⟨[], false, b.es⟩) ∨ (i ≠ nid ∧ i ≠ id ∧ M i = some b') := by
    intro i b' hb'
    simp only [upd] at hb'
    by_cases hi : i = nid
    · rw [if_pos hi] at hb'; exact .inl ⟨hi, (Option.some.inj hb').symm⟩
    · rw [if_neg hi] at hb'
      by_cases hi2 : i = id
      · rw [if_pos hi2] at hb'; exact .inr (.inl ⟨hi, hi2, (Option.some.inj hb').symm⟩)
      · rw [if_neg hi2] at hb'; exact .inr (.inr ⟨hi, hi2, hb'⟩)
  refine ⟨ρ', ⟨h.size, h.defers, fun t y hy => ?_, fun i b' hb' => ?_, fun i hi => ?_, fun i hi => hdom i (h.low i hi), fun i b' hb' hr' => ?_, h.frame⟩, hnn, hne⟩
  · obtain ⟨z, hz, hv'⟩ := h.env t y hy
    exact ⟨z, hz, hv'.mono hdom hold⟩
  · rcases hget i b' hb' with ⟨rfl, rfl⟩ | ⟨h1, rfl, rfl⟩ | ⟨h1, h2, h3⟩
    · have hB := h.mem id b' hid
      refine ⟨by rw [hnn]; exact hB.lt, fun k y hk => ?_, fun hr => ?_, by rw [hnn]; exact hB.es, by rw [hnn]; exact hB.room⟩
      · obtain ⟨z, hz, hv'⟩ := hB.cells k y hk
        exact ⟨z, by rw [hnn]; exact hz, hv'.mono hdom hold⟩
      · rw [hnn] at hr
        have hW := hB.rw hr
        refine ⟨by rw [hnn]; exact hW.off, by rw [hnn]; exact hW.soft, by rw [hnn]; exact hW.lim, fun j bj hj hsj hne' => ?_⟩
        rcases hget j bj hj with ⟨rfl, rfl⟩ | ⟨g1, rfl, rfl⟩ | ⟨g1, g2, g3⟩
        · exact absurd rfl hne'
        · simp [Blk.solid, Blk.own] at hsj
        · rw [hne j g1] at hsj; rw [hnn, hne j g1]; exact hW.lone j bj g3 hsj g2
    · have hB := h.mem i b hid
      exact ⟨fun hs => by simp [Blk.solid, Blk.own] at hs, fun k v hk => by simp at hk, (fun hr => by cases hr.1), by rw [hne i h1]; exact hB.es, fun L hL => by
        rw [hne i h1] at hL ⊢
        have := hB.room L hL; simp only [List.length_nil]; omega⟩
    · have hB := h.mem i b' h3
      refine ⟨by rw [hne i h1]; exact hB.lt, fun k y hk => ?_, fun hr => ?_, by rw [hne i h1]; exact hB.es, by rw [hne i h1]; exact hB.room⟩
      · obtain ⟨z, hz, hv'⟩ := hB.cells k y hk
        exact ⟨z, by rw [hne i h1]; exact hz, hv'.mono hdom hold⟩
      · rw [hne i h1] at hr
        have hW := hB.rw hr
        refine ⟨by rw [hne i h1]; exact hW.off, by rw [hne i h1]; exact hW.soft, by rw [hne i h1]; exact hW.lim, fun j bj hj hsj hne' => ?_⟩
        rcases hget j bj hj with ⟨rfl, rfl⟩ | ⟨g1, rfl, rfl⟩ | ⟨g1, g2, g3⟩
        · rw [hnn] at hsj; rw [hnn, hne i h1]; exact hW.lone id bj hid hsj (fun e => h2 e.symm)
        · simp [Blk.solid, Blk.own] at hsj
        · rw [hne j g1] at hsj; rw [hne j g1, hne i h1]; exact hW.lone j bj g3 hsj hne'
  · obtain ⟨b', hb'⟩ := h.low i hi
    rw [hold i ⟨b', hb'⟩]; exact h.agree i hi
  · rcases hget i b' hb' with ⟨rfl, rfl⟩ | ⟨h1, rfl, rfl⟩ | ⟨h1, h2, h3⟩
    · rw [hnn] at hr' ⊢; exact h.own id b' hid hr'
    · cases hr'.1
    · rw [hne i h1] at hr' ⊢; exact h.own i b' h3 hr'

/-! ### forgetting and renaming -/

/-- τ says no more than σ, with other names for blocks (fm: τ's name to σ's) -/
structure Wk (m : Nat) (fm : List (Nat × Nat)) (σ τ : ASt) : Prop where
  env : ∀ t v, τ.env t = some v → ∃ v', σ.env t = some v' ∧ VR .arg (dom τ.mem) (fun k => ⟨(fm.lookup k).getD k, 0, none, 1⟩) v v'
  mem : ∀ i b, τ.mem i = some b → ∃ b', σ.mem ((fm.lookup i).getD i) = some b' ∧
    (∀ (c : Nat) (x : Value), b.cells[c]? = some x → ∃ y, b'.cells[c]? = some y ∧ VR .arg (dom τ.mem) (fun k => ⟨(fm.lookup k).getD k, 0, none, 1⟩) x y) ∧ (b.rw = true → b'.rw = true) ∧ b'.es = b.es ∧ b.cells.length ≤ b'.cells.length
  inj : ∀ i j b b', τ.mem i = some b → τ.mem j = some b' → (fm.lookup i).getD i = (fm.lookup j).getD j → i = j
  low : ∀ i, i < m → (∃ b, τ.mem i = some b) ∧ (fm.lookup i).getD i = i

theorem Rep.weaken {C : Ctx} {ρ : Rho} {σ τ : ASt} {a : Act} {w : World} (h : Rep C ρ σ a w) {m : Nat} (hm : C.m = m) {fm : List (Nat × Nat)} (hw : Wk m fm σ τ) : ∃ ρ', Rep C ρ' τ a w := by
  let f : Rho := fun k => ⟨(fm.lookup k).getD k, 0, none, 1⟩
  refine ⟨comp ρ f, h.size, h.defers, fun t v hv => ?_, fun i b hb => ?_, fun i hi => ?_, fun i hi => (hw.low i (by omega)).1, fun i b hb hr => ?_, h.frame⟩
  · obtain ⟨v', hv', hr⟩ := hw.env t v hv
    obtain ⟨u, hu, hx⟩ := h.env t v' hv'
    exact ⟨u, hu, VR.comp (by simp) hr hx⟩
  · obtain ⟨b', hb', hc, hrw, hes, hrm⟩ := hw.mem i b hb
    have hB := h.mem _ b' hb'
    refine ⟨fun hs => hB.lt (hs.imp (fun h => ⟨hrw h.1, h.2⟩) fun h e => h (List.length_eq_zero_iff.1 (by rw [e] at hrm; simpa using hrm))), fun k x hk => ?_, fun hr => ?_, hB.es.trans hes, fun L hL => by
      have := hB.room L hL
      simp only [comp, f, Nat.add_zero]
      omega⟩
    · obtain ⟨y, hy, hxy⟩ := hc k x hk
      obtain ⟨u, hu, hx⟩ := hB.cells k y hy
      exact ⟨u, by simp only [comp, f, Nat.add_zero]; exact hu, VR.comp (by simp) hxy hx⟩
    · have hW := hB.rw ⟨hrw hr.1, hr.2⟩
      refine ⟨by simp only [comp, f, Nat.add_zero]; exact hW.off, hW.soft, hW.lim, fun j bj hj hsj hne => ?_⟩
      obtain ⟨bj', hbj', _, hrwj, _, hrmj⟩ := hw.mem j bj hj
      exact hW.lone _ bj' hbj' (hsj.imp (fun h => ⟨hrwj h.1, h.2⟩) fun h e => h (List.length_eq_zero_iff.1 (by rw [e] at hrmj; simpa using hrmj))) fun e => hne (hw.inj j i bj b hj hb e)
  · have : (fm.lookup i).getD i = i := (hw.low i (by omega)).2
    simp only [comp, f, this, Nat.add_zero]
    exact h.agree i hi
  · obtain ⟨b', hb', _, hrw, _⟩ := hw.mem i b hb
    exact h.own _ b' hb' ⟨hrw hr.1, hr.2⟩

theorem AW.weaken {P : Program} {n m : Nat} {c : Code} {σ τ : ASt} {Q : Exit → ASt → Prop} {fm : List (Nat × Nat)} (hw : Wk m fm σ τ) (h : AW P n m c τ Q) : AW P n m c σ Q :=
  fun C hn hm _ a w hR => let ⟨ρ', hR'⟩ := hR.weaken hm hw; h C hn hm ρ' a w hR'

/-- a loop: the rounds' ends may forget and rename -/
theorem AW.loopw {P : Program} {n m : Nat} {c : Code} {σ : ASt} {Q : Exit → ASt → Prop} (I : Nat → ASt → Prop) {k : Nat} {fm : List (Nat × Nat)} {τ : ASt} (hw : Wk m fm σ τ) (h0 : I k τ)
    (round : ∀ k σ, I k σ → AW P n m c σ (thenA (fun σ' => ∃ k' fm' τ', k' < k ∧ Wk m fm' σ' τ' ∧ I k' τ') Q)) : AW P n m (.loop c) σ Q := by
  refine AW.weaken hw ?_
  intro C hn hm ρ a w hR b kk cs
  have key : ∀ N k σ ρ a w, k < N → I k σ → Rep C ρ σ a w →
      ∃ e a' w', RQ C Q e a' w' ∧ Arrives P (lone (b.at a (.code c :: .inLoop c :: kk)) cs w) b kk cs e a' w' := by
    intro N
    induction N with
    | zero => intro k σ ρ a w h; omega
    | succ N ih =>
      intro k σ ρ a w hk hI hR
      obtain ⟨e, a₁, w₁, ⟨ρ1, σ1, hR1, hq⟩, harr⟩ := round k σ hI C hn hm ρ a w hR b (.inLoop c :: kk) cs
      cases e with
      | normal =>
        obtain ⟨k1, fm1, τ1, hlt, hwk, hI1⟩ := hq
        obtain ⟨ρ2, hR2⟩ := hR1.weaken hm hwk
        obtain ⟨e₂, a₂, w₂, hq₂, harr₂⟩ := ih k1 τ1 ρ2 a₁ w₁ (by omega) hI1 hR2
        exact ⟨e₂, a₂, w₂, hq₂, .of_steps (Steps.trans harr (.one step_inLoop)) harr₂⟩
      | exit id => exact ⟨_, a₁, w₁, ⟨ρ1, σ1, hR1, hq⟩, .pass (x := .inLoop c) rfl (fun _ _ => .inl (by simp)) harr⟩
      | goto l => exact ⟨_, a₁, w₁, ⟨ρ1, σ1, hR1, hq⟩, .pass (x := .inLoop c) rfl (fun _ _ => .inl (by simp)) harr⟩
      | ret => exact ⟨_, a₁, w₁, ⟨ρ1, σ1, hR1, hq⟩, .pass (x := .inLoop c) rfl (fun _ _ => .inl (by simp)) harr⟩
      | panic ch => exact ⟨_, a₁, w₁, ⟨ρ1, σ1, hR1, hq⟩, .pass (x := .inLoop c) rfl (fun _ _ => .inl (by simp)) harr⟩
      | outgrown => exact ⟨_, a₁, w₁, ⟨ρ1, σ1, hR1, hq⟩, .pass (x := .inLoop c) rfl (fun _ _ => .inl (by simp)) harr⟩
  obtain ⟨e, a', w', hq, harr⟩ := key (k + 1) k τ ρ a w (by omega) h0 hR
  exact ⟨e, a', w', hq, .of_steps (.one step_loop) harr⟩

end Go.Proofs.Ytiikffiembcboaa.Sim
