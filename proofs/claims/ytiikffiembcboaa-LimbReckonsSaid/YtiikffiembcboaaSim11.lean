/- Contracts of functions that read values and slices of plain values, and give such. -/
import Derived.Test.YtiikffiembcboaaSim10
namespace Go.Proofs.Ytiikffiembcboaa.Sim
open Go

inductive FA
  | v (x : Value)
  | s (cells : List Value) (es n : Nat) (rw : Bool)
  | sub (k o n : Nat)
  | p (cells cells' : List Value) (es : Nat)

def argVals : Nat → List FA → List Value
  | _, [] => []
  | k, .v x :: r => x :: argVals k r
  | k, .s _ _ n _ :: r => .slice (some ⟨k, 0, none⟩) n 0 :: argVals (k + 1) r
  | k, .sub j o n :: r => .slice (some ⟨j, o, none⟩) n 0 :: argVals k r
  | k, .p _ _ _ :: r => .pointer (some ⟨k, 0, none⟩) :: argVals (k + 1) r

def argBlks : List FA → List Blk
  | [] => []
  | .v _ :: r => argBlks r
  | .s c es _ rw :: r => ⟨c, rw, es⟩ :: argBlks r
  | .sub _ _ _ :: r => argBlks r
  | .p c _ es :: r => ⟨c, true, es⟩ :: argBlks r

/-- the arguments' blocks as they are at the end -/
def outBlks : List FA → List Blk
  | [] => []
  | .v _ :: r => outBlks r
  | .s c es _ rw :: r => ⟨c, rw, es⟩ :: outBlks r
  | .sub _ _ _ :: r => outBlks r
  | .p _ c es :: r => ⟨c, true, es⟩ :: outBlks r

theorem outBlks_len : ∀ (as : List FA), (outBlks as).length = (argBlks as).length
  | [] => rfl
  | .v _ :: r => outBlks_len r
  | .s _ _ _ _ :: r => by simp [outBlks, argBlks, outBlks_len r]
  | .sub _ _ _ :: r => outBlks_len r
  | .p _ _ _ :: r => by simp [outBlks, argBlks, outBlks_len r]

def oneV (l : List Value) : Value := if h : l.length = 1 then l[0] else .tuple l.toArray

def FC (P : Program) (f : FuncId) (as rs : List FA) : Prop :=
  Ctr P f (argVals 0 as) (argBlks as) (oneV (argVals (argBlks as).length rs)) (outBlks as ++ argBlks rs)

theorem oneV_rel {m : Md} {D : Nat → Prop} {ρ : Rho} {l l' : List Value} (hl : l.length = l'.length)
    (h : ∀ (k : Nat) (x y : Value), l[k]? = some x → l'[k]? = some y → VR m D ρ x y) : VR m D ρ (oneV l) (oneV l') := by
  unfold oneV
  by_cases h1 : l.length = 1
  · rw [dif_pos h1, dif_pos (by omega)]
    exact h 0 _ _ (List.getElem?_eq_getElem (by omega)) (List.getElem?_eq_getElem (by omega))
  · rw [dif_neg h1, dif_neg (by omega)]
    exact .tuple _ _ (by simpa using hl) fun k x y hx hy => h k x y (by simpa using hx) (by simpa using hy)

/-! ### at a return -/

/-- the results' values in the callee's own state -/
inductive Gives (m : Nat) (M : Mem) : List FA → List Value → List Nat → Prop
  | nil : Gives m M [] [] []
  | v {x : Value} {r : List FA} {vs : List Value} {ids : List Nat} (hx : pureV x = true) (h : Gives m M r vs ids) : Gives m M (.v x :: r) (x :: vs) ids
  | s {c : List Value} {es n id : Nat} {rw : Bool} {r : List FA} {vs : List Value} {ids : List Nat} (hm : M id = some ⟨c, true, es⟩) (hc : ∀ x ∈ c, flatV x = true) (h : Gives m M r vs ids) :
      Gives m M (.s c es n rw :: r) (.slice (some ⟨id, 0, none⟩) n 0 :: vs) (id :: ids)
  | nilS {es id : Nat} {b : Blk} {r : List FA} {vs : List Value} {ids : List Nat} (hm : M id = some b) (he : b.es = es) (h : Gives m M r vs ids) :
      Gives m M (.s [] es 0 false :: r) (.slice none 0 0 :: vs) (id :: ids)
  | sub {k o n : Nat} {r : List FA} {vs : List Value} {ids : List Nat} (hk : k < m) (h : Gives m M r vs ids) : Gives m M (.sub k o n :: r) (.slice (some ⟨k, o, none⟩) n 0 :: vs) ids

/-- the arguments' blocks are still what they were -/
def Has (M : Mem) : Nat → List Blk → Prop
  | _, [] => True
  | k, b :: r => M k = some b ∧ Has M (k + 1) r

theorem Has.get {M : Mem} : ∀ {l : List Blk} {k j : Nat} {b : Blk}, Has M k l → l[j]? = some b → M (k + j) = some b
  | [], _, _, _, _, h => by simp at h
  | c :: r, k, j, b, hh, h => by
    cases j with
    | zero => simp at h; subst h; exact hh.1
    | succ j =>
      have := Has.get hh.2 (by simpa using h : r[j]? = some b)
      rw [← this]; congr 1; omega

theorem Gives.len {m : Nat} {M : Mem} {rs : List FA} {vs : List Value} {ids : List Nat} (h : Gives m M rs vs ids) : (argBlks rs).length = ids.length ∧ ∀ k, (argVals k rs).length = vs.length := by
  induction h with
  | nil => exact ⟨rfl, fun _ => rfl⟩
  | v _ _ ih => exact ⟨ih.1, fun k => by simp [argVals, ih.2]⟩
  | s _ _ _ ih => exact ⟨by simp [argBlks, ih.1], fun k => by simp [argVals, ih.2]⟩
  | nilS _ _ _ ih => exact ⟨by simp [argBlks, ih.1], fun k => by simp [argVals, ih.2]⟩
  | sub _ _ ih => exact ⟨ih.1, fun k => by simp [argVals, ih.2]⟩

theorem Gives.rel {m : Nat} {M : Mem} {D : Nat → Prop} {h : Rho} {rs : List FA} {vs : List Value} {ids : List Nat} (hg : Gives m M rs vs ids) :
    ∀ (k0 : Nat), (∀ j i, ids[j]? = some i → h (k0 + j) = ⟨i, 0, none, 1⟩ ∧ D (k0 + j)) → (∀ k, k < m → h k = ⟨k, 0, none, 1⟩ ∧ D k) →
      ∀ (k : Nat) (x y : Value), (argVals k0 rs)[k]? = some x → vs[k]? = some y → VR .arg D h x y := by
  induction hg with
  | nil => intro k0 _ _ k x y hx; simp [argVals] at hx
  | v hx' hg ih =>
    intro k0 h1 h2 k x y hx hy
    cases k with
    | zero => simp [argVals] at hx hy; subst hx; subst hy; exact .pure hx'
    | succ k => exact ih k0 h1 h2 k x y (by simpa [argVals] using hx) (by simpa using hy)
  | @s c es n id rw r vs ids hm hc hg ih =>
    intro k0 h1 h2 k x y hx hy
    cases k with
    | zero =>
      simp [argVals] at hx hy; subst hx; subst hy
      obtain ⟨e, hd⟩ := h1 0 id rfl
      simp only [Nat.add_zero] at e hd
      have := VR.slice (m := .arg) (ρ := h) k0 0 n 0 hd (by simp) (by simp)
      rw [e] at this
      exact this
    | succ k =>
      refine ih (k0 + 1) (fun j i hj => ?_) h2 k x y (by simpa [argVals] using hx) (by simpa using hy)
      have := h1 (j + 1) i (by simpa using hj)
      rw [show k0 + 1 + j = k0 + (j + 1) by omega]; exact this
  | nilS hm he hg ih =>
    intro k0 h1 h2 k x y hx hy
    cases k with
    | zero => simp [argVals] at hx hy; subst hx; subst hy; exact .nilS _ (by simp)
    | succ k =>
      refine ih (k0 + 1) (fun j i hj => ?_) h2 k x y (by simpa [argVals] using hx) (by simpa using hy)
      have := h1 (j + 1) i (by simpa using hj)
      rw [show k0 + 1 + j = k0 + (j + 1) by omega]; exact this
  | @sub kk o n r vs ids hk hg ih =>
    intro k0 h1 h2 k x y hx hy
    cases k with
    | zero =>
      simp [argVals] at hx hy; subst hx; subst hy
      obtain ⟨e, hd⟩ := h2 kk hk
      have := VR.slice (m := .arg) (ρ := h) kk o n 0 hd (by simp) (by simp)
      rw [e] at this
      simpa using this
    | succ k => exact ih k0 h1 h2 k x y (by simpa [argVals] using hx) (by simpa using hy)

theorem Gives.blk {m : Nat} {M : Mem} {rs : List FA} {vs : List Value} {ids : List Nat} (hg : Gives m M rs vs ids) :
    ∀ (j : Nat) (b : Blk) (i : Nat), (argBlks rs)[j]? = some b → ids[j]? = some i → ∃ b', M i = some b' ∧ (b.cells = [] ∨ (b'.cells = b.cells ∧ ∀ x ∈ b.cells, flatV x = true)) ∧
      (b.rw = true ∨ b.cells ≠ [] → b'.rw = true) ∧ b'.es = b.es ∧ b.cells.length ≤ b'.cells.length := by
  induction hg with
  | nil => intro j b i h; simp [argBlks] at h
  | v _ _ ih => exact ih
  | s hm hc hg ih =>
    intro j b i h1 h2
    cases j with
    | zero => simp [argBlks] at h1 h2; subst h1; subst h2; exact ⟨_, hm, .inr ⟨rfl, hc⟩, fun _ => rfl, rfl, Nat.le_refl _⟩
    | succ j => exact ih j b i (by simpa [argBlks] using h1) (by simpa using h2)
  | nilS hm he hg ih =>
    intro j b i h1 h2
    cases j with
    | zero => simp [argBlks] at h1 h2; subst h1; subst h2; exact ⟨_, hm, .inl rfl, fun h => by simp at h, he, Nat.zero_le _⟩
    | succ j => exact ih j b i (by simpa [argBlks] using h1) (by simpa using h2)
  | sub _ _ ih => exact ih

theorem RetQ.of {P : Program} {fn : Func} {e : Exit} {σ : ASt} {as rs : List FA} {vs : List Value} {ids : List Nat} {rvs : List ResultVar} (he : e = .ret ∨ e = .normal)
    (hr : fn.results = rvs.toArray) (hl : rvs.length = vs.length) (hv : ∀ (k : Nat) (r : ResultVar) (v : Value), rvs[k]? = some r → vs[k]? = some v → RVal P σ r v)
    (hh : Has σ.mem 0 (outBlks as)) (hf : ∀ b ∈ outBlks as, ∀ x ∈ b.cells, flatV x = true) (hg : Gives (argBlks as).length σ.mem rs vs ids) (hnd : ids.Nodup) (hfar : ∀ i ∈ ids, (argBlks as).length ≤ i) :
    RetQ P fn (argBlks as).length (oneV (argVals (argBlks as).length rs)) (outBlks as ++ argBlks rs) e σ := by
  refine ⟨he, ids, oneV vs, ARes.of hr hl hv rfl, ?_⟩
  obtain ⟨hbl, hvl⟩ := hg.len
  have hol := outBlks_len as
  have hD : ∀ k, k < (argBlks as).length + ids.length → dom (memL (outBlks as ++ argBlks rs)) k := fun k hk => dom_memL.2 (by simp; omega)
  refine ⟨by simp [hbl, hol], ?_, fun k b hk => ?_, hnd, hfar⟩
  · refine oneV_rel (hvl _) (hg.rel _ (fun j i hj => ?_) fun k hk => ?_)
    · have hjl : j < ids.length := (List.getElem?_eq_some_iff.1 hj).1
      refine ⟨?_, hD _ (by omega)⟩
      simp only [hmap]
      rw [if_neg (by omega), Nat.add_sub_cancel_left, List.getD_eq_getElem?_getD, hj]
      rfl
    · exact ⟨by simp only [hmap]; rw [if_pos hk], hD _ (by omega)⟩
  · rcases Nat.lt_or_ge k (argBlks as).length with h1 | h1
    · rw [List.getElem?_append_left (by omega)] at hk
      have := hh.get hk
      rw [Nat.zero_add] at this
      refine ⟨b, by simp only [hmap]; rw [if_pos h1]; exact this, fun c x hx => ⟨x, hx, .flat x (hf b (List.mem_of_getElem? hk) x (List.mem_of_getElem? hx))⟩, fun h => ?_, rfl, Nat.le_refl _⟩
      rcases h with h | h
      · exact h
      · omega
    · rw [List.getElem?_append_right (by omega), hol] at hk
      have hjl : k - (argBlks as).length < ids.length := by rw [← hbl]; exact (List.getElem?_eq_some_iff.1 hk).1
      obtain ⟨b', hb', hc, hrw, hes, hlen⟩ := hg.blk _ b _ hk (List.getElem?_eq_getElem hjl)
      refine ⟨b', ?_, fun c x hx => ?_, fun h => hrw (h.imp id fun h => h.2), hes, hlen⟩
      · simp only [hmap]
        rw [if_neg (by omega), List.getD_eq_getElem?_getD, List.getElem?_eq_getElem hjl]
        exact hb'
      · rcases hc with hc | ⟨hc, hfl⟩
        · rw [hc] at hx; simp at hx
        · exact ⟨x, by rw [hc]; exact hx, .flat x (hfl x (List.mem_of_getElem? hx))⟩

theorem FC.intro {P : Program} {f : FuncId} {fn : Func} {c : Code} {as rs : List FA} (hf : P.funcs[f]? = some fn) (hb : fn.body = some c) (hlen : (argVals 0 as).length ≤ fn.ntmps)
    (h : AW P fn.ntmps (argBlks as).length c ⟨envL (argVals 0 as), memL (argBlks as)⟩ (RetQ P fn (argBlks as).length (oneV (argVals (argBlks as).length rs)) (outBlks as ++ argBlks rs))) : FC P f as rs :=
  Ctr.intro hf hb hlen (by simp [outBlks_len]) h

/-! ### at a call -/

inductive FArgs (E : Env) (M : Mem) : List FA → List Operand → List Value → List (Nat × Nat) → Prop
  | nil : FArgs E M [] [] [] []
  | v {x : Operand} {v : Value} {r : List FA} {xs : List Operand} {vs : List Value} {gs : List (Nat × Nat)} (h1 : aev E x = some v) (h2 : pureV v = true) (h : FArgs E M r xs vs gs) : FArgs E M (.v v :: r) (x :: xs) (v :: vs) gs
  | s {x : Operand} {id o n es : Nat} {b : Blk} {cells : List Value} {r : List FA} {xs : List Operand} {vs : List Value} {gs : List (Nat × Nat)} (h1 : aev E x = some (.slice (some ⟨id, o, none⟩) n 0)) (h2 : M id = some b)
      (h3 : (b.cells.drop o).take cells.length = cells) (h3' : o + cells.length ≤ b.cells.length) (h4 : b.es = es) (h5 : ∀ x ∈ cells, flatV x = true) (h : FArgs E M r xs vs gs) :
      FArgs E M (.s cells es n false :: r) (x :: xs) (.slice (some ⟨id, o, none⟩) n 0 :: vs) ((id, o) :: gs)
  | nilS {x : Operand} {id es : Nat} {b : Blk} {r : List FA} {xs : List Operand} {vs : List Value} {gs : List (Nat × Nat)} (h1 : aev E x = some (.slice none 0 0)) (h2 : M id = some b) (h4 : b.es = es) (h : FArgs E M r xs vs gs) :
      FArgs E M (.s [] es 0 false :: r) (x :: xs) (.slice none 0 0 :: vs) ((id, 0) :: gs)
  | p {x : Operand} {id es : Nat} {c c' : List Value} {r : List FA} {xs : List Operand} {vs : List Value} {gs : List (Nat × Nat)} (h1 : aev E x = some (.pointer (some ⟨id, 0, none⟩))) (h2 : M id = some ⟨c, true, es⟩)
      (h5 : ∀ x ∈ c, flatV x = true) (h6 : ∀ x ∈ c', flatV x = true) (h7 : c'.length = c.length) (h : FArgs E M r xs vs gs) : FArgs E M (.p c c' es :: r) (x :: xs) (.pointer (some ⟨id, 0, none⟩) :: vs) ((id, 0) :: gs)

theorem FArgs.len {E : Env} {M : Mem} {as : List FA} {xs : List Operand} {vs : List Value} {gs : List (Nat × Nat)} (h : FArgs E M as xs vs gs) :
    gs.length = (argBlks as).length ∧ xs.map (aev E) = vs.map some ∧ ∀ k, (argVals k as).length = vs.length := by
  induction h with
  | nil => exact ⟨rfl, rfl, fun _ => rfl⟩
  | v h1 _ _ ih => exact ⟨ih.1, by simp [h1, ih.2.1], fun k => by simp [argVals, ih.2.2]⟩
  | s h1 _ _ _ _ _ _ ih => exact ⟨by simp [argBlks, ih.1], by simp [h1, ih.2.1], fun k => by simp [argVals, ih.2.2]⟩
  | nilS h1 _ _ _ ih => exact ⟨by simp [argBlks, ih.1], by simp [h1, ih.2.1], fun k => by simp [argVals, ih.2.2]⟩
  | p h1 _ _ _ _ _ ih => exact ⟨by simp [argBlks, ih.1], by simp [h1, ih.2.1], fun k => by simp [argVals, ih.2.2]⟩

theorem FArgs.rel {E : Env} {M : Mem} {D : Nat → Prop} {h : Rho} {as : List FA} {xs : List Operand} {vs : List Value} {gs : List (Nat × Nat)} (hg : FArgs E M as xs vs gs) :
    ∀ (k0 : Nat), (∀ j p, gs[j]? = some p → h (k0 + j) = ⟨p.1, p.2, none, 1⟩ ∧ D (k0 + j)) →
      ∀ (k : Nat) (x y : Value), (argVals k0 as)[k]? = some x → vs[k]? = some y → VR .arg D h x y := by
  induction hg with
  | nil => intro k0 _ k x y hx; simp [argVals] at hx
  | v _ hx' hg ih =>
    intro k0 h1 k x y hx hy
    cases k with
    | zero => simp [argVals] at hx hy; subst hx; subst hy; exact .pure hx'
    | succ k => exact ih k0 h1 k x y (by simpa [argVals] using hx) (by simpa using hy)
  | @s _ id o n _ _ _ _ _ _ _ _ _ _ _ _ _ hg ih =>
    intro k0 h1 k x y hx hy
    cases k with
    | zero =>
      simp [argVals] at hx hy; subst hx; subst hy
      obtain ⟨e, hd⟩ := h1 0 (id, o) rfl
      simp only [Nat.add_zero] at e hd
      have := VR.slice (m := .arg) (ρ := h) k0 0 n 0 hd (by simp) (by simp)
      rw [e] at this
      exact this
    | succ k =>
      refine ih (k0 + 1) (fun j i hj => ?_) k x y (by simpa [argVals] using hx) (by simpa using hy)
      have := h1 (j + 1) i (by simpa using hj)
      rw [show k0 + 1 + j = k0 + (j + 1) by omega]; exact this
  | nilS _ hm he hg ih =>
    intro k0 h1 k x y hx hy
    cases k with
    | zero => simp [argVals] at hx hy; subst hx; subst hy; exact .nilS _ (by simp)
    | succ k =>
      refine ih (k0 + 1) (fun j i hj => ?_) k x y (by simpa [argVals] using hx) (by simpa using hy)
      have := h1 (j + 1) i (by simpa using hj)
      rw [show k0 + 1 + j = k0 + (j + 1) by omega]; exact this
  | @p _ id _ _ _ _ _ _ _ _ _ _ _ _ hg ih =>
    intro k0 h1 k x y hx hy
    cases k with
    | zero =>
      simp [argVals] at hx hy; subst hx; subst hy
      obtain ⟨e, hd⟩ := h1 0 (id, 0) rfl
      simp only [Nat.add_zero] at e hd
      have := VR.ptr (m := .arg) (ρ := h) k0 0 hd
      rw [e] at this
      exact this
    | succ k =>
      refine ih (k0 + 1) (fun j i hj => ?_) k x y (by simpa [argVals] using hx) (by simpa using hy)
      have := h1 (j + 1) i (by simpa using hj)
      rw [show k0 + 1 + j = k0 + (j + 1) by omega]; exact this

/-- the blocks that a call changes -/
def chg : List FA → List (Nat × Nat) → List (Nat × Blk)
  | .v _ :: r, gs => chg r gs
  | .sub _ _ _ :: r, gs => chg r gs
  | .s _ _ _ _ :: r, _ :: gs => chg r gs
  | .p _ c es :: r, g :: gs => (g.1, ⟨c, true, es⟩) :: chg r gs
  | _, _ => []

theorem FArgs.blk {E : Env} {M : Mem} {as : List FA} {xs : List Operand} {vs : List Value} {gs : List (Nat × Nat)} (hg : FArgs E M as xs vs gs) :
    ∀ (j : Nat) (b : Blk), (argBlks as)[j]? = some b → ∃ id o b', gs[j]? = some (id, o) ∧ M id = some b' ∧ (b'.cells.drop o).take b.cells.length = b.cells ∧ o + b.cells.length ≤ b'.cells.length ∧ b'.es = b.es ∧
      (b.rw = true → b'.rw = true ∧ o = 0 ∧ id ∈ keys (chg as gs)) ∧ ∀ x ∈ b.cells, flatV x = true := by
  induction hg with
  | nil => intro j b h; simp [argBlks] at h
  | v _ _ _ ih => exact ih
  | s h1 h2 h3 h3' h4 h5 hg ih =>
    intro j b h
    cases j with
    | zero => simp [argBlks] at h; subst h; exact ⟨_, _, _, rfl, h2, h3, h3', h4, (fun h => by cases h), h5⟩
    | succ j =>
      obtain ⟨id, o, b', a1, a2⟩ := ih j b (by simpa [argBlks] using h)
      exact ⟨id, o, b', by simpa using a1, a2⟩
  | nilS h1 h2 h4 hg ih =>
    intro j b h
    cases j with
    | zero => simp [argBlks] at h; subst h; exact ⟨_, _, _, rfl, h2, by simp, by simp, h4, (fun h => by cases h), by simp⟩
    | succ j =>
      obtain ⟨id, o, b', a1, a2⟩ := ih j b (by simpa [argBlks] using h)
      exact ⟨id, o, b', by simpa using a1, a2⟩
  | p h1 h2 h5 h6 h7 hg ih =>
    intro j b h
    cases j with
    | zero => simp [argBlks] at h; subst h; exact ⟨_, _, _, rfl, h2, by simp, by simp, rfl, (fun _ => ⟨rfl, rfl, by simp [chg, keys]⟩), h5⟩
    | succ j =>
      obtain ⟨id, o, b', a1, a2, a3, a4, a5, a6, a7⟩ := ih j b (by simpa [argBlks] using h)
      exact ⟨id, o, b', by simpa using a1, a2, a3, a4, a5, (fun h => ⟨(a6 h).1, (a6 h).2.1, by
        have := (a6 h).2.2
        simp only [chg, keys, List.map_cons, List.mem_cons] at this ⊢
        exact .inr this⟩), a7⟩

theorem FArgs.chg_mem {E : Env} {M : Mem} {as : List FA} {xs : List Operand} {vs : List Value} {gs : List (Nat × Nat)} (hg : FArgs E M as xs vs gs) :
    ∀ p ∈ chg as gs, ∃ (j : Nat) (b0 b1 : Blk), gs[j]? = some (p.1, 0) ∧ (argBlks as)[j]? = some b0 ∧ b0.rw = true ∧ (outBlks as)[j]? = some b1 ∧ p.2 = b1 ∧ (∀ x ∈ b1.cells, flatV x = true) := by
  induction hg with
  | nil => intro p hp; simp [chg] at hp
  | v _ _ _ ih => exact ih
  | s h1 h2 h3 h3' h4 h5 hg ih =>
    intro p hp
    obtain ⟨j, b0, b1, a1, a2, a3, a4, a5⟩ := ih p hp
    exact ⟨j + 1, b0, b1, by simpa using a1, by simpa [argBlks] using a2, a3, by simpa [outBlks] using a4, a5⟩
  | nilS h1 h2 h4 hg ih =>
    intro p hp
    obtain ⟨j, b0, b1, a1, a2, a3, a4, a5⟩ := ih p hp
    exact ⟨j + 1, b0, b1, by simpa using a1, by simpa [argBlks] using a2, a3, by simpa [outBlks] using a4, a5⟩
  | p h1 h2 h5 h6 h7 hg ih =>
    intro p hp
    simp only [chg, List.mem_cons] at hp
    rcases hp with rfl | hp
    · exact ⟨0, _, _, rfl, rfl, rfl, rfl, rfl, h6⟩
    · obtain ⟨j, b0, b1, a1, a2, a3, a4, a5⟩ := ih p hp
      exact ⟨j + 1, b0, b1, by simpa using a1, by simpa [argBlks] using a2, a3, by simpa [outBlks] using a4, a5⟩

/-- a block that is changed is handed in once -/
def lone1 : List FA → List (Nat × Nat) → Bool
  | .v _ :: r, gs => lone1 r gs
  | .sub _ _ _ :: r, gs => lone1 r gs
  | .s _ _ _ _ :: r, g :: gs => !(keys (chg r gs)).contains g.1 && lone1 r gs
  | .p _ _ _ :: r, g :: gs => !(gs.map (·.1)).contains g.1 && lone1 r gs
  | _, _ => true

theorem lone1_spec {E : Env} {M : Mem} {as : List FA} {xs : List Operand} {vs : List Value} {gs : List (Nat × Nat)} (hg : FArgs E M as xs vs gs) (h : lone1 as gs = true) :
    ∀ (k k' : Nat) (b : Blk) (p p' : Nat × Nat), (argBlks as)[k]? = some b → b.rw = true → gs[k]? = some p → gs[k']? = some p' → k' ≠ k → p'.1 ≠ p.1 := by
  induction hg with
  | nil => intro k k' b p p' hb; simp [argBlks] at hb
  | v _ _ _ ih => exact ih h
  | @s x id o n es b cells r xs vs gs h1 h2 h3 h3' h4 h5 hg ih =>
    simp only [lone1, Bool.and_eq_true, Bool.not_eq_true', List.contains_eq_mem, decide_eq_false_iff_not] at h
    intro k k' b p p' hb hr hk hk' hne
    cases k with
    | zero => simp [argBlks] at hb; subst hb; cases hr
    | succ k =>
      cases k' with
      | zero =>
        simp at hk hk'; subst hk'
        obtain ⟨id', o', b', a1, _, _, _, _, a6, _⟩ := hg.blk k b (by simpa [argBlks] using hb)
        rw [hk] at a1; cases a1
        intro (e : id = id')
        exact h.1 (by rw [e]; exact (a6 hr).2.2)
      | succ k' => exact ih h.2 k k' b p p' (by simpa [argBlks] using hb) hr (by simpa using hk) (by simpa using hk') (by omega)
  | @nilS x id es b r xs vs gs h1 h2 h4 hg ih =>
    simp only [lone1, Bool.and_eq_true, Bool.not_eq_true', List.contains_eq_mem, decide_eq_false_iff_not] at h
    intro k k' b p p' hb hr hk hk' hne
    cases k with
    | zero => simp [argBlks] at hb; subst hb; cases hr
    | succ k =>
      cases k' with
      | zero =>
        simp at hk hk'; subst hk'
        obtain ⟨id', o', b', a1, _, _, _, _, a6, _⟩ := hg.blk k b (by simpa [argBlks] using hb)
        rw [hk] at a1; cases a1
        intro (e : id = id')
        exact h.1 (by rw [e]; exact (a6 hr).2.2)
      | succ k' => exact ih h.2 k k' b p p' (by simpa [argBlks] using hb) hr (by simpa using hk) (by simpa using hk') (by omega)
  | @p x id es c c' r xs vs gs h1 h2 h5 h6 h7 hg ih =>
    simp only [lone1, Bool.and_eq_true, Bool.not_eq_true', List.contains_eq_mem, decide_eq_false_iff_not] at h
    intro k k' b p p' hb hr hk hk' hne
    cases k with
    | zero =>
      cases k' with
      | zero => exact absurd rfl hne
      | succ k' =>
        simp at hk hk'; subst hk
        intro (e : p'.1 = id)
        exact h.1 (by rw [← e]; exact List.mem_map.2 ⟨p', List.mem_of_getElem? hk', rfl⟩)
    | succ k =>
      cases k' with
      | zero =>
        simp at hk hk'; subst hk'
        intro e
        exact h.1 (List.mem_map.2 ⟨p, List.mem_of_getElem? hk, e.symm⟩)
      | succ k' => exact ih h.2 k k' b p p' (by simpa [argBlks] using hb) hr (by simpa using hk) (by simpa using hk') (by omega)

/-- the results' values in the caller's names -/
def resVals (gs : List (Nat × Nat)) : Nat → List FA → List Value
  | _, [] => []
  | k, .v x :: r => x :: resVals gs k r
  | k, .s _ _ n _ :: r => .slice (some ⟨k, 0, none⟩) n 0 :: resVals gs (k + 1) r
  | k, .sub j o n :: r => .slice (some ⟨(gs.getD j (0, 0)).1, (gs.getD j (0, 0)).2 + o, none⟩) n 0 :: resVals gs k r
  | _, .p _ _ _ :: _ => []

def newL : Nat → List Blk → List (Nat × Blk)
  | _, [] => []
  | k, b :: r => (k, b) :: newL (k + 1) r

theorem keys_newL : ∀ {l : List Blk} {k : Nat}, keys (newL k l) = List.range' k l.length
  | [], k => rfl
  | b :: r, k => by simp only [newL, keys, List.map_cons, List.length_cons, List.range'_succ]; congr 1; exact keys_newL

theorem newL_mem : ∀ {l : List Blk} {k : Nat} {p : Nat × Blk}, p ∈ newL k l → ∃ j, l[j]? = some p.2 ∧ p.1 = k + j
  | [], k, p, h => by simp [newL] at h
  | b :: r, k, p, h => by
    simp only [newL, List.mem_cons] at h
    rcases h with rfl | h
    · exact ⟨0, rfl, rfl⟩
    · obtain ⟨j, h1, h2⟩ := newL_mem h
      exact ⟨j + 1, by simpa using h1, by omega⟩

def faOk (m : Nat) : FA → Bool
  | .v x => pureV x
  | .s _ _ _ _ => true
  | .sub k _ _ => decide (k < m)
  | .p _ _ _ => false

theorem resVals_rel {D : Nat → Prop} {h : Rho} {gs : List (Nat × Nat)} : ∀ {rs : List FA} (k0 nb : Nat), (∀ j, j < (argBlks rs).length → h (k0 + j) = ⟨nb + j, 0, none, 1⟩ ∧ D (k0 + j)) →
    (∀ k, k < gs.length → h k = ⟨(gs.getD k (0, 0)).1, (gs.getD k (0, 0)).2, none, 1⟩ ∧ D k) → (∀ r ∈ rs, faOk gs.length r = true) →
      (argVals k0 rs).length = (resVals gs nb rs).length ∧ ∀ (k : Nat) (x y : Value), (argVals k0 rs)[k]? = some x → (resVals gs nb rs)[k]? = some y → VR .res D h x y
  | [], k0, nb, _, _, _ => ⟨rfl, fun k x y hx => by simp [argVals] at hx⟩
  | .v x :: r, k0, nb, h1, h2, h3 => by
    obtain ⟨a, b⟩ := resVals_rel (rs := r) k0 nb h1 h2 (fun z hz => h3 z (List.mem_cons_of_mem _ hz))
    refine ⟨by simp [argVals, resVals, a], fun k x' y hx hy => ?_⟩
    cases k with
    | zero => simp [argVals, resVals] at hx hy; subst hx; subst hy; exact .pure (h3 _ (List.mem_cons_self ..))
    | succ k => exact b k x' y (by simpa [argVals] using hx) (by simpa [resVals] using hy)
  | .s c es n rw :: r, k0, nb, h1, h2, h3 => by
    obtain ⟨a, b⟩ := resVals_rel (rs := r) (k0 + 1) (nb + 1) (fun j hj => by
      have := h1 (j + 1) (by simp [argBlks]; omega)
      rw [show k0 + 1 + j = k0 + (j + 1) by omega, show nb + 1 + j = nb + (j + 1) by omega]; exact this) h2 (fun z hz => h3 z (List.mem_cons_of_mem _ hz))
    refine ⟨by simp [argVals, resVals, a], fun k x' y hx hy => ?_⟩
    cases k with
    | zero =>
      simp [argVals, resVals] at hx hy; subst hx; subst hy
      obtain ⟨e, hd⟩ := h1 0 (by simp [argBlks])
      simp only [Nat.add_zero] at e hd
      have := VR.slice (m := .res) (ρ := h) k0 0 n 0 hd (by simp) (by simp)
      rw [e] at this
      exact this
    | succ k => exact b k x' y (by simpa [argVals] using hx) (by simpa [resVals] using hy)
  | .sub kk o n :: r, k0, nb, h1, h2, h3 => by
    obtain ⟨a, b⟩ := resVals_rel (rs := r) k0 nb h1 h2 (fun z hz => h3 z (List.mem_cons_of_mem _ hz))
    refine ⟨by simp [argVals, resVals, a], fun k x' y hx hy => ?_⟩
    cases k with
    | zero =>
      simp [argVals, resVals] at hx hy; subst hx; subst hy
      have hk : kk < gs.length := by simpa [faOk] using h3 _ (List.mem_cons_self ..)
      obtain ⟨e, hd⟩ := h2 kk hk
      have := VR.slice (m := .res) (ρ := h) kk o n 0 hd (by simp) (by simp)
      rw [e] at this
      simpa [List.getD_eq_getElem?_getD] using this
    | succ k => exact b k x' y (by simpa [argVals] using hx) (by simpa [resVals] using hy)
  | .p c c' es :: r, k0, nb, h1, h2, h3 => by
    have := h3 _ (List.mem_cons_self ..)
    simp [faOk] at this

theorem FStep.callF {P : Program} {E : Env} {M : Mem} {d : Option Tmp} {ty : TypeId} {ps : String} {af : Array Edge} {gd : Option (Nat × Bool)} {f : FuncId} {as rs : List FA}
    (S : FC P f as rs) (hb : Bodied P f) {fop : Operand} {aops : Array Operand} {tys : Array TypeId} {vals : List Value} {gs : List (Nat × Nat)} {fs cs : Array Value} {xs : List Operand} (nb : Nat)
    (hf : aev E fop = some (.func (.func f) fs cs)) (hx : aops.toList.map (aev E) = vals.map some) {allv : List Value} (hall : fs.toList ++ vals ++ cs.toList = allv)
    (hxs : ∃ E', FArgs E' M as xs allv gs) (hl1 : lone1 as gs = true) (hfr : ∀ j, j < (argBlks rs).length → M (nb + j) = none) (hrs : ∀ r ∈ rs, faOk gs.length r = true)
    (hfl : ∀ b ∈ argBlks rs, ∀ x ∈ b.cells, flatV x = true) :
    FStep P ⟨d, .call ⟨.value fop, aops, tys⟩, ty, ps, af, gd⟩ E M (oneV (resVals gs nb rs)) ⟨gs.map (·.1), chg as gs ++ newL nb (argBlks rs)⟩ := by
  obtain ⟨E', ha⟩ := hxs
  obtain ⟨hgl, hmap, hvl⟩ := ha.len
  have hol := outBlks_len as
  have hgm : ∀ k, k < gs.length → gmap gs (List.range' nb (argBlks rs).length) k = ⟨(gs.getD k (0, 0)).1, (gs.getD k (0, 0)).2, none, 1⟩ := fun k hk => by simp only [gmap, hk, if_true]
  have hgp : ∀ k p, gs[k]? = some p → gmap gs (List.range' nb (argBlks rs).length) k = ⟨p.1, p.2, none, 1⟩ := fun k p hk => by
    rw [hgm k (List.getElem?_eq_some_iff.1 hk).1, List.getD_eq_getElem?_getD, hk]; rfl
  have hnm : ∀ j, j < (argBlks rs).length → gmap gs (List.range' nb (argBlks rs).length) (gs.length + j) = ⟨nb + j, 0, none, 1⟩ := fun j hj => by
    simp only [gmap]
    rw [if_neg (by omega), Nat.add_sub_cancel_left, List.getD_eq_getElem?_getD, List.getElem?_eq_getElem (by simpa using hj)]
    simp
  have hDo : ∀ k, k < (argBlks as).length + (argBlks rs).length → dom (memL (outBlks as ++ argBlks rs)) k := fun k hk => dom_memL.2 (by simpa [hol] using hk)
  have hids : ∀ i ∈ List.range' nb (argBlks rs).length, M i = none := by
    intro i hi
    obtain ⟨j, hj, rfl⟩ := List.mem_range'.1 hi
    simpa using hfr j hj
  have hkeys : keys (chg as gs ++ newL nb (argBlks rs)) = keys (chg as gs) ++ List.range' nb (argBlks rs).length := by
    simp only [keys, List.map_append]; congr 1; exact keys_newL
  have F : Fits M (argBlks as) (outBlks as ++ argBlks rs) gs (List.range' nb (argBlks rs).length) (chg as gs ++ newL nb (argBlks rs)) := by
    refine ⟨hgl, by simp [hol], fun k b0 hk => ?_, fun p hp => ?_, fun i hi => ⟨by rw [hkeys]; exact List.mem_append_right _ hi, fun hg => ?_⟩, List.nodup_range'⟩
    · obtain ⟨id, o, b', g1, g2, g3, g3', g4, g5, g6⟩ := ha.blk k b0 hk
      rw [hgp k _ g1]
      refine ⟨b', g2, fun c x hx => ⟨x, ?_, .flat x (g6 x (List.mem_of_getElem? hx))⟩, g4, g3', fun h => ⟨(g5 h).1, (g5 h).2.1, fun k' b1 hk' hne => ?_, by rw [hkeys]; exact List.mem_append_left _ (g5 h).2.2⟩⟩
      · have hc : c < b0.cells.length := (List.getElem?_eq_some_iff.1 hx).1
        rw [← g3, List.getElem?_take, if_pos hc, List.getElem?_drop] at hx
        exact hx
      · obtain ⟨id', o', _, g1', _⟩ := ha.blk k' b1 hk'
        rw [hgp k' _ g1']
        exact lone1_spec ha hl1 k k' b0 (id, o) (id', o') hk h g1 g1' hne
    · rcases List.mem_append.1 hp with hp | hp
      · obtain ⟨j, b0, b1, a1, a2, a3, a4, a5, a6⟩ := ha.chg_mem p hp
        have hjl : j < (argBlks as).length := (List.getElem?_eq_some_iff.1 a2).1
        refine ⟨j, b1, by rw [List.getElem?_append_left (by omega)]; exact a4, by rw [hgp j _ a1], .inr ⟨b0, a2, a3⟩, fun c y hy => ⟨y, by rw [a5] at hy; exact hy, .flat y (a6 y (by rw [a5] at hy; exact List.mem_of_getElem? hy))⟩, fun h => by rw [a5] at h; exact h, by rw [a5], by rw [a5]; exact Nat.le_refl _⟩
      · obtain ⟨j, hj, hp1⟩ := newL_mem hp
        have hjl : j < (argBlks rs).length := (List.getElem?_eq_some_iff.1 hj).1
        refine ⟨(argBlks as).length + j, p.2, by rw [List.getElem?_append_right (by omega), hol, Nat.add_sub_cancel_left]; exact hj, ?_, .inl (by omega), fun c y hy => ⟨y, hy, .flat y ?_⟩, fun h => h, rfl, Nat.le_refl _⟩
        · rw [← hgl, hnm j hjl]; exact hp1
        · exact hfl p.2 (List.mem_of_getElem? hj) y (List.mem_of_getElem? hy)
    · obtain ⟨p, hp, rfl⟩ := List.mem_map.1 hg
      obtain ⟨k, hk, rfl⟩ := List.mem_iff_getElem.1 hp
      have hka : k < (argBlks as).length := by omega
      obtain ⟨id, o, b', g1, g2, _⟩ := ha.blk k _ (List.getElem?_eq_getElem hka)
      rw [List.getElem?_eq_getElem hk] at g1
      have := hids _ hi
      simp only [Option.some.injEq] at g1
      rw [g1] at this
      rw [g2] at this
      cases this
  obtain ⟨r1, r2⟩ := resVals_rel (D := dom (memL (outBlks as ++ argBlks rs))) (h := gmap gs (List.range' nb (argBlks rs).length)) (gs := gs) (rs := rs) (argBlks as).length nb
    (fun j hj => ⟨by rw [← hgl]; exact hnm j hj, hDo _ (by omega)⟩) (fun k hk => ⟨hgm k hk, hDo _ (by omega)⟩) hrs
  refine FStep.callv S hb F hf hx (by rw [hall]; simp [hvl]) ?_ (oneV_rel r1 r2)
  rw [hall]
  exact ha.rel 0 (fun j p hj => by
    have hjl : j < gs.length := (List.getElem?_eq_some_iff.1 hj).1
    rw [Nat.zero_add]
    exact ⟨hgp j p hj, dom_memL.2 (by omega)⟩)

section
variable {P : Program} {ops : Array Oper} {n i : Nat} {os : List Oper} {E : Env} {M : Mem} {D : List Eff → Prop} {K : ASt → Prop}
  {d : Tmp} {ty : TypeId} {ps : String} {af : Array Edge} {g : Option (Nat × Bool)} {f : FuncId} {as rs : List FA} {aops : Array Operand} {tys : Array TypeId} {vals : List Value} {gs : List (Nat × Nat)} {fop : Operand}

/-- any call -/
theorem AWo.callG (S : FC P f as rs) (hb : Bodied P f) (nb : Nat) {v : Value} {M' : Mem} {e : Eff} {fs cs : Array Value} {xs : List Operand} {allv : List Value} (hf : aev E fop = some (.func (.func f) fs cs)) (hx : aops.toList.map (aev E) = vals.map some)
    (hall : fs.toList ++ vals ++ cs.toList = allv) {E' : Env} (ha : FArgs E' M as xs allv gs) (hl1 : lone1 as gs = true)
    (hrs : rs.all (faOk gs.length) = true) (hfl : ∀ b ∈ argBlks rs, ∀ x ∈ b.cells, flatV x = true) (hfr : ∀ j, j < (argBlks rs).length → M (nb + j) = none) (hv : oneV (resVals gs nb rs) = v)
    (he : (⟨gs.map (·.1), chg as gs ++ newL nb (argBlks rs)⟩ : Eff) = e) (hM : upds M e.new = M')
    (hw : wantA ops E ⟨some d, .call ⟨.value fop, aops, tys⟩, ty, ps, af, g⟩ = some true) (hd : Nat.blt d n = true)
    (hr : AWo P ops n (i + 1) os ⟨upd E d v, M'⟩ (fun es => D (e :: es)) K) :
    AWo P ops n i (⟨some d, .call ⟨.value fop, aops, tys⟩, ty, ps, af, g⟩ :: os) ⟨E, M⟩ D K := by
  subst hv; subst he; subst hM
  have hs := FStep.callF (d := some d) (ty := ty) (ps := ps) (af := af) (gd := g) S hb (tys := tys) nb hf hx hall ⟨E', ha⟩ hl1 hfr (fun r hr => List.all_eq_true.1 hrs r hr) hfl
  refine AWo.step hs hw hd (fun p hp hq => ?_) hr
  rcases List.mem_append.1 hp with hp | hp
  · obtain ⟨j, b0, b1, a1, _⟩ := ha.chg_mem p hp
    exact absurd (List.mem_map.2 ⟨(p.1, 0), List.mem_of_getElem? a1, rfl⟩) hq
  · obtain ⟨j, hj, hp1⟩ := newL_mem hp
    rw [hp1]; exact hfr j (List.getElem?_eq_some_iff.1 hj).1

/-- a call that makes nothing -/
theorem AWo.call0 (S : FC P f as rs) (hb : Bodied P f) {v : Value} (hf : aev E fop = some (.func (.func f) #[] #[])) (ha : FArgs E M as aops.toList vals gs) (hc : chg as gs = []) (hl1 : lone1 as gs = true) (hrs : rs.all (faOk gs.length) = true) (h0 : argBlks rs = []) (hv : oneV (resVals gs 0 rs) = v)
    (hw : wantA ops E ⟨some d, .call ⟨.value fop, aops, tys⟩, ty, ps, af, g⟩ = some true) (hd : Nat.blt d n = true)
    (hr : AWo P ops n (i + 1) os ⟨upd E d v, M⟩ (fun es => D (⟨gs.map (·.1), []⟩ :: es)) K) :
    AWo P ops n i (⟨some d, .call ⟨.value fop, aops, tys⟩, ty, ps, af, g⟩ :: os) ⟨E, M⟩ D K :=
  AWo.callG S hb 0 hf ha.len.2.1 (by simp) ha hl1 hrs (by rw [h0]; intro b hb; simp at hb) (by rw [h0]; intro j hj; simp at hj) hv (M' := M) (e := ⟨gs.map (fun p : Nat × Nat => p.1), []⟩) (by rw [hc, h0]; rfl) rfl hw hd hr

/-- a call that makes one block -/
theorem AWo.call1 (S : FC P f as rs) (hb : Bodied P f) (nb : Nat) {b : Blk} {v : Value} (hf : aev E fop = some (.func (.func f) #[] #[])) (ha : FArgs E M as aops.toList vals gs) (hc : chg as gs = []) (hl1 : lone1 as gs = true) (hrs : rs.all (faOk gs.length) = true) (h1 : argBlks rs = [b])
    (hfl : ∀ x ∈ b.cells, flatV x = true) (hv : oneV (resVals gs nb rs) = v) (hid : M nb = none)
    (hw : wantA ops E ⟨some d, .call ⟨.value fop, aops, tys⟩, ty, ps, af, g⟩ = some true) (hd : Nat.blt d n = true)
    (hr : AWo P ops n (i + 1) os ⟨upd E d v, upd M nb b⟩ (fun es => D (⟨gs.map (·.1), [(nb, b)]⟩ :: es)) K) :
    AWo P ops n i (⟨some d, .call ⟨.value fop, aops, tys⟩, ty, ps, af, g⟩ :: os) ⟨E, M⟩ D K :=
  AWo.callG S hb nb hf ha.len.2.1 (by simp) ha hl1 hrs (by rw [h1]; intro b' hb'; simp at hb'; subst hb'; exact hfl) (by rw [h1]; intro j hj; simp at hj; subst hj; exact hid) hv (M' := upd M nb b) (e := ⟨gs.map (fun p : Nat × Nat => p.1), [(nb, b)]⟩) (by rw [hc, h1]; rfl) rfl hw hd hr
end

/-! ### an empty block for a nil slice -/

theorem Rep.ghost {C : Ctx} {ρ : Rho} {E : Env} {M : Mem} {a : Act} {w : World} (h : Rep C ρ ⟨E, M⟩ a w) {id : Nat} (es : Nat) (hid : M id = none) : ∃ ρ', Rep C ρ' ⟨E, upd M id ⟨[], true, es⟩⟩ a w := by
  let ρ' : Rho := fun i => if i = id then ⟨0, 0, some 0, es⟩ else ρ i
  have hne : ∀ i, i ≠ id → ρ' i = ρ i := fun i hi => by simp only [ρ', hi, if_false]
  have hold : ∀ i, dom M i → ρ' i = ρ i := by
    rintro i ⟨b, hb⟩
    refine hne i fun e => ?_
    rw [e, hid] at hb; cases hb
  have hdom : ∀ i, dom M i → dom (upd M id ⟨[], true, es⟩) i := by
    rintro i ⟨b, hb⟩
    by_cases hi : i = id
    · exact ⟨⟨[], true, es⟩, by simp only [upd, hi, if_true]⟩
    · exact ⟨b, by simp only [upd, hi, if_false]; exact hb⟩
  refine ⟨ρ', h.size, h.defers, fun t v hv => ?_, fun i b hb => ?_, fun i hi => ?_, fun i hi => hdom i (h.low i hi), fun i b hb hr => ?_, h.frame⟩
  · obtain ⟨u, hu, hv'⟩ := h.env t v hv
    exact ⟨u, hu, hv'.mono hdom hold⟩
  · simp only [upd] at hb
    by_cases hi : i = id
    · rw [if_pos hi] at hb; cases hb
      subst hi
      have hl0 : (ρ' i).lim = some 0 := by simp [ρ']
      exact ⟨fun hs => by rcases hs with hs | hs
                          · exact absurd hl0 hs.2
                          · exact absurd rfl hs, fun k v hk => by simp at hk, (fun hr => absurd hl0 hr.2), (by simp [ρ']), (fun L hL => by simp [ρ'] at hL ⊢)⟩
    · rw [if_neg hi] at hb
      have hB := h.mem i b hb
      refine ⟨fun hs => by rw [hne i hi] at hs ⊢; exact hB.lt hs, fun k v hk => ?_, fun hr => ?_, by rw [hne i hi]; exact hB.es, by rw [hne i hi]; exact hB.room⟩
      · obtain ⟨u, hu, hv⟩ := hB.cells k v hk
        exact ⟨u, by rw [hne i hi]; exact hu, hv.mono hdom hold⟩
      · rw [hne i hi] at hr
        have hW := hB.rw hr
        refine ⟨by rw [hne i hi]; exact hW.off, by rw [hne i hi]; exact hW.soft, by rw [hne i hi]; exact hW.lim, fun j bj hj hsj hne' => ?_⟩
        simp only [upd] at hj
        by_cases hji : j = id
        · rw [if_pos hji] at hj; cases hj
          have hl0 : (ρ' j).lim = some 0 := by simp [ρ', hji]
          rcases hsj with hs | hs
          · exact absurd hl0 hs.2
          · exact absurd rfl hs
        · rw [if_neg hji] at hj
          rw [hne j hji] at hsj
          rw [hne i hi, hne j hji]
          exact hW.lone j bj hj hsj hne'
  · obtain ⟨b, hb⟩ := h.low i hi
    rw [hold i ⟨b, hb⟩]; exact h.agree i hi
  · simp only [upd] at hb
    by_cases hi : i = id
    · have hl0 : (ρ' i).lim = some 0 := by simp [ρ', hi]
      exact absurd hl0 hr.2
    · rw [if_neg hi] at hb
      rw [hne i hi] at hr ⊢; exact h.own i b hb hr

theorem AW.ghost {P : Program} {n m : Nat} {c : Code} {E : Env} {M : Mem} {Q : Exit → ASt → Prop} (id es : Nat) (hid : M id = none) (h : AW P n m c ⟨E, upd M id ⟨[], true, es⟩⟩ Q) : AW P n m c ⟨E, M⟩ Q :=
  fun C hn hm _ a w hR => let ⟨ρ', hR'⟩ := hR.ghost es hid; h C hn hm ρ' a w hR'

end Go.Proofs.Ytiikffiembcboaa.Sim
