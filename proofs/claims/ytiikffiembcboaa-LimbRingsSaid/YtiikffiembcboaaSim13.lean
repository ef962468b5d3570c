/- Contracts whose blocks may point to one another; scopes; further operations. -/
import Derived.Test.YtiikffiembcboaaSim12
import Derived.ScopeJumps
namespace Go.Proofs.Ytiikffiembcboaa.Sim
open Go

/-! ### names of blocks changed for others -/

def ren1 (h : Rho) : Value → Value
  | .pointer (some ⟨i, o, none⟩) => .pointer (some ⟨(h i).blk, (h i).off + o, none⟩)
  | .slice (some ⟨i, o, none⟩) n 0 => .slice (some ⟨(h i).blk, (h i).off + o, none⟩) n 0
  | v => v

def ok1 (n : Nat) : Value → Bool
  | .pointer (some ⟨i, _, none⟩) => Nat.blt i n
  | .slice (some ⟨i, _, none⟩) _ 0 => Nat.blt i n
  | .slice (some _) 0 1 => true
  | v => flatV v

def ren (h : Rho) : Value → Value
  | .agg xs => .agg (xs.toList.map (ren1 h)).toArray
  | .tuple xs => .tuple (xs.toList.map (ren1 h)).toArray
  | .func f xs ys => .func f (xs.toList.map (ren1 h)).toArray (ys.toList.map (ren1 h)).toArray
  | .iface t x => .iface t (ren1 h x)
  | v => ren1 h v

def okV (n : Nat) : Value → Bool
  | .agg xs => xs.toList.all (ok1 n)
  | .tuple xs => xs.toList.all (ok1 n)
  | .func f xs ys => okFn f && xs.toList.all (ok1 n) && ys.toList.all (ok1 n)
  | .iface _ x => ok1 n x || pureV x
  | v => ok1 n v

theorem flat_ren1 {h : Rho} {v : Value} (hv : flatV v = true) : ren1 h v = v := by
  unfold ren1
  split
  · simp [flatV] at hv
  · simp [flatV] at hv
  · rfl

theorem flat_ok1 {n : Nat} {v : Value} (hv : flatV v = true) : ok1 n v = true := by
  unfold ok1
  split
  · simp [flatV] at hv
  · simp [flatV] at hv
  · rfl
  · exact hv

theorem flat_ren {h : Rho} {v : Value} (hv : flatV v = true) : ren h v = v := by
  unfold ren
  split
  · simp [flatV] at hv
  · simp only [flatV, Array.isEmpty_iff] at hv; subst hv; rfl
  · simp only [flatV, Bool.and_eq_true, Array.isEmpty_iff] at hv
    obtain ⟨⟨_, e1⟩, e2⟩ := hv
    subst e1; subst e2; rfl
  · simp [flatV] at hv
  · exact flat_ren1 hv

theorem flat_okV {n : Nat} {v : Value} (hv : flatV v = true) : okV n v = true := by
  unfold okV
  split
  · simp [flatV] at hv
  · simp only [flatV, Array.isEmpty_iff] at hv; subst hv; rfl
  · simp only [flatV, Bool.and_eq_true, Array.isEmpty_iff] at hv
    obtain ⟨⟨e0, e1⟩, e2⟩ := hv
    subst e1; subst e2; simp [e0]
  · simp [flatV] at hv
  · exact flat_ok1 hv

theorem pure_ren {h : Rho} {v : Value} (hv : pureV v = true) : ren h v = v := by
  have key : ∀ cs : Array Value, cs.toList.all flatV = true → (cs.toList.map (ren1 h)).toArray = cs := by
    intro cs hc
    rw [List.all_eq_true] at hc
    apply Array.ext'
    show cs.toList.map (ren1 h) = cs.toList
    conv => rhs; rw [← List.map_id cs.toList]
    exact List.map_congr_left fun x hx => flat_ren1 (hc x hx)
  unfold pureV at hv
  split at hv
  · simp only [ren, key _ hv]
  · simp only [ren, key _ hv]
  · exact flat_ren hv

theorem pure_okV {n : Nat} {v : Value} (hv : pureV v = true) : okV n v = true := by
  unfold pureV at hv
  split at hv
  · simp only [okV, List.all_eq_true] at hv ⊢; exact fun x hx => flat_ok1 (hv x hx)
  · simp only [okV, List.all_eq_true] at hv ⊢; exact fun x hx => flat_ok1 (hv x hx)
  · exact flat_okV hv

theorem ren1_dead {h : Rho} (p : Addr) : ren1 h (.slice (some p) 0 1) = .slice (some p) 0 1 := by
  obtain ⟨a, o, f⟩ := p
  cases f <;> rfl

theorem ren1_rel {m : Md} (hm : m ≠ .real) {D : Nat → Prop} {h : Rho} {n : Nat} {v : Value} (hv : ok1 n v = true) (hD : ∀ i, i < n → D i) : VR m D h v (ren1 h v) := by
  unfold ok1 at hv
  split at hv
  · exact .ptr _ _ (hD _ (Nat.le_of_ble_eq_true hv))
  · exact .slice _ _ _ 0 (hD _ (Nat.le_of_ble_eq_true hv)) (fun _ => rfl) (fun e => absurd e hm)
  · rw [ren1_dead]; exact .dead _ _ 1 (fun _ => rfl)
  · rw [flat_ren1 hv]; exact .flat _ hv

theorem ren_rel {m : Md} (hm : m ≠ .real) {D : Nat → Prop} {h : Rho} {n : Nat} {v : Value} (hv : okV n v = true) (hD : ∀ i, i < n → D i) : VR m D h v (ren h v) := by
  have key : ∀ (xs : Array Value), xs.toList.all (ok1 n) = true → ∀ (k : Nat) (x y : Value), xs[k]? = some x → ((xs.toList.map (ren1 h)).toArray)[k]? = some y → VR m D h x y := by
    intro xs ha k x y hx hy
    rw [List.all_eq_true] at ha
    rw [List.getElem?_toArray, List.getElem?_map, Array.getElem?_toList, hx] at hy
    cases hy
    exact ren1_rel hm (ha x (by rw [Array.mem_toList_iff]; exact Array.mem_of_getElem? hx)) hD
  unfold okV at hv
  split at hv
  · exact .agg _ _ (by simp) (key _ hv)
  · exact .tuple _ _ (by simp) (key _ hv)
  · simp only [Bool.and_eq_true] at hv
    exact .func _ _ _ _ _ hv.1.1 (by simp) (by simp) (key _ hv.1.2) (key _ hv.2)
  · rename_i t x
    refine .iface _ _ _ ?_
    rw [Bool.or_eq_true] at hv
    by_cases h1 : ok1 n x = true
    · exact ren1_rel hm h1 hD
    · have h2 := hv.resolve_left h1
      have h3 : ren1 h x = x := by
        cases x with
        | pointer a =>
          cases a with
          | none => rfl
          | some a => simp [pureV, flatV] at h2
        | slice a k c =>
          cases a with
          | none => rfl
          | some a => simp [pureV, flatV] at h2
        | _ => rfl
      rw [h3]; exact .pure h2
  · rename_i h1 h2 h3 h4
    have : ren h v = ren1 h v := by
      unfold ren
      split
      · exact absurd rfl (h1 _)
      · exact absurd rfl (h2 _)
      · exact absurd rfl (h3 _ _ _)
      · exact absurd rfl (h4 _ _)
      · rfl
    rw [this]
    exact ren1_rel hm hv hD

def OkL (n : Nat) (l : List Value) : Prop := ∀ x ∈ l, okV n x = true
theorem OkL.flat {n : Nat} {l : List Value} (h : ∀ x ∈ l, flatV x = true) : OkL n l := fun x hx => flat_okV (h x hx)
theorem OkL.all {n : Nat} {l : List Value} (h : l.all (okV n) = true) : OkL n l := fun x hx => List.all_eq_true.1 h x hx
theorem flat_map_ren {h : Rho} {l : List Value} (hl : ∀ x ∈ l, flatV x = true) : l.map (ren h) = l := by
  conv => rhs; rw [← List.map_id l]
  exact List.map_congr_left fun x hx => flat_ren (hl x hx)

inductive RelL (h : Rho) (n : Nat) : List Value → List Value → Prop
  | nil : RelL h n [] []
  | cons {x y : Value} {r s : List Value} (h1 : okV n x = true) (h2 : ren h x = y) (hr : RelL h n r s) : RelL h n (x :: r) (y :: s)
  | pure {x : Value} {r s : List Value} (h1 : pureV x = true) (hr : RelL h n r s) : RelL h n (x :: r) (x :: s)
  | nilS {p : Addr} {r s : List Value} (hr : RelL h n r s) : RelL h n (.slice (some p) 0 0 :: r) (.slice none 0 0 :: s)

theorem RelL.get {h : Rho} {n : Nat} {D : Nat → Prop} (hD : ∀ i, i < n → D i) {l l' : List Value} (hr : RelL h n l l') :
    l.length = l'.length ∧ ∀ (k : Nat) (x y : Value), l[k]? = some x → l'[k]? = some y → VR .arg D h x y := by
  induction hr with
  | nil => exact ⟨rfl, fun k x y hx => by simp at hx⟩
  | cons h1 h2 _ ih =>
    refine ⟨by simp [ih.1], fun k x y hx hy => ?_⟩
    cases k with
    | zero => simp at hx hy; subst hx; subst hy; subst h2; exact ren_rel (by simp) h1 hD
    | succ k => exact ih.2 k x y (by simpa using hx) (by simpa using hy)
  | pure h1 _ ih =>
    refine ⟨by simp [ih.1], fun k x y hx hy => ?_⟩
    cases k with
    | zero => simp at hx hy; subst hx; subst hy; exact .pure h1
    | succ k => exact ih.2 k x y (by simpa using hx) (by simpa using hy)
  | nilS _ ih =>
    refine ⟨by simp [ih.1], fun k x y hx hy => ?_⟩
    cases k with
    | zero => simp at hx hy; subst hx; subst hy; exact .nilS _ (by simp)
    | succ k => exact ih.2 k x y (by simpa using hx) (by simpa using hy)

inductive RelR (h : Rho) (n : Nat) : List Value → List Value → Prop
  | nil : RelR h n [] []
  | cons {x y : Value} {r s : List Value} (h1 : okV n x = true) (h2 : ren h x = y) (hr : RelR h n r s) : RelR h n (x :: r) (y :: s)
  | pure {x : Value} {r s : List Value} (h1 : pureV x = true) (hr : RelR h n r s) : RelR h n (x :: r) (x :: s)

theorem RelR.get {h : Rho} {n : Nat} {D : Nat → Prop} (hD : ∀ i, i < n → D i) {l l' : List Value} (hr : RelR h n l l') :
    l.length = l'.length ∧ ∀ (k : Nat) (x y : Value), l[k]? = some x → l'[k]? = some y → VR .res D h x y := by
  induction hr with
  | nil => exact ⟨rfl, fun k x y hx => by simp at hx⟩
  | cons h1 h2 _ ih =>
    refine ⟨by simp [ih.1], fun k x y hx hy => ?_⟩
    cases k with
    | zero => simp at hx hy; subst hx; subst hy; subst h2; exact ren_rel (by simp) h1 hD
    | succ k => exact ih.2 k x y (by simpa using hx) (by simpa using hy)
  | pure h1 _ ih =>
    refine ⟨by simp [ih.1], fun k x y hx hy => ?_⟩
    cases k with
    | zero => simp at hx hy; subst hx; subst hy; exact .pure h1
    | succ k => exact ih.2 k x y (by simpa using hx) (by simpa using hy)

theorem frN {M : Mem} : ∀ i ∈ ([] : List Nat), M i = none := fun i hi => by simp at hi
theorem frC {M : Mem} {i : Nat} {r : List Nat} (h : M i = none) (hr : ∀ i ∈ r, M i = none) : ∀ j ∈ i :: r, M j = none := fun j hj => by
  rcases List.mem_cons.1 hj with rfl | hj
  · exact h
  · exact hr j hj

/-! ### at a return -/

def OutL (m : Nat) (nids : List Nat) (M : Mem) (n : Nat) : Nat → List Blk → Prop
  | _, [] => True
  | k, b :: r => (∃ b', M (hmap m nids k).blk = some b' ∧ b'.cells.take b.cells.length = b.cells.map (ren (hmap m nids)) ∧ OkL n b.cells ∧
      (b.rw = true ∨ (m ≤ k ∧ b.cells ≠ []) → b'.rw = true) ∧ b'.es = b.es ∧ b.cells.length ≤ b'.cells.length) ∧ OutL m nids M n (k + 1) r

theorem OutL.get {m : Nat} {nids : List Nat} {M : Mem} {n : Nat} : ∀ {l : List Blk} {k0 : Nat}, OutL m nids M n k0 l → ∀ (j : Nat) (b : Blk), l[j]? = some b →
    ∃ b', M (hmap m nids (k0 + j)).blk = some b' ∧ b'.cells.take b.cells.length = b.cells.map (ren (hmap m nids)) ∧ OkL n b.cells ∧
      (b.rw = true ∨ (m ≤ k0 + j ∧ b.cells ≠ []) → b'.rw = true) ∧ b'.es = b.es ∧ b.cells.length ≤ b'.cells.length
  | [], _, _, j, b, hj => by simp at hj
  | c :: r, k0, h, j, b, hj => by
    cases j with
    | zero => simp at hj; subst hj; exact h.1
    | succ j =>
      have := OutL.get h.2 j b (by simpa using hj)
      rw [show k0 + 1 + j = k0 + (j + 1) by omega] at this
      exact this

/-- a block that is given back whole -/
theorem OutL.whole {m : Nat} {nids : List Nat} {M : Mem} {n k : Nat} {c c' : List Value} {rw rw' : Bool} {es : Nat} {r : List Blk} (hM : M (hmap m nids k).blk = some ⟨c', rw', es⟩)
    (hc : c.map (ren (hmap m nids)) = c') (hok : OkL n c) (hrw : rw = true ∨ (m ≤ k ∧ c ≠ []) → rw' = true) (hr : OutL m nids M n (k + 1) r) : OutL m nids M n k (⟨c, rw, es⟩ :: r) :=
  ⟨⟨_, hM, by subst hc; simp [List.take_of_length_le], hok, hrw, rfl, by subst hc; simp⟩, hr⟩

theorem OutL.flat {m : Nat} {nids : List Nat} {M : Mem} {n k : Nat} {c : List Value} {rw rw' : Bool} {es : Nat} {r : List Blk} (hM : M (hmap m nids k).blk = some ⟨c, rw', es⟩)
    (hf : ∀ x ∈ c, flatV x = true) (hrw : rw = true ∨ (m ≤ k ∧ c ≠ []) → rw' = true) (hr : OutL m nids M n (k + 1) r) : OutL m nids M n k (⟨c, rw, es⟩ :: r) :=
  OutL.whole hM (flat_map_ren hf) (OkL.flat hf) hrw hr

theorem RetQ.gc {P : Program} {fn : Func} {e : Exit} {σ : ASt} {m : Nat} {rv : List Value} {Mo : List Blk} (vs : List Value) (nids : List Nat) (rvs : List ResultVar) (he : e = .ret ∨ e = .normal)
    (hr : fn.results = rvs.toArray) (hv : RVs P σ rvs vs) (hl : Mo.length = m + nids.length) (hres : RelL (hmap m nids) Mo.length rv vs) (hb : OutL m nids σ.mem Mo.length 0 Mo)
    (hnd : nids.Nodup) (hfar : (nids.all fun i => Nat.ble m i) = true) : RetQ P fn m (oneV rv) Mo e σ := by
  have hD : ∀ i, i < Mo.length → dom (memL Mo) i := fun i hi => dom_memL.2 hi
  obtain ⟨g1, g2⟩ := hres.get hD
  refine ⟨he, nids, oneV vs, ARes.of hr hv.get.1 hv.get.2 rfl, hl, oneV_rel g1 g2, fun k b hk => ?_, hnd, fun i hi => Nat.le_of_ble_eq_true (List.all_eq_true.1 hfar i hi)⟩
  obtain ⟨b', h1, h2, h3, h4, h5, h6⟩ := hb.get k b hk
  rw [Nat.zero_add] at h1 h4
  refine ⟨b', h1, fun c x hx => ?_, h4, h5, h6⟩
  have hc : c < b.cells.length := (List.getElem?_eq_some_iff.1 hx).1
  refine ⟨ren (hmap m nids) x, ?_, ren_rel (by simp) (h3 x (List.mem_of_getElem? hx)) hD⟩
  have : (b'.cells.take b.cells.length)[c]? = some (ren (hmap m nids) x) := by rw [h2, List.getElem?_map, hx]; rfl
  rwa [List.getElem?_take, if_pos hc] at this

/-! ### at a call -/

inductive Evs (E : Env) : List Operand → List Value → Prop
  | nil : Evs E [] []
  | cons {x : Operand} {v : Value} {r : List Operand} {s : List Value} (h : aev E x = some v) (hr : Evs E r s) : Evs E (x :: r) (v :: s)

theorem Evs.map {E : Env} {xs : List Operand} {vs : List Value} (h : Evs E xs vs) : xs.map (aev E) = vs.map some := by
  induction h with
  | nil => rfl
  | cons h _ ih => simp [h, ih]

inductive FitL (h : Rho) (n : Nat) (M : Mem) : List Blk → List (Nat × Nat) → Prop
  | nil : FitL h n M [] []
  | cons {b0 b : Blk} {p : Nat × Nat} {r : List Blk} {g : List (Nat × Nat)} (h1 : M p.1 = some b) (h2 : (b.cells.drop p.2).take b0.cells.length = b0.cells.map (ren h)) (h3 : OkL n b0.cells)
      (h4 : p.2 + b0.cells.length ≤ b.cells.length) (h5 : b.es = b0.es) (h6 : b0.rw = true → b.rw = true ∧ p.2 = 0) (hr : FitL h n M r g) : FitL h n M (b0 :: r) (p :: g)

theorem FitL.whole {h : Rho} {n : Nat} {M : Mem} {c c' : List Value} {rw rw' : Bool} {es id : Nat} {r : List Blk} {g : List (Nat × Nat)} (h1 : M id = some ⟨c', rw', es⟩) (h2 : c.map (ren h) = c') (h3 : OkL n c)
    (h6 : rw = true → rw' = true) (hr : FitL h n M r g) : FitL h n M (⟨c, rw, es⟩ :: r) ((id, 0) :: g) :=
  .cons h1 (by subst h2; simp [List.take_of_length_le]) h3 (by subst h2; simp) rfl (fun e => ⟨h6 e, rfl⟩) hr

theorem FitL.flat {h : Rho} {n : Nat} {M : Mem} {c : List Value} {rw rw' : Bool} {es id : Nat} {r : List Blk} {g : List (Nat × Nat)} (h1 : M id = some ⟨c, rw', es⟩) (h3 : ∀ x ∈ c, flatV x = true)
    (h6 : rw = true → rw' = true) (hr : FitL h n M r g) : FitL h n M (⟨c, rw, es⟩ :: r) ((id, 0) :: g) :=
  .whole h1 (flat_map_ren h3) (OkL.flat h3) h6 hr

theorem FitL.get {h : Rho} {n : Nat} {M : Mem} {M0 : List Blk} {g : List (Nat × Nat)} (hf : FitL h n M M0 g) : g.length = M0.length ∧ ∀ (k : Nat) (b0 : Blk), M0[k]? = some b0 → ∃ b p, g[k]? = some p ∧ M p.1 = some b ∧
    (b.cells.drop p.2).take b0.cells.length = b0.cells.map (ren h) ∧ OkL n b0.cells ∧ p.2 + b0.cells.length ≤ b.cells.length ∧ b.es = b0.es ∧ (b0.rw = true → b.rw = true ∧ p.2 = 0) := by
  induction hf with
  | nil => exact ⟨rfl, fun k b0 hk => by simp at hk⟩
  | cons h1 h2 h3 h4 h5 h6 _ ih =>
    refine ⟨by simp [ih.1], fun k b0 hk => ?_⟩
    cases k with
    | zero => simp at hk; subst hk; exact ⟨_, _, rfl, h1, h2, h3, h4, h5, h6⟩
    | succ k => simpa using ih.2 k b0 (by simpa using hk)

def loneB : List Blk → List (Nat × Nat) → Bool
  | b :: r, p :: g => (r.zip g).all (fun q => !(b.rw || q.1.rw) || q.2.1 != p.1) && loneB r g
  | _, _ => true

theorem loneB_spec : ∀ {M0 : List Blk} {g : List (Nat × Nat)}, loneB M0 g = true → ∀ (k k' : Nat) (b b' : Blk) (p p' : Nat × Nat), M0[k]? = some b → M0[k']? = some b' → g[k]? = some p → g[k']? = some p' →
    (b.rw = true ∨ b'.rw = true) → k ≠ k' → p'.1 ≠ p.1
  | [], _, _, k, k', b, b', p, p', hb, _, _, _, _, _ => by simp at hb
  | c :: r, [], _, k, k', b, b', p, p', hb, hb', hp, hp', _, _ => by simp at hp
  | c :: r, q :: g, h, k, k', b, b', p, p', hb, hb', hp, hp', hw, hne => by
    simp only [loneB, Bool.and_eq_true, List.all_eq_true] at h
    have zip : ∀ (j : Nat) (x : Blk) (y : Nat × Nat), r[j]? = some x → g[j]? = some y → (x, y) ∈ r.zip g := fun j x y hx hy =>
      List.mem_of_getElem? (i := j) (by rw [List.getElem?_zip_eq_some]; exact ⟨hx, hy⟩)
    cases k with
    | zero =>
      cases k' with
      | zero => exact absurd rfl hne
      | succ j =>
        simp at hb hb' hp hp'
        have := h.1 _ (zip j b' p' hb' hp')
        subst hb; subst hp
        rw [show (c.rw || b'.rw) = true by rcases hw with h | h <;> simp [h]] at this
        simpa using this
    | succ j =>
      cases k' with
      | zero =>
        simp at hb hb' hp hp'
        have := h.1 _ (zip j b p hb hp)
        subst hb'; subst hp'
        rw [show (c.rw || b.rw) = true by rcases hw with h | h <;> simp [h]] at this
        intro e
        simp at this
        exact this e.symm
      | succ j' => exact loneB_spec h.2 j j' b b' p p' (by simpa using hb) (by simpa using hb') (by simpa using hp) (by simpa using hp') hw (by omega)

inductive NewL (h : Rho) (n : Nat) : List Blk → List Blk → List (Nat × Nat) → List Nat → List (Nat × Blk) → Prop
  | nil : NewL h n [] [] [] [] []
  | keep {b0 bo : Blk} {p : Nat × Nat} {r s : List Blk} {g : List (Nat × Nat)} {ns : List Nat} {new : List (Nat × Blk)} (h1 : b0.rw = false) (hr : NewL h n r s g ns new) : NewL h n (b0 :: r) (bo :: s) (p :: g) ns new
  | chg {b0 bo : Blk} {p : Nat × Nat} {cells : List Value} {r s : List Blk} {g : List (Nat × Nat)} {ns : List Nat} {new : List (Nat × Blk)} (h1 : b0.rw = true) (h2 : bo.rw = true) (h3 : bo.cells.map (ren h) = cells) (h4 : OkL n bo.cells)
      (hr : NewL h n r s g ns new) : NewL h n (b0 :: r) (bo :: s) (p :: g) ns ((p.1, ⟨cells, true, bo.es⟩) :: new)
  | gone {b0 bo : Blk} {p : Nat × Nat} {cells : List Value} {r s : List Blk} {g : List (Nat × Nat)} {ns : List Nat} {new : List (Nat × Blk)} (h1 : b0.rw = true) (h3 : bo.cells.map (ren h) = cells) (h4 : OkL n bo.cells)
      (hr : NewL h n r s g ns new) : NewL h n (b0 :: r) (bo :: s) (p :: g) ns ((p.1, ⟨cells, bo.rw, bo.es⟩) :: new)
  | new {bo : Blk} {i : Nat} {cells : List Value} {s : List Blk} {ns : List Nat} {new : List (Nat × Blk)} (h3 : bo.cells.map (ren h) = cells) (h4 : OkL n bo.cells)
      (hr : NewL h n [] s [] ns new) : NewL h n [] (bo :: s) [] (i :: ns) ((i, ⟨cells, bo.rw, bo.es⟩) :: new)

theorem NewL.get {h : Rho} {n : Nat} {M0 Mo : List Blk} {g : List (Nat × Nat)} {ns : List Nat} {new : List (Nat × Blk)} (hn : NewL h n M0 Mo g ns new) :
    Mo.length = M0.length + ns.length ∧ (∀ i ∈ ns, i ∈ keys new) ∧ (∀ (k : Nat) (b : Blk) (p : Nat × Nat), M0[k]? = some b → b.rw = true → g[k]? = some p → p.1 ∈ keys new) ∧
    ∀ q ∈ new, ∃ (k : Nat) (bo : Blk), Mo[k]? = some bo ∧ ((∃ p bi, k < M0.length ∧ g[k]? = some p ∧ q.1 = p.1 ∧ M0[k]? = some bi ∧ bi.rw = true) ∨ (M0.length ≤ k ∧ ns[k - M0.length]? = some q.1)) ∧
      q.2.cells = bo.cells.map (ren h) ∧ OkL n bo.cells ∧ (q.2.rw = true → bo.rw = true) ∧ q.2.es = bo.es := by
  induction hn with
  | nil => exact ⟨rfl, fun i hi => by simp at hi, fun k b p hk => by simp at hk, fun q hq => by simp at hq⟩
  | @keep b0 bo p r s g ns new h1 _ ih =>
    obtain ⟨i1, i2, i3, i4⟩ := ih
    refine ⟨by simp [i1]; omega, i2, fun k b p' hk hb hp => ?_, fun q hq => ?_⟩
    · cases k with
      | zero => simp at hk; subst hk; rw [h1] at hb; cases hb
      | succ k => exact i3 k b p' (by simpa using hk) hb (by simpa using hp)
    · obtain ⟨k, bo', a1, a2, a3⟩ := i4 q hq
      refine ⟨k + 1, bo', by simpa using a1, ?_, a3⟩
      rcases a2 with ⟨p', bi, c1, c2, c3, c4, c5⟩ | ⟨c1, c2⟩
      · exact .inl ⟨p', bi, by simp; omega, by simpa using c2, c3, by simpa using c4, c5⟩
      · exact .inr ⟨by simp; omega, by simpa using c2⟩
  | @chg b0 bo p cells r s g ns new h1 h2 h3 h4 _ ih =>
    obtain ⟨i1, i2, i3, i4⟩ := ih
    refine ⟨by simp [i1]; omega, fun i hi => by simp only [keys, List.map_cons, List.mem_cons]; exact .inr (i2 i hi), fun k b p' hk hb hp => ?_, fun q hq => ?_⟩
    · simp only [keys, List.map_cons, List.mem_cons]
      cases k with
      | zero => simp at hp; subst hp; exact .inl rfl
      | succ k => exact .inr (i3 k b p' (by simpa using hk) hb (by simpa using hp))
    · rcases List.mem_cons.1 hq with rfl | hq
      · exact ⟨0, bo, rfl, .inl ⟨p, b0, by simp, rfl, rfl, rfl, h1⟩, h3.symm, h4, fun _ => h2, rfl⟩
      · obtain ⟨k, bo', a1, a2, a3⟩ := i4 q hq
        refine ⟨k + 1, bo', by simpa using a1, ?_, a3⟩
        rcases a2 with ⟨p', bi, c1, c2, c3, c4, c5⟩ | ⟨c1, c2⟩
        · exact .inl ⟨p', bi, by simp; omega, by simpa using c2, c3, by simpa using c4, c5⟩
        · exact .inr ⟨by simp; omega, by simpa using c2⟩
  | @gone b0 bo p cells r s g ns new h1 h3 h4 _ ih =>
    obtain ⟨i1, i2, i3, i4⟩ := ih
    refine ⟨by simp [i1]; omega, fun i hi => by simp only [keys, List.map_cons, List.mem_cons]; exact .inr (i2 i hi), fun k b p' hk hb hp => ?_, fun q hq => ?_⟩
    · simp only [keys, List.map_cons, List.mem_cons]
      cases k with
      | zero => simp at hp; subst hp; exact .inl rfl
      | succ k => exact .inr (i3 k b p' (by simpa using hk) hb (by simpa using hp))
    · rcases List.mem_cons.1 hq with rfl | hq
      · exact ⟨0, bo, rfl, .inl ⟨p, b0, by simp, rfl, rfl, rfl, h1⟩, h3.symm, h4, fun h => h, rfl⟩
      · obtain ⟨k, bo', a1, a2, a3⟩ := i4 q hq
        refine ⟨k + 1, bo', by simpa using a1, ?_, a3⟩
        rcases a2 with ⟨p', bi, c1, c2, c3, c4, c5⟩ | ⟨c1, c2⟩
        · exact .inl ⟨p', bi, by simp; omega, by simpa using c2, c3, by simpa using c4, c5⟩
        · exact .inr ⟨by simp; omega, by simpa using c2⟩
  | @new bo i cells s ns new h3 h4 _ ih =>
    obtain ⟨i1, i2, i3, i4⟩ := ih
    refine ⟨by simp [i1], fun j hj => ?_, fun k b p' hk => by simp at hk, fun q hq => ?_⟩
    · simp only [keys, List.map_cons, List.mem_cons]
      rcases List.mem_cons.1 hj with rfl | hj
      · exact .inl rfl
      · exact .inr (i2 j hj)
    · rcases List.mem_cons.1 hq with rfl | hq
      · exact ⟨0, bo, rfl, .inr ⟨Nat.zero_le _, rfl⟩, h3.symm, h4, fun h => h, rfl⟩
      · obtain ⟨k, bo', a1, a2, a3⟩ := i4 q hq
        refine ⟨k + 1, bo', by simpa using a1, ?_, a3⟩
        rcases a2 with ⟨p', bi, c1, c2, c3, c4, c5⟩ | ⟨c1, c2⟩
        · simp at c1
        · exact .inr ⟨Nat.zero_le _, by simpa using c2⟩

theorem Fits.of {M : Mem} {M0 Mo : List Blk} {g : List (Nat × Nat)} {nids : List Nat} {new : List (Nat × Blk)} (hf : FitL (gmap g nids) M0.length M M0 g) (hl : loneB M0 g = true)
    (hn : NewL (gmap g nids) Mo.length M0 Mo g nids new) (hfr : ∀ i ∈ nids, M i = none) (hnd : nids.Nodup) : Fits M M0 Mo g nids new := by
  obtain ⟨hgl, hg⟩ := hf.get
  obtain ⟨n1, n2, n3, n4⟩ := hn.get
  have hgp : ∀ k p, g[k]? = some p → gmap g nids k = ⟨p.1, p.2, none, 1⟩ := fun k p hk => by
    have : k < g.length := (List.getElem?_eq_some_iff.1 hk).1
    simp only [gmap, this, if_true, List.getD_eq_getElem?_getD, hk, Option.getD_some]
  have hgn : ∀ j i, nids[j]? = some i → gmap g nids (g.length + j) = ⟨i, 0, none, 1⟩ := fun j i hj => by
    simp only [gmap]
    rw [if_neg (by omega), Nat.add_sub_cancel_left, List.getD_eq_getElem?_getD, hj]; rfl
  refine ⟨hgl, n1, fun k b0 hk => ?_, fun q hq => ?_, fun i hi => ⟨n2 i hi, fun hm => ?_⟩, hnd⟩
  · obtain ⟨b, p, a1, a2, a3, a4, a5, a6, a7⟩ := hg k b0 hk
    rw [hgp k p a1]
    refine ⟨b, a2, fun c x hx => ?_, a6, a5, fun hr => ⟨(a7 hr).1, (a7 hr).2, fun k' b' hk' hne => ?_, n3 k b0 p hk hr a1⟩⟩
    · have hc : c < b0.cells.length := (List.getElem?_eq_some_iff.1 hx).1
      refine ⟨ren (gmap g nids) x, ?_, ren_rel (by simp) (a4 x (List.mem_of_getElem? hx)) fun i hi => dom_memL.2 hi⟩
      have : ((b.cells.drop p.2).take b0.cells.length)[c]? = some (ren (gmap g nids) x) := by rw [a3, List.getElem?_map, hx]; rfl
      rwa [List.getElem?_take, if_pos hc, List.getElem?_drop] at this
    · obtain ⟨_, p', c1, _⟩ := hg k' b' hk'
      rw [hgp k' p' c1]
      exact loneB_spec hl k k' b0 b' p p' hk hk' a1 c1 (.inl hr) (Ne.symm hne)
  · obtain ⟨k, bo, a1, a2, a3, a4, a5, a6⟩ := n4 q hq
    refine ⟨k, bo, a1, ?_, ?_, fun c y hy => ?_, a5, a6, by rw [a3]; simp⟩
    · rcases a2 with ⟨p, bi, c1, c2, c3, c4, c5⟩ | ⟨c1, c2⟩
      · rw [hgp k p c2]; exact c3
      · have := hgn _ _ c2
        rw [hgl, show M0.length + (k - M0.length) = k by omega] at this
        rw [this]
    · rcases a2 with ⟨p, bi, c1, c2, c3, c4, c5⟩ | ⟨c1, c2⟩
      · exact .inr ⟨bi, c4, c5⟩
      · exact .inl c1
    · rw [a3, List.getElem?_map] at hy
      cases hx : bo.cells[c]? with
      | none => rw [hx] at hy; simp at hy
      | some x =>
        rw [hx] at hy
        cases hy
        exact ⟨x, rfl, ren_rel (by simp) (a4 x (List.mem_of_getElem? hx)) fun i hi => dom_memL.2 hi⟩
  · obtain ⟨p, hp, rfl⟩ := List.mem_map.1 hm
    obtain ⟨k, hk⟩ := List.mem_iff_getElem?.1 hp
    have hkl : k < M0.length := by rw [← hgl]; exact (List.getElem?_eq_some_iff.1 hk).1
    obtain ⟨b, p', c1, c2, _⟩ := hg k _ (List.getElem?_eq_getElem hkl)
    rw [hk] at c1; cases c1
    rw [hfr _ hi] at c2; cases c2

section
variable {P : Program} {ops : Array Oper} {n i : Nat} {os : List Oper} {E : Env} {M : Mem} {D : List Eff → Prop} {K : ASt → Prop}
  {d : Option Tmp} {ty : TypeId} {ps : String} {af : Array Edge} {gd : Option (Nat × Bool)} {f : FuncId} {aops : Array Operand} {tys : Array TypeId} {vals : List Value} {fop : Operand}

/-- any call, by any contract -/
theorem AWo.callX {vs rv rv' : List Value} {M0 Mo : List Blk} (S : Ctr P f vs M0 (oneV rv) Mo) (hb : Bodied P f) (g : List (Nat × Nat)) (nids : List Nat) {new : List (Nat × Blk)} {fs cs : Array Value} {allv : List Value} {v : Value} {M' : Mem}
    (hf : aev E fop = some (.func (.func f) fs cs)) (hx : Evs E aops.toList vals) (hall : fs.toList ++ vals ++ cs.toList = allv)
    (hargs : RelL (gmap g nids) M0.length vs allv) (hfit : FitL (gmap g nids) M0.length M M0 g) (hl : loneB M0 g = true) (hnew : NewL (gmap g nids) Mo.length M0 Mo g nids new)
    (hfr : ∀ i ∈ nids, M i = none) (hnd : nids.Nodup) (hrv : RelR (gmap g nids) Mo.length rv rv') (hv : oneV rv' = v) (hM : upds M new = M')
    (hw : wantA ops E ⟨d, .call ⟨.value fop, aops, tys⟩, ty, ps, af, gd⟩ = some true) (hd : dstB n d = true)
    (hr : AWo P ops n (i + 1) os ⟨putE E d v, M'⟩ (fun es => D (⟨g.map (·.1), new⟩ :: es)) K) :
    AWo P ops n i (⟨d, .call ⟨.value fop, aops, tys⟩, ty, ps, af, gd⟩ :: os) ⟨E, M⟩ D K := by
  subst hv; subst hM
  have F := Fits.of hfit hl hnew hfr hnd
  obtain ⟨g1, g2⟩ := hargs.get (D := dom (memL M0)) fun i hi => dom_memL.2 hi
  have hDo : ∀ i, i < Mo.length → dom (memL Mo) i := fun i hi => dom_memL.2 hi
  have hres : VR .res (dom (memL Mo)) (gmap g nids) (oneV rv) (oneV rv') := by
    obtain ⟨r1, r2⟩ := hrv.get hDo
    exact oneV_rel r1 r2
  have hs := FStep.callv (d := d) (ty := ty) (ps := ps) (af := af) (gd := gd) S hb F (tys := tys) hf hx.map (by rw [hall]; exact g1) (by rw [hall]; exact g2) hres
  refine AWo.step hs hw hd (fun p hp hq => ?_) hr
  obtain ⟨_, _, _, n4⟩ := hnew.get
  obtain ⟨k, bo, a1, a2, _⟩ := n4 p hp
  rcases a2 with ⟨q, bi, c1, c2, c3, c4, c5⟩ | ⟨c1, c2⟩
  · refine absurd ?_ hq
    rw [c3]
    exact List.mem_map.2 ⟨q, List.mem_of_getElem? c2, rfl⟩
  · exact hfr _ (List.mem_of_getElem? c2)
end

/-! ### scopes -/

def jumpA (l : Nat) (J : ASt → Prop) (Q : Exit → ASt → Prop) : Exit → ASt → Prop
  | .goto l', σ => l' = l ∧ J σ
  | e, σ => Q e σ

/-- a scope with one label: a relation, with a number that every pass lowers -/
theorem AW.scope {P : Program} {n m : Nat} {σ : ASt} {Q : Exit → ASt → Prop} {c rest : Code} (l : Nat) (I : Nat → ASt → Prop) (hf : findLabel c l = some rest) {k0 : Nat}
    (first : AW P n m c σ (jumpA l (I k0) Q)) (pass : ∀ k σ, I k σ → AW P n m rest σ (jumpA l (fun σ' => ∃ k', k' < k ∧ I k' σ') Q)) : AW P n m (.scope c) σ Q := by
  intro C hn hm ρ a w hR b k cs
  have hg : gotoIn l (.inScope c :: k) = some (.code rest :: .inScope c :: k) := by simp [gotoIn, hf]
  have key : ∀ N kk σ ρ a w, kk < N → I kk σ → Rep C ρ σ a w →
      ∃ e a' w', RQ C Q e a' w' ∧ Arrives P (lone (b.at a (.code rest :: .inScope c :: k)) cs w) b k cs e a' w' := by
    intro N
    induction N with
    | zero => intro kk σ ρ a w h; omega
    | succ N ih =>
      intro kk σ ρ a w hk hI hR
      obtain ⟨e, a₁, w₁, ⟨ρ1, σ1, hR1, hq⟩, harr⟩ := pass kk σ hI C hn hm ρ a w hR b (.inScope c :: k) cs
      cases e with
      | normal => exact ⟨.normal, a₁, w₁, ⟨ρ1, σ1, hR1, hq⟩, Steps.trans harr (.one step_inScope)⟩
      | exit id => exact ⟨.exit id, a₁, w₁, ⟨ρ1, σ1, hR1, hq⟩, fun k' hk => harr k' (by simp [exitTo, hk])⟩
      | goto l' =>
        obtain ⟨rfl, k1, hlt, hI1⟩ := hq
        obtain ⟨e₂, a₂, w₂, hq₂, harr₂⟩ := ih k1 σ1 ρ1 a₁ w₁ (by omega) hI1 hR1
        exact ⟨e₂, a₂, w₂, hq₂, .of_steps (harr _ hg) harr₂⟩
      | ret => exact ⟨_, a₁, w₁, ⟨ρ1, σ1, hR1, hq⟩, harr⟩
      | panic ch => exact ⟨_, a₁, w₁, ⟨ρ1, σ1, hR1, hq⟩, harr⟩
      | outgrown => exact ⟨_, a₁, w₁, ⟨ρ1, σ1, hR1, hq⟩, harr⟩
  obtain ⟨e, a₁, w₁, ⟨ρ1, σ1, hR1, hq⟩, harr⟩ := first C hn hm ρ a w hR b (.inScope c :: k) cs
  cases e with
  | normal => exact ⟨.normal, a₁, w₁, ⟨ρ1, σ1, hR1, hq⟩, .head step_scope (Steps.trans harr (.one step_inScope))⟩
  | exit id => exact ⟨.exit id, a₁, w₁, ⟨ρ1, σ1, hR1, hq⟩, fun k' hk => .head step_scope (harr k' (by simp [exitTo, hk]))⟩
  | goto l' =>
    obtain ⟨rfl, hI1⟩ := hq
    obtain ⟨e₂, a₂, w₂, hq₂, harr₂⟩ := key (k0 + 1) k0 σ1 ρ1 a₁ w₁ (by omega) hI1 hR1
    exact ⟨e₂, a₂, w₂, hq₂, .of_steps (.head step_scope (harr _ hg)) harr₂⟩
  | ret => exact ⟨_, a₁, w₁, ⟨ρ1, σ1, hR1, hq⟩, .of_steps (.one step_scope) harr⟩
  | panic ch => exact ⟨_, a₁, w₁, ⟨ρ1, σ1, hR1, hq⟩, .of_steps (.one step_scope) harr⟩
  | outgrown => exact ⟨_, a₁, w₁, ⟨ρ1, σ1, hR1, hq⟩, .of_steps (.one step_scope) harr⟩

end Go.Proofs.Ytiikffiembcboaa.Sim
