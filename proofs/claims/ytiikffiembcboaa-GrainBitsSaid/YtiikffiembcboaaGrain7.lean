/- The document's register and the program's are alike: plain Lean. -/
import Derived.Test.YtiikffiembcboaaGrain6
import Derived.Test.YtiikffiembcboaaGrain4
namespace Go.Proofs.Ytiikffiembcboaa
open Go Sim

def refl (s : GS) : List Bool := (List.range 80).map (gw s)

theorem refl_len (s : GS) : (refl s).length = 80 := by simp [refl]

theorem refl_getD (s : GS) {j : Nat} (hj : j < 80) : (refl s).getD j false = gw s j := by
  rw [List.getD_eq_getElem?_getD, refl, List.getElem?_map, List.getElem?_range hj]; rfl

theorem ext80 {l r : List Bool} (hl : l.length = 80) (hr : r.length = 80) (h : ∀ j, j < 80 → l.getD j false = r.getD j false) : l = r := by
  apply List.ext_getElem?
  intro j
  rcases Nat.lt_or_ge j 80 with hj | hj
  · have := h j hj
    rw [List.getD_eq_getElem?_getD, List.getD_eq_getElem?_getD, List.getElem?_eq_getElem (by omega), List.getElem?_eq_getElem (by omega)] at this
    rw [List.getElem?_eq_getElem (by omega), List.getElem?_eq_getElem (by omega)]
    simpa using this
  · rw [List.getElem?_eq_none (by omega), List.getElem?_eq_none (by omega)]

theorem refl_zero {l : List Bool} (h : l.length = 80) : refl (l, 0) = l := by
  refine ext80 (refl_len _) h fun j hj => ?_
  rw [refl_getD _ hj]
  simp only [gw, Nat.zero_add, Nat.mod_eq_of_lt hj]

theorem rcnt_refl {s : GS} (h : GV s) : (rcnt (refl s) 6 % 2 == 1) = gbit s := by
  rw [gbit_w h]
  have e : ∀ j, j < 80 → (refl s).getD j false = gw s j := fun j hj => refl_getD s hj
  simp only [rcnt, rtaps, List.getD_cons_zero, List.getD_cons_succ, e 62 (by decide), e 51 (by decide), e 38 (by decide), e 23 (by decide), e 13 (by decide), e 0 (by decide)]
  generalize gw s 0 = a
  generalize gw s 13 = b
  generalize gw s 23 = c
  generalize gw s 38 = d
  generalize gw s 51 = e
  generalize gw s 62 = f
  cases a <;> cases b <;> cases c <;> cases d <;> cases e <;> cases f <;> rfl

theorem rsh_getD' (l : List Bool) : ∀ (i j : Nat), i ≤ j → (rsh l i).getD j false = l.getD j false := by
  intro i
  induction i with
  | zero => intro j _; rfl
  | succ i ih =>
    intro j hj
    simp only [rsh]
    rw [List.getD_eq_getElem?_getD, List.getElem?_set_ne (by omega), ← List.getD_eq_getElem?_getD, ih j (by omega)]

theorem rsh_getD (l : List Bool) (hl : l.length = 80) (i : Nat) (hi : i ≤ 79) (j : Nat) : (rsh l i).getD j false = if j < i then l.getD (j + 1) false else l.getD j false := by
  induction i with
  | zero => simp [rsh]
  | succ i ih =>
    have ih := ih (by omega)
    have hlen : (rsh l i).length = 80 := (rsh_len l i).trans hl
    simp only [rsh]
    rw [List.getD_eq_getElem?_getD]
    by_cases hji : i = j
    · subst hji
      rw [List.getElem?_set_self (by omega), Option.getD_some]
      have h2 : (rsh l i).getD (i + 1) false = l.getD (i + 1) false := by
        have := rsh_getD' l i (i + 1) (by omega)
        exact this
      rw [h2, if_pos (by omega)]
    · rw [List.getElem?_set_ne hji, ← List.getD_eq_getElem?_getD, ih]
      by_cases h : j < i
      · rw [if_pos h, if_pos (by omega)]
      · rw [if_neg h, if_neg (by omega)]
theorem rturn_refl {s : GS} (h : GV s) : (rsh (refl s) 79).set 79 (rcnt (refl s) 6 % 2 == 1) = refl (gst s) := by
  have hl := refl_len s
  refine ext80 (by simp [rsh_len, hl]) (refl_len _) fun j hj => ?_
  rw [refl_getD _ hj, List.getD_eq_getElem?_getD]
  by_cases h79 : 79 = j
  · subst h79
    rw [List.getElem?_set_self (by rw [rsh_len, hl]; decide), Option.getD_some, gw_gst79 h, rcnt_refl h]
  · rw [List.getElem?_set_ne h79, ← List.getD_eq_getElem?_getD, rsh_getD _ hl 79 (Nat.le_refl _), if_pos (by omega), refl_getD _ (by omega), gw_gst h (by omega)]

theorem turnr_ctr {s : GS} (h : GV s) : GC Try.prog 113 [.agg ((refl s).map Value.bool).toArray] [] [.agg ((refl (gst s)).map Value.bool).toArray, .bool (gbit s)] [] := by
  have := rturn_ctr (refl_len s)
  rw [rturn_refl h, rcnt_refl h] at this
  exact this

/-! ### the begin -/

def layL (n bits : Nat) : List Bool := (List.range bits).map fun i => n / 2 ^ (bits - 1 - i) % 2 == 1

theorem layL_len (n bits : Nat) : (layL n bits).length = bits := by simp [layL]

theorem glay_lay (n bits : Nat) (x : List Bool) (k i : Nat) (hi : i ≤ bits) (hk : bits ≤ k) :
    glay n bits (x ++ List.replicate k false) x.length i = x ++ ((layL n bits).take i ++ List.replicate (k - i) false) := by
  induction i with
  | zero => simp [glay]
  | succ i ih =>
    rw [glay_succ, ih (by omega), List.set_append_right _ _ (by omega), Nat.add_sub_cancel_left, List.set_append_right _ _ (by simp [layL_len]; omega)]
    congr 1
    rw [List.length_take, layL_len, Nat.min_eq_left (by omega), Nat.sub_self]
    obtain ⟨q, hq⟩ : ∃ q, k - i = q + 1 := ⟨k - i - 1, by omega⟩
    rw [hq, List.replicate_succ, List.set_cons_zero, show k - (i + 1) = q by omega, List.take_succ_eq_append_getElem (by rw [layL_len]; omega), List.append_assoc]
    congr 2
    simp only [layL, List.getElem_map, List.getElem_range, Nat.and_one_is_mod]

theorem glay_lay' (n bits : Nat) (x : List Bool) (a k : Nat) (ha : x.length = a) (hk : bits ≤ k) :
    glay n bits (x ++ List.replicate k false) a bits = (x ++ layL n bits) ++ List.replicate (k - bits) false := by
  rw [← ha, glay_lay n bits x k bits (Nat.le_refl _) hk, List.take_of_length_le (by rw [layL_len]; exact Nat.le_refl _), List.append_assoc]

def iniL (b w f p : Nat) : List Bool := ((((((([] ++ layL 1 2) ++ layL 0 4) ++ layL b 12) ++ layL w 12) ++ layL f 10) ++ layL p 10) ++ layL 1073741823 30)

theorem iniL_len (b w f p : Nat) : (iniL b w f p).length = 80 := by simp [iniL, layL_len]

theorem gini_lay (b w f p : Nat) : (gini b w f p).1 = iniL b w f p := by
  simp only [gini, gini6, gini5, gini4, gini3, gini2, gini1, gini0]
  have e := glay_lay' 1 2 [] 0 80 rfl (by decide)
  rw [List.nil_append] at e
  rw [e, glay_lay' _ _ _ 2 _ (by simp [layL_len]) (by decide), glay_lay' _ _ _ 6 _ (by simp [layL_len]) (by decide), glay_lay' _ _ _ 18 _ (by simp [layL_len]) (by decide),
    glay_lay' _ _ _ 30 _ (by simp [layL_len]) (by decide), glay_lay' _ _ _ 40 _ (by simp [layL_len]) (by decide), glay_lay' _ _ _ 50 _ (by simp [layL_len]) (by decide)]
  simp [iniL]

theorem refl_gini (b w f p : Nat) : refl (gini b w f p) = iniL b w f p := by
  have : gini b w f p = (iniL b w f p, 0) := by
    rw [← gini_lay]; rfl
  rw [this, refl_zero (iniL_len b w f p)]

end Go.Proofs.Ytiikffiembcboaa
