/- Numbers in words. -/
import Derived.Test.YtiikffiembcboaaSim19
namespace Go.Proofs.Ytiikffiembcboaa
open Go Sim

def num (B : Nat) : List Nat → Nat
  | [] => 0
  | x :: r => x + B * num B r

def digs (B : Nat) : Nat → Nat → List Nat
  | 0, _ => []
  | n + 1, v => v % B :: digs B n (v / B)

def bd (B : Nat) (l : List Nat) : Prop := ∀ x ∈ l, x < B

section
variable {B : Nat}

theorem digs_len (n v : Nat) : (digs B n v).length = n := by
  induction n generalizing v with
  | zero => rfl
  | succ n ih => simp [digs, ih]

theorem digs_bd (hB : 0 < B) (n v : Nat) : bd B (digs B n v) := by
  induction n generalizing v with
  | zero => intro x hx; simp [digs] at hx
  | succ n ih =>
    intro x hx
    simp only [digs, List.mem_cons] at hx
    rcases hx with rfl | hx
    · exact Nat.mod_lt _ hB
    · exact ih _ x hx

theorem num_digs (n v : Nat) : num B (digs B n v) = v % B ^ n := by
  induction n generalizing v with
  | zero => simp [digs, num, Nat.mod_one]
  | succ n ih =>
    simp only [digs, num, ih]
    rw [Nat.pow_succ, Nat.mul_comm (B ^ n) B, Nat.mod_mul]

theorem num_digs_lt {n v : Nat} (h : v < B ^ n) : num B (digs B n v) = v := by rw [num_digs, Nat.mod_eq_of_lt h]

theorem bd_cons {x : Nat} {r : List Nat} : bd B (x :: r) ↔ x < B ∧ bd B r := by simp [bd]
theorem bd_nil : bd B [] := fun x hx => by simp at hx

theorem num_lt {l : List Nat} (h : bd B l) : num B l < B ^ l.length := by
  induction l with
  | nil => simp [num]
  | cons x r ih =>
    obtain ⟨h1, h2⟩ := bd_cons.1 h
    have := ih h2
    simp only [num, List.length_cons, Nat.pow_succ]
    have h3 : B * (num B r + 1) ≤ B * B ^ r.length := Nat.mul_le_mul_left _ this
    rw [Nat.mul_add, Nat.mul_one] at h3
    rw [Nat.mul_comm (B ^ r.length) B]
    omega

theorem digs_num {l : List Nat} (h : bd B l) : digs B l.length (num B l) = l := by
  induction l with
  | nil => rfl
  | cons x r ih =>
    obtain ⟨h1, h2⟩ := bd_cons.1 h
    simp only [List.length_cons, digs, num]
    rw [Nat.add_mul_mod_self_left, Nat.mod_eq_of_lt h1, Nat.add_mul_div_left _ _ (by omega), Nat.div_eq_of_lt h1, Nat.zero_add, ih h2]

/-- lists of the same length with the same number -/
theorem num_inj {l r : List Nat} (hl : bd B l) (hr : bd B r) (hlen : l.length = r.length) (h : num B l = num B r) : l = r := by
  rw [← digs_num hl, ← digs_num hr, hlen, h]

theorem num_getD {l : List Nat} (h : bd B l) (hB : 0 < B) (i : Nat) : l.getD i 0 = num B l / B ^ i % B := by
  induction l generalizing i with
  | nil => simp [num]
  | cons x r ih =>
    obtain ⟨h1, h2⟩ := bd_cons.1 h
    cases i with
    | zero => simp [num, Nat.mod_eq_of_lt h1]
    | succ i =>
      simp only [List.getD_cons_succ, ih h2, num]
      rw [Nat.pow_succ, Nat.mul_comm (B ^ i) B, ← Nat.div_div_eq_div_mul, Nat.add_mul_div_left _ _ hB, Nat.div_eq_of_lt h1, Nat.zero_add]

theorem digs_getD (hB : 0 < B) {n v i : Nat} (hi : i < n) : (digs B n v).getD i 0 = v / B ^ i % B := by
  induction n generalizing v i with
  | zero => omega
  | succ n ih =>
    cases i with
    | zero => simp [digs]
    | succ i =>
      simp only [digs, List.getD_cons_succ]
      rw [ih (by omega), Nat.div_div_eq_div_mul, Nat.pow_succ, Nat.mul_comm (B ^ i) B]

theorem num_append (l r : List Nat) : num B (l ++ r) = num B l + B ^ l.length * num B r := by
  induction l with
  | nil => simp [num]
  | cons x l ih =>
    simp only [List.cons_append, num, ih, List.length_cons, Nat.pow_succ, Nat.mul_add]
    rw [Nat.mul_comm (B ^ l.length) B, Nat.mul_assoc]
    omega

theorem num_replicate (n : Nat) : num B (List.replicate n 0) = 0 := by
  induction n with
  | zero => rfl
  | succ n ih => simp [List.replicate_succ, num, ih]

/-- one word is changed for another one -/
theorem num_set {l : List Nat} {k v : Nat} (hk : k < l.length) : num B (l.set k v) + l.getD k 0 * B ^ k = num B l + v * B ^ k := by
  induction l generalizing k with
  | nil => simp at hk
  | cons x l ih =>
    cases k with
    | zero => simp only [List.set_cons_zero, num, List.getD_cons_zero, Nat.pow_zero, Nat.mul_one]; omega
    | succ k =>
      have := ih (k := k) (by simpa using hk)
      simp only [List.set_cons_succ, num, List.getD_cons_succ, Nat.pow_succ]
      have e : ∀ z, z * (B ^ k * B) = B * (z * B ^ k) := fun z => by rw [← Nat.mul_assoc, Nat.mul_comm]
      rw [e, e]
      have h2 : B * (num B (l.set k v) + l.getD k 0 * B ^ k) = B * (num B l + v * B ^ k) := by rw [this]
      rw [Nat.mul_add, Nat.mul_add] at h2
      omega

theorem bd_set {l : List Nat} {k v : Nat} (h : bd B l) (hv : v < B) : bd B (l.set k v) := by
  intro x hx
  rcases List.mem_or_eq_of_mem_set hx with h1 | h1
  · exact h x h1
  · rw [h1]; exact hv

theorem bd_replicate (hB : 0 < B) (n : Nat) : bd B (List.replicate n 0) := by
  intro x hx; rw [List.eq_of_mem_replicate hx]; exact hB

theorem bd_append {l r : List Nat} (h : bd B l) (h' : bd B r) : bd B (l ++ r) := by
  intro x hx; rcases List.mem_append.1 hx with hx | hx
  · exact h x hx
  · exact h' x hx

theorem bd_getD {l : List Nat} (h : bd B l) (hB : 0 < B) (i : Nat) : l.getD i 0 < B := by
  rw [num_getD h hB]; exact Nat.mod_lt _ hB

theorem bd_take {l : List Nat} (h : bd B l) (i : Nat) : bd B (l.take i) := fun x hx => h x (List.mem_of_mem_take hx)
theorem bd_drop {l : List Nat} (h : bd B l) (i : Nat) : bd B (l.drop i) := fun x hx => h x (List.mem_of_mem_drop hx)

theorem num_take {l : List Nat} (h : bd B l) (i : Nat) : num B (l.take i) = num B l % B ^ i := by
  induction l generalizing i with
  | nil => simp [num]
  | cons x l ih =>
    obtain ⟨h1, h2⟩ := bd_cons.1 h
    cases i with
    | zero => simp [num, Nat.mod_one]
    | succ i =>
      simp only [List.take_succ_cons, num, ih h2]
      rw [Nat.pow_succ, Nat.mul_comm (B ^ i) B, Nat.mod_mul, Nat.add_mul_mod_self_left, Nat.mod_eq_of_lt h1, Nat.add_mul_div_left _ _ (by omega), Nat.div_eq_of_lt h1, Nat.zero_add]

theorem num_take_drop (l : List Nat) (i : Nat) (hi : i ≤ l.length) : num B l = num B (l.take i) + B ^ i * num B (l.drop i) := by
  conv => lhs; rw [← List.take_append_drop i l, num_append]
  rw [List.length_take, Nat.min_eq_left hi]

theorem num_take_succ (l : List Nat) (i : Nat) : num B (l.take (i + 1)) = num B (l.take i) + l.getD i 0 * B ^ i := by
  induction l generalizing i with
  | nil => simp [num]
  | cons x l ih =>
    cases i with
    | zero => simp [num]
    | succ i =>
      simp only [List.take_succ_cons, num, ih, List.getD_cons_succ, Nat.mul_add, Nat.pow_succ]
      rw [Nat.add_assoc]; congr 2
      rw [← Nat.mul_assoc, Nat.mul_comm B, Nat.mul_right_comm, Nat.mul_assoc]

/-- a word more of the rest -/
theorem mod_succ (v i : Nat) : v % B ^ (i + 1) = v % B ^ i + B ^ i * (v / B ^ i % B) := Nat.mod_pow_succ

/-! ### lists without zeros at the end -/

def dgo (B : Nat) : Nat → Nat → List Nat
  | 0, _ => []
  | f + 1, v => if v = 0 then [] else v % B :: dgo B f (v / B)

/-- a number's digits, the lowest first, no zero at the end -/
def D (B v : Nat) : List Nat := dgo B v v

theorem dgo_fuel (hB : 2 ≤ B) : ∀ (f g v : Nat), v ≤ f → v ≤ g → dgo B f v = dgo B g v := by
  intro f
  induction f with
  | zero =>
    intro g v h1 h2
    obtain rfl : v = 0 := by omega
    cases g <;> simp [dgo]
  | succ f ih =>
    intro g v h1 h2
    cases g with
    | zero =>
      obtain rfl : v = 0 := by omega
      simp [dgo]
    | succ g =>
      simp only [dgo]
      split
      · rfl
      · have : v / B < v := Nat.div_lt_self (by omega) (by omega)
        rw [ih g (v / B) (by omega) (by omega)]

theorem D_zero : D B 0 = [] := rfl
theorem D_pos (hB : 2 ≤ B) {v : Nat} (hv : v ≠ 0) : D B v = v % B :: D B (v / B) := by
  obtain ⟨w, rfl⟩ : ∃ w, v = w + 1 := ⟨v - 1, by omega⟩
  have h1 : (w + 1) / B < w + 1 := Nat.div_lt_self (by omega) (by omega)
  simp only [D, dgo, Nat.add_one_ne_zero, if_false]
  rw [dgo_fuel hB w ((w + 1) / B) _ (by omega) (Nat.le_refl _)]

theorem D_ind (hB : 2 ≤ B) {p : Nat → Prop} (h0 : p 0) (h1 : ∀ v, v ≠ 0 → p (v / B) → p v) (v : Nat) : p v := by
  induction v using Nat.strongRecOn with
  | _ v ih =>
    by_cases hv : v = 0
    · rw [hv]; exact h0
    · exact h1 v hv (ih _ (Nat.div_lt_self (by omega) (by omega)))

theorem num_D (hB : 2 ≤ B) (v : Nat) : num B (D B v) = v := by
  induction v using D_ind hB with
  | h0 => rfl
  | h1 v hv ih => rw [D_pos hB hv, num, ih]; exact Nat.mod_add_div v B

theorem bd_D (hB : 2 ≤ B) (v : Nat) : bd B (D B v) := by
  induction v using D_ind hB with
  | h0 => exact bd_nil
  | h1 v hv ih => rw [D_pos hB hv]; exact bd_cons.2 ⟨Nat.mod_lt _ (by omega), ih⟩

theorem D_len_le (hB : 2 ≤ B) (v n : Nat) : (D B v).length ≤ n ↔ v < B ^ n := by
  induction v using D_ind hB generalizing n with
  | h0 => simp [D_zero, Nat.pow_pos (show 0 < B by omega)]
  | h1 v hv ih =>
    rw [D_pos hB hv]
    cases n with
    | zero => simp; omega
    | succ n =>
      simp only [List.length_cons, Nat.add_le_add_iff_right, ih]
      rw [Nat.div_lt_iff_lt_mul (by omega), Nat.pow_succ]

theorem D_digs (hB : 2 ≤ B) (v : Nat) : D B v = digs B (D B v).length v := by
  have h := digs_num (bd_D hB v)
  rw [num_D hB] at h
  exact h.symm

theorem D_getD (hB : 2 ≤ B) (v i : Nat) : (D B v).getD i 0 = v / B ^ i % B := by
  rw [num_getD (bd_D hB v) (by omega), num_D hB]

/-- a number's digits are the first ones of any list of digits that has this number -/
theorem D_take (hB : 2 ≤ B) {l : List Nat} (h : bd B l) : D B (num B l) = l.take (D B (num B l)).length := by
  refine num_inj (bd_D hB _) (bd_take h _) ?_ ?_
  · rw [List.length_take, Nat.min_eq_left ((D_len_le hB _ _).2 (num_lt h))]
  · rw [num_D hB, num_take h, Nat.mod_eq_of_lt ((D_len_le hB _ _).1 (Nat.le_refl _))]

/-- how trimming stops -/
theorem D_stop (hB : 2 ≤ B) {l : List Nat} (h : bd B l) {n : Nat} (hn : n ≤ l.length) (h0 : num B (l.drop n) = 0) (h1 : n = 0 ∨ l.getD (n - 1) 0 ≠ 0) : (D B (num B l)).length = n := by
  have e : num B l = num B (l.take n) := by rw [num_take_drop l n hn, h0]; simp
  have hl : num B l < B ^ n := by
    rw [e]; have := num_lt (bd_take h n); rwa [List.length_take, Nat.min_eq_left hn] at this
  refine Nat.le_antisymm ((D_len_le hB _ _).2 hl) ?_
  rcases Nat.lt_or_ge (D B (num B l)).length n with hlt | hge
  · exfalso
    have h2 := (D_len_le hB _ _).1 (Nat.le_refl (D B (num B l)).length)
    rcases h1 with h1 | h1
    · omega
    · apply h1
      rw [num_getD h (by omega), Nat.div_eq_of_lt, Nat.zero_mod]
      exact Nat.lt_of_lt_of_le h2 (Nat.pow_le_pow_right (by omega) (by omega))
  · exact hge

end
end Go.Proofs.Ytiikffiembcboaa
