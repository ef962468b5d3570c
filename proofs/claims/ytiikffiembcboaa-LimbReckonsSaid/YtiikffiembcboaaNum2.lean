/- Numbers in words: comparing, adding, taking away, multiplying, one word after the other. -/
import Derived.Test.YtiikffiembcboaaNum
import Derived.Test.YtiikffiembcboaaSim23
namespace Go.Proofs.Ytiikffiembcboaa
open Go Sim

def cmpI (a b : Nat) : Int := if a < b then -1 else if b < a then 1 else 0

section
variable {B : Nat}

theorem getD_ge {l : List Nat} {i : Nat} (h : l.length ≤ i) : l.getD i 0 = 0 := by
  rw [List.getD_eq_getElem?_getD, List.getElem?_eq_none h]; rfl

theorem top_lt {a c r : Nat} (h : a / B ^ (r + 1) = c / B ^ (r + 1)) (hd : a / B ^ r % B < c / B ^ r % B) : a < c := by
  rcases Nat.lt_or_ge a c with h1 | h1
  · exact h1
  · exfalso
    have h2 := Nat.div_le_div_right (c := B ^ r) h1
    rw [Nat.pow_succ, ← Nat.div_div_eq_div_mul, ← Nat.div_div_eq_div_mul] at h
    have e1 := Nat.div_add_mod (a / B ^ r) B
    have e2 := Nat.div_add_mod (c / B ^ r) B
    rw [h] at e1
    omega

theorem top_eq {a c r : Nat} (h : a / B ^ (r + 1) = c / B ^ (r + 1)) (hd : a / B ^ r % B = c / B ^ r % B) : a / B ^ r = c / B ^ r := by
  rw [Nat.pow_succ, ← Nat.div_div_eq_div_mul, ← Nat.div_div_eq_div_mul] at h
  have e1 := Nat.div_add_mod (a / B ^ r) B
  have e2 := Nat.div_add_mod (c / B ^ r) B
  rw [h, hd] at e1
  omega

theorem div_big {l : List Nat} (h : bd B l) (hB : 0 < B) {n : Nat} (hn : l.length ≤ n) : num B l / B ^ n = 0 :=
  Nat.div_eq_of_lt (Nat.lt_of_lt_of_le (num_lt h) (Nat.pow_le_pow_right hB hn))

theorem num_lt_pow {l : List Nat} (h : bd B l) (hB : 0 < B) {n : Nat} (hn : l.length ≤ n) : num B l < B ^ n := Nat.lt_of_lt_of_le (num_lt h) (Nat.pow_le_pow_right hB hn)

/-- one word more of a sum -/
theorem add_step {l : List Nat} {i a b c x y : Nat} (hl : l.length = i) (h : num B l + B ^ i * c = a % B ^ i + b % B ^ i) (hx : x = a / B ^ i % B) (hy : y = b / B ^ i % B) :
    num B (l ++ [(x + y + c) % B]) + B ^ (i + 1) * ((x + y + c) / B) = a % B ^ (i + 1) + b % B ^ (i + 1) := by
  rw [num_append, hl, mod_succ a, mod_succ b, ← hx, ← hy]
  simp only [num, Nat.mul_zero, Nat.add_zero, Nat.pow_succ]
  have e := Nat.mod_add_div (x + y + c) B
  have e2 : B ^ i * ((x + y + c) % B) + B ^ i * B * ((x + y + c) / B) = B ^ i * (x + y + c) := by rw [Nat.mul_assoc, ← Nat.mul_add, e]
  have e3 : B ^ i * (x + y + c) = B ^ i * x + B ^ i * y + B ^ i * c := by rw [Nat.mul_add, Nat.mul_add]
  omega

theorem add_end {l : List Nat} {n a b c : Nat} (hB : 2 ≤ B) (h : num B l + B ^ (n + 1) * c = a % B ^ (n + 1) + b % B ^ (n + 1)) (ha : a < B ^ n) (hb : b < B ^ n) : num B l = a + b := by
  have h1 : B ^ n * 2 ≤ B ^ (n + 1) := by rw [Nat.pow_succ]; exact Nat.mul_le_mul_left _ hB
  rw [Nat.mod_eq_of_lt (by omega), Nat.mod_eq_of_lt (by omega)] at h
  have hc : c = 0 := by
    rcases Nat.eq_zero_or_pos c with h0 | h0
    · exact h0
    · have := Nat.mul_le_mul_left (B ^ (n + 1)) h0
      omega
  rw [hc] at h
  omega

/-- one word more of a difference -/
theorem sub_step {l : List Nat} {i a b c x y : Nat} (hl : l.length = i) (h : num B l + b % B ^ i = a % B ^ i + B ^ i * c) (hx : x = a / B ^ i % B) (hy : y = b / B ^ i % B) (hyB : y < B) (hc : c ≤ 1) :
    num B (l ++ [(B + x - y - c) % B]) + b % B ^ (i + 1) = a % B ^ (i + 1) + B ^ (i + 1) * (1 - (B + x - y - c) / B) := by
  have hxB : x < B := by rw [hx]; exact Nat.mod_lt _ (by omega)
  rw [num_append, hl, mod_succ a, mod_succ b, ← hx, ← hy]
  simp only [num, Nat.mul_zero, Nat.add_zero, Nat.pow_succ]
  rcases Nat.lt_or_ge (B + x - y - c) B with h1 | h1
  · rw [Nat.mod_eq_of_lt h1, Nat.div_eq_of_lt h1]
    have e : B ^ i * (B + x - y - c) + B ^ i * y + B ^ i * c = B ^ i * B + B ^ i * x := by
      rw [← Nat.mul_add, ← Nat.mul_add, ← Nat.mul_add]; congr 1; omega
    simp only [Nat.sub_zero, Nat.mul_one]
    omega
  · have e1 : (B + x - y - c) % B = x - y - c := by rw [Nat.mod_eq_sub_mod h1, Nat.mod_eq_of_lt (by omega)]; omega
    have e2 : (B + x - y - c) / B = 1 := by
      rw [Nat.div_eq_of_lt_le (k := 1)] <;> omega
    rw [e1, e2]
    have e : B ^ i * (x - y - c) + B ^ i * y + B ^ i * c = B ^ i * x := by
      rw [← Nat.mul_add, ← Nat.mul_add]; congr 1; omega
    simp only [Nat.sub_self, Nat.mul_zero, Nat.add_zero]
    omega

theorem sub_end {l : List Nat} {n a b c : Nat} (hl : bd B l) (hln : l.length = n) (h : num B l + b % B ^ n = a % B ^ n + B ^ n * c) (ha : a < B ^ n) (hba : b ≤ a) : num B l = a - b := by
  have h1 := num_lt hl
  rw [hln] at h1
  rw [Nat.mod_eq_of_lt ha, Nat.mod_eq_of_lt (by omega)] at h
  have hc : c = 0 := by
    rcases Nat.eq_zero_or_pos c with h0 | h0
    · exact h0
    · have := Nat.mul_le_mul_left (B ^ n) h0
      omega
  rw [hc] at h
  omega

theorem bd_snoc {l : List Nat} {x : Nat} (h : bd B l) (hx : x < B) : bd B (l ++ [x]) := bd_append h fun y hy => by simp at hy; rw [hy]; exact hx

theorem snoc_len {l : List Nat} {x i : Nat} (h : l.length = i) : (l ++ [x]).length = i + 1 := by simp [h]

theorem map_snoc (k : IntKind) (l : List Nat) (x : Nat) : l.map (vi k) ++ [vi k x] = (l ++ [x]).map (vi k) := by simp
theorem map_snoc2 (k : IntKind) (l : List Nat) (x y : Nat) : l.map (vi k) ++ [vi k x, vi k y] = (l ++ [x, y]).map (vi k) := by simp

/-- what is told of a block whose first cells are a number's digits -/
theorem dpart (hB : 2 ≤ B) {k : IntKind} {l : List Nat} {v : Nat} (h : bd B l) (hv : num B l = v) : (l.map (vi k)).take ((D B v).map (vi k)).length = (D B v).map (vi k) := by
  subst hv
  rw [List.length_map, ← List.map_take, ← D_take hB h]

theorem dpart_len (hB : 2 ≤ B) {k : IntKind} {l : List Nat} {v : Nat} (h : bd B l) (hv : num B l = v) : ((D B v).map (vi k)).length ≤ (l.map (vi k)).length := by
  subst hv
  rw [List.length_map, List.length_map]
  exact (D_len_le hB _ _).2 (num_lt h)

theorem D_len_num (hB : 2 ≤ B) {l : List Nat} {v : Nat} (h : bd B l) (hv : v ≤ num B l) : (D B v).length ≤ l.length := (D_len_le hB _ _).2 (Nat.lt_of_le_of_lt hv (num_lt h))

theorem drop_zero_step {l : List Nat} {n : Nat} (h : num B (l.drop n) = 0) (hn : 0 < n) (hln : n ≤ l.length) (h0 : l.getD (n - 1) 0 = 0) : num B (l.drop (n - 1)) = 0 := by
  rw [List.drop_eq_getElem_cons (i := n - 1) (by omega)]
  have e : l[n - 1] = 0 := by
    rw [List.getD_eq_getElem?_getD, List.getElem?_eq_getElem (by omega)] at h0; exact h0
  simp only [num, e, Nat.zero_add]
  rw [show n - 1 + 1 = n by omega, h, Nat.mul_zero]

end
end Go.Proofs.Ytiikffiembcboaa
