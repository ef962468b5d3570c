/- Numbers in words: products; bytes. -/
import Derived.Test.YtiikffiembcboaaNum2
namespace Go.Proofs.Ytiikffiembcboaa
open Go Sim
section
variable {B : Nat}

theorem digs_snoc (n v : Nat) : digs B (n + 1) v = digs B n v ++ [v / B ^ n % B] := by
  induction n generalizing v with
  | zero => simp [digs]
  | succ n ih =>
    rw [digs, ih, digs, List.cons_append, Nat.div_div_eq_div_mul, Nat.pow_succ, Nat.mul_comm (B ^ n) B]

theorem mul_step {l b : List Nat} {i j c p x s : Nat} (hk : i + j < l.length) (h : num B l + c * B ^ (i + j) = p + x * num B (b.take j) * B ^ i) (hs : s = l.getD (i + j) 0 + x * b.getD j 0 + c) :
    num B (l.set (i + j) (s % B)) + s / B * B ^ (i + (j + 1)) = p + x * num B (b.take (j + 1)) * B ^ i := by
  have h1 := num_set (B := B) (l := l) (k := i + j) (v := s % B) hk
  have h2 := Nat.mod_add_div s B
  rw [num_take_succ, ← Nat.add_assoc, Nat.pow_succ]
  rw [Nat.pow_add] at h h1 ⊢
  generalize B ^ i = u at *
  generalize B ^ j = v at *
  generalize num B (l.set (i + j) (s % B)) = z at *
  generalize num B (b.take j) = q at *
  generalize s % B = r at *
  generalize s / B = t at *
  generalize l.getD (i + j) 0 = e at *
  generalize b.getD j 0 = y at *
  have h3 : r * (u * v) + t * (u * v * B) = s * (u * v) := by rw [← h2]; grind
  subst hs
  grind

theorem mul_out {l a : List Nat} {i n c q : Nat} (hk : i + n < l.length) (h : num B l + c * B ^ (i + n) = num B (a.take i) * q + a.getD i 0 * q * B ^ i) (h0 : l.getD (i + n) 0 = 0) :
    num B (l.set (i + n) c) = num B (a.take (i + 1)) * q := by
  have h1 := num_set (B := B) (l := l) (k := i + n) (v := c) hk
  rw [h0, Nat.zero_mul, Nat.add_zero] at h1
  rw [h1, h, num_take_succ, Nat.add_mul]
  congr 1
  rw [Nat.mul_assoc, Nat.mul_comm q, Nat.mul_assoc]

theorem getD_set {l : List Nat} {k j v : Nat} (h : k ≠ j) : (l.set k v).getD j 0 = l.getD j 0 := by
  rw [List.getD_eq_getElem?_getD, List.getElem?_set_ne h, ← List.getD_eq_getElem?_getD]

theorem getD_set_self {l : List Nat} {k v : Nat} (h : k < l.length) : (l.set k v).getD k 0 = v := by
  rw [List.getD_eq_getElem?_getD, List.getElem?_set_self h]; rfl

theorem take_all {l : List Nat} : l.take l.length = l := List.take_of_length_le (Nat.le_refl _)

theorem word_two (v i : Nat) (hB : 0 < B) : v / B ^ (2 * i) % B + v / B ^ (2 * i + 1) % B * B = v / (B * B) ^ i % (B * B) := by
  have e : (B * B) ^ i = B ^ (2 * i) := by rw [← Nat.pow_two, ← Nat.pow_mul]
  rw [e, Nat.pow_succ, ← Nat.div_div_eq_div_mul, Nat.mod_mul, Nat.mul_comm B]

theorem mad_lt {e x y c b : Nat} (he : e < b) (hx : x < b) (hy : y < b) (hc : c < b) : e + x * y + c < b * b := by
  have h1 : x * y ≤ (b - 1) * (b - 1) := Nat.mul_le_mul (by omega) (by omega)
  obtain ⟨d, rfl⟩ : ∃ d, b = d + 1 := ⟨b - 1, by omega⟩
  simp only [Nat.add_sub_cancel] at h1
  have h2 : (d + 1) * (d + 1) = d * d + 2 * d + 1 := by grind
  omega

end
end Go.Proofs.Ytiikffiembcboaa
