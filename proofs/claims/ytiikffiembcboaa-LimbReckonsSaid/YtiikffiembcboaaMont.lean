/- Products the way of Montgomery: plain Lean. -/
import Derived.Test.YtiikffiembcboaaLimb3
namespace Go.Proofs.Ytiikffiembcboaa
open Go Sim
section
variable {B : Nat}

theorem mad_step {l b : List Nat} {j c p x s : Nat} (hk : j < l.length) (h : num B l + c * B ^ j = p + x * num B (b.take j)) (hs : s = l.getD j 0 + x * b.getD j 0 + c) :
    num B (l.set j (s % B)) + s / B * B ^ (j + 1) = p + x * num B (b.take (j + 1)) := by
  have := mul_step (B := B) (l := l) (b := b) (i := 0) (j := j) (c := c) (p := p) (x := x) (s := s) (by omega) (by simpa using h) (by simpa using hs)
  simpa using this

/-- one word more, one place lower -/
theorem red_step {u q : List Nat} {j c k s t : Nat} (hj : 0 < j) (hju : j < u.length) (h : B * num B (u.take (j - 1)) + c * B ^ j = t % B ^ j + k * num B (q.take j)) (hs : s = u.getD j 0 + k * q.getD j 0 + c)
    (hu : u.getD j 0 = t / B ^ j % B) : B * num B ((u.set (j - 1) (s % B)).take j) + s / B * B ^ (j + 1) = t % B ^ (j + 1) + k * num B (q.take (j + 1)) := by
  obtain ⟨m, rfl⟩ : ∃ m, j = m + 1 := ⟨j - 1, by omega⟩
  simp only [Nat.add_sub_cancel] at h ⊢
  rw [take_set_succ (by omega), num_append, List.length_take, Nat.min_eq_left (by omega), mod_succ t, num_take_succ q, ← hu]
  simp only [num, Nat.mul_zero, Nat.add_zero]
  have h2 := Nat.mod_add_div s B
  generalize num B (u.take m) = a at *
  generalize num B (q.take (m + 1)) = b at *
  generalize t % B ^ (m + 1) = d at *
  generalize s % B = r at *
  generalize s / B = e at *
  generalize u.getD (m + 1) 0 = f at *
  generalize q.getD (m + 1) 0 = g at *
  rw [Nat.pow_succ B (m + 1)]
  rw [Nat.pow_succ] at h ⊢
  generalize B ^ m = v at *
  subst hs
  have h3 : r * (v * B) + e * (v * B * B) = (f + k * g + c) * (v * B) := by rw [← h2]; grind
  grind

/-- the last words -/
theorem red_end {u : List Nat} {n c k t P : Nat} (hn : u.length = n + 2) (h : B * num B (u.take n) + c * B ^ (n + 1) = t % B ^ (n + 1) + k * P) (hu : u.getD (n + 1) 0 = t / B ^ (n + 1)) :
    B * num B ((u.set n ((u.getD (n + 1) 0 + c) % B)).set (n + 1) ((u.getD (n + 1) 0 + c) / B)) = t + k * P := by
  have e : (u.set n ((u.getD (n + 1) 0 + c) % B)).set (n + 1) ((u.getD (n + 1) 0 + c) / B) = u.take n ++ [(u.getD (n + 1) 0 + c) % B, (u.getD (n + 1) 0 + c) / B] := by
    have hl : ((u.set n ((u.getD (n + 1) 0 + c) % B)).set (n + 1) ((u.getD (n + 1) 0 + c) / B)).length = n + 1 + 1 := by simp [hn]
    rw [← List.take_of_length_le (Nat.le_of_eq hl), take_set_succ (by simp [hn]), take_set_succ (by omega), List.append_assoc]
    rfl
  rw [e, num_append, List.length_take, Nat.min_eq_left (by omega)]
  simp only [num, Nat.mul_zero, Nat.add_zero]
  rw [Nat.mod_add_div, hu]
  have h3 := Nat.mod_add_div t (B ^ (n + 1))
  rw [Nat.pow_succ] at h h3 ⊢
  generalize t / (B ^ n * B) = d at *
  generalize t % (B ^ n * B) = f at *
  generalize num B (u.take n) = a at *
  generalize B ^ n = v at *
  grind

/-- one round's bound -/
theorem mont_lt {T x b k P T' : Nat} (h : B * T' = T + x * b + k * P) (hT : T < 2 * P) (hx : x < B) (hb : b < P) (hk : k < B) : T' < 2 * P := by
  have h1 : x * b ≤ (B - 1) * P := Nat.mul_le_mul (by omega) (by omega)
  have h2 : k * P ≤ (B - 1) * P := Nat.mul_le_mul (by omega) (Nat.le_refl _)
  obtain ⟨d, rfl⟩ : ∃ d, B = d + 1 := ⟨B - 1, by omega⟩
  simp only [Nat.add_sub_cancel] at h1 h2
  have h3 : (d + 1) * T' < (d + 1) * (2 * P) := by
    rw [h]
    have e : (d + 1) * (2 * P) = 2 * P + d * P + d * P := by grind
    rw [e]; omega
  exact Nat.lt_of_mul_lt_mul_left h3

theorem mont_mod {T x b k P T' i A : Nat} (h : B * T' = T + x * b + k * P) (hT : T * B ^ i % P = A * b % P) : T' * B ^ (i + 1) % P = (A + x * B ^ i) * b % P := by
  have e : T' * B ^ (i + 1) = T * B ^ i + x * B ^ i * b + k * B ^ i * P := by
    rw [Nat.pow_succ]
    have : B * T' * B ^ i = (T + x * b + k * P) * B ^ i := by rw [h]
    grind
  rw [e, Nat.add_mul_mod_self_right, Nat.add_mod, hT, ← Nat.add_mod, Nat.add_mul]

/-- what is divided is determined -/
theorem mont_uniq {R P r r' : Nat} (hc : Nat.Coprime R P) (hr : r < P) (hr' : r' < P) (h : r * R % P = r' * R % P) : r = r' := by
  have key : ∀ {a b : Nat}, a ≤ b → b < P → a * R % P = b * R % P → a = b := by
    intro a b hab hb h
    have h1 : P ∣ (b - a) * R := by
      have h2 := Nat.dvd_of_mod_eq_zero (Nat.sub_mod_eq_zero_of_mod_eq h.symm)
      rwa [← Nat.sub_mul] at h2
    have h3 := (Nat.Coprime.symm hc).dvd_of_dvd_mul_right h1
    rcases Nat.eq_zero_or_pos (b - a) with h0 | h0
    · omega
    · have := Nat.le_of_dvd h0 h3
      omega
  rcases Nat.le_total r r' with h1 | h1
  · exact key h1 hr' h
  · exact (key h1 hr h.symm).symm

/-- the lowest word is 0 -/
theorem mont_low {t k P inv : Nat} (hB : 0 < B) (hi : (P * inv + 1) % B = 0) (hk : k = t % B * inv % B) : (t % B + k * (P % B)) % B = 0 := by
  subst hk
  have e : (t % B + t % B * inv % B * (P % B)) % B = (t % B * (P * inv + 1)) % B := by
    rw [Nat.add_mod, ← Nat.mul_mod (t % B * inv) P B, ← Nat.add_mod, Nat.mul_add, Nat.mul_one, Nat.add_comm, Nat.mul_assoc, Nat.mul_comm inv P]
  rw [e, Nat.mul_mod, hi, Nat.mul_zero, Nat.zero_mod]

end
end Go.Proofs.Ytiikffiembcboaa
