/- Arithmetic on natural numbers within a kind's bounds. -/
import Derived.Test.YtiikffiembcboaaSim14
namespace Go.Proofs.Ytiikffiembcboaa.Sim
open Go

theorem wrap_uns {k : IntKind} (hs : k.signed = false) {m : Nat} (hm : 2 ^ k.bits = m) (z : Nat) : k.wrap (z : Int) = ((z % m : Nat) : Int) := by
  subst hm
  simp [IntKind.wrap, hs]

theorem wrap_sgn {k : IntKind} (hs : k.signed = true) {m : Nat} (hm : 2 ^ (k.bits - 1) = m) (h2 : 2 ^ k.bits = 2 * m) (z : Nat) (hz : z < m) : k.wrap (z : Int) = (z : Int) := by
  have e1 : (2 : Int) ^ k.bits = ((2 * m : Nat) : Int) := by rw [← h2]; simp
  have e2 : (2 : Int) ^ (k.bits - 1) = (m : Int) := by rw [← hm]; simp
  simp only [IntKind.wrap, hs, Bool.true_and, e1, e2]
  have : (z : Int) % ((2 * m : Nat) : Int) = z := Int.emod_eq_of_lt (by omega) (by omega)
  rw [this]
  simp only [decide_eq_true_eq]
  rw [if_neg (by omega)]

theorem wrap_in {k : IntKind} {z : Nat} (h : z < 2 ^ (k.bits - (if k.signed then 1 else 0))) (hk : 0 < k.bits) : k.wrap (z : Int) = z := by
  cases hs : k.signed with
  | false => rw [hs] at h; rw [wrap_uns hs rfl, Nat.mod_eq_of_lt (by simpa using h)]
  | true =>
    rw [hs] at h
    refine wrap_sgn hs rfl ?_ z (by simpa using h)
    obtain ⟨c, hc⟩ : ∃ c, k.bits = c + 1 := ⟨k.bits - 1, by omega⟩
    rw [hc, Nat.add_sub_cancel, Nat.pow_succ, Nat.mul_comm]

section
variable {P : Program} {E : Env} {t t' : TypeId} {x y : Operand} {k k' : IntKind} {a b m : Nat}

theorem PureOp.addU (m : Nat) (h1 : aev E x = some (vi k a)) (h2 : aev E y = some (vi k b)) (hs : k.signed = false) (hm : 2 ^ k.bits = m) : PureOp P (.binOp .add t x y t') E (vi k ((a + b) % m)) :=
  PureOp.bin h1 h2 (by simp only [evalBin, vi]; rw [show (a : Int) + b = ((a + b : Nat) : Int) by simp, wrap_uns hs hm])

theorem PureOp.mulU (m : Nat) (h1 : aev E x = some (vi k a)) (h2 : aev E y = some (vi k b)) (hs : k.signed = false) (hm : 2 ^ k.bits = m) : PureOp P (.binOp .mul t x y t') E (vi k ((a * b) % m)) :=
  PureOp.bin h1 h2 (by simp only [evalBin, vi]; rw [show (a : Int) * b = ((a * b : Nat) : Int) by simp, wrap_uns hs hm])

theorem PureOp.subU (m : Nat) (h1 : aev E x = some (vi k a)) (h2 : aev E y = some (vi k b)) (hs : k.signed = false) (hm : 2 ^ k.bits = m) (hb : b ≤ m) : PureOp P (.binOp .sub t x y t') E (vi k ((a + (m - b)) % m)) :=
  PureOp.bin h1 h2 (by
    simp only [evalBin, vi, Option.some.injEq, Value.int.injEq, true_and]
    rw [← wrap_uns hs hm]
    subst hm
    simp only [IntKind.wrap, hs, Bool.false_and, Bool.false_eq_true, if_false]
    rw [Int.natCast_add, Int.natCast_sub hb]
    have e : (a : Int) + (((2 ^ k.bits : Nat) : Int) - b) = (a - b) + (2 ^ k.bits : Int) := by simp; omega
    rw [e, Int.add_emod_right])

theorem PureOp.subUle (h1 : aev E x = some (vi k a)) (h2 : aev E y = some (vi k b)) (hs : k.signed = false) (m : Nat) (hm : 2 ^ k.bits = m) (hb : b ≤ a) (ha : a < m) : PureOp P (.binOp .sub t x y t') E (vi k (a - b)) :=
  PureOp.bin h1 h2 (by
    simp only [evalBin, vi, Option.some.injEq, Value.int.injEq, true_and]
    rw [← Int.natCast_sub hb, wrap_uns hs hm, Nat.mod_eq_of_lt (by omega)])

theorem PureOp.addI (h1 : aev E x = some (vi .i64 a)) (h2 : aev E y = some (vi .i64 b)) (h : a + b < 9223372036854775808) : PureOp P (.binOp .add t x y t') E (vi .i64 (a + b)) :=
  PureOp.bin h1 h2 (by simp only [evalBin, vi]; rw [show (a : Int) + b = ((a + b : Nat) : Int) by simp, wrap_sgn (k := .i64) rfl rfl rfl _ h])

theorem PureOp.subI (h1 : aev E x = some (vi .i64 a)) (h2 : aev E y = some (vi .i64 b)) (h : b ≤ a) (ha : a < 9223372036854775808) : PureOp P (.binOp .sub t x y t') E (vi .i64 (a - b)) :=
  PureOp.bin h1 h2 (by simp only [evalBin, vi]; rw [← Int.natCast_sub h, wrap_sgn (k := .i64) (m := 9223372036854775808) rfl rfl rfl _ (by omega)])

theorem PureOp.mulI (h1 : aev E x = some (vi .i64 a)) (h2 : aev E y = some (vi .i64 b)) (h : a * b < 9223372036854775808) : PureOp P (.binOp .mul t x y t') E (vi .i64 (a * b)) :=
  PureOp.bin h1 h2 (by simp only [evalBin, vi]; rw [show (a : Int) * b = ((a * b : Nat) : Int) by simp, wrap_sgn (k := .i64) rfl rfl rfl _ h])

theorem PureOp.quoN (m : Nat) (h1 : aev E x = some (vi k a)) (h2 : aev E y = some (vi k b)) (hm : 2 ^ (k.bits - (if k.signed then 1 else 0)) = m) (hk : 0 < k.bits) (hb : b ≠ 0) (ha : a < m) : PureOp P (.binOp .quo t x y t') E (vi k (a / b)) :=
  (PureOp.quo h1 h2 (by omega)).mono (by rw [← Int.ofNat_tdiv, wrap_in (by rw [hm]; exact Nat.lt_of_le_of_lt (Nat.div_le_self a b) ha) hk]; rfl)

theorem PureOp.remN (h1 : aev E x = some (vi k a)) (h2 : aev E y = some (vi k b)) (hb : b ≠ 0) : PureOp P (.binOp .rem t x y t') E (vi k (a % b)) :=
  (PureOp.rem h1 h2 (by omega)).mono (by rw [← Int.ofNat_tmod]; rfl)

theorem PureOp.shlU (m : Nat) (h1 : aev E x = some (vi k a)) (h2 : aev E y = some (vi k' b)) (hs : k.signed = false) (hm : 2 ^ k.bits = m) (hb : b ≤ k.bits) : PureOp P (.binOp .shl t x y t') E (vi k (a * 2 ^ b % m)) :=
  (PureOp.shl h1 h2 (by omega)).mono (by
    simp only [vi, Int.toNat_natCast, Nat.min_eq_left hb, Value.int.injEq, true_and]
    rw [← wrap_uns hs hm]; simp)

theorem PureOp.shlUge (m : Nat) (h1 : aev E x = some (vi k a)) (h2 : aev E y = some (vi k' b)) (hs : k.signed = false) (hm : 2 ^ k.bits = m) : PureOp P (.binOp .shl t x y t') E (vi k (a * 2 ^ b % m)) :=
  (PureOp.shl h1 h2 (by omega)).mono (by
    simp only [vi, Int.toNat_natCast, Value.int.injEq, true_and]
    rw [show (a : Int) * 2 ^ Min.min b k.bits = ((a * 2 ^ Min.min b k.bits : Nat) : Int) by simp, wrap_uns hs hm]
    congr 1
    rcases Nat.le_total b k.bits with h | h
    · rw [Nat.min_eq_left h]
    · rw [Nat.min_eq_right h, hm]
      obtain ⟨c, rfl⟩ : ∃ c, b = k.bits + c := ⟨b - k.bits, by omega⟩
      rw [Nat.pow_add, hm, ← Nat.mul_assoc, Nat.mul_right_comm, Nat.mul_mod_left, Nat.mul_mod_left])

theorem PureOp.shrN (w : Nat) (h1 : aev E x = some (vi k a)) (h2 : aev E y = some (vi k' b)) (hw : k.bits = w) (hb : b ≤ w) : PureOp P (.binOp .shr t x y t') E (vi k (a / 2 ^ b)) :=
  (PureOp.shr h1 h2 (by omega)).mono (by
    subst hw
    simp only [vi, Int.toNat_natCast, Nat.min_eq_left hb, Value.int.injEq, true_and]
    rw [Int.fdiv_eq_ediv_of_nonneg _ (Int.pow_nonneg (by decide)), Int.natCast_ediv]
    simp)

theorem bits_nat {k : IntKind} (ha : a < 2 ^ k.bits) (hb : b < 2 ^ k.bits) : (BitVec.ofInt k.bits (a : Int) &&& BitVec.ofInt k.bits (b : Int)).toNat = a &&& b ∧
    (BitVec.ofInt k.bits (a : Int) ||| BitVec.ofInt k.bits (b : Int)).toNat = a ||| b ∧ (BitVec.ofInt k.bits (a : Int) ^^^ BitVec.ofInt k.bits (b : Int)).toNat = a ^^^ b := by
  have e : ∀ c : Nat, BitVec.ofInt k.bits (c : Int) = BitVec.ofNat k.bits c := fun c => by simp
  simp only [e, BitVec.toNat_and, BitVec.toNat_or, BitVec.toNat_xor, BitVec.toNat_ofNat, Nat.mod_eq_of_lt ha, Nat.mod_eq_of_lt hb, and_self]

theorem PureOp.andN (m : Nat) (h1 : aev E x = some (vi k a)) (h2 : aev E y = some (vi k b)) (hm : 2 ^ (k.bits - (if k.signed then 1 else 0)) = m) (hk : 0 < k.bits) (ha : a < m) (hb : b < m) :
    PureOp P (.binOp .and t x y t') E (vi k (a &&& b)) := by
  subst hm
  have hle : 2 ^ (k.bits - (if k.signed then 1 else 0)) ≤ 2 ^ k.bits := Nat.pow_le_pow_right (by decide) (by omega)
  exact PureOp.bin h1 h2 (by
    simp only [evalBin, vi]
    rw [(bits_nat (k := k) (by omega) (by omega)).1, wrap_in (Nat.and_lt_two_pow _ hb) hk])

theorem PureOp.orN (m : Nat) (h1 : aev E x = some (vi k a)) (h2 : aev E y = some (vi k b)) (hm : 2 ^ (k.bits - (if k.signed then 1 else 0)) = m) (hk : 0 < k.bits) (ha : a < m) (hb : b < m) :
    PureOp P (.binOp .or t x y t') E (vi k (a ||| b)) := by
  subst hm
  have hle : 2 ^ (k.bits - (if k.signed then 1 else 0)) ≤ 2 ^ k.bits := Nat.pow_le_pow_right (by decide) (by omega)
  exact PureOp.bin h1 h2 (by
    simp only [evalBin, vi]
    rw [(bits_nat (k := k) (by omega) (by omega)).2.1, wrap_in (Nat.or_lt_two_pow ha hb) hk])

theorem PureOp.xorN (m : Nat) (h1 : aev E x = some (vi k a)) (h2 : aev E y = some (vi k b)) (hm : 2 ^ (k.bits - (if k.signed then 1 else 0)) = m) (hk : 0 < k.bits) (ha : a < m) (hb : b < m) :
    PureOp P (.binOp .xor t x y t') E (vi k (a ^^^ b)) := by
  subst hm
  have hle : 2 ^ (k.bits - (if k.signed then 1 else 0)) ≤ 2 ^ k.bits := Nat.pow_le_pow_right (by decide) (by omega)
  exact PureOp.bin h1 h2 (by
    simp only [evalBin, vi]
    rw [(bits_nat (k := k) (by omega) (by omega)).2.2, wrap_in (Nat.xor_lt_two_pow ha hb) hk])

theorem PureOp.eqN (h1 : aev E x = some (vi k a)) (h2 : aev E y = some (vi k b)) : PureOp P (.binOp .eql t x y t') E (.bool (a == b)) :=
  PureOp.bin h1 h2 (by simp only [evalBin, Option.some.injEq, Value.bool.injEq]; rw [Bool.eq_iff_iff]; simp; omega)
theorem PureOp.neN (h1 : aev E x = some (vi k a)) (h2 : aev E y = some (vi k b)) : PureOp P (.binOp .neq t x y t') E (.bool (a != b)) :=
  PureOp.bin h1 h2 (by simp only [evalBin, Option.some.injEq, Value.bool.injEq]; rw [Bool.eq_iff_iff]; simp; omega)
theorem PureOp.ltN (h1 : aev E x = some (vi k a)) (h2 : aev E y = some (vi k b)) : PureOp P (.binOp .lss t x y t') E (.bool (decide (a < b))) :=
  PureOp.bin h1 h2 (by simp only [evalBin, Option.some.injEq, Value.bool.injEq]; rw [Bool.eq_iff_iff]; simp)
theorem PureOp.leN (h1 : aev E x = some (vi k a)) (h2 : aev E y = some (vi k b)) : PureOp P (.binOp .leq t x y t') E (.bool (decide (a ≤ b))) :=
  PureOp.bin h1 h2 (by simp only [evalBin, Option.some.injEq, Value.bool.injEq]; rw [Bool.eq_iff_iff]; simp)
theorem PureOp.gtN (h1 : aev E x = some (vi k a)) (h2 : aev E y = some (vi k b)) : PureOp P (.binOp .gtr t x y t') E (.bool (decide (b < a))) :=
  PureOp.bin h1 h2 (by simp only [evalBin, Option.some.injEq, Value.bool.injEq]; rw [Bool.eq_iff_iff]; simp)
theorem PureOp.geN (h1 : aev E x = some (vi k a)) (h2 : aev E y = some (vi k b)) : PureOp P (.binOp .geq t x y t') E (.bool (decide (b ≤ a))) :=
  PureOp.bin h1 h2 (by simp only [evalBin, Option.some.injEq, Value.bool.injEq]; rw [Bool.eq_iff_iff]; simp)
theorem PureOp.minN {ts : Array TypeId} (h1 : aev E x = some (vi k a)) (h2 : aev E y = some (vi k b)) : PureOp P (.call ⟨.builtin .min, #[x, y], ts⟩) E (vi k (Nat.min a b)) :=
  (PureOp.min h1 h2).mono (by simp only [vi, Value.int.injEq, true_and, Nat.min_def]; split <;> split <;> omega)
theorem PureOp.maxN {ts : Array TypeId} (h1 : aev E x = some (vi k a)) (h2 : aev E y = some (vi k b)) : PureOp P (.call ⟨.builtin .max, #[x, y], ts⟩) E (vi k (Nat.max a b)) :=
  (PureOp.max h1 h2).mono (by simp only [vi, Value.int.injEq, true_and, Nat.max_def]; split <;> split <;> omega)

theorem PureOp.cvtN {T : Tab} (H : TabOk P T) {s : TypeId} (m : Nat) (h1 : aev E x = some (vi k a)) (hs : T.int.lookup s = some k) (ht : T.int.lookup t = some k') (hm : 2 ^ (k'.bits - (if k'.signed then 1 else 0)) = m) (hk : 0 < k'.bits) (ha : a < m) :
    PureOp P (.convert s t x) E (vi k' a) := (PureOp.cvt H h1 hs ht).mono (by simp only [vi]; rw [wrap_in (by rw [hm]; exact ha) hk])
theorem PureOp.cvtU {T : Tab} (H : TabOk P T) {s : TypeId} (m : Nat) (h1 : aev E x = some (vi k a)) (hs : T.int.lookup s = some k) (ht : T.int.lookup t = some k') (hk : k'.signed = false) (hm : 2 ^ k'.bits = m) :
    PureOp P (.convert s t x) E (vi k' (a % m)) := (PureOp.cvt H h1 hs ht).mono (by simp only [vi]; rw [wrap_uns hk hm])
end
end Go.Proofs.Ytiikffiembcboaa.Sim
