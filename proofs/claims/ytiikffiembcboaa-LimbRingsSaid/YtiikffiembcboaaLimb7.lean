/- LimbRings and LimbMultiples: what they reckon. -/
import Derived.Test.YtiikffiembcboaaLimb6
namespace Go.Proofs.Ytiikffiembcboaa
open Go Sim

theorem mmul_ctrV {a b : List Nat} {na xa nb xb : Nat} (hna : a.length = na) (hxa : num 18446744073709551616 a = xa) (hnb : b.length = nb) (hxb : num 18446744073709551616 b = xb) {mw : List Nat} {iv : Nat} (hM : MwOk mw) (ha : bd 18446744073709551616 a) (hb : bd 18446744073709551616 b) (hla : a.length ≤ 1000) (hlb : b.length ≤ 1000) (hiv : (num 18446744073709551616 mw * iv + 1) % 18446744073709551616 = 0) : GC Try.prog 59 [.pointer (some ⟨0, 0, none⟩), .slice (some ⟨3, 0, none⟩) na 0, .slice (some ⟨4, 0, none⟩) nb 0] [⟨[.slice (some ⟨1, 0, none⟩) mw.length 0, vi .u64 iv, .slice (some ⟨2, 0, none⟩) mw.length 0], false, 1⟩, ⟨(mw).map (vi .u64), false, 1⟩, ⟨(digs 18446744073709551616 mw.length (18446744073709551616 ^ mw.length * 18446744073709551616 ^ mw.length % num 18446744073709551616 mw)).map (vi .u64), false, 1⟩, ⟨a.map (vi .u64), false, 1⟩, ⟨b.map (vi .u64), false, 1⟩] [.slice (some ⟨5, 0, none⟩) mw.length 0] [⟨[.slice (some ⟨1, 0, none⟩) mw.length 0, vi .u64 iv, .slice (some ⟨2, 0, none⟩) mw.length 0], false, 1⟩, ⟨(mw).map (vi .u64), false, 1⟩, ⟨(digs 18446744073709551616 mw.length (18446744073709551616 ^ mw.length * 18446744073709551616 ^ mw.length % num 18446744073709551616 mw)).map (vi .u64), false, 1⟩, ⟨a.map (vi .u64), false, 1⟩, ⟨b.map (vi .u64), false, 1⟩, ⟨(digs 18446744073709551616 mw.length (xa * xb % num 18446744073709551616 mw)).map (vi .u64), true, 1⟩] := by
  subst hna hxa; subst hnb hxb
  exact mmul_ctr hM ha hb hla hlb hiv

theorem mexp_ctrV {a b : List Nat} {na xa nb xb : Nat} (hna : a.length = na) (hxa : num 18446744073709551616 a = xa) (hnb : b.length = nb) (hxb : num 18446744073709551616 b = xb) {mw : List Nat} {iv : Nat} (hM : MwOk mw) (ha : bd 18446744073709551616 a) (hb : bd 18446744073709551616 b) (hla : a.length ≤ 1000) (hlb : b.length ≤ 1000) (hiv : (num 18446744073709551616 mw * iv + 1) % 18446744073709551616 = 0) (hN1 : 1 < num 18446744073709551616 mw) : GC Try.prog 54 [.pointer (some ⟨0, 0, none⟩), .slice (some ⟨3, 0, none⟩) na 0, .slice (some ⟨4, 0, none⟩) nb 0] [⟨[.slice (some ⟨1, 0, none⟩) mw.length 0, vi .u64 iv, .slice (some ⟨2, 0, none⟩) mw.length 0], false, 1⟩, ⟨(mw).map (vi .u64), false, 1⟩, ⟨(digs 18446744073709551616 mw.length (18446744073709551616 ^ mw.length * 18446744073709551616 ^ mw.length % num 18446744073709551616 mw)).map (vi .u64), false, 1⟩, ⟨a.map (vi .u64), false, 1⟩, ⟨b.map (vi .u64), false, 1⟩] [.slice (some ⟨5, 0, none⟩) mw.length 0] [⟨[.slice (some ⟨1, 0, none⟩) mw.length 0, vi .u64 iv, .slice (some ⟨2, 0, none⟩) mw.length 0], false, 1⟩, ⟨(mw).map (vi .u64), false, 1⟩, ⟨(digs 18446744073709551616 mw.length (18446744073709551616 ^ mw.length * 18446744073709551616 ^ mw.length % num 18446744073709551616 mw)).map (vi .u64), false, 1⟩, ⟨a.map (vi .u64), false, 1⟩, ⟨b.map (vi .u64), false, 1⟩, ⟨(digs 18446744073709551616 mw.length (xa ^ xb % num 18446744073709551616 mw)).map (vi .u64), true, 1⟩] := by
  subst hna hxa; subst hnb hxb
  exact mexp_ctr hM ha hb hla hlb hiv hN1

theorem madd_ctrV {a b : List Nat} {na xa nb xb : Nat} (hna : a.length = na) (hxa : num 18446744073709551616 a = xa) (hnb : b.length = nb) (hxb : num 18446744073709551616 b = xb) {mw sq : List Nat} {iv ns : Nat} (hM : MwOk mw) (ha : bd 18446744073709551616 a) (hb : bd 18446744073709551616 b) (hla : a.length ≤ 1000) (hlb : b.length ≤ 1000) : GC Try.prog 58 [.pointer (some ⟨0, 0, none⟩), .slice (some ⟨3, 0, none⟩) na 0, .slice (some ⟨4, 0, none⟩) nb 0] [⟨[.slice (some ⟨1, 0, none⟩) mw.length 0, vi .u64 iv, .slice (some ⟨2, 0, none⟩) ns 0], false, 1⟩, ⟨(mw).map (vi .u64), false, 1⟩, ⟨(sq).map (vi .u64), false, 1⟩, ⟨a.map (vi .u64), false, 1⟩, ⟨b.map (vi .u64), false, 1⟩] [.slice (some ⟨5, 0, none⟩) mw.length 0] [⟨[.slice (some ⟨1, 0, none⟩) mw.length 0, vi .u64 iv, .slice (some ⟨2, 0, none⟩) ns 0], false, 1⟩, ⟨(mw).map (vi .u64), false, 1⟩, ⟨(sq).map (vi .u64), false, 1⟩, ⟨a.map (vi .u64), false, 1⟩, ⟨b.map (vi .u64), false, 1⟩, ⟨(digs 18446744073709551616 mw.length ((xa % num 18446744073709551616 mw + xb % num 18446744073709551616 mw) % num 18446744073709551616 mw)).map (vi .u64), true, 1⟩] := by
  subst hna hxa; subst hnb hxb
  exact madd_ctr hM ha hb hla hlb

theorem msub_ctrV {a b : List Nat} {na xa nb xb : Nat} (hna : a.length = na) (hxa : num 18446744073709551616 a = xa) (hnb : b.length = nb) (hxb : num 18446744073709551616 b = xb) {mw sq : List Nat} {iv ns : Nat} (hM : MwOk mw) (ha : bd 18446744073709551616 a) (hb : bd 18446744073709551616 b) (hla : a.length ≤ 1000) (hlb : b.length ≤ 1000) : GC Try.prog 60 [.pointer (some ⟨0, 0, none⟩), .slice (some ⟨3, 0, none⟩) na 0, .slice (some ⟨4, 0, none⟩) nb 0] [⟨[.slice (some ⟨1, 0, none⟩) mw.length 0, vi .u64 iv, .slice (some ⟨2, 0, none⟩) ns 0], false, 1⟩, ⟨(mw).map (vi .u64), false, 1⟩, ⟨(sq).map (vi .u64), false, 1⟩, ⟨a.map (vi .u64), false, 1⟩, ⟨b.map (vi .u64), false, 1⟩] [.slice (some ⟨5, 0, none⟩) mw.length 0] [⟨[.slice (some ⟨1, 0, none⟩) mw.length 0, vi .u64 iv, .slice (some ⟨2, 0, none⟩) ns 0], false, 1⟩, ⟨(mw).map (vi .u64), false, 1⟩, ⟨(sq).map (vi .u64), false, 1⟩, ⟨a.map (vi .u64), false, 1⟩, ⟨b.map (vi .u64), false, 1⟩, ⟨(digs 18446744073709551616 mw.length ((xa % num 18446744073709551616 mw + (num 18446744073709551616 mw - xb % num 18446744073709551616 mw)) % num 18446744073709551616 mw)).map (vi .u64), true, 1⟩] := by
  subst hna hxa; subst hnb hxb
  exact msub_ctr hM ha hb hla hlb

theorem reduce_ctrV {a : List Nat} {na xa : Nat} (hna : a.length = na) (hxa : num 18446744073709551616 a = xa) {mw sq : List Nat} {iv ns : Nat} (hM : MwOk mw) (ha : bd 18446744073709551616 a) (hla : a.length ≤ 1000) : GC Try.prog 61 [.pointer (some ⟨0, 0, none⟩), .slice (some ⟨3, 0, none⟩) na 0] [⟨[.slice (some ⟨1, 0, none⟩) mw.length 0, vi .u64 iv, .slice (some ⟨2, 0, none⟩) ns 0], false, 1⟩, ⟨(mw).map (vi .u64), false, 1⟩, ⟨(sq).map (vi .u64), false, 1⟩, ⟨a.map (vi .u64), false, 1⟩] [.slice (some ⟨4, 0, none⟩) mw.length 0] [⟨[.slice (some ⟨1, 0, none⟩) mw.length 0, vi .u64 iv, .slice (some ⟨2, 0, none⟩) ns 0], false, 1⟩, ⟨(mw).map (vi .u64), false, 1⟩, ⟨(sq).map (vi .u64), false, 1⟩, ⟨a.map (vi .u64), false, 1⟩, ⟨(digs 18446744073709551616 mw.length (xa % num 18446744073709551616 mw)).map (vi .u64), true, 1⟩] := by
  subst hna hxa
  exact reduce_ctr hM ha hla

theorem lcmp_ctrV {a b : List Nat} {na xa nb xb : Nat} (hna : a.length = na) (hxa : num 18446744073709551616 a = xa) (hnb : b.length = nb) (hxb : num 18446744073709551616 b = xb) (ha : bd 18446744073709551616 a) (hb : bd 18446744073709551616 b) (hla : a.length < 100000000) (hlb : b.length < 100000000) : GC Try.prog 62 [.slice (some ⟨0, 0, none⟩) na 0, .slice (some ⟨1, 0, none⟩) nb 0] [⟨a.map (vi .u64), false, 1⟩, ⟨b.map (vi .u64), false, 1⟩] [.int .i64 (cmpI (xa) (xb))] [⟨a.map (vi .u64), false, 1⟩, ⟨b.map (vi .u64), false, 1⟩] := by
  subst hna hxa; subst hnb hxb
  exact lcmp_ctr ha hb hla hlb

theorem ladd_ctrV {a b : List Nat} {na xa nb xb : Nat} (hna : a.length = na) (hxa : num 18446744073709551616 a = xa) (hnb : b.length = nb) (hxb : num 18446744073709551616 b = xb) (ha : bd 18446744073709551616 a) (hb : bd 18446744073709551616 b) (hla : a.length < 100000000) (hlb : b.length < 100000000) : GC Try.prog 63 [.slice (some ⟨0, 0, none⟩) na 0, .slice (some ⟨1, 0, none⟩) nb 0] [⟨a.map (vi .u64), false, 1⟩, ⟨b.map (vi .u64), false, 1⟩] [.slice (some ⟨2, 0, none⟩) (Nat.max na nb) 0, vi .u64 ((xa + xb) / 18446744073709551616 ^ (Nat.max na nb))] [⟨a.map (vi .u64), false, 1⟩, ⟨b.map (vi .u64), false, 1⟩, ⟨(digs 18446744073709551616 (Nat.max na nb) (xa + xb)).map (vi .u64), true, 1⟩] := by
  subst hna hxa; subst hnb hxb
  exact ladd_ctr ha hb hla hlb

theorem lsub_ctrV {a b : List Nat} {na xa nb xb : Nat} (hna : a.length = na) (hxa : num 18446744073709551616 a = xa) (hnb : b.length = nb) (hxb : num 18446744073709551616 b = xb) (ha : bd 18446744073709551616 a) (hb : bd 18446744073709551616 b) (hla : a.length < 100000000) (hlb : b.length < 100000000) : GC Try.prog 65 [.slice (some ⟨0, 0, none⟩) na 0, .slice (some ⟨1, 0, none⟩) nb 0] [⟨a.map (vi .u64), false, 1⟩, ⟨b.map (vi .u64), false, 1⟩] [.slice (some ⟨2, 0, none⟩) (Nat.max na nb) 0, vi .u64 (if xa < xb then 1 else 0)] [⟨a.map (vi .u64), false, 1⟩, ⟨b.map (vi .u64), false, 1⟩, ⟨(digs 18446744073709551616 (Nat.max na nb) (xa + 18446744073709551616 ^ (Nat.max na nb) - xb)).map (vi .u64), true, 1⟩] := by
  subst hna hxa; subst hnb hxb
  exact lsub_ctr ha hb hla hlb

theorem lmul_ctrV {a b : List Nat} {na xa nb xb : Nat} (hna : a.length = na) (hxa : num 18446744073709551616 a = xa) (hnb : b.length = nb) (hxb : num 18446744073709551616 b = xb) (ha : bd 18446744073709551616 a) (hb : bd 18446744073709551616 b) (hla : a.length < 100000000) (hlb : b.length < 100000000) : GC Try.prog 64 [.slice (some ⟨0, 0, none⟩) na 0, .slice (some ⟨1, 0, none⟩) nb 0] [⟨a.map (vi .u64), false, 1⟩, ⟨b.map (vi .u64), false, 1⟩] [.slice (some ⟨2, 0, none⟩) (na + nb) 0] [⟨a.map (vi .u64), false, 1⟩, ⟨b.map (vi .u64), false, 1⟩, ⟨(digs 18446744073709551616 (na + nb) (xa * xb)).map (vi .u64), true, 1⟩] := by
  subst hna hxa; subst hnb hxb
  exact lmul_ctr ha hb hla hlb

theorem bd_lits {l : List Nat} (h : (l.all fun x => decide (x < 18446744073709551616)) = true) : bd 18446744073709551616 l := fun x hx => of_decide_eq_true (List.all_eq_true.1 h x hx)

theorem cmp_less {a b : Nat} (h : a < b) : cmpI a b < 0 := by simp only [cmpI, if_pos h]; decide
theorem cmpI_self (a : Nat) : cmpI a a = 0 := by simp [cmpI]

theorem rg_assoc (x y z N : Nat) : x * y % N * z % N = x * (y * z % N) % N := by
  rw [Nat.mod_mul_mod, Nat.mul_mod_mod, Nat.mul_assoc]
theorem rg_dist (x y z N : Nat) : x * ((y % N + z % N) % N) % N = (x * y % N % N + x * z % N % N) % N := by
  rw [← Nat.add_mod, Nat.mul_mod_mod, Nat.mod_mod, Nat.mod_mod, ← Nat.add_mod, Nat.mul_add]
theorem rg_back {x y N : Nat} (hN : 0 < N) : ((x % N + (N - y % N)) % N % N + y % N) % N = x % N := by
  have h := Nat.mod_lt y hN
  rw [Nat.mod_mod, Nat.mod_add_mod, Nat.add_assoc, Nat.sub_add_cancel (Nat.le_of_lt h), Nat.add_mod_right, Nat.mod_mod]
theorem rg_cube (x N : Nat) : x ^ 3 % N = x * (x * x % N) % N := by
  rw [Nat.mul_mod_mod, Nat.pow_succ, Nat.pow_succ, Nat.pow_one, Nat.mul_assoc]

theorem mul_lt {a b : List Nat} (ha : bd 18446744073709551616 a) (hb : bd 18446744073709551616 b) : num 18446744073709551616 a * num 18446744073709551616 b < 18446744073709551616 ^ (a.length + b.length) := by
  rw [Nat.pow_add]
  exact Nat.mul_lt_mul'' (num_lt ha) (num_lt hb)
theorem prod_num {a b : List Nat} (ha : bd 18446744073709551616 a) (hb : bd 18446744073709551616 b) : num 18446744073709551616 (digs 18446744073709551616 (a.length + b.length) (num 18446744073709551616 a * num 18446744073709551616 b)) = num 18446744073709551616 a * num 18446744073709551616 b := num_digs_lt (mul_lt ha hb)
theorem prod_num2 {a : List Nat} (ha : bd 18446744073709551616 a) : num 18446744073709551616 (digs 18446744073709551616 (a.length + 2) (num 18446744073709551616 a * 18446744073709551616)) = num 18446744073709551616 a * 18446744073709551616 := prod_num (b := [0, 1]) ha (bd_lits (by decide))
theorem max_le (a b : Nat) : Nat.max a b ≤ a + b ∧ a ≤ Nat.max a b ∧ b ≤ Nat.max a b := ⟨Nat.max_le.2 ⟨by omega, by omega⟩, Nat.le_max_left _ _, Nat.le_max_right _ _⟩
theorem sum_lt {m n x y : Nat} (hx : x < 18446744073709551616 ^ m) (hy : y < 18446744073709551616 ^ n) : (x + y) / 18446744073709551616 ^ Nat.max m n < 18446744073709551616 := by
  have h1 : 18446744073709551616 ^ m ≤ 18446744073709551616 ^ Nat.max m n := Nat.pow_le_pow_right (by decide) (Nat.le_max_left _ _)
  have h2 : 18446744073709551616 ^ n ≤ 18446744073709551616 ^ Nat.max m n := Nat.pow_le_pow_right (by decide) (Nat.le_max_right _ _)
  refine Nat.div_lt_of_lt_mul ?_
  generalize 18446744073709551616 ^ Nat.max m n = w at *
  omega
theorem snoc_num {n v : Nat} : num 18446744073709551616 (digs 18446744073709551616 n v ++ [v / 18446744073709551616 ^ n]) = v := by
  rw [num_append, digs_len, num_digs, num_one]
  exact Nat.mod_add_div _ _
theorem snoc_bd {n v : Nat} (h : v / 18446744073709551616 ^ n < 18446744073709551616) : bd 18446744073709551616 (digs 18446744073709551616 n v ++ [v / 18446744073709551616 ^ n]) := bd_snoc (digs_bd (by decide) _ _) h
theorem back_num {a k : List Nat} (ha : bd 18446744073709551616 a) (_ : bd 18446744073709551616 k) : num 18446744073709551616 (digs 18446744073709551616 (Nat.max (Nat.max a.length k.length + 1) k.length) (num 18446744073709551616 a + num 18446744073709551616 k + 18446744073709551616 ^ Nat.max (Nat.max a.length k.length + 1) k.length - num 18446744073709551616 k)) = num 18446744073709551616 a := by
  have h1 : num 18446744073709551616 a < 18446744073709551616 ^ Nat.max (Nat.max a.length k.length + 1) k.length := by
    refine num_lt_pow ha (by decide) ?_
    have := max_le a.length k.length
    have := max_le (Nat.max a.length k.length + 1) k.length
    omega
  rw [num_digs]
  generalize 18446744073709551616 ^ Nat.max (Nat.max a.length k.length + 1) k.length = w at *
  rw [show num 18446744073709551616 a + num 18446744073709551616 k + w - num 18446744073709551616 k = num 18446744073709551616 a + w by omega, Nat.add_mod_right, Nat.mod_eq_of_lt h1]
theorem blen64 (x : Nat) : (blen (x * 18446744073709551616) == Nat.max 0 (blen x + 64 * Nat.min (blen x) 1)) = true := by
  rw [beq_iff_eq]
  rcases Nat.eq_zero_or_pos x with rfl | h
  · rfl
  · have h1 : x * 18446744073709551616 / 2 ^ 64 = x := by rw [show (18446744073709551616 : Nat) = 2 ^ 64 from by decide]; exact Nat.mul_div_cancel _ (by decide)
    have h2 := blen_shift (n := x * 18446744073709551616) (k := 64) (by rw [h1]; omega)
    rw [h1] at h2
    have h3 : 1 ≤ blen x := by simp only [blen]; split <;> omega
    rw [h2, show Nat.min (blen x) 1 = 1 from Nat.min_eq_right h3, show Nat.max 0 (blen x + 64 * 1) = blen x + 64 * 1 from Nat.max_eq_right (Nat.zero_le _)]
    omega

set_option maxRecDepth 10000 in
theorem rings_ctr {mw a b c : List Nat} (hmw : bd 18446744073709551616 mw) (ha : bd 18446744073709551616 a) (hb : bd 18446744073709551616 b) (hc : bd 18446744073709551616 c) : GC Try.prog 12 [.slice (some ⟨0, 0, none⟩) mw.length 0, .slice (some ⟨1, 0, none⟩) a.length 0, .slice (some ⟨2, 0, none⟩) b.length 0, .slice (some ⟨3, 0, none⟩) c.length 0] [⟨mw.map (vi .u64), false, 1⟩, ⟨a.map (vi .u64), false, 1⟩, ⟨b.map (vi .u64), false, 1⟩, ⟨c.map (vi .u64), false, 1⟩] [.bool true] [⟨mw.map (vi .u64), false, 1⟩, ⟨a.map (vi .u64), false, 1⟩, ⟨b.map (vi .u64), false, 1⟩, ⟨c.map (vi .u64), false, 1⟩] := by
  refine GC.intro Try.func12 rfl (by show 4 ≤ 153; decide) (by first | exact Nat.le_refl _ | decide | simp) ?_
  refine AW.seqR ?_
  refine AWo.pure (PureOp.assign rfl) rfl rfl ?_
  refine AWo.nil trivial ?_
  refine AW.seq ?_
  refine AW.seqR ?_
  refine AWo.callX (speaks1_ctr) bd50 [] [] rfl .nil rfl .nil .nil rfl .nil frN (by decide) (.cons rfl rfl .nil) rfl rfl rfl rfl ?_
  first | refine AWo.pure ((PureOp.not rfl).mono (v' := .bool false) (congrArg Value.bool (by rfl))) rfl rfl ?_
  refine AWo.pure (PureOp.move rfl) rfl rfl ?_
  refine AWo.pure (PureOp.move rfl) rfl rfl ?_
  refine AWo.pure (PureOp.lenS tbok rfl rfl) rfl rfl ?_
  first | refine AWo.pureB (PureOp.gtN (b := 16) rfl rfl) rfl rfl (fun hb0 => ?_) (fun hb0 => ?_) | refine AWo.pureB (PureOp.bin rfl rfl rfl) rfl rfl (fun hb0 => ?_) (fun hb0 => ?_)
  ·
    refine AWo.pure (PureOp.pickF rfl rfl) rfl rfl ?_
    refine AWo.pure (PureOp.move rfl) rfl rfl ?_
    refine AWo.skipped rfl rfl ?_
    refine AWo.skipped rfl rfl ?_
    refine AWo.skipped rfl rfl ?_
    refine AWo.pure (PureOp.pickT rfl rfl) rfl rfl ?_
    refine AWo.pure (PureOp.move rfl) rfl rfl ?_
    refine AWo.skipped rfl rfl ?_
    refine AWo.skipped rfl rfl ?_
    refine AWo.skipped rfl rfl ?_
    refine AWo.pure (PureOp.pickT rfl rfl) rfl rfl ?_
    refine AWo.pure (PureOp.move rfl) rfl rfl ?_
    refine AWo.skipped rfl rfl ?_
    refine AWo.skipped rfl rfl ?_
    refine AWo.skipped rfl rfl ?_
    refine AWo.pure (PureOp.pickT rfl rfl) rfl rfl ?_
    refine AWo.pure (PureOp.move rfl) rfl rfl ?_
    refine AWo.skipped rfl rfl ?_
    refine AWo.skipped rfl rfl ?_
    refine AWo.skipped rfl rfl ?_
    refine AWo.pure (PureOp.pickT rfl rfl) rfl rfl ?_
    refine AWo.nil trivial ?_
    refine AW.condT rfl ?_
    refine AW.seqR ?_
    refine AWo.callX (speaks1_ctr) bd50 [] [] rfl .nil rfl .nil .nil rfl .nil frN (by decide) (.cons rfl rfl .nil) rfl rfl rfl rfl ?_
    refine AWo.pure (PureOp.assign rfl) rfl rfl ?_
    refine AWo.nil trivial ?_
    refine AW.ret ?_
    refine thenA_ret ?_
    refine RetQ.gc [_] [] [.tmp 8] (.inl rfl) rfl (.tmp rfl .nil) rfl (.cons rfl rfl .nil) (OutL.flat rfl (flatM flat_vi) (by intro h; exact h.elim id fun h => absurd h.1 (by simp)) (OutL.flat rfl (flatM flat_vi) (by intro h; exact h.elim id fun h => absurd h.1 (by simp)) (OutL.flat rfl (flatM flat_vi) (by intro h; exact h.elim id fun h => absurd h.1 (by simp)) (OutL.flat rfl (flatM flat_vi) (by intro h; exact h.elim id fun h => absurd h.1 (by simp)) trivial)))) (by decide) rfl
  ·
    have hlmw : mw.length ≤ 16 := by simpa using hb0
    refine AWo.pure (PureOp.pickF rfl rfl) rfl rfl ?_
    refine AWo.pure (PureOp.move rfl) rfl rfl ?_
    refine AWo.pure (PureOp.move rfl) rfl rfl ?_
    refine AWo.pure (PureOp.lenS tbok rfl rfl) rfl rfl ?_
    first | refine AWo.pureB (PureOp.gtN (b := 16) rfl rfl) rfl rfl (fun hb1 => ?_) (fun hb1 => ?_) | refine AWo.pureB (PureOp.bin rfl rfl rfl) rfl rfl (fun hb1 => ?_) (fun hb1 => ?_)
    ·
      refine AWo.pure (PureOp.pickF rfl rfl) rfl rfl ?_
      refine AWo.pure (PureOp.move rfl) rfl rfl ?_
      refine AWo.skipped rfl rfl ?_
      refine AWo.skipped rfl rfl ?_
      refine AWo.skipped rfl rfl ?_
      refine AWo.pure (PureOp.pickT rfl rfl) rfl rfl ?_
      refine AWo.pure (PureOp.move rfl) rfl rfl ?_
      refine AWo.skipped rfl rfl ?_
      refine AWo.skipped rfl rfl ?_
      refine AWo.skipped rfl rfl ?_
      refine AWo.pure (PureOp.pickT rfl rfl) rfl rfl ?_
      refine AWo.pure (PureOp.move rfl) rfl rfl ?_
      refine AWo.skipped rfl rfl ?_
      refine AWo.skipped rfl rfl ?_
      refine AWo.skipped rfl rfl ?_
      refine AWo.pure (PureOp.pickT rfl rfl) rfl rfl ?_
      refine AWo.nil trivial ?_
      refine AW.condT rfl ?_
      refine AW.seqR ?_
      refine AWo.callX (speaks1_ctr) bd50 [] [] rfl .nil rfl .nil .nil rfl .nil frN (by decide) (.cons rfl rfl .nil) rfl rfl rfl rfl ?_
      refine AWo.pure (PureOp.assign rfl) rfl rfl ?_
      refine AWo.nil trivial ?_
      refine AW.ret ?_
      refine thenA_ret ?_
      refine RetQ.gc [_] [] [.tmp 8] (.inl rfl) rfl (.tmp rfl .nil) rfl (.cons rfl rfl .nil) (OutL.flat rfl (flatM flat_vi) (by intro h; exact h.elim id fun h => absurd h.1 (by simp)) (OutL.flat rfl (flatM flat_vi) (by intro h; exact h.elim id fun h => absurd h.1 (by simp)) (OutL.flat rfl (flatM flat_vi) (by intro h; exact h.elim id fun h => absurd h.1 (by simp)) (OutL.flat rfl (flatM flat_vi) (by intro h; exact h.elim id fun h => absurd h.1 (by simp)) trivial)))) (by decide) rfl
    ·
      have hla : a.length ≤ 16 := by simpa using hb1
      refine AWo.pure (PureOp.pickF rfl rfl) rfl rfl ?_
      refine AWo.pure (PureOp.move rfl) rfl rfl ?_
      refine AWo.pure (PureOp.move rfl) rfl rfl ?_
      refine AWo.pure (PureOp.lenS tbok rfl rfl) rfl rfl ?_
      first | refine AWo.pureB (PureOp.gtN (b := 16) rfl rfl) rfl rfl (fun hb2 => ?_) (fun hb2 => ?_) | refine AWo.pureB (PureOp.bin rfl rfl rfl) rfl rfl (fun hb2 => ?_) (fun hb2 => ?_)
      ·
        refine AWo.pure (PureOp.pickF rfl rfl) rfl rfl ?_
        refine AWo.pure (PureOp.move rfl) rfl rfl ?_
        refine AWo.skipped rfl rfl ?_
        refine AWo.skipped rfl rfl ?_
        refine AWo.skipped rfl rfl ?_
        refine AWo.pure (PureOp.pickT rfl rfl) rfl rfl ?_
        refine AWo.pure (PureOp.move rfl) rfl rfl ?_
        refine AWo.skipped rfl rfl ?_
        refine AWo.skipped rfl rfl ?_
        refine AWo.skipped rfl rfl ?_
        refine AWo.pure (PureOp.pickT rfl rfl) rfl rfl ?_
        refine AWo.nil trivial ?_
        refine AW.condT rfl ?_
        refine AW.seqR ?_
        refine AWo.callX (speaks1_ctr) bd50 [] [] rfl .nil rfl .nil .nil rfl .nil frN (by decide) (.cons rfl rfl .nil) rfl rfl rfl rfl ?_
        refine AWo.pure (PureOp.assign rfl) rfl rfl ?_
        refine AWo.nil trivial ?_
        refine AW.ret ?_
        refine thenA_ret ?_
        refine RetQ.gc [_] [] [.tmp 8] (.inl rfl) rfl (.tmp rfl .nil) rfl (.cons rfl rfl .nil) (OutL.flat rfl (flatM flat_vi) (by intro h; exact h.elim id fun h => absurd h.1 (by simp)) (OutL.flat rfl (flatM flat_vi) (by intro h; exact h.elim id fun h => absurd h.1 (by simp)) (OutL.flat rfl (flatM flat_vi) (by intro h; exact h.elim id fun h => absurd h.1 (by simp)) (OutL.flat rfl (flatM flat_vi) (by intro h; exact h.elim id fun h => absurd h.1 (by simp)) trivial)))) (by decide) rfl
      ·
        have hlb : b.length ≤ 16 := by simpa using hb2
        refine AWo.pure (PureOp.pickF rfl rfl) rfl rfl ?_
        refine AWo.pure (PureOp.move rfl) rfl rfl ?_
        refine AWo.pure (PureOp.move rfl) rfl rfl ?_
        refine AWo.pure (PureOp.lenS tbok rfl rfl) rfl rfl ?_
        first | refine AWo.pureB (PureOp.gtN (b := 16) rfl rfl) rfl rfl (fun hb3 => ?_) (fun hb3 => ?_) | refine AWo.pureB (PureOp.bin rfl rfl rfl) rfl rfl (fun hb3 => ?_) (fun hb3 => ?_)
        ·
          refine AWo.pure (PureOp.pickF rfl rfl) rfl rfl ?_
          refine AWo.pure (PureOp.move rfl) rfl rfl ?_
          refine AWo.skipped rfl rfl ?_
          refine AWo.skipped rfl rfl ?_
          refine AWo.skipped rfl rfl ?_
          refine AWo.pure (PureOp.pickT rfl rfl) rfl rfl ?_
          refine AWo.nil trivial ?_
          refine AW.condT rfl ?_
          refine AW.seqR ?_
          refine AWo.callX (speaks1_ctr) bd50 [] [] rfl .nil rfl .nil .nil rfl .nil frN (by decide) (.cons rfl rfl .nil) rfl rfl rfl rfl ?_
          refine AWo.pure (PureOp.assign rfl) rfl rfl ?_
          refine AWo.nil trivial ?_
          refine AW.ret ?_
          refine thenA_ret ?_
          refine RetQ.gc [_] [] [.tmp 8] (.inl rfl) rfl (.tmp rfl .nil) rfl (.cons rfl rfl .nil) (OutL.flat rfl (flatM flat_vi) (by intro h; exact h.elim id fun h => absurd h.1 (by simp)) (OutL.flat rfl (flatM flat_vi) (by intro h; exact h.elim id fun h => absurd h.1 (by simp)) (OutL.flat rfl (flatM flat_vi) (by intro h; exact h.elim id fun h => absurd h.1 (by simp)) (OutL.flat rfl (flatM flat_vi) (by intro h; exact h.elim id fun h => absurd h.1 (by simp)) trivial)))) (by decide) rfl
        ·
          have hlc : c.length ≤ 16 := by simpa using hb3
          refine AWo.pure (PureOp.pickF rfl rfl) rfl rfl ?_
          refine AWo.pure (PureOp.move rfl) rfl rfl ?_
          refine AWo.pure (PureOp.move rfl) rfl rfl ?_
          refine AWo.callX (right_ctr hmw) bd51 [(0, 0)] [] rfl (.cons rfl .nil) rfl (.cons rfl rfl .nil) (.flat rfl (by first | exact flatM flat_vi | exact flatM flat_bool | (simp [flatV, flat_vi]; done)) (by intro h; first | exact h | rfl) .nil) rfl (.keep rfl .nil) frN (by decide) (.cons rfl rfl .nil) rfl rfl rfl rfl ?_
          first | refine AWo.pureB (PureOp.not rfl) rfl rfl (fun hb4 => ?_) (fun hb4 => ?_)
          ·
            refine AWo.pure (PureOp.pickF rfl rfl) rfl rfl ?_
            refine AWo.nil trivial ?_
            refine AW.condT rfl ?_
            refine AW.seqR ?_
            refine AWo.callX (speaks1_ctr) bd50 [] [] rfl .nil rfl .nil .nil rfl .nil frN (by decide) (.cons rfl rfl .nil) rfl rfl rfl rfl ?_
            refine AWo.pure (PureOp.assign rfl) rfl rfl ?_
            refine AWo.nil trivial ?_
            refine AW.ret ?_
            refine thenA_ret ?_
            refine RetQ.gc [_] [] [.tmp 8] (.inl rfl) rfl (.tmp rfl .nil) rfl (.cons rfl rfl .nil) (OutL.flat rfl (flatM flat_vi) (by intro h; exact h.elim id fun h => absurd h.1 (by simp)) (OutL.flat rfl (flatM flat_vi) (by intro h; exact h.elim id fun h => absurd h.1 (by simp)) (OutL.flat rfl (flatM flat_vi) (by intro h; exact h.elim id fun h => absurd h.1 (by simp)) (OutL.flat rfl (flatM flat_vi) (by intro h; exact h.elim id fun h => absurd h.1 (by simp)) trivial)))) (by decide) rfl
          ·
            have hR : rightB mw = true := by simpa using hb4
            obtain ⟨q1, q2, q3, q4, q5⟩ := rightB_ok hR
            have hN1 := right_gt hmw q1 q4 q5
            have hM : MwOk mw := ⟨hmw, q1, by omega, by omega⟩
            have hiv := ninvR_ok hmw q3
            have hN : 0 < num 18446744073709551616 mw := by omega
            refine AWo.pure (PureOp.pickF rfl rfl) rfl rfl ?_
            refine AWo.nil trivial ?_
            refine AW.condF rfl ?_
            refine AW.skip ?_
            refine thenA_normal ?_
            refine AW.seqR ?_
            refine AWo.pure (PureOp.move rfl) rfl rfl ?_
            refine AWo.callX (lnew_ctr hmw q1 q2 q3 q4 q5) bd52 [(0, 0)] [42000, 42001, 42002] rfl (.cons rfl .nil) rfl (.cons rfl rfl .nil) (.flat rfl (by first | exact flatM flat_vi | exact flatM flat_bool | (simp [flatV, flat_vi]; done)) (by intro h; first | exact h | rfl) .nil) rfl (.keep rfl (.new rfl (OkL.all rfl) (.new (flat_map_ren (flatM flat_vi)) (OkL.flat (flatM flat_vi)) (.new (flat_map_ren (flatM flat_vi)) (OkL.flat (flatM flat_vi)) .nil)))) (frC rfl (frC rfl (frC rfl frN))) (by decide) (.cons rfl rfl (.cons rfl rfl .nil)) rfl rfl rfl rfl ?_
            refine AWo.pure (PureOp.move rfl) rfl rfl ?_
            refine AWo.pure (PureOp.extract rfl rfl) rfl rfl ?_
            refine AWo.pure (PureOp.extract rfl rfl) rfl rfl ?_
            refine AWo.pure (PureOp.assign rfl) rfl rfl ?_
            refine AWo.pure (PureOp.assign rfl) rfl rfl ?_
            refine AWo.nil trivial ?_
            refine AW.seq ?_
            refine AW.seqR ?_
            refine AWo.pure (PureOp.move rfl) rfl rfl ?_
            first | refine AWo.pure ((PureOp.neN (b := 0) rfl rfl).mono (v' := .bool false) (congrArg Value.bool (by rfl))) rfl rfl ?_ | refine AWo.pure ((PureOp.bin rfl rfl rfl).mono (v' := .bool false) (congrArg Value.bool (by rfl))) rfl rfl ?_
            refine AWo.pure (PureOp.move rfl) rfl rfl ?_
            refine AWo.pure (PureOp.move rfl) rfl rfl ?_
            first | refine AWo.pure ((PureOp.ptrEqNil Try.underlying80 rfl).mono (v' := .bool false) (congrArg Value.bool (by rfl))) rfl rfl ?_ | refine AWo.pure ((PureOp.nilEqNil Try.underlying80 rfl rfl).mono (v' := .bool false) (congrArg Value.bool (by rfl))) rfl rfl ?_
            refine AWo.pure (PureOp.pickF rfl rfl) rfl rfl ?_
            refine AWo.nil trivial ?_
            refine AW.condF rfl ?_
            refine AW.skip ?_
            refine thenA_normal ?_
            refine AW.seq ?_
            refine AW.seqR ?_
            refine AWo.pure (PureOp.move rfl) rfl rfl ?_
            refine AWo.pure (PureOp.move rfl) rfl rfl ?_
            refine AWo.pure (PureOp.move rfl) rfl rfl ?_
            refine AWo.callX (madd_ctrV (a := a) (b := b) (xa := num 18446744073709551616 a) (xb := num 18446744073709551616 b) rfl rfl rfl rfl hM ha hb (by omega) (by omega) ) bd58 [(42000, 0), (42001, 0), (42002, 0), (1, 0), (2, 0)] [54000] rfl (.cons rfl (.cons rfl (.cons rfl .nil))) rfl (.cons rfl rfl (.cons rfl rfl (.cons rfl rfl .nil))) (.whole rfl rfl (OkL.all rfl) (by intro h; first | exact h | rfl) (.flat rfl (flatM flat_vi) (by intro h; first | exact h | rfl) (.flat rfl (flatM flat_vi) (by intro h; first | exact h | rfl) (.flat rfl (by first | exact flatM flat_vi | exact flatM flat_bool | (simp [flatV, flat_vi]; done)) (by intro h; first | exact h | rfl) (.flat rfl (by first | exact flatM flat_vi | exact flatM flat_bool | (simp [flatV, flat_vi]; done)) (by intro h; first | exact h | rfl) .nil))))) rfl (.keep rfl (.keep rfl (.keep rfl (.keep rfl (.keep rfl (.new (flat_map_ren (by first | exact flatM flat_vi | exact flatM flat_bool | (simp [flatV, flat_vi]; done))) (OkL.flat (by first | exact flatM flat_vi | exact flatM flat_bool | (simp [flatV, flat_vi]; done))) .nil)))))) (frC rfl frN) (by decide) (.cons rfl rfl .nil) rfl rfl rfl rfl ?_
            refine AWo.pure (PureOp.move rfl) rfl rfl ?_
            refine AWo.pure (PureOp.move rfl) rfl rfl ?_
            refine AWo.pure (PureOp.move rfl) rfl rfl ?_
            refine AWo.callX (madd_ctrV (a := b) (b := a) (xa := num 18446744073709551616 b) (xb := num 18446744073709551616 a) rfl rfl rfl rfl hM hb ha (by omega) (by omega) ) bd58 [(42000, 0), (42001, 0), (42002, 0), (2, 0), (1, 0)] [58000] rfl (.cons rfl (.cons rfl (.cons rfl .nil))) rfl (.cons rfl rfl (.cons rfl rfl (.cons rfl rfl .nil))) (.whole rfl rfl (OkL.all rfl) (by intro h; first | exact h | rfl) (.flat rfl (flatM flat_vi) (by intro h; first | exact h | rfl) (.flat rfl (flatM flat_vi) (by intro h; first | exact h | rfl) (.flat rfl (by first | exact flatM flat_vi | exact flatM flat_bool | (simp [flatV, flat_vi]; done)) (by intro h; first | exact h | rfl) (.flat rfl (by first | exact flatM flat_vi | exact flatM flat_bool | (simp [flatV, flat_vi]; done)) (by intro h; first | exact h | rfl) .nil))))) rfl (.keep rfl (.keep rfl (.keep rfl (.keep rfl (.keep rfl (.new (flat_map_ren (by first | exact flatM flat_vi | exact flatM flat_bool | (simp [flatV, flat_vi]; done))) (OkL.flat (by first | exact flatM flat_vi | exact flatM flat_bool | (simp [flatV, flat_vi]; done))) .nil)))))) (frC rfl frN) (by decide) (.cons rfl rfl .nil) rfl rfl rfl rfl ?_
            refine AWo.callX (v := .bool true) (same_ctrN (a := digs 18446744073709551616 mw.length (((num 18446744073709551616 a % num 18446744073709551616 mw) + (num 18446744073709551616 b % num 18446744073709551616 mw)) % num 18446744073709551616 mw)) (b := digs 18446744073709551616 mw.length (((num 18446744073709551616 b % num 18446744073709551616 mw) + (num 18446744073709551616 a % num 18446744073709551616 mw)) % num 18446744073709551616 mw)) (digs_len _ _) (digs_len _ _) (by rw [digs_len]; omega)) bd53 [(54000, 0), (58000, 0)] [] rfl (.cons rfl (.cons rfl .nil)) rfl (.cons rfl rfl (.cons rfl rfl .nil)) (.flat rfl (by first | exact flatM flat_vi | exact flatM flat_bool | (simp [flatV, flat_vi]; done)) (by intro h; first | exact h | rfl) (.flat rfl (by first | exact flatM flat_vi | exact flatM flat_bool | (simp [flatV, flat_vi]; done)) (by intro h; first | exact h | rfl) .nil)) rfl (.keep rfl (.keep rfl .nil)) frN (by decide) (.cons rfl rfl .nil) (congrArg Value.bool (decide_eq_true (by rw [Nat.add_comm]))) rfl rfl rfl ?_
            refine AWo.pure (PureOp.not rfl) rfl rfl ?_
            refine AWo.pure (PureOp.move rfl) rfl rfl ?_
            refine AWo.pure (PureOp.move rfl) rfl rfl ?_
            refine AWo.pure (PureOp.move rfl) rfl rfl ?_
            refine AWo.pure (PureOp.move rfl) rfl rfl ?_
            refine AWo.callX (mmul_ctrV (a := a) (b := b) (xa := num 18446744073709551616 a) (xb := num 18446744073709551616 b) rfl rfl rfl rfl hM ha hb (by omega) (by omega) hiv) bd59 [(42000, 0), (42001, 0), (42002, 0), (1, 0), (2, 0)] [65000] rfl (.cons rfl (.cons rfl (.cons rfl .nil))) rfl (.cons rfl rfl (.cons rfl rfl (.cons rfl rfl .nil))) (.whole rfl rfl (OkL.all rfl) (by intro h; first | exact h | rfl) (.flat rfl (flatM flat_vi) (by intro h; first | exact h | rfl) (.flat rfl (flatM flat_vi) (by intro h; first | exact h | rfl) (.flat rfl (by first | exact flatM flat_vi | exact flatM flat_bool | (simp [flatV, flat_vi]; done)) (by intro h; first | exact h | rfl) (.flat rfl (by first | exact flatM flat_vi | exact flatM flat_bool | (simp [flatV, flat_vi]; done)) (by intro h; first | exact h | rfl) .nil))))) rfl (.keep rfl (.keep rfl (.keep rfl (.keep rfl (.keep rfl (.new (flat_map_ren (by first | exact flatM flat_vi | exact flatM flat_bool | (simp [flatV, flat_vi]; done))) (OkL.flat (by first | exact flatM flat_vi | exact flatM flat_bool | (simp [flatV, flat_vi]; done))) .nil)))))) (frC rfl frN) (by decide) (.cons rfl rfl .nil) rfl rfl rfl rfl ?_
            refine AWo.pure (PureOp.move rfl) rfl rfl ?_
            refine AWo.pure (PureOp.move rfl) rfl rfl ?_
            refine AWo.pure (PureOp.move rfl) rfl rfl ?_
            refine AWo.callX (mmul_ctrV (a := b) (b := a) (xa := num 18446744073709551616 b) (xb := num 18446744073709551616 a) rfl rfl rfl rfl hM hb ha (by omega) (by omega) hiv) bd59 [(42000, 0), (42001, 0), (42002, 0), (2, 0), (1, 0)] [69000] rfl (.cons rfl (.cons rfl (.cons rfl .nil))) rfl (.cons rfl rfl (.cons rfl rfl (.cons rfl rfl .nil))) (.whole rfl rfl (OkL.all rfl) (by intro h; first | exact h | rfl) (.flat rfl (flatM flat_vi) (by intro h; first | exact h | rfl) (.flat rfl (flatM flat_vi) (by intro h; first | exact h | rfl) (.flat rfl (by first | exact flatM flat_vi | exact flatM flat_bool | (simp [flatV, flat_vi]; done)) (by intro h; first | exact h | rfl) (.flat rfl (by first | exact flatM flat_vi | exact flatM flat_bool | (simp [flatV, flat_vi]; done)) (by intro h; first | exact h | rfl) .nil))))) rfl (.keep rfl (.keep rfl (.keep rfl (.keep rfl (.keep rfl (.new (flat_map_ren (by first | exact flatM flat_vi | exact flatM flat_bool | (simp [flatV, flat_vi]; done))) (OkL.flat (by first | exact flatM flat_vi | exact flatM flat_bool | (simp [flatV, flat_vi]; done))) .nil)))))) (frC rfl frN) (by decide) (.cons rfl rfl .nil) rfl rfl rfl rfl ?_
            refine AWo.callX (v := .bool true) (same_ctrN (a := digs 18446744073709551616 mw.length (num 18446744073709551616 a * num 18446744073709551616 b % num 18446744073709551616 mw)) (b := digs 18446744073709551616 mw.length (num 18446744073709551616 b * num 18446744073709551616 a % num 18446744073709551616 mw)) (digs_len _ _) (digs_len _ _) (by rw [digs_len]; omega)) bd53 [(65000, 0), (69000, 0)] [] rfl (.cons rfl (.cons rfl .nil)) rfl (.cons rfl rfl (.cons rfl rfl .nil)) (.flat rfl (by first | exact flatM flat_vi | exact flatM flat_bool | (simp [flatV, flat_vi]; done)) (by intro h; first | exact h | rfl) (.flat rfl (by first | exact flatM flat_vi | exact flatM flat_bool | (simp [flatV, flat_vi]; done)) (by intro h; first | exact h | rfl) .nil)) rfl (.keep rfl (.keep rfl .nil)) frN (by decide) (.cons rfl rfl .nil) (congrArg Value.bool (decide_eq_true (by rw [Nat.mul_comm]))) rfl rfl rfl ?_
            refine AWo.pure (PureOp.not rfl) rfl rfl ?_
            refine AWo.pure (PureOp.pickF rfl rfl) rfl rfl ?_
            refine AWo.pure (PureOp.move rfl) rfl rfl ?_
            refine AWo.pure (PureOp.move rfl) rfl rfl ?_
            refine AWo.pure (PureOp.move rfl) rfl rfl ?_
            refine AWo.pure (PureOp.move rfl) rfl rfl ?_
            refine AWo.pure (PureOp.move rfl) rfl rfl ?_
            refine AWo.callX (mmul_ctrV (a := a) (b := b) (xa := num 18446744073709551616 a) (xb := num 18446744073709551616 b) rfl rfl rfl rfl hM ha hb (by omega) (by omega) hiv) bd59 [(42000, 0), (42001, 0), (42002, 0), (1, 0), (2, 0)] [78000] rfl (.cons rfl (.cons rfl (.cons rfl .nil))) rfl (.cons rfl rfl (.cons rfl rfl (.cons rfl rfl .nil))) (.whole rfl rfl (OkL.all rfl) (by intro h; first | exact h | rfl) (.flat rfl (flatM flat_vi) (by intro h; first | exact h | rfl) (.flat rfl (flatM flat_vi) (by intro h; first | exact h | rfl) (.flat rfl (by first | exact flatM flat_vi | exact flatM flat_bool | (simp [flatV, flat_vi]; done)) (by intro h; first | exact h | rfl) (.flat rfl (by first | exact flatM flat_vi | exact flatM flat_bool | (simp [flatV, flat_vi]; done)) (by intro h; first | exact h | rfl) .nil))))) rfl (.keep rfl (.keep rfl (.keep rfl (.keep rfl (.keep rfl (.new (flat_map_ren (by first | exact flatM flat_vi | exact flatM flat_bool | (simp [flatV, flat_vi]; done))) (OkL.flat (by first | exact flatM flat_vi | exact flatM flat_bool | (simp [flatV, flat_vi]; done))) .nil)))))) (frC rfl frN) (by decide) (.cons rfl rfl .nil) rfl rfl rfl rfl ?_
            refine AWo.pure (PureOp.move rfl) rfl rfl ?_
            refine AWo.callX (mmul_ctrV (a := digs 18446744073709551616 mw.length (num 18446744073709551616 a * num 18446744073709551616 b % num 18446744073709551616 mw)) (b := c) (xa := num 18446744073709551616 a * num 18446744073709551616 b % num 18446744073709551616 mw) (xb := num 18446744073709551616 c) (digs_len _ _) (dnum hM) rfl rfl hM (digs_bd (by decide) _ _) hc (by rw [digs_len]; omega) (by omega) hiv) bd59 [(42000, 0), (42001, 0), (42002, 0), (78000, 0), (3, 0)] [80000] rfl (.cons rfl (.cons rfl (.cons rfl .nil))) rfl (.cons rfl rfl (.cons rfl rfl (.cons rfl rfl .nil))) (.whole rfl rfl (OkL.all rfl) (by intro h; first | exact h | rfl) (.flat rfl (flatM flat_vi) (by intro h; first | exact h | rfl) (.flat rfl (flatM flat_vi) (by intro h; first | exact h | rfl) (.flat rfl (by first | exact flatM flat_vi | exact flatM flat_bool | (simp [flatV, flat_vi]; done)) (by intro h; first | exact h | rfl) (.flat rfl (by first | exact flatM flat_vi | exact flatM flat_bool | (simp [flatV, flat_vi]; done)) (by intro h; first | exact h | rfl) .nil))))) rfl (.keep rfl (.keep rfl (.keep rfl (.keep rfl (.keep rfl (.new (flat_map_ren (by first | exact flatM flat_vi | exact flatM flat_bool | (simp [flatV, flat_vi]; done))) (OkL.flat (by first | exact flatM flat_vi | exact flatM flat_bool | (simp [flatV, flat_vi]; done))) .nil)))))) (frC rfl frN) (by decide) (.cons rfl rfl .nil) rfl rfl rfl rfl ?_
            refine AWo.pure (PureOp.move rfl) rfl rfl ?_
            refine AWo.pure (PureOp.move rfl) rfl rfl ?_
            refine AWo.pure (PureOp.move rfl) rfl rfl ?_
            refine AWo.pure (PureOp.move rfl) rfl rfl ?_
            refine AWo.pure (PureOp.move rfl) rfl rfl ?_
            refine AWo.callX (mmul_ctrV (a := b) (b := c) (xa := num 18446744073709551616 b) (xb := num 18446744073709551616 c) rfl rfl rfl rfl hM hb hc (by omega) (by omega) hiv) bd59 [(42000, 0), (42001, 0), (42002, 0), (2, 0), (3, 0)] [86000] rfl (.cons rfl (.cons rfl (.cons rfl .nil))) rfl (.cons rfl rfl (.cons rfl rfl (.cons rfl rfl .nil))) (.whole rfl rfl (OkL.all rfl) (by intro h; first | exact h | rfl) (.flat rfl (flatM flat_vi) (by intro h; first | exact h | rfl) (.flat rfl (flatM flat_vi) (by intro h; first | exact h | rfl) (.flat rfl (by first | exact flatM flat_vi | exact flatM flat_bool | (simp [flatV, flat_vi]; done)) (by intro h; first | exact h | rfl) (.flat rfl (by first | exact flatM flat_vi | exact flatM flat_bool | (simp [flatV, flat_vi]; done)) (by intro h; first | exact h | rfl) .nil))))) rfl (.keep rfl (.keep rfl (.keep rfl (.keep rfl (.keep rfl (.new (flat_map_ren (by first | exact flatM flat_vi | exact flatM flat_bool | (simp [flatV, flat_vi]; done))) (OkL.flat (by first | exact flatM flat_vi | exact flatM flat_bool | (simp [flatV, flat_vi]; done))) .nil)))))) (frC rfl frN) (by decide) (.cons rfl rfl .nil) rfl rfl rfl rfl ?_
            refine AWo.callX (mmul_ctrV (a := a) (b := digs 18446744073709551616 mw.length (num 18446744073709551616 b * num 18446744073709551616 c % num 18446744073709551616 mw)) (xa := num 18446744073709551616 a) (xb := num 18446744073709551616 b * num 18446744073709551616 c % num 18446744073709551616 mw) rfl rfl (digs_len _ _) (dnum hM) hM ha (digs_bd (by decide) _ _) (by omega) (by rw [digs_len]; omega) hiv) bd59 [(42000, 0), (42001, 0), (42002, 0), (1, 0), (86000, 0)] [87000] rfl (.cons rfl (.cons rfl (.cons rfl .nil))) rfl (.cons rfl rfl (.cons rfl rfl (.cons rfl rfl .nil))) (.whole rfl rfl (OkL.all rfl) (by intro h; first | exact h | rfl) (.flat rfl (flatM flat_vi) (by intro h; first | exact h | rfl) (.flat rfl (flatM flat_vi) (by intro h; first | exact h | rfl) (.flat rfl (by first | exact flatM flat_vi | exact flatM flat_bool | (simp [flatV, flat_vi]; done)) (by intro h; first | exact h | rfl) (.flat rfl (by first | exact flatM flat_vi | exact flatM flat_bool | (simp [flatV, flat_vi]; done)) (by intro h; first | exact h | rfl) .nil))))) rfl (.keep rfl (.keep rfl (.keep rfl (.keep rfl (.keep rfl (.new (flat_map_ren (by first | exact flatM flat_vi | exact flatM flat_bool | (simp [flatV, flat_vi]; done))) (OkL.flat (by first | exact flatM flat_vi | exact flatM flat_bool | (simp [flatV, flat_vi]; done))) .nil)))))) (frC rfl frN) (by decide) (.cons rfl rfl .nil) rfl rfl rfl rfl ?_
            refine AWo.callX (v := .bool true) (same_ctrN (a := digs 18446744073709551616 mw.length ((num 18446744073709551616 a * num 18446744073709551616 b % num 18446744073709551616 mw) * num 18446744073709551616 c % num 18446744073709551616 mw)) (b := digs 18446744073709551616 mw.length (num 18446744073709551616 a * (num 18446744073709551616 b * num 18446744073709551616 c % num 18446744073709551616 mw) % num 18446744073709551616 mw)) (digs_len _ _) (digs_len _ _) (by rw [digs_len]; omega)) bd53 [(80000, 0), (87000, 0)] [] rfl (.cons rfl (.cons rfl .nil)) rfl (.cons rfl rfl (.cons rfl rfl .nil)) (.flat rfl (by first | exact flatM flat_vi | exact flatM flat_bool | (simp [flatV, flat_vi]; done)) (by intro h; first | exact h | rfl) (.flat rfl (by first | exact flatM flat_vi | exact flatM flat_bool | (simp [flatV, flat_vi]; done)) (by intro h; first | exact h | rfl) .nil)) rfl (.keep rfl (.keep rfl .nil)) frN (by decide) (.cons rfl rfl .nil) (congrArg Value.bool (decide_eq_true (by rw [rg_assoc]))) rfl rfl rfl ?_
            refine AWo.pure (PureOp.not rfl) rfl rfl ?_
            refine AWo.pure (PureOp.pickF rfl rfl) rfl rfl ?_
            refine AWo.nil trivial ?_
            refine AW.condF rfl ?_
            refine AW.skip ?_
            refine thenA_normal ?_
            refine AW.seq ?_
            refine AW.seqR ?_
            refine AWo.pure (PureOp.move rfl) rfl rfl ?_
            refine AWo.pure (PureOp.move rfl) rfl rfl ?_
            refine AWo.pure (PureOp.move rfl) rfl rfl ?_
            refine AWo.pure (PureOp.move rfl) rfl rfl ?_
            refine AWo.pure (PureOp.move rfl) rfl rfl ?_
            refine AWo.callX (madd_ctrV (a := b) (b := c) (xa := num 18446744073709551616 b) (xb := num 18446744073709551616 c) rfl rfl rfl rfl hM hb hc (by omega) (by omega) ) bd58 [(42000, 0), (42001, 0), (42002, 0), (2, 0), (3, 0)] [96000] rfl (.cons rfl (.cons rfl (.cons rfl .nil))) rfl (.cons rfl rfl (.cons rfl rfl (.cons rfl rfl .nil))) (.whole rfl rfl (OkL.all rfl) (by intro h; first | exact h | rfl) (.flat rfl (flatM flat_vi) (by intro h; first | exact h | rfl) (.flat rfl (flatM flat_vi) (by intro h; first | exact h | rfl) (.flat rfl (by first | exact flatM flat_vi | exact flatM flat_bool | (simp [flatV, flat_vi]; done)) (by intro h; first | exact h | rfl) (.flat rfl (by first | exact flatM flat_vi | exact flatM flat_bool | (simp [flatV, flat_vi]; done)) (by intro h; first | exact h | rfl) .nil))))) rfl (.keep rfl (.keep rfl (.keep rfl (.keep rfl (.keep rfl (.new (flat_map_ren (by first | exact flatM flat_vi | exact flatM flat_bool | (simp [flatV, flat_vi]; done))) (OkL.flat (by first | exact flatM flat_vi | exact flatM flat_bool | (simp [flatV, flat_vi]; done))) .nil)))))) (frC rfl frN) (by decide) (.cons rfl rfl .nil) rfl rfl rfl rfl ?_
            refine AWo.callX (mmul_ctrV (a := a) (b := digs 18446744073709551616 mw.length (((num 18446744073709551616 b % num 18446744073709551616 mw) + (num 18446744073709551616 c % num 18446744073709551616 mw)) % num 18446744073709551616 mw)) (xa := num 18446744073709551616 a) (xb := ((num 18446744073709551616 b % num 18446744073709551616 mw) + (num 18446744073709551616 c % num 18446744073709551616 mw)) % num 18446744073709551616 mw) rfl rfl (digs_len _ _) (dnum hM) hM ha (digs_bd (by decide) _ _) (by omega) (by rw [digs_len]; omega) hiv) bd59 [(42000, 0), (42001, 0), (42002, 0), (1, 0), (96000, 0)] [97000] rfl (.cons rfl (.cons rfl (.cons rfl .nil))) rfl (.cons rfl rfl (.cons rfl rfl (.cons rfl rfl .nil))) (.whole rfl rfl (OkL.all rfl) (by intro h; first | exact h | rfl) (.flat rfl (flatM flat_vi) (by intro h; first | exact h | rfl) (.flat rfl (flatM flat_vi) (by intro h; first | exact h | rfl) (.flat rfl (by first | exact flatM flat_vi | exact flatM flat_bool | (simp [flatV, flat_vi]; done)) (by intro h; first | exact h | rfl) (.flat rfl (by first | exact flatM flat_vi | exact flatM flat_bool | (simp [flatV, flat_vi]; done)) (by intro h; first | exact h | rfl) .nil))))) rfl (.keep rfl (.keep rfl (.keep rfl (.keep rfl (.keep rfl (.new (flat_map_ren (by first | exact flatM flat_vi | exact flatM flat_bool | (simp [flatV, flat_vi]; done))) (OkL.flat (by first | exact flatM flat_vi | exact flatM flat_bool | (simp [flatV, flat_vi]; done))) .nil)))))) (frC rfl frN) (by decide) (.cons rfl rfl .nil) rfl rfl rfl rfl ?_
            refine AWo.pure (PureOp.move rfl) rfl rfl ?_
            refine AWo.pure (PureOp.move rfl) rfl rfl ?_
            refine AWo.pure (PureOp.move rfl) rfl rfl ?_
            refine AWo.pure (PureOp.move rfl) rfl rfl ?_
            refine AWo.callX (mmul_ctrV (a := a) (b := b) (xa := num 18446744073709551616 a) (xb := num 18446744073709551616 b) rfl rfl rfl rfl hM ha hb (by omega) (by omega) hiv) bd59 [(42000, 0), (42001, 0), (42002, 0), (1, 0), (2, 0)] [102000] rfl (.cons rfl (.cons rfl (.cons rfl .nil))) rfl (.cons rfl rfl (.cons rfl rfl (.cons rfl rfl .nil))) (.whole rfl rfl (OkL.all rfl) (by intro h; first | exact h | rfl) (.flat rfl (flatM flat_vi) (by intro h; first | exact h | rfl) (.flat rfl (flatM flat_vi) (by intro h; first | exact h | rfl) (.flat rfl (by first | exact flatM flat_vi | exact flatM flat_bool | (simp [flatV, flat_vi]; done)) (by intro h; first | exact h | rfl) (.flat rfl (by first | exact flatM flat_vi | exact flatM flat_bool | (simp [flatV, flat_vi]; done)) (by intro h; first | exact h | rfl) .nil))))) rfl (.keep rfl (.keep rfl (.keep rfl (.keep rfl (.keep rfl (.new (flat_map_ren (by first | exact flatM flat_vi | exact flatM flat_bool | (simp [flatV, flat_vi]; done))) (OkL.flat (by first | exact flatM flat_vi | exact flatM flat_bool | (simp [flatV, flat_vi]; done))) .nil)))))) (frC rfl frN) (by decide) (.cons rfl rfl .nil) rfl rfl rfl rfl ?_
            refine AWo.pure (PureOp.move rfl) rfl rfl ?_
            refine AWo.pure (PureOp.move rfl) rfl rfl ?_
            refine AWo.pure (PureOp.move rfl) rfl rfl ?_
            refine AWo.callX (mmul_ctrV (a := a) (b := c) (xa := num 18446744073709551616 a) (xb := num 18446744073709551616 c) rfl rfl rfl rfl hM ha hc (by omega) (by omega) hiv) bd59 [(42000, 0), (42001, 0), (42002, 0), (1, 0), (3, 0)] [106000] rfl (.cons rfl (.cons rfl (.cons rfl .nil))) rfl (.cons rfl rfl (.cons rfl rfl (.cons rfl rfl .nil))) (.whole rfl rfl (OkL.all rfl) (by intro h; first | exact h | rfl) (.flat rfl (flatM flat_vi) (by intro h; first | exact h | rfl) (.flat rfl (flatM flat_vi) (by intro h; first | exact h | rfl) (.flat rfl (by first | exact flatM flat_vi | exact flatM flat_bool | (simp [flatV, flat_vi]; done)) (by intro h; first | exact h | rfl) (.flat rfl (by first | exact flatM flat_vi | exact flatM flat_bool | (simp [flatV, flat_vi]; done)) (by intro h; first | exact h | rfl) .nil))))) rfl (.keep rfl (.keep rfl (.keep rfl (.keep rfl (.keep rfl (.new (flat_map_ren (by first | exact flatM flat_vi | exact flatM flat_bool | (simp [flatV, flat_vi]; done))) (OkL.flat (by first | exact flatM flat_vi | exact flatM flat_bool | (simp [flatV, flat_vi]; done))) .nil)))))) (frC rfl frN) (by decide) (.cons rfl rfl .nil) rfl rfl rfl rfl ?_
            refine AWo.callX (madd_ctrV (a := digs 18446744073709551616 mw.length (num 18446744073709551616 a * num 18446744073709551616 b % num 18446744073709551616 mw)) (b := digs 18446744073709551616 mw.length (num 18446744073709551616 a * num 18446744073709551616 c % num 18446744073709551616 mw)) (xa := num 18446744073709551616 a * num 18446744073709551616 b % num 18446744073709551616 mw) (xb := num 18446744073709551616 a * num 18446744073709551616 c % num 18446744073709551616 mw) (digs_len _ _) (dnum hM) (digs_len _ _) (dnum hM) hM (digs_bd (by decide) _ _) (digs_bd (by decide) _ _) (by rw [digs_len]; omega) (by rw [digs_len]; omega) ) bd58 [(42000, 0), (42001, 0), (42002, 0), (102000, 0), (106000, 0)] [107000] rfl (.cons rfl (.cons rfl (.cons rfl .nil))) rfl (.cons rfl rfl (.cons rfl rfl (.cons rfl rfl .nil))) (.whole rfl rfl (OkL.all rfl) (by intro h; first | exact h | rfl) (.flat rfl (flatM flat_vi) (by intro h; first | exact h | rfl) (.flat rfl (flatM flat_vi) (by intro h; first | exact h | rfl) (.flat rfl (by first | exact flatM flat_vi | exact flatM flat_bool | (simp [flatV, flat_vi]; done)) (by intro h; first | exact h | rfl) (.flat rfl (by first | exact flatM flat_vi | exact flatM flat_bool | (simp [flatV, flat_vi]; done)) (by intro h; first | exact h | rfl) .nil))))) rfl (.keep rfl (.keep rfl (.keep rfl (.keep rfl (.keep rfl (.new (flat_map_ren (by first | exact flatM flat_vi | exact flatM flat_bool | (simp [flatV, flat_vi]; done))) (OkL.flat (by first | exact flatM flat_vi | exact flatM flat_bool | (simp [flatV, flat_vi]; done))) .nil)))))) (frC rfl frN) (by decide) (.cons rfl rfl .nil) rfl rfl rfl rfl ?_
            refine AWo.callX (v := .bool true) (same_ctrN (a := digs 18446744073709551616 mw.length (num 18446744073709551616 a * (((num 18446744073709551616 b % num 18446744073709551616 mw) + (num 18446744073709551616 c % num 18446744073709551616 mw)) % num 18446744073709551616 mw) % num 18446744073709551616 mw)) (b := digs 18446744073709551616 mw.length ((((num 18446744073709551616 a * num 18446744073709551616 b % num 18446744073709551616 mw) % num 18446744073709551616 mw) + ((num 18446744073709551616 a * num 18446744073709551616 c % num 18446744073709551616 mw) % num 18446744073709551616 mw)) % num 18446744073709551616 mw)) (digs_len _ _) (digs_len _ _) (by rw [digs_len]; omega)) bd53 [(97000, 0), (107000, 0)] [] rfl (.cons rfl (.cons rfl .nil)) rfl (.cons rfl rfl (.cons rfl rfl .nil)) (.flat rfl (by first | exact flatM flat_vi | exact flatM flat_bool | (simp [flatV, flat_vi]; done)) (by intro h; first | exact h | rfl) (.flat rfl (by first | exact flatM flat_vi | exact flatM flat_bool | (simp [flatV, flat_vi]; done)) (by intro h; first | exact h | rfl) .nil)) rfl (.keep rfl (.keep rfl .nil)) frN (by decide) (.cons rfl rfl .nil) (congrArg Value.bool (decide_eq_true (by rw [rg_dist]))) rfl rfl rfl ?_
            refine AWo.pure (PureOp.not rfl) rfl rfl ?_
            refine AWo.pure (PureOp.move rfl) rfl rfl ?_
            refine AWo.pure (PureOp.move rfl) rfl rfl ?_
            refine AWo.pure (PureOp.move rfl) rfl rfl ?_
            refine AWo.pure (PureOp.move rfl) rfl rfl ?_
            refine AWo.pure (PureOp.move rfl) rfl rfl ?_
            refine AWo.callX (msub_ctrV (a := a) (b := b) (xa := num 18446744073709551616 a) (xb := num 18446744073709551616 b) rfl rfl rfl rfl hM ha hb (by omega) (by omega) ) bd60 [(42000, 0), (42001, 0), (42002, 0), (1, 0), (2, 0)] [115000] rfl (.cons rfl (.cons rfl (.cons rfl .nil))) rfl (.cons rfl rfl (.cons rfl rfl (.cons rfl rfl .nil))) (.whole rfl rfl (OkL.all rfl) (by intro h; first | exact h | rfl) (.flat rfl (flatM flat_vi) (by intro h; first | exact h | rfl) (.flat rfl (flatM flat_vi) (by intro h; first | exact h | rfl) (.flat rfl (by first | exact flatM flat_vi | exact flatM flat_bool | (simp [flatV, flat_vi]; done)) (by intro h; first | exact h | rfl) (.flat rfl (by first | exact flatM flat_vi | exact flatM flat_bool | (simp [flatV, flat_vi]; done)) (by intro h; first | exact h | rfl) .nil))))) rfl (.keep rfl (.keep rfl (.keep rfl (.keep rfl (.keep rfl (.new (flat_map_ren (by first | exact flatM flat_vi | exact flatM flat_bool | (simp [flatV, flat_vi]; done))) (OkL.flat (by first | exact flatM flat_vi | exact flatM flat_bool | (simp [flatV, flat_vi]; done))) .nil)))))) (frC rfl frN) (by decide) (.cons rfl rfl .nil) rfl rfl rfl rfl ?_
            refine AWo.pure (PureOp.move rfl) rfl rfl ?_
            refine AWo.callX (madd_ctrV (a := digs 18446744073709551616 mw.length (((num 18446744073709551616 a % num 18446744073709551616 mw) + (num 18446744073709551616 mw - (num 18446744073709551616 b % num 18446744073709551616 mw))) % num 18446744073709551616 mw)) (b := b) (xa := ((num 18446744073709551616 a % num 18446744073709551616 mw) + (num 18446744073709551616 mw - (num 18446744073709551616 b % num 18446744073709551616 mw))) % num 18446744073709551616 mw) (xb := num 18446744073709551616 b) (digs_len _ _) (dnum hM) rfl rfl hM (digs_bd (by decide) _ _) hb (by rw [digs_len]; omega) (by omega) ) bd58 [(42000, 0), (42001, 0), (42002, 0), (115000, 0), (2, 0)] [117000] rfl (.cons rfl (.cons rfl (.cons rfl .nil))) rfl (.cons rfl rfl (.cons rfl rfl (.cons rfl rfl .nil))) (.whole rfl rfl (OkL.all rfl) (by intro h; first | exact h | rfl) (.flat rfl (flatM flat_vi) (by intro h; first | exact h | rfl) (.flat rfl (flatM flat_vi) (by intro h; first | exact h | rfl) (.flat rfl (by first | exact flatM flat_vi | exact flatM flat_bool | (simp [flatV, flat_vi]; done)) (by intro h; first | exact h | rfl) (.flat rfl (by first | exact flatM flat_vi | exact flatM flat_bool | (simp [flatV, flat_vi]; done)) (by intro h; first | exact h | rfl) .nil))))) rfl (.keep rfl (.keep rfl (.keep rfl (.keep rfl (.keep rfl (.new (flat_map_ren (by first | exact flatM flat_vi | exact flatM flat_bool | (simp [flatV, flat_vi]; done))) (OkL.flat (by first | exact flatM flat_vi | exact flatM flat_bool | (simp [flatV, flat_vi]; done))) .nil)))))) (frC rfl frN) (by decide) (.cons rfl rfl .nil) rfl rfl rfl rfl ?_
            refine AWo.pure (PureOp.move rfl) rfl rfl ?_
            refine AWo.pure (PureOp.move rfl) rfl rfl ?_
            refine AWo.callX (reduce_ctrV (a := a) (xa := num 18446744073709551616 a) rfl rfl hM ha (by omega) ) bd61 [(42000, 0), (42001, 0), (42002, 0), (1, 0)] [120000] rfl (.cons rfl (.cons rfl .nil)) rfl (.cons rfl rfl (.cons rfl rfl .nil)) (.whole rfl rfl (OkL.all rfl) (by intro h; first | exact h | rfl) (.flat rfl (flatM flat_vi) (by intro h; first | exact h | rfl) (.flat rfl (flatM flat_vi) (by intro h; first | exact h | rfl) (.flat rfl (by first | exact flatM flat_vi | exact flatM flat_bool | (simp [flatV, flat_vi]; done)) (by intro h; first | exact h | rfl) .nil)))) rfl (.keep rfl (.keep rfl (.keep rfl (.keep rfl (.new (flat_map_ren (by first | exact flatM flat_vi | exact flatM flat_bool | (simp [flatV, flat_vi]; done))) (OkL.flat (by first | exact flatM flat_vi | exact flatM flat_bool | (simp [flatV, flat_vi]; done))) .nil))))) (frC rfl frN) (by decide) (.cons rfl rfl .nil) rfl rfl rfl rfl ?_
            refine AWo.callX (v := .bool true) (same_ctrN (a := digs 18446744073709551616 mw.length ((((((num 18446744073709551616 a % num 18446744073709551616 mw) + (num 18446744073709551616 mw - (num 18446744073709551616 b % num 18446744073709551616 mw))) % num 18446744073709551616 mw) % num 18446744073709551616 mw) + (num 18446744073709551616 b % num 18446744073709551616 mw)) % num 18446744073709551616 mw)) (b := digs 18446744073709551616 mw.length (num 18446744073709551616 a % num 18446744073709551616 mw)) (digs_len _ _) (digs_len _ _) (by rw [digs_len]; omega)) bd53 [(117000, 0), (120000, 0)] [] rfl (.cons rfl (.cons rfl .nil)) rfl (.cons rfl rfl (.cons rfl rfl .nil)) (.flat rfl (by first | exact flatM flat_vi | exact flatM flat_bool | (simp [flatV, flat_vi]; done)) (by intro h; first | exact h | rfl) (.flat rfl (by first | exact flatM flat_vi | exact flatM flat_bool | (simp [flatV, flat_vi]; done)) (by intro h; first | exact h | rfl) .nil)) rfl (.keep rfl (.keep rfl .nil)) frN (by decide) (.cons rfl rfl .nil) (congrArg Value.bool (decide_eq_true (by rw [rg_back hN]))) rfl rfl rfl ?_
            refine AWo.pure (PureOp.not rfl) rfl rfl ?_
            refine AWo.pure (PureOp.pickF rfl rfl) rfl rfl ?_
            refine AWo.nil trivial ?_
            refine AW.condF rfl ?_
            refine AW.skip ?_
            refine thenA_normal ?_
            refine AW.ghost 99000 1 rfl ?_
            refine AW.seqR ?_
            refine AWo.pure (PureOp.move rfl) rfl rfl ?_
            refine AWo.pure (PureOp.move rfl) rfl rfl ?_
            refine AWo.buildSlice tbok 126000 [(0, vi .u64 3)] (out := [vi .u64 3]) rfl rfl (by decide) rfl rfl rfl (by decide) rfl rfl rfl rfl rfl ?_
            refine AWo.callX (mexp_ctrV (a := a) (b := [3]) (xa := num 18446744073709551616 a) (xb := 3) rfl rfl rfl rfl hM ha (bd_lits (by decide)) (by omega) (by decide) hiv hN1) bd54 [(42000, 0), (42001, 0), (42002, 0), (1, 0), (126000, 0)] [127000] rfl (.cons rfl (.cons rfl (.cons rfl .nil))) rfl (.cons rfl rfl (.cons rfl rfl (.cons rfl rfl .nil))) (.whole rfl rfl (OkL.all rfl) (by intro h; first | exact h | rfl) (.flat rfl (flatM flat_vi) (by intro h; first | exact h | rfl) (.flat rfl (flatM flat_vi) (by intro h; first | exact h | rfl) (.flat rfl (by first | exact flatM flat_vi | exact flatM flat_bool | (simp [flatV, flat_vi]; done)) (by intro h; first | exact h | rfl) (.flat rfl (by first | exact flatM flat_vi | exact flatM flat_bool | (simp [flatV, flat_vi]; done)) (by intro h; first | exact h | rfl) .nil))))) rfl (.keep rfl (.keep rfl (.keep rfl (.keep rfl (.keep rfl (.new (flat_map_ren (by first | exact flatM flat_vi | exact flatM flat_bool | (simp [flatV, flat_vi]; done))) (OkL.flat (by first | exact flatM flat_vi | exact flatM flat_bool | (simp [flatV, flat_vi]; done))) .nil)))))) (frC rfl frN) (by decide) (.cons rfl rfl .nil) rfl rfl rfl rfl ?_
            refine AWo.pure (PureOp.move rfl) rfl rfl ?_
            refine AWo.pure (PureOp.move rfl) rfl rfl ?_
            refine AWo.pure (PureOp.move rfl) rfl rfl ?_
            refine AWo.pure (PureOp.move rfl) rfl rfl ?_
            refine AWo.pure (PureOp.move rfl) rfl rfl ?_
            refine AWo.callX (mmul_ctrV (a := a) (b := a) (xa := num 18446744073709551616 a) (xb := num 18446744073709551616 a) rfl rfl rfl rfl hM ha ha (by omega) (by omega) hiv) bd59 [(42000, 0), (42001, 0), (42002, 0), (1, 0), (1, 0)] [133000] rfl (.cons rfl (.cons rfl (.cons rfl .nil))) rfl (.cons rfl rfl (.cons rfl rfl (.cons rfl rfl .nil))) (.whole rfl rfl (OkL.all rfl) (by intro h; first | exact h | rfl) (.flat rfl (flatM flat_vi) (by intro h; first | exact h | rfl) (.flat rfl (flatM flat_vi) (by intro h; first | exact h | rfl) (.flat rfl (by first | exact flatM flat_vi | exact flatM flat_bool | (simp [flatV, flat_vi]; done)) (by intro h; first | exact h | rfl) (.flat rfl (by first | exact flatM flat_vi | exact flatM flat_bool | (simp [flatV, flat_vi]; done)) (by intro h; first | exact h | rfl) .nil))))) rfl (.keep rfl (.keep rfl (.keep rfl (.keep rfl (.keep rfl (.new (flat_map_ren (by first | exact flatM flat_vi | exact flatM flat_bool | (simp [flatV, flat_vi]; done))) (OkL.flat (by first | exact flatM flat_vi | exact flatM flat_bool | (simp [flatV, flat_vi]; done))) .nil)))))) (frC rfl frN) (by decide) (.cons rfl rfl .nil) rfl rfl rfl rfl ?_
            refine AWo.callX (mmul_ctrV (a := a) (b := digs 18446744073709551616 mw.length (num 18446744073709551616 a * num 18446744073709551616 a % num 18446744073709551616 mw)) (xa := num 18446744073709551616 a) (xb := num 18446744073709551616 a * num 18446744073709551616 a % num 18446744073709551616 mw) rfl rfl (digs_len _ _) (dnum hM) hM ha (digs_bd (by decide) _ _) (by omega) (by rw [digs_len]; omega) hiv) bd59 [(42000, 0), (42001, 0), (42002, 0), (1, 0), (133000, 0)] [134000] rfl (.cons rfl (.cons rfl (.cons rfl .nil))) rfl (.cons rfl rfl (.cons rfl rfl (.cons rfl rfl .nil))) (.whole rfl rfl (OkL.all rfl) (by intro h; first | exact h | rfl) (.flat rfl (flatM flat_vi) (by intro h; first | exact h | rfl) (.flat rfl (flatM flat_vi) (by intro h; first | exact h | rfl) (.flat rfl (by first | exact flatM flat_vi | exact flatM flat_bool | (simp [flatV, flat_vi]; done)) (by intro h; first | exact h | rfl) (.flat rfl (by first | exact flatM flat_vi | exact flatM flat_bool | (simp [flatV, flat_vi]; done)) (by intro h; first | exact h | rfl) .nil))))) rfl (.keep rfl (.keep rfl (.keep rfl (.keep rfl (.keep rfl (.new (flat_map_ren (by first | exact flatM flat_vi | exact flatM flat_bool | (simp [flatV, flat_vi]; done))) (OkL.flat (by first | exact flatM flat_vi | exact flatM flat_bool | (simp [flatV, flat_vi]; done))) .nil)))))) (frC rfl frN) (by decide) (.cons rfl rfl .nil) rfl rfl rfl rfl ?_
            refine AWo.callX (v := .bool true) (same_ctrN (a := digs 18446744073709551616 mw.length (num 18446744073709551616 a ^ 3 % num 18446744073709551616 mw)) (b := digs 18446744073709551616 mw.length (num 18446744073709551616 a * (num 18446744073709551616 a * num 18446744073709551616 a % num 18446744073709551616 mw) % num 18446744073709551616 mw)) (digs_len _ _) (digs_len _ _) (by rw [digs_len]; omega)) bd53 [(127000, 0), (134000, 0)] [] rfl (.cons rfl (.cons rfl .nil)) rfl (.cons rfl rfl (.cons rfl rfl .nil)) (.flat rfl (by first | exact flatM flat_vi | exact flatM flat_bool | (simp [flatV, flat_vi]; done)) (by intro h; first | exact h | rfl) (.flat rfl (by first | exact flatM flat_vi | exact flatM flat_bool | (simp [flatV, flat_vi]; done)) (by intro h; first | exact h | rfl) .nil)) rfl (.keep rfl (.keep rfl .nil)) frN (by decide) (.cons rfl rfl .nil) (congrArg Value.bool (decide_eq_true (by rw [rg_cube]))) rfl rfl rfl ?_
            refine AWo.pure (PureOp.move rfl) rfl rfl ?_
            refine AWo.pure (PureOp.move rfl) rfl rfl ?_
            refine AWo.pure (PureOp.move rfl) rfl rfl ?_
            refine AWo.callX (mexp_ctrV (a := a) (b := []) (xa := num 18446744073709551616 a) (xb := 0) rfl rfl rfl rfl hM ha bd_nil (by omega) (by decide) hiv hN1) bd54 [(42000, 0), (42001, 0), (42002, 0), (1, 0), (99000, 0)] [139000] rfl (.cons rfl (.cons rfl (.cons rfl .nil))) rfl (.cons rfl rfl (.cons rfl rfl (.nilS .nil))) (.whole rfl rfl (OkL.all rfl) (by intro h; first | exact h | rfl) (.flat rfl (flatM flat_vi) (by intro h; first | exact h | rfl) (.flat rfl (flatM flat_vi) (by intro h; first | exact h | rfl) (.flat rfl (by first | exact flatM flat_vi | exact flatM flat_bool | (simp [flatV, flat_vi]; done)) (by intro h; first | exact h | rfl) (.flat rfl (by first | exact flatM flat_vi | exact flatM flat_bool | (simp [flatV, flat_vi]; done)) (by intro h; first | exact h | rfl) .nil))))) rfl (.keep rfl (.keep rfl (.keep rfl (.keep rfl (.keep rfl (.new (flat_map_ren (by first | exact flatM flat_vi | exact flatM flat_bool | (simp [flatV, flat_vi]; done))) (OkL.flat (by first | exact flatM flat_vi | exact flatM flat_bool | (simp [flatV, flat_vi]; done))) .nil)))))) (frC rfl frN) (by decide) (.cons rfl rfl .nil) rfl rfl rfl rfl ?_
            refine AWo.pure (PureOp.move rfl) rfl rfl ?_
            refine AWo.buildSlice tbok 141000 [(0, vi .u64 1)] (out := [vi .u64 1]) rfl rfl (by decide) rfl rfl rfl (by decide) rfl rfl rfl rfl rfl ?_
            refine AWo.callX (reduce_ctrV (a := [1]) (xa := 1) rfl rfl hM (bd_lits (by decide)) (by decide) ) bd61 [(42000, 0), (42001, 0), (42002, 0), (141000, 0)] [142000] rfl (.cons rfl (.cons rfl .nil)) rfl (.cons rfl rfl (.cons rfl rfl .nil)) (.whole rfl rfl (OkL.all rfl) (by intro h; first | exact h | rfl) (.flat rfl (flatM flat_vi) (by intro h; first | exact h | rfl) (.flat rfl (flatM flat_vi) (by intro h; first | exact h | rfl) (.flat rfl (by first | exact flatM flat_vi | exact flatM flat_bool | (simp [flatV, flat_vi]; done)) (by intro h; first | exact h | rfl) .nil)))) rfl (.keep rfl (.keep rfl (.keep rfl (.keep rfl (.new (flat_map_ren (by first | exact flatM flat_vi | exact flatM flat_bool | (simp [flatV, flat_vi]; done))) (OkL.flat (by first | exact flatM flat_vi | exact flatM flat_bool | (simp [flatV, flat_vi]; done))) .nil))))) (frC rfl frN) (by decide) (.cons rfl rfl .nil) rfl rfl rfl rfl ?_
            refine AWo.callX (v := .bool true) (same_ctrN (a := digs 18446744073709551616 mw.length (num 18446744073709551616 a ^ 0 % num 18446744073709551616 mw)) (b := digs 18446744073709551616 mw.length (1 % num 18446744073709551616 mw)) (digs_len _ _) (digs_len _ _) (by rw [digs_len]; omega)) bd53 [(139000, 0), (142000, 0)] [] rfl (.cons rfl (.cons rfl .nil)) rfl (.cons rfl rfl (.cons rfl rfl .nil)) (.flat rfl (by first | exact flatM flat_vi | exact flatM flat_bool | (simp [flatV, flat_vi]; done)) (by intro h; first | exact h | rfl) (.flat rfl (by first | exact flatM flat_vi | exact flatM flat_bool | (simp [flatV, flat_vi]; done)) (by intro h; first | exact h | rfl) .nil)) rfl (.keep rfl (.keep rfl .nil)) frN (by decide) (.cons rfl rfl .nil) (congrArg Value.bool (decide_eq_true (by rw [Nat.pow_zero]))) rfl rfl rfl ?_
            refine AWo.pure (PureOp.pickT rfl rfl) rfl rfl ?_
            refine AWo.pure (PureOp.move rfl) rfl rfl ?_
            refine AWo.pure (PureOp.move rfl) rfl rfl ?_
            refine AWo.pure (PureOp.move rfl) rfl rfl ?_
            refine AWo.pure (PureOp.move rfl) rfl rfl ?_
            refine AWo.callX (mmul_ctrV (a := a) (b := c) (xa := num 18446744073709551616 a) (xb := num 18446744073709551616 c) rfl rfl rfl rfl hM ha hc (by omega) (by omega) hiv) bd59 [(42000, 0), (42001, 0), (42002, 0), (1, 0), (3, 0)] [149000] rfl (.cons rfl (.cons rfl (.cons rfl .nil))) rfl (.cons rfl rfl (.cons rfl rfl (.cons rfl rfl .nil))) (.whole rfl rfl (OkL.all rfl) (by intro h; first | exact h | rfl) (.flat rfl (flatM flat_vi) (by intro h; first | exact h | rfl) (.flat rfl (flatM flat_vi) (by intro h; first | exact h | rfl) (.flat rfl (by first | exact flatM flat_vi | exact flatM flat_bool | (simp [flatV, flat_vi]; done)) (by intro h; first | exact h | rfl) (.flat rfl (by first | exact flatM flat_vi | exact flatM flat_bool | (simp [flatV, flat_vi]; done)) (by intro h; first | exact h | rfl) .nil))))) rfl (.keep rfl (.keep rfl (.keep rfl (.keep rfl (.keep rfl (.new (flat_map_ren (by first | exact flatM flat_vi | exact flatM flat_bool | (simp [flatV, flat_vi]; done))) (OkL.flat (by first | exact flatM flat_vi | exact flatM flat_bool | (simp [flatV, flat_vi]; done))) .nil)))))) (frC rfl frN) (by decide) (.cons rfl rfl .nil) rfl rfl rfl rfl ?_
            refine AWo.pure (PureOp.move rfl) rfl rfl ?_
            refine AWo.callX (lcmp_ctrV (a := digs 18446744073709551616 mw.length (num 18446744073709551616 a * num 18446744073709551616 c % num 18446744073709551616 mw)) (b := mw) (xa := num 18446744073709551616 a * num 18446744073709551616 c % num 18446744073709551616 mw) (xb := num 18446744073709551616 mw) (digs_len _ _) (dnum hM) rfl rfl (digs_bd (by decide) _ _) hmw (by rw [digs_len]; omega) (by omega) ) bd62 [(149000, 0), (0, 0)] [] rfl (.cons rfl (.cons rfl .nil)) rfl (.cons rfl rfl (.cons rfl rfl .nil)) (.flat rfl (by first | exact flatM flat_vi | exact flatM flat_bool | (simp [flatV, flat_vi]; done)) (by intro h; first | exact h | rfl) (.flat rfl (by first | exact flatM flat_vi | exact flatM flat_bool | (simp [flatV, flat_vi]; done)) (by intro h; first | exact h | rfl) .nil)) rfl (.keep rfl (.keep rfl .nil)) frN (by decide) (.cons rfl rfl .nil) rfl rfl rfl rfl ?_
            first | refine AWo.pure ((PureOp.ltN (b := 0) rfl rfl).mono (v' := .bool true) (congrArg Value.bool (decide_eq_true (cmp_less (Nat.mod_lt _ hN))))) rfl rfl ?_ | refine AWo.pure ((PureOp.bin rfl rfl rfl).mono (v' := .bool true) (congrArg Value.bool (decide_eq_true (cmp_less (Nat.mod_lt _ hN))))) rfl rfl ?_
            refine AWo.pure (PureOp.pickT rfl rfl) rfl rfl ?_
            refine AWo.pure (PureOp.assign rfl) rfl rfl ?_
            refine AWo.nil trivial ?_
            refine AW.ret ?_
            refine RetQ.gc [_] [] [.tmp 8] (.inl rfl) rfl (.tmp rfl .nil) rfl (.cons rfl rfl .nil) (OutL.flat rfl (flatM flat_vi) (by intro h; exact h.elim id fun h => absurd h.1 (by simp)) (OutL.flat rfl (flatM flat_vi) (by intro h; exact h.elim id fun h => absurd h.1 (by simp)) (OutL.flat rfl (flatM flat_vi) (by intro h; exact h.elim id fun h => absurd h.1 (by simp)) (OutL.flat rfl (flatM flat_vi) (by intro h; exact h.elim id fun h => absurd h.1 (by simp)) trivial)))) (by decide) rfl

set_option maxRecDepth 10000 in
theorem multiples_ctr {mw a k : List Nat} (hmw : bd 18446744073709551616 mw) (ha : bd 18446744073709551616 a) (hk : bd 18446744073709551616 k) : GC Try.prog 13 [.slice (some ⟨0, 0, none⟩) mw.length 0, .slice (some ⟨1, 0, none⟩) a.length 0, .slice (some ⟨2, 0, none⟩) k.length 0] [⟨mw.map (vi .u64), false, 1⟩, ⟨a.map (vi .u64), false, 1⟩, ⟨k.map (vi .u64), false, 1⟩] [.bool true] [⟨mw.map (vi .u64), false, 1⟩, ⟨a.map (vi .u64), false, 1⟩, ⟨k.map (vi .u64), false, 1⟩] := by
  refine GC.intro Try.func13 rfl (by show 3 ≤ 116; decide) (by first | exact Nat.le_refl _ | decide | simp) ?_
  refine AW.seqR ?_
  refine AWo.pure (PureOp.assign rfl) rfl rfl ?_
  refine AWo.nil trivial ?_
  refine AW.seq ?_
  refine AW.seqR ?_
  refine AWo.callX (speaks1_ctr) bd50 [] [] rfl .nil rfl .nil .nil rfl .nil frN (by decide) (.cons rfl rfl .nil) rfl rfl rfl rfl ?_
  first | refine AWo.pure ((PureOp.not rfl).mono (v' := .bool false) (congrArg Value.bool (by rfl))) rfl rfl ?_
  refine AWo.pure (PureOp.move rfl) rfl rfl ?_
  refine AWo.pure (PureOp.move rfl) rfl rfl ?_
  refine AWo.pure (PureOp.lenS tbok rfl rfl) rfl rfl ?_
  first | refine AWo.pureB (PureOp.gtN (b := 16) rfl rfl) rfl rfl (fun hb0 => ?_) (fun hb0 => ?_) | refine AWo.pureB (PureOp.bin rfl rfl rfl) rfl rfl (fun hb0 => ?_) (fun hb0 => ?_)
  ·
    refine AWo.pure (PureOp.pickF rfl rfl) rfl rfl ?_
    refine AWo.pure (PureOp.move rfl) rfl rfl ?_
    refine AWo.skipped rfl rfl ?_
    refine AWo.skipped rfl rfl ?_
    refine AWo.skipped rfl rfl ?_
    refine AWo.pure (PureOp.pickT rfl rfl) rfl rfl ?_
    refine AWo.pure (PureOp.move rfl) rfl rfl ?_
    refine AWo.skipped rfl rfl ?_
    refine AWo.skipped rfl rfl ?_
    refine AWo.skipped rfl rfl ?_
    refine AWo.pure (PureOp.pickT rfl rfl) rfl rfl ?_
    refine AWo.pure (PureOp.move rfl) rfl rfl ?_
    refine AWo.skipped rfl rfl ?_
    refine AWo.skipped rfl rfl ?_
    refine AWo.skipped rfl rfl ?_
    refine AWo.pure (PureOp.pickT rfl rfl) rfl rfl ?_
    refine AWo.nil trivial ?_
    refine AW.condT rfl ?_
    refine AW.seqR ?_
    refine AWo.callX (speaks1_ctr) bd50 [] [] rfl .nil rfl .nil .nil rfl .nil frN (by decide) (.cons rfl rfl .nil) rfl rfl rfl rfl ?_
    refine AWo.pure (PureOp.assign rfl) rfl rfl ?_
    refine AWo.nil trivial ?_
    refine AW.ret ?_
    refine thenA_ret ?_
    refine RetQ.gc [_] [] [.tmp 6] (.inl rfl) rfl (.tmp rfl .nil) rfl (.cons rfl rfl .nil) (OutL.flat rfl (flatM flat_vi) (by intro h; exact h.elim id fun h => absurd h.1 (by simp)) (OutL.flat rfl (flatM flat_vi) (by intro h; exact h.elim id fun h => absurd h.1 (by simp)) (OutL.flat rfl (flatM flat_vi) (by intro h; exact h.elim id fun h => absurd h.1 (by simp)) trivial))) (by decide) rfl
  ·
    have hlmw : mw.length ≤ 16 := by simpa using hb0
    refine AWo.pure (PureOp.pickF rfl rfl) rfl rfl ?_
    refine AWo.pure (PureOp.move rfl) rfl rfl ?_
    refine AWo.pure (PureOp.move rfl) rfl rfl ?_
    refine AWo.pure (PureOp.lenS tbok rfl rfl) rfl rfl ?_
    first | refine AWo.pureB (PureOp.gtN (b := 16) rfl rfl) rfl rfl (fun hb1 => ?_) (fun hb1 => ?_) | refine AWo.pureB (PureOp.bin rfl rfl rfl) rfl rfl (fun hb1 => ?_) (fun hb1 => ?_)
    ·
      refine AWo.pure (PureOp.pickF rfl rfl) rfl rfl ?_
      refine AWo.pure (PureOp.move rfl) rfl rfl ?_
      refine AWo.skipped rfl rfl ?_
      refine AWo.skipped rfl rfl ?_
      refine AWo.skipped rfl rfl ?_
      refine AWo.pure (PureOp.pickT rfl rfl) rfl rfl ?_
      refine AWo.pure (PureOp.move rfl) rfl rfl ?_
      refine AWo.skipped rfl rfl ?_
      refine AWo.skipped rfl rfl ?_
      refine AWo.skipped rfl rfl ?_
      refine AWo.pure (PureOp.pickT rfl rfl) rfl rfl ?_
      refine AWo.nil trivial ?_
      refine AW.condT rfl ?_
      refine AW.seqR ?_
      refine AWo.callX (speaks1_ctr) bd50 [] [] rfl .nil rfl .nil .nil rfl .nil frN (by decide) (.cons rfl rfl .nil) rfl rfl rfl rfl ?_
      refine AWo.pure (PureOp.assign rfl) rfl rfl ?_
      refine AWo.nil trivial ?_
      refine AW.ret ?_
      refine thenA_ret ?_
      refine RetQ.gc [_] [] [.tmp 6] (.inl rfl) rfl (.tmp rfl .nil) rfl (.cons rfl rfl .nil) (OutL.flat rfl (flatM flat_vi) (by intro h; exact h.elim id fun h => absurd h.1 (by simp)) (OutL.flat rfl (flatM flat_vi) (by intro h; exact h.elim id fun h => absurd h.1 (by simp)) (OutL.flat rfl (flatM flat_vi) (by intro h; exact h.elim id fun h => absurd h.1 (by simp)) trivial))) (by decide) rfl
    ·
      have hla : a.length ≤ 16 := by simpa using hb1
      refine AWo.pure (PureOp.pickF rfl rfl) rfl rfl ?_
      refine AWo.pure (PureOp.move rfl) rfl rfl ?_
      refine AWo.pure (PureOp.move rfl) rfl rfl ?_
      refine AWo.pure (PureOp.lenS tbok rfl rfl) rfl rfl ?_
      first | refine AWo.pureB (PureOp.gtN (b := 16) rfl rfl) rfl rfl (fun hb2 => ?_) (fun hb2 => ?_) | refine AWo.pureB (PureOp.bin rfl rfl rfl) rfl rfl (fun hb2 => ?_) (fun hb2 => ?_)
      ·
        refine AWo.pure (PureOp.pickF rfl rfl) rfl rfl ?_
        refine AWo.pure (PureOp.move rfl) rfl rfl ?_
        refine AWo.skipped rfl rfl ?_
        refine AWo.skipped rfl rfl ?_
        refine AWo.skipped rfl rfl ?_
        refine AWo.pure (PureOp.pickT rfl rfl) rfl rfl ?_
        refine AWo.nil trivial ?_
        refine AW.condT rfl ?_
        refine AW.seqR ?_
        refine AWo.callX (speaks1_ctr) bd50 [] [] rfl .nil rfl .nil .nil rfl .nil frN (by decide) (.cons rfl rfl .nil) rfl rfl rfl rfl ?_
        refine AWo.pure (PureOp.assign rfl) rfl rfl ?_
        refine AWo.nil trivial ?_
        refine AW.ret ?_
        refine thenA_ret ?_
        refine RetQ.gc [_] [] [.tmp 6] (.inl rfl) rfl (.tmp rfl .nil) rfl (.cons rfl rfl .nil) (OutL.flat rfl (flatM flat_vi) (by intro h; exact h.elim id fun h => absurd h.1 (by simp)) (OutL.flat rfl (flatM flat_vi) (by intro h; exact h.elim id fun h => absurd h.1 (by simp)) (OutL.flat rfl (flatM flat_vi) (by intro h; exact h.elim id fun h => absurd h.1 (by simp)) trivial))) (by decide) rfl
      ·
        have hlk : k.length ≤ 16 := by simpa using hb2
        refine AWo.pure (PureOp.pickF rfl rfl) rfl rfl ?_
        refine AWo.pure (PureOp.move rfl) rfl rfl ?_
        refine AWo.pure (PureOp.move rfl) rfl rfl ?_
        refine AWo.callX (right_ctr hmw) bd51 [(0, 0)] [] rfl (.cons rfl .nil) rfl (.cons rfl rfl .nil) (.flat rfl (by first | exact flatM flat_vi | exact flatM flat_bool | (simp [flatV, flat_vi]; done)) (by intro h; first | exact h | rfl) .nil) rfl (.keep rfl .nil) frN (by decide) (.cons rfl rfl .nil) rfl rfl rfl rfl ?_
        first | refine AWo.pureB (PureOp.not rfl) rfl rfl (fun hb3 => ?_) (fun hb3 => ?_)
        ·
          refine AWo.pure (PureOp.pickF rfl rfl) rfl rfl ?_
          refine AWo.nil trivial ?_
          refine AW.condT rfl ?_
          refine AW.seqR ?_
          refine AWo.callX (speaks1_ctr) bd50 [] [] rfl .nil rfl .nil .nil rfl .nil frN (by decide) (.cons rfl rfl .nil) rfl rfl rfl rfl ?_
          refine AWo.pure (PureOp.assign rfl) rfl rfl ?_
          refine AWo.nil trivial ?_
          refine AW.ret ?_
          refine thenA_ret ?_
          refine RetQ.gc [_] [] [.tmp 6] (.inl rfl) rfl (.tmp rfl .nil) rfl (.cons rfl rfl .nil) (OutL.flat rfl (flatM flat_vi) (by intro h; exact h.elim id fun h => absurd h.1 (by simp)) (OutL.flat rfl (flatM flat_vi) (by intro h; exact h.elim id fun h => absurd h.1 (by simp)) (OutL.flat rfl (flatM flat_vi) (by intro h; exact h.elim id fun h => absurd h.1 (by simp)) trivial))) (by decide) rfl
        ·
          have hR : rightB mw = true := by simpa using hb3
          obtain ⟨q1, q2, q3, q4, q5⟩ := rightB_ok hR
          have hN1 := right_gt hmw q1 q4 q5
          have hM : MwOk mw := ⟨hmw, q1, by omega, by omega⟩
          have hiv := ninvR_ok hmw q3
          have hN : 0 < num 18446744073709551616 mw := by omega
          have hbw := blen_words ha
          have hmn : Nat.min (blen (num 18446744073709551616 a)) 1 ≤ 1 := Nat.min_le_right _ _
          have hm1 := max_le (mw.length + k.length) a.length
          have hm2 := max_le a.length k.length
          have hm3 := max_le (Nat.max a.length k.length + 1) k.length
          have hs1 := sum_lt (mul_lt hmw hk) (num_lt ha)
          have hs2 := sum_lt (num_lt ha) (num_lt hk)
          refine AWo.pure (PureOp.pickF rfl rfl) rfl rfl ?_
          refine AWo.nil trivial ?_
          refine AW.condF rfl ?_
          refine AW.skip ?_
          refine thenA_normal ?_
          refine AW.seqR ?_
          refine AWo.pure (PureOp.move rfl) rfl rfl ?_
          refine AWo.callX (lnew_ctr hmw q1 q2 q3 q4 q5) bd52 [(0, 0)] [41000, 41001, 41002] rfl (.cons rfl .nil) rfl (.cons rfl rfl .nil) (.flat rfl (by first | exact flatM flat_vi | exact flatM flat_bool | (simp [flatV, flat_vi]; done)) (by intro h; first | exact h | rfl) .nil) rfl (.keep rfl (.new rfl (OkL.all rfl) (.new (flat_map_ren (flatM flat_vi)) (OkL.flat (flatM flat_vi)) (.new (flat_map_ren (flatM flat_vi)) (OkL.flat (flatM flat_vi)) .nil)))) (frC rfl (frC rfl (frC rfl frN))) (by decide) (.cons rfl rfl (.cons rfl rfl .nil)) rfl rfl rfl rfl ?_
          refine AWo.pure (PureOp.move rfl) rfl rfl ?_
          refine AWo.pure (PureOp.extract rfl rfl) rfl rfl ?_
          refine AWo.pure (PureOp.extract rfl rfl) rfl rfl ?_
          refine AWo.pure (PureOp.assign rfl) rfl rfl ?_
          refine AWo.pure (PureOp.assign rfl) rfl rfl ?_
          refine AWo.nil trivial ?_
          refine AW.seq ?_
          refine AW.seqR ?_
          refine AWo.pure (PureOp.move rfl) rfl rfl ?_
          first | refine AWo.pure ((PureOp.neN (b := 0) rfl rfl).mono (v' := .bool false) (congrArg Value.bool (by rfl))) rfl rfl ?_ | refine AWo.pure ((PureOp.bin rfl rfl rfl).mono (v' := .bool false) (congrArg Value.bool (by rfl))) rfl rfl ?_
          refine AWo.pure (PureOp.move rfl) rfl rfl ?_
          refine AWo.pure (PureOp.move rfl) rfl rfl ?_
          first | refine AWo.pure ((PureOp.ptrEqNil Try.underlying80 rfl).mono (v' := .bool false) (congrArg Value.bool (by rfl))) rfl rfl ?_ | refine AWo.pure ((PureOp.nilEqNil Try.underlying80 rfl rfl).mono (v' := .bool false) (congrArg Value.bool (by rfl))) rfl rfl ?_
          refine AWo.pure (PureOp.pickF rfl rfl) rfl rfl ?_
          refine AWo.nil trivial ?_
          refine AW.condF rfl ?_
          refine AW.skip ?_
          refine thenA_normal ?_
          refine AW.seqR ?_
          refine AWo.pure (PureOp.move rfl) rfl rfl ?_
          refine AWo.pure (PureOp.move rfl) rfl rfl ?_
          refine AWo.callX (lmul_ctrV (a := mw) (b := k) (xa := num 18446744073709551616 mw) (xb := num 18446744073709551616 k) rfl rfl rfl rfl hmw hk (by omega) (by omega) ) bd64 [(0, 0), (2, 0)] [53000] rfl (.cons rfl (.cons rfl .nil)) rfl (.cons rfl rfl (.cons rfl rfl .nil)) (.flat rfl (by first | exact flatM flat_vi | exact flatM flat_bool | (simp [flatV, flat_vi]; done)) (by intro h; first | exact h | rfl) (.flat rfl (by first | exact flatM flat_vi | exact flatM flat_bool | (simp [flatV, flat_vi]; done)) (by intro h; first | exact h | rfl) .nil)) rfl (.keep rfl (.keep rfl (.new (flat_map_ren (by first | exact flatM flat_vi | exact flatM flat_bool | (simp [flatV, flat_vi]; done))) (OkL.flat (by first | exact flatM flat_vi | exact flatM flat_bool | (simp [flatV, flat_vi]; done))) .nil))) (frC rfl frN) (by decide) (.cons rfl rfl .nil) rfl rfl rfl rfl ?_
          refine AWo.pure (PureOp.move rfl) rfl rfl ?_
          refine AWo.callX (ladd_ctrV (a := digs 18446744073709551616 (mw.length + k.length) (num 18446744073709551616 mw * num 18446744073709551616 k)) (b := a) (xa := num 18446744073709551616 mw * num 18446744073709551616 k) (xb := num 18446744073709551616 a) (digs_len _ _) (prod_num hmw hk) rfl rfl (digs_bd (by decide) _ _) ha (by rw [digs_len]; omega) (by omega) ) bd63 [(53000, 0), (1, 0)] [55000] rfl (.cons rfl (.cons rfl .nil)) rfl (.cons rfl rfl (.cons rfl rfl .nil)) (.flat rfl (by first | exact flatM flat_vi | exact flatM flat_bool | (simp [flatV, flat_vi]; done)) (by intro h; first | exact h | rfl) (.flat rfl (by first | exact flatM flat_vi | exact flatM flat_bool | (simp [flatV, flat_vi]; done)) (by intro h; first | exact h | rfl) .nil)) rfl (.keep rfl (.keep rfl (.new (flat_map_ren (by first | exact flatM flat_vi | exact flatM flat_bool | (simp [flatV, flat_vi]; done))) (OkL.flat (by first | exact flatM flat_vi | exact flatM flat_bool | (simp [flatV, flat_vi]; done))) .nil))) (frC rfl frN) (by decide) (.cons rfl rfl (.cons rfl rfl .nil)) rfl rfl rfl rfl ?_
          refine AWo.pure (PureOp.move rfl) rfl rfl ?_
          refine AWo.pure (PureOp.extract rfl rfl) rfl rfl ?_
          refine AWo.pure (PureOp.extract rfl rfl) rfl rfl ?_
          refine AWo.pure (PureOp.assign rfl) rfl rfl ?_
          refine AWo.pure (PureOp.assign rfl) rfl rfl ?_
          refine AWo.nil trivial ?_
          refine AW.seq ?_
          refine AW.seqR ?_
          refine AWo.pure (PureOp.move rfl) rfl rfl ?_
          refine AWo.pure (PureOp.move rfl) rfl rfl ?_
          refine AWo.pure (PureOp.move rfl) rfl rfl ?_
          refine AWo.buildSlice tbok 61000 [(0, vi .u64 ((num 18446744073709551616 mw * num 18446744073709551616 k + num 18446744073709551616 a) / 18446744073709551616 ^ (Nat.max (mw.length + k.length) a.length)))] (out := [vi .u64 ((num 18446744073709551616 mw * num 18446744073709551616 k + num 18446744073709551616 a) / 18446744073709551616 ^ (Nat.max (mw.length + k.length) a.length))]) rfl rfl (by decide) rfl rfl rfl (by decide) rfl rfl rfl rfl rfl ?_
          refine AWo.append tbok (all := (digs 18446744073709551616 (Nat.max (mw.length + k.length) a.length) (num 18446744073709551616 mw * num 18446744073709551616 k + num 18446744073709551616 a) ++ [(num 18446744073709551616 mw * num 18446744073709551616 k + num 18446744073709551616 a) / 18446744073709551616 ^ (Nat.max (mw.length + k.length) a.length)]).map (vi .u64)) 62000 rfl rfl rfl rfl (by simp [digs_len]) rfl (by first | decide | (simp; done) | (simp; omega)) (by decide) rfl rfl rfl (by first | decide | exact Nat.one_ne_zero) rfl rfl rfl (by first | decide | omega) (by first | decide | omega) rfl (map_snoc _ _ _) rfl rfl ?_
          refine AWo.callX (reduce_ctrV (a := (digs 18446744073709551616 (Nat.max (mw.length + k.length) a.length) (num 18446744073709551616 mw * num 18446744073709551616 k + num 18446744073709551616 a) ++ [(num 18446744073709551616 mw * num 18446744073709551616 k + num 18446744073709551616 a) / 18446744073709551616 ^ (Nat.max (mw.length + k.length) a.length)])) (xa := num 18446744073709551616 mw * num 18446744073709551616 k + num 18446744073709551616 a) (by rw [List.length_append, digs_len]; rfl) snoc_num hM (snoc_bd hs1) (by rw [List.length_append, digs_len]; simp only [List.length_singleton]; omega) ) bd61 [(41000, 0), (41001, 0), (41002, 0), (62000, 0)] [63000] rfl (.cons rfl (.cons rfl .nil)) rfl (.cons rfl rfl (.cons rfl rfl .nil)) (.whole rfl rfl (OkL.all rfl) (by intro h; first | exact h | rfl) (.flat rfl (flatM flat_vi) (by intro h; first | exact h | rfl) (.flat rfl (flatM flat_vi) (by intro h; first | exact h | rfl) (.flat rfl (by first | exact flatM flat_vi | exact flatM flat_bool | (simp [flatV, flat_vi]; done)) (by intro h; first | exact h | rfl) .nil)))) rfl (.keep rfl (.keep rfl (.keep rfl (.keep rfl (.new (flat_map_ren (by first | exact flatM flat_vi | exact flatM flat_bool | (simp [flatV, flat_vi]; done))) (OkL.flat (by first | exact flatM flat_vi | exact flatM flat_bool | (simp [flatV, flat_vi]; done))) .nil))))) (frC rfl frN) (by decide) (.cons rfl rfl .nil) rfl rfl rfl rfl ?_
          refine AWo.pure (PureOp.move rfl) rfl rfl ?_
          refine AWo.pure (PureOp.move rfl) rfl rfl ?_
          refine AWo.callX (reduce_ctrV (a := a) (xa := num 18446744073709551616 a) rfl rfl hM ha (by omega) ) bd61 [(41000, 0), (41001, 0), (41002, 0), (1, 0)] [66000] rfl (.cons rfl (.cons rfl .nil)) rfl (.cons rfl rfl (.cons rfl rfl .nil)) (.whole rfl rfl (OkL.all rfl) (by intro h; first | exact h | rfl) (.flat rfl (flatM flat_vi) (by intro h; first | exact h | rfl) (.flat rfl (flatM flat_vi) (by intro h; first | exact h | rfl) (.flat rfl (by first | exact flatM flat_vi | exact flatM flat_bool | (simp [flatV, flat_vi]; done)) (by intro h; first | exact h | rfl) .nil)))) rfl (.keep rfl (.keep rfl (.keep rfl (.keep rfl (.new (flat_map_ren (by first | exact flatM flat_vi | exact flatM flat_bool | (simp [flatV, flat_vi]; done))) (OkL.flat (by first | exact flatM flat_vi | exact flatM flat_bool | (simp [flatV, flat_vi]; done))) .nil))))) (frC rfl frN) (by decide) (.cons rfl rfl .nil) rfl rfl rfl rfl ?_
          refine AWo.callX (v := .bool true) (same_ctrN (a := digs 18446744073709551616 mw.length ((num 18446744073709551616 mw * num 18446744073709551616 k + num 18446744073709551616 a) % num 18446744073709551616 mw)) (b := digs 18446744073709551616 mw.length (num 18446744073709551616 a % num 18446744073709551616 mw)) (digs_len _ _) (digs_len _ _) (by rw [digs_len]; omega)) bd53 [(63000, 0), (66000, 0)] [] rfl (.cons rfl (.cons rfl .nil)) rfl (.cons rfl rfl (.cons rfl rfl .nil)) (.flat rfl (by first | exact flatM flat_vi | exact flatM flat_bool | (simp [flatV, flat_vi]; done)) (by intro h; first | exact h | rfl) (.flat rfl (by first | exact flatM flat_vi | exact flatM flat_bool | (simp [flatV, flat_vi]; done)) (by intro h; first | exact h | rfl) .nil)) rfl (.keep rfl (.keep rfl .nil)) frN (by decide) (.cons rfl rfl .nil) (congrArg Value.bool (decide_eq_true (by rw [Nat.add_comm, Nat.add_mul_mod_self_left]))) rfl rfl rfl ?_
          refine AWo.pure (PureOp.not rfl) rfl rfl ?_
          refine AWo.nil trivial ?_
          refine AW.condF rfl ?_
          refine AW.skip ?_
          refine thenA_normal ?_
          refine AW.seqR ?_
          refine AWo.pure (PureOp.move rfl) rfl rfl ?_
          refine AWo.pure (PureOp.move rfl) rfl rfl ?_
          refine AWo.callX (ladd_ctrV (a := a) (b := k) (xa := num 18446744073709551616 a) (xb := num 18446744073709551616 k) rfl rfl rfl rfl ha hk (by omega) (by omega) ) bd63 [(1, 0), (2, 0)] [72000] rfl (.cons rfl (.cons rfl .nil)) rfl (.cons rfl rfl (.cons rfl rfl .nil)) (.flat rfl (by first | exact flatM flat_vi | exact flatM flat_bool | (simp [flatV, flat_vi]; done)) (by intro h; first | exact h | rfl) (.flat rfl (by first | exact flatM flat_vi | exact flatM flat_bool | (simp [flatV, flat_vi]; done)) (by intro h; first | exact h | rfl) .nil)) rfl (.keep rfl (.keep rfl (.new (flat_map_ren (by first | exact flatM flat_vi | exact flatM flat_bool | (simp [flatV, flat_vi]; done))) (OkL.flat (by first | exact flatM flat_vi | exact flatM flat_bool | (simp [flatV, flat_vi]; done))) .nil))) (frC rfl frN) (by decide) (.cons rfl rfl (.cons rfl rfl .nil)) rfl rfl rfl rfl ?_
          refine AWo.pure (PureOp.move rfl) rfl rfl ?_
          refine AWo.pure (PureOp.extract rfl rfl) rfl rfl ?_
          refine AWo.pure (PureOp.extract rfl rfl) rfl rfl ?_
          refine AWo.pure (PureOp.assign rfl) rfl rfl ?_
          refine AWo.pure (PureOp.assign rfl) rfl rfl ?_
          refine AWo.nil trivial ?_
          refine AW.seqR ?_
          refine AWo.pure (PureOp.move rfl) rfl rfl ?_
          refine AWo.pure (PureOp.move rfl) rfl rfl ?_
          refine AWo.buildSlice tbok 78000 [(0, vi .u64 ((num 18446744073709551616 a + num 18446744073709551616 k) / 18446744073709551616 ^ (Nat.max a.length k.length)))] (out := [vi .u64 ((num 18446744073709551616 a + num 18446744073709551616 k) / 18446744073709551616 ^ (Nat.max a.length k.length))]) rfl rfl (by decide) rfl rfl rfl (by decide) rfl rfl rfl rfl rfl ?_
          refine AWo.append tbok (all := (digs 18446744073709551616 (Nat.max a.length k.length) (num 18446744073709551616 a + num 18446744073709551616 k) ++ [(num 18446744073709551616 a + num 18446744073709551616 k) / 18446744073709551616 ^ (Nat.max a.length k.length)]).map (vi .u64)) 79000 rfl rfl rfl rfl (by simp [digs_len]) rfl (by first | decide | (simp; done) | (simp; omega)) (by decide) rfl rfl rfl (by first | decide | exact Nat.one_ne_zero) rfl rfl rfl (by first | decide | omega) (by first | decide | omega) rfl (map_snoc _ _ _) rfl rfl ?_
          refine AWo.pure (PureOp.move rfl) rfl rfl ?_
          refine AWo.callX (lsub_ctrV (a := (digs 18446744073709551616 (Nat.max a.length k.length) (num 18446744073709551616 a + num 18446744073709551616 k) ++ [(num 18446744073709551616 a + num 18446744073709551616 k) / 18446744073709551616 ^ (Nat.max a.length k.length)])) (b := k) (xa := num 18446744073709551616 a + num 18446744073709551616 k) (xb := num 18446744073709551616 k) (by rw [List.length_append, digs_len]; rfl) snoc_num rfl rfl (snoc_bd hs2) hk (by rw [List.length_append, digs_len]; simp only [List.length_singleton]; omega) (by omega) ) bd65 [(79000, 0), (2, 0)] [81000] rfl (.cons rfl (.cons rfl .nil)) rfl (.cons rfl rfl (.cons rfl rfl .nil)) (.flat rfl (by first | exact flatM flat_vi | exact flatM flat_bool | (simp [flatV, flat_vi]; done)) (by intro h; first | exact h | rfl) (.flat rfl (by first | exact flatM flat_vi | exact flatM flat_bool | (simp [flatV, flat_vi]; done)) (by intro h; first | exact h | rfl) .nil)) rfl (.keep rfl (.keep rfl (.new (flat_map_ren (by first | exact flatM flat_vi | exact flatM flat_bool | (simp [flatV, flat_vi]; done))) (OkL.flat (by first | exact flatM flat_vi | exact flatM flat_bool | (simp [flatV, flat_vi]; done))) .nil))) (frC rfl frN) (by decide) (.cons rfl rfl (.cons rfl rfl .nil)) rfl rfl rfl rfl ?_
          refine AWo.pure (PureOp.move rfl) rfl rfl ?_
          refine AWo.pure (PureOp.extract rfl rfl) rfl rfl ?_
          refine AWo.pure (PureOp.extract rfl rfl) rfl rfl ?_
          refine AWo.pure (PureOp.assign rfl) rfl rfl ?_
          refine AWo.pure (PureOp.assign rfl) rfl rfl ?_
          refine AWo.nil trivial ?_
          refine AW.seqR ?_
          refine AWo.pure (PureOp.move rfl) rfl rfl ?_
          first | refine AWo.pure ((PureOp.eqN (b := 0) rfl rfl).mono (v' := .bool true) (congrArg Value.bool (by rw [if_neg (by omega)]; rfl))) rfl rfl ?_ | refine AWo.pure ((PureOp.bin rfl rfl rfl).mono (v' := .bool true) (congrArg Value.bool (by rw [if_neg (by omega)]; rfl))) rfl rfl ?_
          refine AWo.pure (PureOp.move rfl) rfl rfl ?_
          refine AWo.pure (PureOp.move rfl) rfl rfl ?_
          refine AWo.pure (PureOp.move rfl) rfl rfl ?_
          refine AWo.callX (lcmp_ctrN (a := digs 18446744073709551616 (Nat.max (Nat.max a.length k.length + 1) k.length) (num 18446744073709551616 a + num 18446744073709551616 k + 18446744073709551616 ^ Nat.max (Nat.max a.length k.length + 1) k.length - num 18446744073709551616 k)) (b := a) (digs_len _ _) rfl (digs_bd (by decide) _ _) ha (by rw [digs_len]; omega) (by omega)) bd62 [(81000, 0), (1, 0)] [] rfl (.cons rfl (.cons rfl .nil)) rfl (.cons rfl rfl (.cons rfl rfl .nil)) (.flat rfl (by first | exact flatM flat_vi | exact flatM flat_bool | (simp [flatV, flat_vi]; done)) (by intro h; first | exact h | rfl) (.flat rfl (by first | exact flatM flat_vi | exact flatM flat_bool | (simp [flatV, flat_vi]; done)) (by intro h; first | exact h | rfl) .nil)) rfl (.keep rfl (.keep rfl .nil)) frN (by decide) (.cons rfl rfl .nil) rfl rfl rfl rfl ?_
          first | refine AWo.pure ((PureOp.eqN (b := 0) rfl rfl).mono (v' := .bool true) (congrArg Value.bool (by rw [back_num ha hk, cmpI_self]; rfl))) rfl rfl ?_ | refine AWo.pure ((PureOp.bin rfl rfl rfl).mono (v' := .bool true) (congrArg Value.bool (by rw [back_num ha hk, cmpI_self]; rfl))) rfl rfl ?_
          refine AWo.pure (PureOp.pickT rfl rfl) rfl rfl ?_
          refine AWo.pure (PureOp.move rfl) rfl rfl ?_
          refine AWo.pure (PureOp.move rfl) rfl rfl ?_
          refine AWo.pure (PureOp.move rfl) rfl rfl ?_
          refine AWo.callX (lmul_ctrV (a := a) (b := k) (xa := num 18446744073709551616 a) (xb := num 18446744073709551616 k) rfl rfl rfl rfl ha hk (by omega) (by omega) ) bd64 [(1, 0), (2, 0)] [95000] rfl (.cons rfl (.cons rfl .nil)) rfl (.cons rfl rfl (.cons rfl rfl .nil)) (.flat rfl (by first | exact flatM flat_vi | exact flatM flat_bool | (simp [flatV, flat_vi]; done)) (by intro h; first | exact h | rfl) (.flat rfl (by first | exact flatM flat_vi | exact flatM flat_bool | (simp [flatV, flat_vi]; done)) (by intro h; first | exact h | rfl) .nil)) rfl (.keep rfl (.keep rfl (.new (flat_map_ren (by first | exact flatM flat_vi | exact flatM flat_bool | (simp [flatV, flat_vi]; done))) (OkL.flat (by first | exact flatM flat_vi | exact flatM flat_bool | (simp [flatV, flat_vi]; done))) .nil))) (frC rfl frN) (by decide) (.cons rfl rfl .nil) rfl rfl rfl rfl ?_
          refine AWo.pure (PureOp.move rfl) rfl rfl ?_
          refine AWo.pure (PureOp.move rfl) rfl rfl ?_
          refine AWo.callX (lmul_ctrV (a := k) (b := a) (xa := num 18446744073709551616 k) (xb := num 18446744073709551616 a) rfl rfl rfl rfl hk ha (by omega) (by omega) ) bd64 [(2, 0), (1, 0)] [98000] rfl (.cons rfl (.cons rfl .nil)) rfl (.cons rfl rfl (.cons rfl rfl .nil)) (.flat rfl (by first | exact flatM flat_vi | exact flatM flat_bool | (simp [flatV, flat_vi]; done)) (by intro h; first | exact h | rfl) (.flat rfl (by first | exact flatM flat_vi | exact flatM flat_bool | (simp [flatV, flat_vi]; done)) (by intro h; first | exact h | rfl) .nil)) rfl (.keep rfl (.keep rfl (.new (flat_map_ren (by first | exact flatM flat_vi | exact flatM flat_bool | (simp [flatV, flat_vi]; done))) (OkL.flat (by first | exact flatM flat_vi | exact flatM flat_bool | (simp [flatV, flat_vi]; done))) .nil))) (frC rfl frN) (by decide) (.cons rfl rfl .nil) rfl rfl rfl rfl ?_
          refine AWo.callX (lcmp_ctrN (a := digs 18446744073709551616 (a.length + k.length) (num 18446744073709551616 a * num 18446744073709551616 k)) (b := digs 18446744073709551616 (k.length + a.length) (num 18446744073709551616 k * num 18446744073709551616 a)) (digs_len _ _) (digs_len _ _) (digs_bd (by decide) _ _) (digs_bd (by decide) _ _) (by rw [digs_len]; omega) (by rw [digs_len]; omega)) bd62 [(95000, 0), (98000, 0)] [] rfl (.cons rfl (.cons rfl .nil)) rfl (.cons rfl rfl (.cons rfl rfl .nil)) (.flat rfl (by first | exact flatM flat_vi | exact flatM flat_bool | (simp [flatV, flat_vi]; done)) (by intro h; first | exact h | rfl) (.flat rfl (by first | exact flatM flat_vi | exact flatM flat_bool | (simp [flatV, flat_vi]; done)) (by intro h; first | exact h | rfl) .nil)) rfl (.keep rfl (.keep rfl .nil)) frN (by decide) (.cons rfl rfl .nil) rfl rfl rfl rfl ?_
          first | refine AWo.pure ((PureOp.eqN (b := 0) rfl rfl).mono (v' := .bool true) (congrArg Value.bool (by rw [prod_num ha hk, prod_num hk ha, Nat.mul_comm, cmpI_self]; rfl))) rfl rfl ?_ | refine AWo.pure ((PureOp.bin rfl rfl rfl).mono (v' := .bool true) (congrArg Value.bool (by rw [prod_num ha hk, prod_num hk ha, Nat.mul_comm, cmpI_self]; rfl))) rfl rfl ?_
          refine AWo.pure (PureOp.pickT rfl rfl) rfl rfl ?_
          refine AWo.pure (PureOp.move rfl) rfl rfl ?_
          refine AWo.pure (PureOp.move rfl) rfl rfl ?_
          refine AWo.buildSlice tbok 104000 [(0, vi .u64 0), (1, vi .u64 1)] (out := [vi .u64 0, vi .u64 1]) rfl rfl (by decide) rfl rfl rfl (by decide) rfl rfl rfl rfl rfl ?_
          refine AWo.callX (lmul_ctrV (a := a) (b := [0, 1]) (xa := num 18446744073709551616 a) (xb := 18446744073709551616) rfl rfl rfl rfl ha (bd_lits (by decide)) (by omega) (by decide) ) bd64 [(1, 0), (104000, 0)] [105000] rfl (.cons rfl (.cons rfl .nil)) rfl (.cons rfl rfl (.cons rfl rfl .nil)) (.flat rfl (by first | exact flatM flat_vi | exact flatM flat_bool | (simp [flatV, flat_vi]; done)) (by intro h; first | exact h | rfl) (.flat rfl (by first | exact flatM flat_vi | exact flatM flat_bool | (simp [flatV, flat_vi]; done)) (by intro h; first | exact h | rfl) .nil)) rfl (.keep rfl (.keep rfl (.new (flat_map_ren (by first | exact flatM flat_vi | exact flatM flat_bool | (simp [flatV, flat_vi]; done))) (OkL.flat (by first | exact flatM flat_vi | exact flatM flat_bool | (simp [flatV, flat_vi]; done))) .nil))) (frC rfl frN) (by decide) (.cons rfl rfl .nil) rfl rfl rfl rfl ?_
          refine AWo.callX (lbits_ctrN (a := digs 18446744073709551616 (a.length + 2) (num 18446744073709551616 a * 18446744073709551616)) (digs_len _ _) (digs_bd (by decide) _ _) (by rw [digs_len]; omega)) bd66 [(105000, 0)] [] rfl (.cons rfl .nil) rfl (.cons rfl rfl .nil) (.flat rfl (by first | exact flatM flat_vi | exact flatM flat_bool | (simp [flatV, flat_vi]; done)) (by intro h; first | exact h | rfl) .nil) rfl (.keep rfl .nil) frN (by decide) (.cons rfl rfl .nil) rfl rfl rfl rfl ?_
          refine AWo.pure (PureOp.move rfl) rfl rfl ?_
          refine AWo.callX (lbits_ctr ha (by omega)) bd66 [(1, 0)] [] rfl (.cons rfl .nil) rfl (.cons rfl rfl .nil) (.flat rfl (by first | exact flatM flat_vi | exact flatM flat_bool | (simp [flatV, flat_vi]; done)) (by intro h; first | exact h | rfl) .nil) rfl (.keep rfl .nil) frN (by decide) (.cons rfl rfl .nil) rfl rfl rfl rfl ?_
          refine AWo.pure (PureOp.move rfl) rfl rfl ?_
          refine AWo.callX (lbits_ctr ha (by omega)) bd66 [(1, 0)] [] rfl (.cons rfl .nil) rfl (.cons rfl rfl .nil) (.flat rfl (by first | exact flatM flat_vi | exact flatM flat_bool | (simp [flatV, flat_vi]; done)) (by intro h; first | exact h | rfl) .nil) rfl (.keep rfl .nil) frN (by decide) (.cons rfl rfl .nil) rfl rfl rfl rfl ?_
          refine AWo.pure (PureOp.minN (b := 1) rfl rfl) rfl rfl ?_
          first | refine AWo.pure (PureOp.mulI (a := 64) rfl rfl (by first | decide | omega)) rfl rfl ?_ | refine AWo.pure (PureOp.bin rfl rfl rfl) rfl rfl ?_
          first | refine AWo.pure (PureOp.addI rfl rfl (by first | decide | omega)) rfl rfl ?_ | refine AWo.pure (PureOp.bin rfl rfl rfl) rfl rfl ?_
          refine AWo.pure (PureOp.maxN (a := 0) rfl rfl) rfl rfl ?_
          first | refine AWo.pure ((PureOp.eqN rfl rfl).mono (v' := .bool true) (congrArg Value.bool (by rw [prod_num2 ha]; exact blen64 _))) rfl rfl ?_ | refine AWo.pure ((PureOp.bin rfl rfl rfl).mono (v' := .bool true) (congrArg Value.bool (by rw [prod_num2 ha]; exact blen64 _))) rfl rfl ?_
          refine AWo.pure (PureOp.pickT rfl rfl) rfl rfl ?_
          refine AWo.pure (PureOp.assign rfl) rfl rfl ?_
          refine AWo.nil trivial ?_
          refine AW.ret ?_
          refine RetQ.gc [_] [] [.tmp 6] (.inl rfl) rfl (.tmp rfl .nil) rfl (.cons rfl rfl .nil) (OutL.flat rfl (flatM flat_vi) (by intro h; exact h.elim id fun h => absurd h.1 (by simp)) (OutL.flat rfl (flatM flat_vi) (by intro h; exact h.elim id fun h => absurd h.1 (by simp)) (OutL.flat rfl (flatM flat_vi) (by intro h; exact h.elim id fun h => absurd h.1 (by simp)) trivial))) (by decide) rfl
end Go.Proofs.Ytiikffiembcboaa
