/- A modulus: what is less than it, doubles, rests, sums. -/
import Derived.Test.YtiikffiembcboaaMont
import Derived.Test.YtiikffiembcboaaSim26
namespace Go.Proofs.Ytiikffiembcboaa
open Go Sim

/-- words that may be a modulus -/
def MwOk (mw : List Nat) : Prop := bd 18446744073709551616 mw ∧ 0 < mw.length ∧ mw.length ≤ 1000 ∧ 0 < num 18446744073709551616 mw

section
variable {B : Nat}
theorem less_c {n N c a : Nat} (hN : N < B ^ n) (h : a + c * B ^ n < 2 * N) : c ≤ 1 := by
  rcases Nat.lt_or_ge c 2 with h1 | h1
  · omega
  · have := Nat.mul_le_mul_right (B ^ n) h1
    omega
theorem less_ge2 {n N c a : Nat} (hc : c ≠ 0) (hN : N < B ^ n) : N ≤ a + c * B ^ n := by
  have := Nat.mul_le_mul_right (B ^ n) (show 1 ≤ c by omega)
  omega
theorem lt_of_cmp {a b : Nat} (h : cmpI a b < 0) : a < b := by
  simp only [cmpI] at h
  split at h
  · assumption
  · split at h <;> omega
theorem ge_of_cmp {a b : Nat} (h : 0 ≤ cmpI a b) : b ≤ a := by
  simp only [cmpI] at h
  split at h
  · omega
  · omega
theorem less_sub {n N c a : Nat} (hA : a < B ^ n) (hN : N < B ^ n) (h : a + c * B ^ n < 2 * N) (hge : N ≤ a + c * B ^ n) : digs B n ((a + c * B ^ n) % N) = digs B n (a + B ^ n - N) := by
  have hB : 0 < B := by
    rcases Nat.eq_zero_or_pos B with h0 | h0
    · subst h0
      cases n with
      | zero => simp at hA hN; omega
      | succ n => simp at hA
    · exact h0
  have hc := less_c hN h
  refine num_inj (digs_bd hB _ _) (digs_bd hB _ _) (by simp [digs_len]) ?_
  have e : (a + c * B ^ n) % N = a + c * B ^ n - N := by
    rw [Nat.mod_eq_sub_mod hge, Nat.mod_eq_of_lt (by omega)]
  rw [num_digs, num_digs, e]
  rcases (by omega : c = 0 ∨ c = 1) with rfl | rfl
  · rw [Nat.zero_mul, Nat.add_zero] at *
    rw [show a + B ^ n - N = (a - N) + B ^ n by omega, Nat.add_mod_right]
  · rw [Nat.one_mul]
end

theorem or_low {x d : Nat} (hd : d ≤ 1) : x * 2 % 18446744073709551616 ||| d = x * 2 % 18446744073709551616 + d := by
  have e : x * 2 % 18446744073709551616 = 2 ^ 1 * (x * 2 % 18446744073709551616 / 2) := by omega
  rw [e]
  exact (Nat.two_pow_add_eq_or_of_lt (i := 1) (b := d) (by omega) _).symm

theorem twice_step {l a : List Nat} {i c d : Nat} (hi : i < l.length) (h : num 18446744073709551616 (l.take i) + 18446744073709551616 ^ i * d = 2 * num 18446744073709551616 (a.take i) + c) :
    num 18446744073709551616 ((l.set i (a.getD i 0 * 2 % 18446744073709551616 + d)).take (i + 1)) + 18446744073709551616 ^ (i + 1) * (a.getD i 0 / 9223372036854775808) = 2 * num 18446744073709551616 (a.take (i + 1)) + c := by
  rw [take_set_succ hi, num_append, List.length_take, Nat.min_eq_left (by omega), num_take_succ, Nat.pow_succ]
  simp only [num, Nat.mul_zero, Nat.add_zero]
  have e : a.getD i 0 * 2 = a.getD i 0 * 2 % 18446744073709551616 + 18446744073709551616 * (a.getD i 0 / 9223372036854775808) := by omega
  generalize a.getD i 0 * 2 % 18446744073709551616 = r at *
  generalize a.getD i 0 / 9223372036854775808 = q at *
  generalize a.getD i 0 = x at *
  generalize 18446744073709551616 ^ i = w at *
  grind

theorem num_lt_blen (n : Nat) : n / 2 ^ blen n = 0 := by
  refine Nat.div_eq_of_lt ?_
  simp only [blen]
  split
  · rename_i h; rw [h]; decide
  · exact Nat.lt_log2_self

theorem red_init {n N : Nat} (_ : 0 < N) (h : n / 2 ^ blen n = 0) {k : Nat} : digs 18446744073709551616 k (n / 2 ^ blen n % N) = List.replicate k 0 := by
  rw [h, Nat.zero_mod]
  refine num_inj (digs_bd (by decide) _ _) (bd_replicate (by decide) _) (by simp [digs_len]) ?_
  rw [num_digs, num_replicate, Nat.zero_mod]

theorem bit64_at {a : List Nat} (h : bd 18446744073709551616 a) (i : Nat) : a.getD (i / 64) 0 / 2 ^ (i % 64) % 2 = num 18446744073709551616 a / 2 ^ i % 2 := by
  rw [num_getD h (by decide)]
  have e1 : (2 : Nat) ^ i = 18446744073709551616 ^ (i / 64) * 2 ^ (i % 64) := by
    rw [show (18446744073709551616 : Nat) = 2 ^ 64 from by decide, ← Nat.pow_mul, ← Nat.pow_add, Nat.div_add_mod]
  rw [e1, ← Nat.div_div_eq_div_mul]
  generalize num 18446744073709551616 a / 18446744073709551616 ^ (i / 64) = z
  have hk : i % 64 < 64 := Nat.mod_lt _ (by decide)
  generalize i % 64 = k at hk
  have e : 18446744073709551616 = 2 ^ k * (2 * 2 ^ (63 - k)) := by
    rw [← Nat.mul_assoc, Nat.mul_right_comm, ← Nat.pow_add, show k + (63 - k) = 63 by omega]
  rw [e, Nat.mod_mul_right_div_self, Nat.mod_mul_right_mod]

theorem bit_len {a : List Nat} {r : Nat} (h : bd 18446744073709551616 a) (hr : r < blen (num 18446744073709551616 a)) : r / 64 < a.length := by
  have h1 := num_lt h
  rw [show (18446744073709551616 : Nat) = 2 ^ 64 from by decide, ← Nat.pow_mul] at h1
  have h2 := blen_lt h1
  rw [show (2 : Nat) ^ 64 = 18446744073709551616 from by decide] at h2
  omega

theorem blen_words {a : List Nat} (h : bd 18446744073709551616 a) : blen (num 18446744073709551616 a) ≤ 64 * a.length := by
  have h1 := num_lt h
  rw [show (18446744073709551616 : Nat) = 2 ^ 64 from by decide, ← Nat.pow_mul] at h1
  have h2 := blen_lt h1
  rwa [show (2 : Nat) ^ 64 = 18446744073709551616 from by decide] at h2

theorem red_next {n r N k : Nat} (hN : 0 < N) (hk : N < 18446744073709551616 ^ k) : digs 18446744073709551616 k (n / 2 ^ r % N) = digs 18446744073709551616 k ((2 * num 18446744073709551616 (digs 18446744073709551616 k (n / 2 ^ (r + 1) % N)) + n / 2 ^ r % 2) % N) := by
  rw [num_digs_lt (Nat.lt_trans (Nat.mod_lt _ hN) hk)]
  have e : n / 2 ^ r = 2 * (n / 2 ^ (r + 1)) + n / 2 ^ r % 2 := by
    rw [Nat.pow_succ, ← Nat.div_div_eq_div_mul]
    omega
  generalize n / 2 ^ r % 2 = b at *
  generalize n / 2 ^ (r + 1) = m at *
  rw [e]
  congr 1
  rw [Nat.add_mod, Nat.mul_mod, ← Nat.mod_mod_of_dvd m (Nat.dvd_refl N)]
  simp [Nat.add_mod, Nat.mul_mod]

theorem red_num {mw : List Nat} (hM : MwOk mw) (a : List Nat) : num 18446744073709551616 (digs 18446744073709551616 mw.length (num 18446744073709551616 a % num 18446744073709551616 mw)) = num 18446744073709551616 a % num 18446744073709551616 mw ∧ num 18446744073709551616 a % num 18446744073709551616 mw < num 18446744073709551616 mw :=
  ⟨num_digs_lt (Nat.lt_trans (Nat.mod_lt _ hM.2.2.2) (num_lt hM.1)), Nat.mod_lt _ hM.2.2.2⟩

theorem add_whole (n v : Nat) : num 18446744073709551616 (digs 18446744073709551616 n v) + v / 18446744073709551616 ^ n * 18446744073709551616 ^ n = v := by
  rw [num_digs, Nat.mul_comm]; exact Nat.mod_add_div v _

theorem lcmp_ctrN {a b : List Nat} {na nb : Nat} (hna : a.length = na) (hnb : b.length = nb) (ha : bd 18446744073709551616 a) (hb : bd 18446744073709551616 b) (hla : a.length < 100000000) (hlb : b.length < 100000000) : GC Try.prog 62 [.slice (some ⟨0, 0, none⟩) na 0, .slice (some ⟨1, 0, none⟩) nb 0] [⟨a.map (vi .u64), false, 1⟩, ⟨b.map (vi .u64), false, 1⟩] [.int .i64 (cmpI (num 18446744073709551616 a) (num 18446744073709551616 b))] [⟨a.map (vi .u64), false, 1⟩, ⟨b.map (vi .u64), false, 1⟩] := by
  subst hna; subst hnb
  exact lcmp_ctr ha hb hla hlb

theorem lsub_ctrN {a b : List Nat} {na nb : Nat} (hna : a.length = na) (hnb : b.length = nb) (ha : bd 18446744073709551616 a) (hb : bd 18446744073709551616 b) (hla : a.length < 100000000) (hlb : b.length < 100000000) : GC Try.prog 65 [.slice (some ⟨0, 0, none⟩) na 0, .slice (some ⟨1, 0, none⟩) nb 0] [⟨a.map (vi .u64), false, 1⟩, ⟨b.map (vi .u64), false, 1⟩] [.slice (some ⟨2, 0, none⟩) (Nat.max na nb) 0, vi .u64 (if num 18446744073709551616 a < num 18446744073709551616 b then 1 else 0)] [⟨a.map (vi .u64), false, 1⟩, ⟨b.map (vi .u64), false, 1⟩, ⟨(digs 18446744073709551616 (Nat.max na nb) (num 18446744073709551616 a + 18446744073709551616 ^ (Nat.max na nb) - num 18446744073709551616 b)).map (vi .u64), true, 1⟩] := by
  subst hna; subst hnb
  exact lsub_ctr ha hb hla hlb

theorem ladd_ctrN {a b : List Nat} {na nb : Nat} (hna : a.length = na) (hnb : b.length = nb) (ha : bd 18446744073709551616 a) (hb : bd 18446744073709551616 b) (hla : a.length < 100000000) (hlb : b.length < 100000000) : GC Try.prog 63 [.slice (some ⟨0, 0, none⟩) na 0, .slice (some ⟨1, 0, none⟩) nb 0] [⟨a.map (vi .u64), false, 1⟩, ⟨b.map (vi .u64), false, 1⟩] [.slice (some ⟨2, 0, none⟩) (Nat.max na nb) 0, vi .u64 ((num 18446744073709551616 a + num 18446744073709551616 b) / 18446744073709551616 ^ (Nat.max na nb))] [⟨a.map (vi .u64), false, 1⟩, ⟨b.map (vi .u64), false, 1⟩, ⟨(digs 18446744073709551616 (Nat.max na nb) (num 18446744073709551616 a + num 18446744073709551616 b)).map (vi .u64), true, 1⟩] := by
  subst hna; subst hnb
  exact ladd_ctr ha hb hla hlb

set_option maxRecDepth 10000 in
theorem less_ctr {mw sq a : List Nat} {iv c ns : Nat} (hM : MwOk mw) (ha : bd 18446744073709551616 a) (hla : a.length = mw.length) (h : num 18446744073709551616 a + c * 18446744073709551616 ^ mw.length < 2 * num 18446744073709551616 mw) : GC Try.prog 123 [.pointer (some ⟨0, 0, none⟩), .slice (some ⟨3, 0, none⟩) mw.length 0, vi .u64 (c)] [⟨[.slice (some ⟨1, 0, none⟩) mw.length 0, vi .u64 iv, .slice (some ⟨2, 0, none⟩) ns 0], false, 1⟩, ⟨(mw).map (vi .u64), false, 1⟩, ⟨(sq).map (vi .u64), false, 1⟩, ⟨a.map (vi .u64), true, 1⟩] [.slice (some ⟨4, 0, none⟩) mw.length 0] [⟨[.slice (some ⟨1, 0, none⟩) mw.length 0, vi .u64 iv, .slice (some ⟨2, 0, none⟩) ns 0], false, 1⟩, ⟨(mw).map (vi .u64), false, 1⟩, ⟨(sq).map (vi .u64), false, 1⟩, ⟨[], false, 1⟩, ⟨(digs 18446744073709551616 mw.length ((num 18446744073709551616 a + c * 18446744073709551616 ^ mw.length) % num 18446744073709551616 mw)).map (vi .u64), true, 1⟩] := by
  refine GC.intro Try.func123 rfl (by show 3 ≤ 31; decide) (by first | exact Nat.le_refl _ | decide | simp) ?_
  obtain ⟨hbm, hm0, hml, hN⟩ := hM
  refine AW.move 3 77000 1 rfl rfl rfl ?_
  have hA := num_lt ha
  rw [hla] at hA
  have hNW := num_lt hbm
  have hc1 := less_c hNW h
  refine AW.seqR ?_
  refine AWo.pure (PureOp.assign rfl) rfl rfl ?_
  refine AWo.nil trivial ?_
  refine AW.seq ?_
  refine AW.seqR ?_
  refine AWo.pure (PureOp.move rfl) rfl rfl ?_
  first | refine AWo.pureB (PureOp.eqN (b := 0) rfl rfl) rfl rfl (fun hb0 => ?_) (fun hb0 => ?_) | refine AWo.pureB (PureOp.bin rfl rfl rfl) rfl rfl (fun hb0 => ?_) (fun hb0 => ?_)
  ·
    have hc0 : c = 0 := by simpa using hb0
    refine AWo.pure (PureOp.move rfl) rfl rfl ?_
    refine AWo.pure (PureOp.move rfl) rfl rfl ?_
    refine AWo.pure (PureOp.move rfl) rfl rfl ?_
    refine AWo.pure (PureOp.nilCheck rfl) rfl rfl ?_
    refine AWo.pure (PureOp.fld tbok rfl rfl rfl (by decide)) rfl rfl ?_
    refine AWo.load tbok rfl rfl rfl rfl rfl rfl ?_
    refine AWo.callX (lcmp_ctrN hla rfl ha hbm (by omega) (by omega)) bd62 [(77000, 0), (1, 0)] [] rfl (.cons rfl (.cons rfl .nil)) rfl (.cons rfl rfl (.cons rfl rfl .nil)) (.flat rfl (by first | exact flatM flat_vi | exact flatM flat_bool | (simp [flatV, flat_vi]; done)) (by intro h; first | exact h | rfl) (.flat rfl (by first | exact flatM flat_vi | exact flatM flat_bool | (simp [flatV, flat_vi]; done)) (by intro h; first | exact h | rfl) .nil)) rfl (.keep rfl (.keep rfl .nil)) frN (by decide) (.cons rfl rfl .nil) rfl rfl rfl rfl ?_
    first | refine AWo.pure (PureOp.ltN (b := 0) rfl rfl) rfl rfl ?_ | refine AWo.pure (PureOp.bin rfl rfl rfl) rfl rfl ?_
    refine AWo.pure (PureOp.pickT rfl rfl) rfl rfl ?_
    refine AWo.nil trivial ?_
    refine AW.cond rfl (fun hb1 => ?_) (fun hb1 => ?_)
    ·
      have hlt := lt_of_cmp (by simpa using hb1)
      rw [show digs 18446744073709551616 mw.length ((num 18446744073709551616 a + c * 18446744073709551616 ^ mw.length) % num 18446744073709551616 mw) = a from by rw [hc0, Nat.zero_mul, Nat.add_zero, Nat.mod_eq_of_lt hlt, ← hla, digs_num ha]]
      refine AW.seqR ?_
      refine AWo.pure (PureOp.move rfl) rfl rfl ?_
      refine AWo.pure (PureOp.assign rfl) rfl rfl ?_
      refine AWo.nil trivial ?_
      refine AW.ret ?_
      refine thenA_ret ?_
      refine RetQ.gc [_] [77000] [.tmp 6] (.inl rfl) rfl (.tmp rfl .nil) rfl (.cons rfl rfl .nil) (OutL.whole rfl rfl (OkL.all rfl) (by intro h; first | rfl | exact h.elim id fun h => absurd h.1 (by simp)) (OutL.flat rfl (flatM flat_vi) (by intro h; first | rfl | exact h.elim id fun h => absurd h.1 (by simp)) (OutL.flat rfl (flatM flat_vi) (by intro h; first | rfl | exact h.elim id fun h => absurd h.1 (by simp)) (OutL.husk rfl rfl (OutL.flat rfl (by first | exact flatM flat_vi | exact flatM flat_bool | (simp [flatV, flat_vi]; done)) (by intro h; first | rfl | exact h.elim id fun h => absurd h.1 (by simp)) trivial))))) (by decide) rfl
    ·
      have hge : num 18446744073709551616 mw ≤ num 18446744073709551616 a + c * 18446744073709551616 ^ mw.length := Nat.le_trans (ge_of_cmp (by simpa using hb1)) (Nat.le_add_right _ _)
      refine AW.skip ?_
      refine thenA_normal ?_
      refine AW.seqR ?_
      refine AWo.pure (PureOp.move rfl) rfl rfl ?_
      refine AWo.pure (PureOp.move rfl) rfl rfl ?_
      refine AWo.pure (PureOp.nilCheck rfl) rfl rfl ?_
      refine AWo.pure (PureOp.fld tbok rfl rfl rfl (by decide)) rfl rfl ?_
      refine AWo.load tbok rfl rfl rfl rfl rfl rfl ?_
      refine AWo.callX (lsub_ctrN hla rfl ha hbm (by omega) (by omega)) bd65 [(77000, 0), (1, 0)] [28000] rfl (.cons rfl (.cons rfl .nil)) rfl (.cons rfl rfl (.cons rfl rfl .nil)) (.flat rfl (by first | exact flatM flat_vi | exact flatM flat_bool | (simp [flatV, flat_vi]; done)) (by intro h; first | exact h | rfl) (.flat rfl (by first | exact flatM flat_vi | exact flatM flat_bool | (simp [flatV, flat_vi]; done)) (by intro h; first | exact h | rfl) .nil)) rfl (.keep rfl (.keep rfl (.new (flat_map_ren (by first | exact flatM flat_vi | exact flatM flat_bool | (simp [flatV, flat_vi]; done))) (OkL.flat (by first | exact flatM flat_vi | exact flatM flat_bool | (simp [flatV, flat_vi]; done))) .nil))) (frC rfl frN) (by decide) (.cons rfl rfl (.cons rfl rfl .nil)) rfl rfl rfl rfl ?_
      refine AWo.pure (PureOp.move rfl) rfl rfl ?_
      refine AWo.pure (PureOp.extract rfl rfl) rfl rfl ?_
      refine AWo.pure (PureOp.extract rfl rfl) rfl rfl ?_
      refine AWo.pure (PureOp.assign rfl) rfl rfl ?_
      refine AWo.pure (PureOp.assign rfl) rfl rfl ?_
      refine AWo.nil trivial ?_
      rw [show Nat.max mw.length mw.length = mw.length from Nat.max_self _]
      rw [show digs 18446744073709551616 mw.length ((num 18446744073709551616 a + c * 18446744073709551616 ^ mw.length) % num 18446744073709551616 mw) = digs 18446744073709551616 mw.length (num 18446744073709551616 a + 18446744073709551616 ^ mw.length - num 18446744073709551616 mw) from less_sub hA hNW h hge]
      refine AW.seqR ?_
      refine AWo.pure (PureOp.move rfl) rfl rfl ?_
      refine AWo.pure (PureOp.assign rfl) rfl rfl ?_
      refine AWo.nil trivial ?_
      refine AW.ret ?_
      refine RetQ.gc [_] [28000] [.tmp 6] (.inl rfl) rfl (.tmp rfl .nil) rfl (.cons rfl rfl .nil) (OutL.whole rfl rfl (OkL.all rfl) (by intro h; first | rfl | exact h.elim id fun h => absurd h.1 (by simp)) (OutL.flat rfl (flatM flat_vi) (by intro h; first | rfl | exact h.elim id fun h => absurd h.1 (by simp)) (OutL.flat rfl (flatM flat_vi) (by intro h; first | rfl | exact h.elim id fun h => absurd h.1 (by simp)) (OutL.husk rfl rfl (OutL.flat rfl (by first | exact flatM flat_vi | exact flatM flat_bool | (simp [flatV, flat_vi]; done)) (by intro h; first | rfl | exact h.elim id fun h => absurd h.1 (by simp)) trivial))))) (by decide) rfl
  ·
    have hc0 : c ≠ 0 := by simpa using hb0
    have hge : num 18446744073709551616 mw ≤ num 18446744073709551616 a + c * 18446744073709551616 ^ mw.length := less_ge2 hc0 hNW
    refine AWo.pure (PureOp.move rfl) rfl rfl ?_
    refine AWo.skipped rfl rfl ?_
    refine AWo.skipped rfl rfl ?_
    refine AWo.skipped rfl rfl ?_
    refine AWo.skipped rfl rfl ?_
    refine AWo.skipped rfl rfl ?_
    refine AWo.skipped rfl rfl ?_
    refine AWo.skipped rfl rfl ?_
    refine AWo.pure (PureOp.pickF rfl rfl) rfl rfl ?_
    refine AWo.nil trivial ?_
    refine AW.condF rfl ?_
    refine AW.skip ?_
    refine thenA_normal ?_
    refine AW.seqR ?_
    refine AWo.pure (PureOp.move rfl) rfl rfl ?_
    refine AWo.pure (PureOp.move rfl) rfl rfl ?_
    refine AWo.pure (PureOp.nilCheck rfl) rfl rfl ?_
    refine AWo.pure (PureOp.fld tbok rfl rfl rfl (by decide)) rfl rfl ?_
    refine AWo.load tbok rfl rfl rfl rfl rfl rfl ?_
    refine AWo.callX (lsub_ctrN hla rfl ha hbm (by omega) (by omega)) bd65 [(77000, 0), (1, 0)] [28000] rfl (.cons rfl (.cons rfl .nil)) rfl (.cons rfl rfl (.cons rfl rfl .nil)) (.flat rfl (by first | exact flatM flat_vi | exact flatM flat_bool | (simp [flatV, flat_vi]; done)) (by intro h; first | exact h | rfl) (.flat rfl (by first | exact flatM flat_vi | exact flatM flat_bool | (simp [flatV, flat_vi]; done)) (by intro h; first | exact h | rfl) .nil)) rfl (.keep rfl (.keep rfl (.new (flat_map_ren (by first | exact flatM flat_vi | exact flatM flat_bool | (simp [flatV, flat_vi]; done))) (OkL.flat (by first | exact flatM flat_vi | exact flatM flat_bool | (simp [flatV, flat_vi]; done))) .nil))) (frC rfl frN) (by decide) (.cons rfl rfl (.cons rfl rfl .nil)) rfl rfl rfl rfl ?_
    refine AWo.pure (PureOp.move rfl) rfl rfl ?_
    refine AWo.pure (PureOp.extract rfl rfl) rfl rfl ?_
    refine AWo.pure (PureOp.extract rfl rfl) rfl rfl ?_
    refine AWo.pure (PureOp.assign rfl) rfl rfl ?_
    refine AWo.pure (PureOp.assign rfl) rfl rfl ?_
    refine AWo.nil trivial ?_
    rw [show Nat.max mw.length mw.length = mw.length from Nat.max_self _]
    rw [show digs 18446744073709551616 mw.length ((num 18446744073709551616 a + c * 18446744073709551616 ^ mw.length) % num 18446744073709551616 mw) = digs 18446744073709551616 mw.length (num 18446744073709551616 a + 18446744073709551616 ^ mw.length - num 18446744073709551616 mw) from less_sub hA hNW h hge]
    refine AW.seqR ?_
    refine AWo.pure (PureOp.move rfl) rfl rfl ?_
    refine AWo.pure (PureOp.assign rfl) rfl rfl ?_
    refine AWo.nil trivial ?_
    refine AW.ret ?_
    refine RetQ.gc [_] [28000] [.tmp 6] (.inl rfl) rfl (.tmp rfl .nil) rfl (.cons rfl rfl .nil) (OutL.whole rfl rfl (OkL.all rfl) (by intro h; first | rfl | exact h.elim id fun h => absurd h.1 (by simp)) (OutL.flat rfl (flatM flat_vi) (by intro h; first | rfl | exact h.elim id fun h => absurd h.1 (by simp)) (OutL.flat rfl (flatM flat_vi) (by intro h; first | rfl | exact h.elim id fun h => absurd h.1 (by simp)) (OutL.husk rfl rfl (OutL.flat rfl (by first | exact flatM flat_vi | exact flatM flat_bool | (simp [flatV, flat_vi]; done)) (by intro h; first | rfl | exact h.elim id fun h => absurd h.1 (by simp)) trivial))))) (by decide) rfl

set_option maxRecDepth 10000 in
theorem twice_ctr {mw sq a : List Nat} {iv c ns : Nat} (hM : MwOk mw) (ha : bd 18446744073709551616 a) (hla : a.length = mw.length) (hlt : num 18446744073709551616 a < num 18446744073709551616 mw) (hc : c ≤ 1) : GC Try.prog 120 [.pointer (some ⟨0, 0, none⟩), .slice (some ⟨3, 0, none⟩) mw.length 0, vi .u64 (c)] [⟨[.slice (some ⟨1, 0, none⟩) mw.length 0, vi .u64 iv, .slice (some ⟨2, 0, none⟩) ns 0], false, 1⟩, ⟨(mw).map (vi .u64), false, 1⟩, ⟨(sq).map (vi .u64), false, 1⟩, ⟨a.map (vi .u64), false, 1⟩] [.slice (some ⟨4, 0, none⟩) mw.length 0] [⟨[.slice (some ⟨1, 0, none⟩) mw.length 0, vi .u64 iv, .slice (some ⟨2, 0, none⟩) ns 0], false, 1⟩, ⟨(mw).map (vi .u64), false, 1⟩, ⟨(sq).map (vi .u64), false, 1⟩, ⟨a.map (vi .u64), false, 1⟩, ⟨(digs 18446744073709551616 mw.length ((2 * num 18446744073709551616 a + c) % num 18446744073709551616 mw)).map (vi .u64), true, 1⟩] := by
  refine GC.intro Try.func120 rfl (by show 3 ≤ 34; decide) (by first | exact Nat.le_refl _ | decide | simp) ?_
  obtain ⟨hbm, hm0, hml, hN⟩ := hM
  refine AW.seqR ?_
  refine AWo.pure (PureOp.assign rfl) rfl rfl ?_
  refine AWo.nil trivial ?_
  refine AW.seqR ?_
  refine AWo.pure (PureOp.move rfl) rfl rfl ?_
  refine AWo.pure (PureOp.lenS tbok rfl rfl) rfl rfl ?_
  refine AWo.makeI tbok 13000 rfl rfl rfl rfl rfl rfl (by first | decide | omega) (by first | decide | omega) rfl rfl rfl ?_
  refine AWo.pure (PureOp.assign rfl) rfl rfl ?_
  refine AWo.nil trivial ?_
  refine AW.seq ?_
  refine AW.seqR ?_
  refine AWo.pure (PureOp.move rfl) rfl rfl ?_
  refine AWo.pure (PureOp.lenS tbok rfl rfl) rfl rfl ?_
  refine AWo.pure (PureOp.move rfl) rfl rfl ?_
  refine AWo.nil trivial ?_
  refine AW.block ?_
  refine AW.loopw (fun mm σ => ∃ i, ∃ (l : List Nat), ∃ d, (i ≤ mw.length ∧ l.length = mw.length ∧ bd 18446744073709551616 l ∧ d ≤ 1 ∧ num 18446744073709551616 (l.take i) + 18446744073709551616 ^ i * d = 2 * num 18446744073709551616 (a.take i) + c) ∧ mm = mw.length - i ∧ σ = ⟨(upd (upd (upd (upd (upd (upd emp 0 (.pointer (some ⟨0, 0, none⟩))) 2 (vi .u64 d)) 7 (.slice (some ⟨77000, 0, none⟩) mw.length 0)) 13 (.slice (some ⟨3, 0, none⟩) mw.length 0)) 14 (vi .i64 mw.length)) 15 (vi .i64 i)), (upd (upd (upd (upd (upd emp 0 ⟨[.slice (some ⟨1, 0, none⟩) mw.length 0, vi .u64 iv, .slice (some ⟨2, 0, none⟩) ns 0], false, 1⟩) 1 ⟨mw.map (vi .u64), false, 1⟩) 2 ⟨sq.map (vi .u64), false, 1⟩) 3 ⟨a.map (vi .u64), false, 1⟩) 77000 ⟨l.map (vi .u64), true, 1⟩)⟩) (fm := [(77000, 13000)]) ?_ ⟨0, List.replicate mw.length 0, c, ⟨Nat.zero_le _, by simp, bd_replicate (by decide) _, hc, by simp [num]⟩, rfl, rfl⟩ ?_
  ·
    refine Wk.of [0, 1, 2, 3, 77000] ?_ ?_ ?_ (by decide) rfl
    ·
      refine WkE.upd rfl (by first | exact VR.flat _ rfl | exact VR.eqv (vp_succ _) rfl | exact VR.eqv (vp_succ _).symm rfl | exact VR.eqv (by first | rfl | (congr 1; omega) | (simp; done) | (simp; omega)) rfl) ?_
      refine WkE.upd rfl (by first | exact VR.flat _ rfl | exact VR.eqv (vp_succ _) rfl | exact VR.eqv (vp_succ _).symm rfl | exact VR.eqv (by first | rfl | (congr 1; omega) | (simp; done) | (simp; omega)) rfl) ?_
      refine WkE.upd rfl (.slice (3) 0 _ 0 ⟨_, rfl⟩ (by simp) (by simp)) ?_
      refine WkE.upd rfl (.slice (77000) 0 _ 0 ⟨_, rfl⟩ (by simp) (by simp)) ?_
      refine WkE.upd rfl (by first | exact VR.flat _ rfl | exact VR.eqv (vp_succ _) rfl | exact VR.eqv (vp_succ _).symm rfl | exact VR.eqv (by first | rfl | (congr 1; omega) | (simp; done) | (simp; omega)) rfl) ?_
      refine WkE.upd rfl (.ptr (0) 0 ⟨_, rfl⟩) ?_
      exact WkE.emp
    ·
      refine WkM.flatM rfl (by first | rfl | assumption | simp) (fun _ => rfl) (fun h => h) ?_
      refine WkM.flatM rfl (by first | rfl | assumption | simp) (fun _ => rfl) (fun h => h) ?_
      refine WkM.flatM rfl (by first | rfl | assumption | simp) (fun _ => rfl) (fun h => h) ?_
      refine WkM.flatM rfl (by first | rfl | assumption | simp) (fun _ => rfl) (fun h => h) ?_
      refine WkM.ren [1, 2] rfl rfl rfl (dom_all rfl) (fun h => h) ?_
      exact WkM.emp
    ·
      repeat (refine dom_upd_mem (by decide) ?_)
      exact dom_emp
  ·
    rintro mm σ ⟨i, l, d, ⟨hi0, hl2, hbl, hd, hnl⟩, rfl, rfl⟩
    have hx := bd_getD ha (by decide) i
    refine AW.seqR ?_
    first | refine AWo.pure (PureOp.ltN rfl rfl) rfl rfl ?_ | refine AWo.pure (PureOp.bin rfl rfl rfl) rfl rfl ?_
    refine AWo.nil trivial ?_
    refine AW.seq ?_
    refine AW.cond rfl (fun hb0 => ?_) (fun hb0 => ?_)
    ·
      have hi : i < mw.length := by simpa using hb0
      refine AW.skip ?_
      refine thenA_normal ?_
      refine AW.seq ?_
      refine AW.block ?_
      refine AW.seqR ?_
      refine AWo.pure (PureOp.move rfl) rfl rfl ?_
      first | refine AWo.pure (PureOp.idx1 tbok rfl rfl rfl rfl (by first | decide | omega)) rfl rfl ?_ | refine AWo.pure (PureOp.idx tbok rfl rfl rfl rfl (by first | decide | omega)) rfl rfl ?_
      refine AWo.loadM tbok 0 rfl rfl rfl (by omega) rfl rfl ?_
      refine AWo.pure (PureOp.assign rfl) rfl rfl ?_
      refine AWo.pure (PureOp.assign rfl) rfl rfl ?_
      refine AWo.nil trivial ?_
      refine AW.seqR ?_
      refine AWo.pure (PureOp.move rfl) rfl rfl ?_
      refine AWo.pure (PureOp.move rfl) rfl rfl ?_
      refine AWo.pure (PureOp.move rfl) rfl rfl ?_
      refine AWo.pure ((PureOp.shlUge (b := 1) 18446744073709551616 rfl rfl rfl rfl).mono (v' := vi .u64 (a.getD i 0 * 2 % 18446744073709551616)) rfl) rfl rfl ?_
      refine AWo.pure (PureOp.move rfl) rfl rfl ?_
      refine AWo.pure ((PureOp.orN 18446744073709551616 rfl rfl (by decide) (by decide) (Nat.mod_lt _ (by decide)) (by omega)).mono (v' := vi .u64 (a.getD i 0 * 2 % 18446744073709551616 + d)) (congrArg (vi .u64) (or_low hd))) rfl rfl ?_
      first | refine AWo.pure (PureOp.idx1 tbok rfl rfl rfl rfl (by first | decide | omega)) rfl rfl ?_ | refine AWo.pure (PureOp.idx tbok rfl rfl rfl rfl (by first | decide | omega)) rfl rfl ?_
      first | refine AWo.storeM (f := (vi .u64)) tbok rfl rfl rfl rfl (by first | decide | omega) rfl rfl ?_ | refine AWo.store tbok rfl rfl rfl rfl rfl (by first | decide | (simp; omega)) rfl rfl rfl ?_
      refine AWo.nil trivial ?_
      refine AW.region ?_
      refine AWo.pure (PureOp.move rfl) rfl rfl ?_
      refine AWo.pure ((PureOp.shrN (b := 63) 64 rfl rfl rfl (by decide)).mono (v' := vi .u64 (a.getD i 0 / 9223372036854775808)) rfl) rfl rfl ?_
      refine AWo.pure (PureOp.assign rfl) rfl rfl ?_
      refine AWo.nil trivial ?_
      refine inBlockA_normal ?_
      refine thenA_normal ?_
      refine AW.region ?_
      first | refine AWo.pure (PureOp.addI (b := 1) rfl rfl (by first | decide | omega)) rfl rfl ?_ | refine AWo.pure (PureOp.bin rfl rfl rfl) rfl rfl ?_
      refine AWo.pure (PureOp.move rfl) rfl rfl ?_
      refine AWo.nil trivial ?_
      refine thenA_normal ?_
      refine ⟨mw.length - (i + 1), [], _, by omega, ?_, i + 1, l.set i (a.getD i 0 * 2 % 18446744073709551616 + d), a.getD i 0 / 9223372036854775808, ⟨by omega, by simp [hl2], bd_set hbl (by omega), by omega, twice_step (by omega) hnl⟩, rfl, rfl⟩
      refine Wk.of [0, 1, 2, 3, 77000] ?_ ?_ ?_ (by decide) rfl
      ·
        refine WkE.upd rfl (by first | exact VR.flat _ rfl | exact VR.eqv (vp_succ _) rfl | exact VR.eqv (vp_succ _).symm rfl | exact VR.eqv (by first | rfl | (congr 1; omega) | (simp; done) | (simp; omega)) rfl) ?_
        refine WkE.upd rfl (by first | exact VR.flat _ rfl | exact VR.eqv (vp_succ _) rfl | exact VR.eqv (vp_succ _).symm rfl | exact VR.eqv (by first | rfl | (congr 1; omega) | (simp; done) | (simp; omega)) rfl) ?_
        refine WkE.upd rfl (.slice (3) 0 _ 0 ⟨_, rfl⟩ (by simp) (by simp)) ?_
        refine WkE.upd rfl (.slice (77000) 0 _ 0 ⟨_, rfl⟩ (by simp) (by simp)) ?_
        refine WkE.upd rfl (by first | exact VR.flat _ rfl | exact VR.eqv (vp_succ _) rfl | exact VR.eqv (vp_succ _).symm rfl | exact VR.eqv (by first | rfl | (congr 1; omega) | (simp; done) | (simp; omega)) rfl) ?_
        refine WkE.upd rfl (.ptr (0) 0 ⟨_, rfl⟩) ?_
        exact WkE.emp
      ·
        refine WkM.flatM rfl (by first | rfl | assumption | simp) (fun _ => rfl) (fun h => h) ?_
        refine WkM.flatM rfl (by first | rfl | assumption | simp) (fun _ => rfl) (fun h => h) ?_
        refine WkM.flatM rfl (by first | rfl | assumption | simp) (fun _ => rfl) (fun h => h) ?_
        refine WkM.flatM rfl (by first | rfl | assumption | simp) (fun _ => rfl) (fun h => h) ?_
        refine WkM.ren [1, 2] rfl rfl rfl (dom_all rfl) (fun h => h) ?_
        exact WkM.emp
      ·
        repeat (refine dom_upd_mem (by decide) ?_)
        exact dom_emp
    ·
      have hi : i = mw.length := by simp at hb0; omega
      subst hi
      have hfin : num 18446744073709551616 l + d * 18446744073709551616 ^ mw.length = 2 * num 18446744073709551616 a + c := by
        rw [← hl2, take_all, hl2, ← hla, take_all, hla, Nat.mul_comm] at hnl
        exact hnl
      refine AW.exit ?_
      refine thenA_exit ?_
      refine thenA_exit ?_
      refine inBlockA_hit ?_
      refine thenA_normal ?_
      rw [← hfin]
      refine AW.seqR ?_
      refine AWo.pure (PureOp.move rfl) rfl rfl ?_
      refine AWo.pure (PureOp.move rfl) rfl rfl ?_
      refine AWo.pure (PureOp.move rfl) rfl rfl ?_
      refine AWo.callX (less_ctr (a := l) ⟨hbm, hm0, hml, hN⟩ hbl hl2 (by rw [hfin]; omega)) bd123 [(0, 0), (1, 0), (2, 0), (77000, 0)] [34000] rfl (.cons rfl (.cons rfl (.cons rfl .nil))) rfl (.cons rfl rfl (.cons rfl rfl (.cons rfl rfl .nil))) (.whole rfl rfl (OkL.all rfl) (by intro h; first | exact h | rfl) (.flat rfl (flatM flat_vi) (by intro h; first | exact h | rfl) (.flat rfl (flatM flat_vi) (by intro h; first | exact h | rfl) (.flat rfl (by first | exact flatM flat_vi | exact flatM flat_bool | (simp [flatV, flat_vi]; done)) (by intro h; first | exact h | rfl) .nil)))) rfl (.keep rfl (.keep rfl (.keep rfl (.gone rfl rfl (OkL.flat (by simp)) (.new (flat_map_ren (by first | exact flatM flat_vi | exact flatM flat_bool | (simp [flatV, flat_vi]; done))) (OkL.flat (by first | exact flatM flat_vi | exact flatM flat_bool | (simp [flatV, flat_vi]; done))) .nil))))) (frC rfl frN) (by decide) (.cons rfl rfl .nil) rfl rfl rfl rfl ?_
      refine AWo.pure (PureOp.assign rfl) rfl rfl ?_
      refine AWo.nil trivial ?_
      refine AW.ret ?_
      refine RetQ.gc [_] [34000] [.tmp 6] (.inl rfl) rfl (.tmp rfl .nil) rfl (.cons rfl rfl .nil) (OutL.whole rfl rfl (OkL.all rfl) (by intro h; first | rfl | exact h.elim id fun h => absurd h.1 (by simp)) (OutL.flat rfl (flatM flat_vi) (by intro h; first | rfl | exact h.elim id fun h => absurd h.1 (by simp)) (OutL.flat rfl (flatM flat_vi) (by intro h; first | rfl | exact h.elim id fun h => absurd h.1 (by simp)) (OutL.flat rfl (by first | exact flatM flat_vi | exact flatM flat_bool | (simp [flatV, flat_vi]; done)) (by intro h; first | rfl | exact h.elim id fun h => absurd h.1 (by simp)) (OutL.flat rfl (by first | exact flatM flat_vi | exact flatM flat_bool | (simp [flatV, flat_vi]; done)) (by intro h; first | rfl | exact h.elim id fun h => absurd h.1 (by simp)) trivial))))) (by decide) rfl

set_option maxRecDepth 10000 in
theorem reduce_ctr {mw sq a : List Nat} {iv ns : Nat} (hM : MwOk mw) (ha : bd 18446744073709551616 a) (hla : a.length ≤ 1000) : GC Try.prog 61 [.pointer (some ⟨0, 0, none⟩), .slice (some ⟨3, 0, none⟩) a.length 0] [⟨[.slice (some ⟨1, 0, none⟩) mw.length 0, vi .u64 iv, .slice (some ⟨2, 0, none⟩) ns 0], false, 1⟩, ⟨(mw).map (vi .u64), false, 1⟩, ⟨(sq).map (vi .u64), false, 1⟩, ⟨a.map (vi .u64), false, 1⟩] [.slice (some ⟨4, 0, none⟩) mw.length 0] [⟨[.slice (some ⟨1, 0, none⟩) mw.length 0, vi .u64 iv, .slice (some ⟨2, 0, none⟩) ns 0], false, 1⟩, ⟨(mw).map (vi .u64), false, 1⟩, ⟨(sq).map (vi .u64), false, 1⟩, ⟨a.map (vi .u64), false, 1⟩, ⟨(digs 18446744073709551616 mw.length (num 18446744073709551616 a % num 18446744073709551616 mw)).map (vi .u64), true, 1⟩] := by
  refine GC.intro Try.func61 rfl (by show 2 ≤ 33; decide) (by first | exact Nat.le_refl _ | decide | simp) ?_
  obtain ⟨hbm, hm0, hml, hN⟩ := hM
  have hA := num_lt_blen (num 18446744073709551616 a)
  have hbw := blen_words ha
  refine AW.seqR ?_
  refine AWo.pure (PureOp.assign rfl) rfl rfl ?_
  refine AWo.nil trivial ?_
  refine AW.seqR ?_
  refine AWo.pure (PureOp.move rfl) rfl rfl ?_
  refine AWo.pure (PureOp.nilCheck rfl) rfl rfl ?_
  refine AWo.pure (PureOp.fld tbok rfl rfl rfl (by decide)) rfl rfl ?_
  refine AWo.load tbok rfl rfl rfl rfl rfl rfl ?_
  refine AWo.pure (PureOp.lenS tbok rfl rfl) rfl rfl ?_
  refine AWo.makeI tbok 13000 rfl rfl rfl rfl rfl rfl (by first | decide | omega) (by first | decide | omega) rfl rfl rfl ?_
  refine AWo.pure (PureOp.assign rfl) rfl rfl ?_
  refine AWo.nil trivial ?_
  refine AW.seq ?_
  refine AW.seqR ?_
  refine AWo.pure (PureOp.move rfl) rfl rfl ?_
  refine AWo.callX (lbits_ctr ha (by omega)) bd66 [(3, 0)] [] rfl (.cons rfl .nil) rfl (.cons rfl rfl .nil) (.flat rfl (by first | exact flatM flat_vi | exact flatM flat_bool | (simp [flatV, flat_vi]; done)) (by intro h; first | exact h | rfl) .nil) rfl (.keep rfl .nil) frN (by decide) (.cons rfl rfl .nil) rfl rfl rfl rfl ?_
  first | refine AWo.pure ((PureOp.subI (b := 1) rfl rfl (by first | decide | omega) (by first | decide | omega)).mono (v' := vp (blen (num 18446744073709551616 a))) (by first | rfl | (simp only [vp, vi]; congr 1; omega))) rfl rfl ?_ | refine AWo.pure ((PureOp.subP rfl rfl (by first | decide | omega)).mono (v' := vp (blen (num 18446744073709551616 a))) (by first | rfl | (simp only [vp, vi]; congr 1; omega))) rfl rfl ?_ | refine AWo.pure ((PureOp.bin rfl rfl rfl).mono (v' := vp (blen (num 18446744073709551616 a))) (by first | rfl | (simp only [vp, vi]; congr 1; omega))) rfl rfl ?_
  refine AWo.pure (PureOp.assign rfl) rfl rfl ?_
  refine AWo.nil trivial ?_
  refine AW.block ?_
  refine AW.loopw (fun mm σ => ∃ r, (r ≤ blen (num 18446744073709551616 a)) ∧ mm = 1 * r ∧ σ = ⟨(upd (upd (upd (upd emp 0 (.pointer (some ⟨0, 0, none⟩))) 1 (.slice (some ⟨3, 0, none⟩) a.length 0)) 5 (.slice (some ⟨77000, 0, none⟩) mw.length 0)) 6 (vp r)), (upd (upd (upd (upd (upd emp 0 ⟨[.slice (some ⟨1, 0, none⟩) mw.length 0, vi .u64 iv, .slice (some ⟨2, 0, none⟩) ns 0], false, 1⟩) 1 ⟨mw.map (vi .u64), false, 1⟩) 2 ⟨sq.map (vi .u64), false, 1⟩) 3 ⟨a.map (vi .u64), false, 1⟩) 77000 ⟨(digs 18446744073709551616 mw.length (num 18446744073709551616 a / 2 ^ r % num 18446744073709551616 mw)).map (vi .u64), true, 1⟩)⟩) (fm := [(77000, 13000)]) ?_ ⟨blen (num 18446744073709551616 a), Nat.le_refl _, rfl, rfl⟩ ?_
  ·
    refine Wk.of [0, 1, 2, 3, 77000] ?_ ?_ ?_ (by decide) rfl
    ·
      refine WkE.upd rfl (by first | exact VR.flat _ rfl | exact VR.eqv (vp_succ _) rfl | exact VR.eqv (vp_succ _).symm rfl | exact VR.eqv (by first | rfl | (congr 1; omega) | (simp; done) | (simp; omega)) rfl) ?_
      refine WkE.upd rfl (.slice (77000) 0 _ 0 ⟨_, rfl⟩ (by simp) (by simp)) ?_
      refine WkE.upd rfl (.slice (3) 0 _ 0 ⟨_, rfl⟩ (by simp) (by simp)) ?_
      refine WkE.upd rfl (.ptr (0) 0 ⟨_, rfl⟩) ?_
      exact WkE.emp
    ·
      refine WkM.flatM rfl (by first | exact red_next hN (num_lt hbm) | exact red_init hN hA) flat_vi (fun h => h) ?_
      refine WkM.flatM rfl (by first | rfl | assumption | simp) (fun _ => rfl) (fun h => h) ?_
      refine WkM.flatM rfl (by first | rfl | assumption | simp) (fun _ => rfl) (fun h => h) ?_
      refine WkM.flatM rfl (by first | rfl | assumption | simp) (fun _ => rfl) (fun h => h) ?_
      refine WkM.ren [1, 2] rfl rfl rfl (dom_all rfl) (fun h => h) ?_
      exact WkM.emp
    ·
      repeat (refine dom_upd_mem (by decide) ?_)
      exact dom_emp
  ·
    rintro mm σ ⟨r, hr, rfl, rfl⟩
    refine AW.seq ?_
    refine AW.seqR ?_
    refine AWo.pure (PureOp.move rfl) rfl rfl ?_
    first | refine AWo.pure (PureOp.geP rfl rfl) rfl rfl ?_ | refine AWo.pure (PureOp.geN (b := 0) rfl rfl) rfl rfl ?_ | refine AWo.pure (PureOp.bin rfl rfl rfl) rfl rfl ?_
    refine AWo.nil trivial ?_
    refine AW.cond rfl (fun hb0 => ?_) (fun hb0 => ?_)
    ·
      have hp0 : 0 < r := by simpa using hb0
      obtain ⟨r, rfl⟩ : ∃ q, r = q + 1 := ⟨r - 1, by omega⟩
      rw [vp_succ]
      have hal := bit_len ha (show r < blen (num 18446744073709551616 a) by omega)
      refine AW.skip ?_
      refine thenA_normal ?_
      refine AW.seq ?_
      refine AW.block ?_
      have hal := bit_len ha (show r < blen (num 18446744073709551616 a) by omega)
      refine AW.region ?_
      refine AWo.pure (PureOp.move rfl) rfl rfl ?_
      refine AWo.pure (PureOp.move rfl) rfl rfl ?_
      refine AWo.pure (PureOp.move rfl) rfl rfl ?_
      refine AWo.pure (PureOp.move rfl) rfl rfl ?_
      first | refine AWo.pure ((PureOp.quoN (b := 64) 9223372036854775808 rfl rfl (by decide) (by decide) (by first | decide | omega) (by first | decide | omega)).mono (v' := vi .i64 (r / 64)) rfl) rfl rfl ?_ | refine AWo.pure ((PureOp.quo rfl rfl (by first | decide | omega)).mono (v' := vi .i64 (r / 64)) rfl) rfl rfl ?_
      first | refine AWo.pure (PureOp.idx1 tbok rfl rfl rfl rfl (by first | decide | omega)) rfl rfl ?_ | refine AWo.pure (PureOp.idx tbok rfl rfl rfl rfl (by first | decide | omega)) rfl rfl ?_
      refine AWo.loadM tbok 0 rfl rfl rfl (by omega) rfl rfl ?_
      refine AWo.pure (PureOp.move rfl) rfl rfl ?_
      first | refine AWo.pure ((PureOp.remN (b := 64) rfl rfl (by first | decide | omega)).mono (v' := vi .i64 (r % 64)) rfl) rfl rfl ?_ | refine AWo.pure ((PureOp.rem rfl rfl (by first | decide | omega)).mono (v' := vi .i64 (r % 64)) rfl) rfl rfl ?_
      refine AWo.pure (PureOp.shrN (b := r % 64) 64 rfl rfl rfl (by omega)) rfl rfl ?_
      refine AWo.pure ((PureOp.andN 18446744073709551616 rfl rfl (by decide) (by decide) (Nat.lt_of_le_of_lt (Nat.div_le_self _ _) (bd_getD ha (by decide) _)) (by decide)).mono (v' := vi .u64 (num 18446744073709551616 a / 2 ^ r % 2)) (congrArg (vi .u64) ((Nat.and_one_is_mod _).trans (bit64_at ha r)))) rfl rfl ?_
      refine AWo.callX (twice_ctr (a := digs 18446744073709551616 mw.length (num 18446744073709551616 a / 2 ^ (r + 1) % num 18446744073709551616 mw)) ⟨hbm, hm0, hml, hN⟩ (digs_bd (by decide) _ _) (digs_len _ _) (by rw [num_digs_lt (Nat.lt_trans (Nat.mod_lt _ hN) (num_lt hbm))]; exact Nat.mod_lt _ hN) (by omega)) bd120 [(0, 0), (1, 0), (2, 0), (77000, 0)] [32000] rfl (.cons rfl (.cons rfl (.cons rfl .nil))) rfl (.cons rfl rfl (.cons rfl rfl (.cons rfl rfl .nil))) (.whole rfl rfl (OkL.all rfl) (by intro h; first | exact h | rfl) (.flat rfl (flatM flat_vi) (by intro h; first | exact h | rfl) (.flat rfl (flatM flat_vi) (by intro h; first | exact h | rfl) (.flat rfl (by first | exact flatM flat_vi | exact flatM flat_bool | (simp [flatV, flat_vi]; done)) (by intro h; first | exact h | rfl) .nil)))) rfl (.keep rfl (.keep rfl (.keep rfl (.keep rfl (.new (flat_map_ren (by first | exact flatM flat_vi | exact flatM flat_bool | (simp [flatV, flat_vi]; done))) (OkL.flat (by first | exact flatM flat_vi | exact flatM flat_bool | (simp [flatV, flat_vi]; done))) .nil))))) (frC rfl frN) (by decide) (.cons rfl rfl .nil) rfl rfl rfl rfl ?_
      refine AWo.pure (PureOp.assign rfl) rfl rfl ?_
      refine AWo.nil trivial ?_
      refine inBlockA_normal ?_
      refine thenA_normal ?_
      refine AW.region ?_
      refine AWo.pure (PureOp.move rfl) rfl rfl ?_
      first | refine AWo.pure (PureOp.subI (b := 1) rfl rfl (by first | decide | omega) (by first | decide | omega)) rfl rfl ?_ | refine AWo.pure (PureOp.subP rfl rfl (by first | decide | omega)) rfl rfl ?_ | refine AWo.pure (PureOp.bin rfl rfl rfl) rfl rfl ?_
      refine AWo.pure (PureOp.assign rfl) rfl rfl ?_
      refine AWo.nil trivial ?_
      refine thenA_normal ?_
      refine ⟨1 * r, [(77000, 32000)], _, by omega, ?_, r, by omega, rfl, rfl⟩
      refine Wk.of [0, 1, 2, 3, 77000] ?_ ?_ ?_ (by decide) rfl
      ·
        refine WkE.upd rfl (by first | exact VR.flat _ rfl | exact VR.eqv (vp_succ _) rfl | exact VR.eqv (vp_succ _).symm rfl | exact VR.eqv (by first | rfl | (congr 1; omega) | (simp; done) | (simp; omega)) rfl) ?_
        refine WkE.upd rfl (.slice (77000) 0 _ 0 ⟨_, rfl⟩ (by simp) (by simp)) ?_
        refine WkE.upd rfl (.slice (3) 0 _ 0 ⟨_, rfl⟩ (by simp) (by simp)) ?_
        refine WkE.upd rfl (.ptr (0) 0 ⟨_, rfl⟩) ?_
        exact WkE.emp
      ·
        refine WkM.flatM rfl (by first | exact red_next hN (num_lt hbm) | exact red_init hN hA) flat_vi (fun h => h) ?_
        refine WkM.flatM rfl (by first | rfl | assumption | simp) (fun _ => rfl) (fun h => h) ?_
        refine WkM.flatM rfl (by first | rfl | assumption | simp) (fun _ => rfl) (fun h => h) ?_
        refine WkM.flatM rfl (by first | rfl | assumption | simp) (fun _ => rfl) (fun h => h) ?_
        refine WkM.ren [1, 2] rfl rfl rfl (dom_all rfl) (fun h => h) ?_
        exact WkM.emp
      ·
        repeat (refine dom_upd_mem (by decide) ?_)
        exact dom_emp
    ·
      obtain rfl : r = 0 := by simpa using hb0
      rw [Nat.pow_zero, Nat.div_one]
      refine AW.exit ?_
      refine thenA_exit ?_
      refine thenA_exit ?_
      refine inBlockA_hit ?_
      refine thenA_normal ?_
      refine AW.seqR ?_
      refine AWo.pure (PureOp.move rfl) rfl rfl ?_
      refine AWo.pure (PureOp.assign rfl) rfl rfl ?_
      refine AWo.nil trivial ?_
      refine AW.ret ?_
      refine RetQ.gc [_] [77000] [.tmp 4] (.inl rfl) rfl (.tmp rfl .nil) rfl (.cons rfl rfl .nil) (OutL.whole rfl rfl (OkL.all rfl) (by intro h; first | rfl | exact h.elim id fun h => absurd h.1 (by simp)) (OutL.flat rfl (flatM flat_vi) (by intro h; first | rfl | exact h.elim id fun h => absurd h.1 (by simp)) (OutL.flat rfl (flatM flat_vi) (by intro h; first | rfl | exact h.elim id fun h => absurd h.1 (by simp)) (OutL.flat rfl (by first | exact flatM flat_vi | exact flatM flat_bool | (simp [flatV, flat_vi]; done)) (by intro h; first | rfl | exact h.elim id fun h => absurd h.1 (by simp)) (OutL.flat rfl (by first | exact flatM flat_vi | exact flatM flat_bool | (simp [flatV, flat_vi]; done)) (by intro h; first | rfl | exact h.elim id fun h => absurd h.1 (by simp)) trivial))))) (by decide) rfl

set_option maxRecDepth 10000 in
theorem madd_ctr {mw sq a b : List Nat} {iv ns : Nat} (hM : MwOk mw) (ha : bd 18446744073709551616 a) (hb : bd 18446744073709551616 b) (hla : a.length ≤ 1000) (hlb : b.length ≤ 1000) : GC Try.prog 58 [.pointer (some ⟨0, 0, none⟩), .slice (some ⟨3, 0, none⟩) a.length 0, .slice (some ⟨4, 0, none⟩) b.length 0] [⟨[.slice (some ⟨1, 0, none⟩) mw.length 0, vi .u64 iv, .slice (some ⟨2, 0, none⟩) ns 0], false, 1⟩, ⟨(mw).map (vi .u64), false, 1⟩, ⟨(sq).map (vi .u64), false, 1⟩, ⟨a.map (vi .u64), false, 1⟩, ⟨b.map (vi .u64), false, 1⟩] [.slice (some ⟨5, 0, none⟩) mw.length 0] [⟨[.slice (some ⟨1, 0, none⟩) mw.length 0, vi .u64 iv, .slice (some ⟨2, 0, none⟩) ns 0], false, 1⟩, ⟨(mw).map (vi .u64), false, 1⟩, ⟨(sq).map (vi .u64), false, 1⟩, ⟨a.map (vi .u64), false, 1⟩, ⟨b.map (vi .u64), false, 1⟩, ⟨(digs 18446744073709551616 mw.length ((num 18446744073709551616 a % num 18446744073709551616 mw + num 18446744073709551616 b % num 18446744073709551616 mw) % num 18446744073709551616 mw)).map (vi .u64), true, 1⟩] := by
  refine GC.intro Try.func58 rfl (by show 3 ≤ 23; decide) (by first | exact Nat.le_refl _ | decide | simp) ?_
  have hra := red_num hM a
  have hrb := red_num hM b
  obtain ⟨hbm, hm0, hml, hN⟩ := hM
  refine AW.seqR ?_
  refine AWo.pure (PureOp.assign rfl) rfl rfl ?_
  refine AWo.nil trivial ?_
  refine AW.seqR ?_
  refine AWo.pure (PureOp.move rfl) rfl rfl ?_
  refine AWo.pure (PureOp.move rfl) rfl rfl ?_
  refine AWo.callX (reduce_ctr (a := a) ⟨hbm, hm0, hml, hN⟩ ha hla) bd61 [(0, 0), (1, 0), (2, 0), (3, 0)] [13000] rfl (.cons rfl (.cons rfl .nil)) rfl (.cons rfl rfl (.cons rfl rfl .nil)) (.whole rfl rfl (OkL.all rfl) (by intro h; first | exact h | rfl) (.flat rfl (flatM flat_vi) (by intro h; first | exact h | rfl) (.flat rfl (flatM flat_vi) (by intro h; first | exact h | rfl) (.flat rfl (by first | exact flatM flat_vi | exact flatM flat_bool | (simp [flatV, flat_vi]; done)) (by intro h; first | exact h | rfl) .nil)))) rfl (.keep rfl (.keep rfl (.keep rfl (.keep rfl (.new (flat_map_ren (by first | exact flatM flat_vi | exact flatM flat_bool | (simp [flatV, flat_vi]; done))) (OkL.flat (by first | exact flatM flat_vi | exact flatM flat_bool | (simp [flatV, flat_vi]; done))) .nil))))) (frC rfl frN) (by decide) (.cons rfl rfl .nil) rfl rfl rfl rfl ?_
  refine AWo.pure (PureOp.move rfl) rfl rfl ?_
  refine AWo.pure (PureOp.move rfl) rfl rfl ?_
  refine AWo.callX (reduce_ctr (a := b) ⟨hbm, hm0, hml, hN⟩ hb hlb) bd61 [(0, 0), (1, 0), (2, 0), (4, 0)] [16000] rfl (.cons rfl (.cons rfl .nil)) rfl (.cons rfl rfl (.cons rfl rfl .nil)) (.whole rfl rfl (OkL.all rfl) (by intro h; first | exact h | rfl) (.flat rfl (flatM flat_vi) (by intro h; first | exact h | rfl) (.flat rfl (flatM flat_vi) (by intro h; first | exact h | rfl) (.flat rfl (by first | exact flatM flat_vi | exact flatM flat_bool | (simp [flatV, flat_vi]; done)) (by intro h; first | exact h | rfl) .nil)))) rfl (.keep rfl (.keep rfl (.keep rfl (.keep rfl (.new (flat_map_ren (by first | exact flatM flat_vi | exact flatM flat_bool | (simp [flatV, flat_vi]; done))) (OkL.flat (by first | exact flatM flat_vi | exact flatM flat_bool | (simp [flatV, flat_vi]; done))) .nil))))) (frC rfl frN) (by decide) (.cons rfl rfl .nil) rfl rfl rfl rfl ?_
  refine AWo.callX (ladd_ctrN (a := digs 18446744073709551616 mw.length (num 18446744073709551616 a % num 18446744073709551616 mw)) (b := digs 18446744073709551616 mw.length (num 18446744073709551616 b % num 18446744073709551616 mw)) (digs_len _ _) (digs_len _ _) (digs_bd (by decide) _ _) (digs_bd (by decide) _ _) (by rw [digs_len]; omega) (by rw [digs_len]; omega)) bd63 [(13000, 0), (16000, 0)] [17000] rfl (.cons rfl (.cons rfl .nil)) rfl (.cons rfl rfl (.cons rfl rfl .nil)) (.flat rfl (by first | exact flatM flat_vi | exact flatM flat_bool | (simp [flatV, flat_vi]; done)) (by intro h; first | exact h | rfl) (.flat rfl (by first | exact flatM flat_vi | exact flatM flat_bool | (simp [flatV, flat_vi]; done)) (by intro h; first | exact h | rfl) .nil)) rfl (.keep rfl (.keep rfl (.new (flat_map_ren (by first | exact flatM flat_vi | exact flatM flat_bool | (simp [flatV, flat_vi]; done))) (OkL.flat (by first | exact flatM flat_vi | exact flatM flat_bool | (simp [flatV, flat_vi]; done))) .nil))) (frC rfl frN) (by decide) (.cons rfl rfl (.cons rfl rfl .nil)) rfl rfl rfl rfl ?_
  refine AWo.pure (PureOp.move rfl) rfl rfl ?_
  refine AWo.pure (PureOp.extract rfl rfl) rfl rfl ?_
  refine AWo.pure (PureOp.extract rfl rfl) rfl rfl ?_
  refine AWo.pure (PureOp.assign rfl) rfl rfl ?_
  refine AWo.pure (PureOp.assign rfl) rfl rfl ?_
  refine AWo.nil trivial ?_
  rw [show Nat.max mw.length mw.length = mw.length from Nat.max_self _, hra.1, hrb.1]
  refine AW.seqR ?_
  refine AWo.pure (PureOp.move rfl) rfl rfl ?_
  refine AWo.pure (PureOp.move rfl) rfl rfl ?_
  refine AWo.pure (PureOp.move rfl) rfl rfl ?_
  refine AWo.callX (less_ctr (a := digs 18446744073709551616 mw.length (num 18446744073709551616 a % num 18446744073709551616 mw + num 18446744073709551616 b % num 18446744073709551616 mw)) ⟨hbm, hm0, hml, hN⟩ (digs_bd (by decide) _ _) (digs_len _ _) (by rw [add_whole]; omega)) bd123 [(0, 0), (1, 0), (2, 0), (17000, 0)] [23000] rfl (.cons rfl (.cons rfl (.cons rfl .nil))) rfl (.cons rfl rfl (.cons rfl rfl (.cons rfl rfl .nil))) (.whole rfl rfl (OkL.all rfl) (by intro h; first | exact h | rfl) (.flat rfl (flatM flat_vi) (by intro h; first | exact h | rfl) (.flat rfl (flatM flat_vi) (by intro h; first | exact h | rfl) (.flat rfl (by first | exact flatM flat_vi | exact flatM flat_bool | (simp [flatV, flat_vi]; done)) (by intro h; first | exact h | rfl) .nil)))) rfl (.keep rfl (.keep rfl (.keep rfl (.gone rfl rfl (OkL.flat (by simp)) (.new (flat_map_ren (by first | exact flatM flat_vi | exact flatM flat_bool | (simp [flatV, flat_vi]; done))) (OkL.flat (by first | exact flatM flat_vi | exact flatM flat_bool | (simp [flatV, flat_vi]; done))) .nil))))) (frC rfl frN) (by decide) (.cons rfl rfl .nil) rfl rfl rfl rfl ?_
  refine AWo.pure (PureOp.assign rfl) rfl rfl ?_
  refine AWo.nil trivial ?_
  refine AW.ret ?_
  rw [add_whole]
  refine RetQ.gc [_] [23000] [.tmp 6] (.inl rfl) rfl (.tmp rfl .nil) rfl (.cons rfl rfl .nil) (OutL.whole rfl rfl (OkL.all rfl) (by intro h; first | rfl | exact h.elim id fun h => absurd h.1 (by simp)) (OutL.flat rfl (flatM flat_vi) (by intro h; first | rfl | exact h.elim id fun h => absurd h.1 (by simp)) (OutL.flat rfl (flatM flat_vi) (by intro h; first | rfl | exact h.elim id fun h => absurd h.1 (by simp)) (OutL.flat rfl (by first | exact flatM flat_vi | exact flatM flat_bool | (simp [flatV, flat_vi]; done)) (by intro h; first | rfl | exact h.elim id fun h => absurd h.1 (by simp)) (OutL.flat rfl (by first | exact flatM flat_vi | exact flatM flat_bool | (simp [flatV, flat_vi]; done)) (by intro h; first | rfl | exact h.elim id fun h => absurd h.1 (by simp)) (OutL.flat rfl (by first | exact flatM flat_vi | exact flatM flat_bool | (simp [flatV, flat_vi]; done)) (by intro h; first | rfl | exact h.elim id fun h => absurd h.1 (by simp)) trivial)))))) (by decide) rfl
end Go.Proofs.Ytiikffiembcboaa
