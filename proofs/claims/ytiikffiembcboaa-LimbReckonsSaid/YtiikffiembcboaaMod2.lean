/- A modulus: differences; Montgomery's step. -/
import Derived.Test.YtiikffiembcboaaMod1
namespace Go.Proofs.Ytiikffiembcboaa
open Go Sim

theorem ite_one {a b : Nat} (h : ¬ a < b → False) : a < b := by
  rcases Nat.lt_or_ge a b with h1 | h1
  · exact h1
  · exact (h (by omega)).elim
theorem ite_zero {a b : Nat} (h : b ≤ a) : b ≤ a := h

theorem sub_lt {a b N n : Nat} (hlt : a < b) (_ : a < N) (hb : b < N) (hN : N < 18446744073709551616 ^ n) : digs 18446744073709551616 n ((a + (N - b)) % N) = digs 18446744073709551616 n (num 18446744073709551616 (digs 18446744073709551616 n (a + 18446744073709551616 ^ n - b)) + N) := by
  refine num_inj (digs_bd (by decide) _ _) (digs_bd (by decide) _ _) (by simp [digs_len]) ?_
  rw [num_digs, num_digs, num_digs, Nat.mod_eq_of_lt (show a + (N - b) < N by omega), Nat.mod_eq_of_lt (show a + 18446744073709551616 ^ n - b < 18446744073709551616 ^ n by omega)]
  rw [show a + 18446744073709551616 ^ n - b + N = (a + (N - b)) + 18446744073709551616 ^ n by omega, Nat.add_mod_right]

theorem sub_ge {a b N n : Nat} (hge : b ≤ a) (ha : a < N) (hb : b < N) (hN : N < 18446744073709551616 ^ n) : digs 18446744073709551616 n ((a + (N - b)) % N) = digs 18446744073709551616 n (a + 18446744073709551616 ^ n - b) := by
  refine num_inj (digs_bd (by decide) _ _) (digs_bd (by decide) _ _) (by simp [digs_len]) ?_
  rw [num_digs, num_digs, show a + (N - b) = (a - b) + N by omega, Nat.add_mod_right, Nat.mod_eq_of_lt (show a - b < N by omega)]
  rw [show a + 18446744073709551616 ^ n - b = (a - b) + 18446744073709551616 ^ n by omega, Nat.add_mod_right]

set_option maxRecDepth 10000 in
theorem msub_ctr {mw sq a b : List Nat} {iv ns : Nat} (hM : MwOk mw) (ha : bd 18446744073709551616 a) (hb : bd 18446744073709551616 b) (hla : a.length ≤ 1000) (hlb : b.length ≤ 1000) : GC Try.prog 60 [.pointer (some ⟨0, 0, none⟩), .slice (some ⟨3, 0, none⟩) a.length 0, .slice (some ⟨4, 0, none⟩) b.length 0] [⟨[.slice (some ⟨1, 0, none⟩) mw.length 0, vi .u64 iv, .slice (some ⟨2, 0, none⟩) ns 0], false, 1⟩, ⟨(mw).map (vi .u64), false, 1⟩, ⟨(sq).map (vi .u64), false, 1⟩, ⟨a.map (vi .u64), false, 1⟩, ⟨b.map (vi .u64), false, 1⟩] [.slice (some ⟨5, 0, none⟩) mw.length 0] [⟨[.slice (some ⟨1, 0, none⟩) mw.length 0, vi .u64 iv, .slice (some ⟨2, 0, none⟩) ns 0], false, 1⟩, ⟨(mw).map (vi .u64), false, 1⟩, ⟨(sq).map (vi .u64), false, 1⟩, ⟨a.map (vi .u64), false, 1⟩, ⟨b.map (vi .u64), false, 1⟩, ⟨(digs 18446744073709551616 mw.length ((num 18446744073709551616 a % num 18446744073709551616 mw + (num 18446744073709551616 mw - num 18446744073709551616 b % num 18446744073709551616 mw)) % num 18446744073709551616 mw)).map (vi .u64), true, 1⟩] := by
  refine GC.intro Try.func60 rfl (by show 3 ≤ 31; decide) (by first | exact Nat.le_refl _ | decide | simp) ?_
  have hra := red_num hM a
  have hrb := red_num hM b
  obtain ⟨hbm, hm0, hml, hN⟩ := hM
  have hNW := num_lt hbm
  refine AW.seqR ?_
  refine AWo.pure (PureOp.assign rfl) rfl rfl ?_
  refine AWo.nil trivial ?_
  refine AW.seqR ?_
  refine AWo.pure (PureOp.move rfl) rfl rfl ?_
  refine AWo.pure (PureOp.move rfl) rfl rfl ?_
  refine AWo.callX (reduce_ctr (a := a) ⟨hbm, hm0, hml, hN⟩ ha hla) bd61 [(0, 0), (1, 0), (2, 0), (3, 0)] [13000] rfl (.cons rfl (.cons rfl .nil)) rfl (.cons rfl rfl (.cons rfl rfl .nil)) (.whole rfl rfl (OkL.all rfl) (by intro h; first | exact h | rfl) (.flat rfl (flatM flat_vi) (by intro h; first | exact h | rfl) (.flat rfl (flatM flat_vi) (by intro h; first | exact h | rfl) (.flat rfl (by first | exact flatM flat_vi | exact flatM flat_bool | (simp [flatV, flat_vi]; done)) (by intro h; first | exact h | rfl) .nil)))) rfl (.keep rfl (.keep rfl (.keep rfl (.keep rfl (.new (flat_map_ren (by first | exact flatM flat_vi | exact flatM flat_bool | (simp [flatV, flat_vi]; done))) (OkL.flat (by first | exact flatM flat_vi | exact flatM flat_bool | (simp [flatV, flat_vi]; done))) .nil))))) (frC rfl frN) (by decide) (.cons rfl rfl .nil) rfl rfl rfl rfl ?_
  refine AWo.pure (PureOp.move rfl) rfl rfl ?_
  refine AWo.pure (PureOp.move rfl) rfl rfl ?_
  refine AWo.callX (reduce_ctr (a := b) ⟨hbm, hm0, hml, hN⟩ hb hlb) bd61 [(0, 0), (1, 0), (2, 0), (4, 0)] [16000] rfl (.cons rfl (.cons rfl .nil)) rfl (.cons rfl rfl (.cons rfl rfl .nil)) (.whole rfl rfl (OkL.all rfl) (by intro h; first | exact h | rfl) (.flat rfl (flatM flat_vi) (by intro h; first | exact h | rfl) (.flat rfl (flatM flat_vi) (by intro h; first | exact h | rfl) (.flat rfl (by first | exact flatM flat_vi | exact flatM flat_bool | (simp [flatV, flat_vi]; done)) (by intro h; first | exact h | rfl) .nil)))) rfl (.keep rfl (.keep rfl (.keep rfl (.keep rfl (.new (flat_map_ren (by first | exact flatM flat_vi | exact flatM flat_bool | (simp [flatV, flat_vi]; done))) (OkL.flat (by first | exact flatM flat_vi | exact flatM flat_bool | (simp [flatV, flat_vi]; done))) .nil))))) (frC rfl frN) (by decide) (.cons rfl rfl .nil) rfl rfl rfl rfl ?_
  refine AWo.callX (lsub_ctrN (a := digs 18446744073709551616 mw.length (num 18446744073709551616 a % num 18446744073709551616 mw)) (b := digs 18446744073709551616 mw.length (num 18446744073709551616 b % num 18446744073709551616 mw)) (digs_len _ _) (digs_len _ _) (digs_bd (by decide) _ _) (digs_bd (by decide) _ _) (by rw [digs_len]; omega) (by rw [digs_len]; omega)) bd65 [(13000, 0), (16000, 0)] [17000] rfl (.cons rfl (.cons rfl .nil)) rfl (.cons rfl rfl (.cons rfl rfl .nil)) (.flat rfl (by first | exact flatM flat_vi | exact flatM flat_bool | (simp [flatV, flat_vi]; done)) (by intro h; first | exact h | rfl) (.flat rfl (by first | exact flatM flat_vi | exact flatM flat_bool | (simp [flatV, flat_vi]; done)) (by intro h; first | exact h | rfl) .nil)) rfl (.keep rfl (.keep rfl (.new (flat_map_ren (by first | exact flatM flat_vi | exact flatM flat_bool | (simp [flatV, flat_vi]; done))) (OkL.flat (by first | exact flatM flat_vi | exact flatM flat_bool | (simp [flatV, flat_vi]; done))) .nil))) (frC rfl frN) (by decide) (.cons rfl rfl (.cons rfl rfl .nil)) rfl rfl rfl rfl ?_
  refine AWo.pure (PureOp.move rfl) rfl rfl ?_
  refine AWo.pure (PureOp.extract rfl rfl) rfl rfl ?_
  refine AWo.pure (PureOp.extract rfl rfl) rfl rfl ?_
  refine AWo.pure (PureOp.assign rfl) rfl rfl ?_
  refine AWo.pure (PureOp.assign rfl) rfl rfl ?_
  refine AWo.nil trivial ?_
  refine AW.seq ?_
  rw [show Nat.max mw.length mw.length = mw.length from Nat.max_self _, hra.1, hrb.1]
  refine AW.seqR ?_
  refine AWo.pure (PureOp.move rfl) rfl rfl ?_
  first | refine AWo.pure (PureOp.neN (b := 0) rfl rfl) rfl rfl ?_ | refine AWo.pure (PureOp.bin rfl rfl rfl) rfl rfl ?_
  refine AWo.nil trivial ?_
  refine AW.cond rfl (fun hb0 => ?_) (fun hb0 => ?_)
  ·
    have hlt := ite_one (by simpa using hb0)
    refine AW.region ?_
    refine AWo.pure (PureOp.move rfl) rfl rfl ?_
    refine AWo.pure (PureOp.move rfl) rfl rfl ?_
    refine AWo.pure (PureOp.nilCheck rfl) rfl rfl ?_
    refine AWo.pure (PureOp.fld tbok rfl rfl rfl (by decide)) rfl rfl ?_
    refine AWo.load tbok rfl rfl rfl rfl rfl rfl ?_
    refine AWo.callX (ladd_ctrN (a := digs 18446744073709551616 mw.length (num 18446744073709551616 a % num 18446744073709551616 mw + 18446744073709551616 ^ mw.length - num 18446744073709551616 b % num 18446744073709551616 mw)) (b := mw) (digs_len _ _) rfl (digs_bd (by decide) _ _) hbm (by rw [digs_len]; omega) (by omega)) bd63 [(17000, 0), (1, 0)] [28000] rfl (.cons rfl (.cons rfl .nil)) rfl (.cons rfl rfl (.cons rfl rfl .nil)) (.flat rfl (by first | exact flatM flat_vi | exact flatM flat_bool | (simp [flatV, flat_vi]; done)) (by intro h; first | exact h | rfl) (.flat rfl (by first | exact flatM flat_vi | exact flatM flat_bool | (simp [flatV, flat_vi]; done)) (by intro h; first | exact h | rfl) .nil)) rfl (.keep rfl (.keep rfl (.new (flat_map_ren (by first | exact flatM flat_vi | exact flatM flat_bool | (simp [flatV, flat_vi]; done))) (OkL.flat (by first | exact flatM flat_vi | exact flatM flat_bool | (simp [flatV, flat_vi]; done))) .nil))) (frC rfl frN) (by decide) (.cons rfl rfl (.cons rfl rfl .nil)) rfl rfl rfl rfl ?_
    refine AWo.pure (PureOp.move rfl) rfl rfl ?_
    refine AWo.pure (PureOp.extract rfl rfl) rfl rfl ?_
    refine AWo.pure (PureOp.extract rfl rfl) rfl rfl ?_
    refine AWo.pure (PureOp.assign rfl) rfl rfl ?_
    refine AWo.nil trivial ?_
    refine thenA_normal ?_
    try rw [show Nat.max mw.length mw.length = mw.length from Nat.max_self _]
    refine AW.seqR ?_
    refine AWo.pure (PureOp.move rfl) rfl rfl ?_
    refine AWo.pure (PureOp.assign rfl) rfl rfl ?_
    refine AWo.nil trivial ?_
    refine AW.ret ?_
    first | rw [sub_lt hlt hra.2 hrb.2 hNW] | rw [sub_ge hge hra.2 hrb.2 hNW]
    refine RetQ.gc [_] [28000] [.tmp 6] (.inl rfl) rfl (.tmp rfl .nil) rfl (.cons rfl rfl .nil) (OutL.whole rfl rfl (OkL.all rfl) (by intro h; first | rfl | exact h.elim id fun h => absurd h.1 (by simp)) (OutL.flat rfl (flatM flat_vi) (by intro h; first | rfl | exact h.elim id fun h => absurd h.1 (by simp)) (OutL.flat rfl (flatM flat_vi) (by intro h; first | rfl | exact h.elim id fun h => absurd h.1 (by simp)) (OutL.flat rfl (by first | exact flatM flat_vi | exact flatM flat_bool | (simp [flatV, flat_vi]; done)) (by intro h; first | rfl | exact h.elim id fun h => absurd h.1 (by simp)) (OutL.flat rfl (by first | exact flatM flat_vi | exact flatM flat_bool | (simp [flatV, flat_vi]; done)) (by intro h; first | rfl | exact h.elim id fun h => absurd h.1 (by simp)) (OutL.flat rfl (by first | exact flatM flat_vi | exact flatM flat_bool | (simp [flatV, flat_vi]; done)) (by intro h; first | rfl | exact h.elim id fun h => absurd h.1 (by simp)) trivial)))))) (by decide) rfl
  ·
    have hge := ite_zero (by simpa using hb0)
    refine AW.skip ?_
    refine thenA_normal ?_
    try rw [show Nat.max mw.length mw.length = mw.length from Nat.max_self _]
    refine AW.seqR ?_
    refine AWo.pure (PureOp.move rfl) rfl rfl ?_
    refine AWo.pure (PureOp.assign rfl) rfl rfl ?_
    refine AWo.nil trivial ?_
    refine AW.ret ?_
    first | rw [sub_lt hlt hra.2 hrb.2 hNW] | rw [sub_ge hge hra.2 hrb.2 hNW]
    refine RetQ.gc [_] [17000] [.tmp 6] (.inl rfl) rfl (.tmp rfl .nil) rfl (.cons rfl rfl .nil) (OutL.whole rfl rfl (OkL.all rfl) (by intro h; first | rfl | exact h.elim id fun h => absurd h.1 (by simp)) (OutL.flat rfl (flatM flat_vi) (by intro h; first | rfl | exact h.elim id fun h => absurd h.1 (by simp)) (OutL.flat rfl (flatM flat_vi) (by intro h; first | rfl | exact h.elim id fun h => absurd h.1 (by simp)) (OutL.flat rfl (by first | exact flatM flat_vi | exact flatM flat_bool | (simp [flatV, flat_vi]; done)) (by intro h; first | rfl | exact h.elim id fun h => absurd h.1 (by simp)) (OutL.flat rfl (by first | exact flatM flat_vi | exact flatM flat_bool | (simp [flatV, flat_vi]; done)) (by intro h; first | rfl | exact h.elim id fun h => absurd h.1 (by simp)) (OutL.flat rfl (by first | exact flatM flat_vi | exact flatM flat_bool | (simp [flatV, flat_vi]; done)) (by intro h; first | rfl | exact h.elim id fun h => absurd h.1 (by simp)) trivial)))))) (by decide) rfl
end Go.Proofs.Ytiikffiembcboaa
