/- A modulus: products and powers. -/
import Derived.Test.YtiikffiembcboaaMod3
namespace Go.Proofs.Ytiikffiembcboaa
open Go Sim

theorem dnum {mw : List Nat} (hM : MwOk mw) {v : Nat} : num 18446744073709551616 (digs 18446744073709551616 mw.length (v % num 18446744073709551616 mw)) = v % num 18446744073709551616 mw := num_digs_lt (Nat.lt_trans (Nat.mod_lt _ hM.2.2.2) (num_lt hM.1))

theorem sh_in (a w N : Nat) : a * w % N * w % N = a % N * (w * w % N) % N := by
  rw [Nat.mod_mul_mod, Nat.mod_mul_mod, Nat.mul_mod_mod, Nat.mul_assoc]
theorem sh_mul (a b w N : Nat) : a * b % N * w % N = a * w % N * (b % N) % N := by
  rw [Nat.mod_mul_mod, Nat.mod_mul_mod, Nat.mul_mod_mod]
  congr 1
  grind
theorem sh_sq (x y w N : Nat) : x * y * w % N * w % N = x * w % N * (y * w % N) % N := by
  rw [Nat.mod_mul_mod, ← Nat.mul_mod]
  congr 1
  grind

theorem one_digs {mw : List Nat} (hb : bd 18446744073709551616 mw) (h0 : 0 < mw.length) (h1 : 1 < num 18446744073709551616 mw) : (List.replicate mw.length 0).set 0 1 = digs 18446744073709551616 mw.length (1 % num 18446744073709551616 mw) := by
  rw [Nat.mod_eq_of_lt h1]
  refine num_inj (bd_set (bd_replicate (by decide) _) (by decide)) (digs_bd (by decide) _ _) (by simp [digs_len]) ?_
  have := num_set (B := 18446744073709551616) (l := List.replicate mw.length 0) (k := 0) (v := 1) (by simpa using h0)
  rw [rep_getD, num_replicate] at this
  rw [num_digs_lt (Nat.lt_trans h1 (num_lt hb))]
  simpa using this

theorem pow_odd {a b r : Nat} (h : b / 2 ^ r % 2 = 1) : a ^ (b / 2 ^ r) = a ^ (b / 2 ^ (r + 1)) * a ^ (b / 2 ^ (r + 1)) * a := by
  have e : b / 2 ^ r = b / 2 ^ (r + 1) + b / 2 ^ (r + 1) + 1 := by
    rw [Nat.pow_succ, ← Nat.div_div_eq_div_mul]; omega
  conv => lhs; rw [e]
  rw [Nat.pow_succ, Nat.pow_add]

theorem pow_even {a b r : Nat} (h : ¬ b / 2 ^ r % 2 = 1) : a ^ (b / 2 ^ r) = a ^ (b / 2 ^ (r + 1)) * a ^ (b / 2 ^ (r + 1)) := by
  have e : b / 2 ^ r = b / 2 ^ (r + 1) + b / 2 ^ (r + 1) := by
    rw [Nat.pow_succ, ← Nat.div_div_eq_div_mul]; omega
  conv => lhs; rw [e]
  rw [Nat.pow_add]

theorem exp_init {a b n N w : Nat} (h : b / 2 ^ blen b = 0) : digs 18446744073709551616 n (a ^ (b / 2 ^ blen b) * w % N) = digs 18446744073709551616 n (1 * w % N) := by rw [h, Nat.pow_zero]

set_option maxRecDepth 10000 in
theorem mmul_ctr {mw a b : List Nat} {iv : Nat} (hM : MwOk mw) (ha : bd 18446744073709551616 a) (hb : bd 18446744073709551616 b) (hla : a.length ≤ 1000) (hlb : b.length ≤ 1000) (hiv : (num 18446744073709551616 mw * iv + 1) % 18446744073709551616 = 0) : GC Try.prog 59 [.pointer (some ⟨0, 0, none⟩), .slice (some ⟨3, 0, none⟩) a.length 0, .slice (some ⟨4, 0, none⟩) b.length 0] [⟨[.slice (some ⟨1, 0, none⟩) mw.length 0, vi .u64 iv, .slice (some ⟨2, 0, none⟩) mw.length 0], false, 1⟩, ⟨(mw).map (vi .u64), false, 1⟩, ⟨(digs 18446744073709551616 mw.length (18446744073709551616 ^ mw.length * 18446744073709551616 ^ mw.length % num 18446744073709551616 mw)).map (vi .u64), false, 1⟩, ⟨a.map (vi .u64), false, 1⟩, ⟨b.map (vi .u64), false, 1⟩] [.slice (some ⟨5, 0, none⟩) mw.length 0] [⟨[.slice (some ⟨1, 0, none⟩) mw.length 0, vi .u64 iv, .slice (some ⟨2, 0, none⟩) mw.length 0], false, 1⟩, ⟨(mw).map (vi .u64), false, 1⟩, ⟨(digs 18446744073709551616 mw.length (18446744073709551616 ^ mw.length * 18446744073709551616 ^ mw.length % num 18446744073709551616 mw)).map (vi .u64), false, 1⟩, ⟨a.map (vi .u64), false, 1⟩, ⟨b.map (vi .u64), false, 1⟩, ⟨(digs 18446744073709551616 mw.length (num 18446744073709551616 a * num 18446744073709551616 b % num 18446744073709551616 mw)).map (vi .u64), true, 1⟩] := by
  refine GC.intro Try.func59 rfl (by show 3 ≤ 21; decide) (by first | exact Nat.le_refl _ | decide | simp) ?_
  have hM0 := hM
  obtain ⟨hbm, hm0, hml, hN⟩ := hM
  refine AW.seqR ?_
  refine AWo.pure (PureOp.assign rfl) rfl rfl ?_
  refine AWo.nil trivial ?_
  refine AW.seqD mixed ?_
  refine AWo.pure (PureOp.move rfl) rfl rfl ?_
  refine AWo.pure (PureOp.move rfl) rfl rfl ?_
  refine AWo.pure (PureOp.move rfl) rfl rfl ?_
  refine AWo.pure (PureOp.move rfl) rfl rfl ?_
  refine AWo.callX (reduce_ctr (a := a) ⟨hbm, hm0, hml, hN⟩ ha hla) bd61 [(0, 0), (1, 0), (2, 0), (3, 0)] [12000] rfl (.cons rfl (.cons rfl .nil)) rfl (.cons rfl rfl (.cons rfl rfl .nil)) (.whole rfl rfl (OkL.all rfl) (by intro h; first | exact h | rfl) (.flat rfl (flatM flat_vi) (by intro h; first | exact h | rfl) (.flat rfl (flatM flat_vi) (by intro h; first | exact h | rfl) (.flat rfl (by first | exact flatM flat_vi | exact flatM flat_bool | (simp [flatV, flat_vi]; done)) (by intro h; first | exact h | rfl) .nil)))) rfl (.keep rfl (.keep rfl (.keep rfl (.keep rfl (.new (flat_map_ren (by first | exact flatM flat_vi | exact flatM flat_bool | (simp [flatV, flat_vi]; done))) (OkL.flat (by first | exact flatM flat_vi | exact flatM flat_bool | (simp [flatV, flat_vi]; done))) .nil))))) (frC rfl frN) (by decide) (.cons rfl rfl .nil) rfl rfl rfl rfl ?_
  refine AWo.pure (PureOp.move rfl) rfl rfl ?_
  refine AWo.pure (PureOp.nilCheck rfl) rfl rfl ?_
  refine AWo.pure (PureOp.fld tbok rfl rfl rfl (by decide)) rfl rfl ?_
  refine AWo.load tbok rfl rfl rfl rfl rfl rfl ?_
  refine AWo.callX (shrink_ctr (a := digs 18446744073709551616 mw.length (num 18446744073709551616 a % num 18446744073709551616 mw)) (b := digs 18446744073709551616 mw.length (18446744073709551616 ^ mw.length * 18446744073709551616 ^ mw.length % num 18446744073709551616 mw)) (r := num 18446744073709551616 a * 18446744073709551616 ^ mw.length % num 18446744073709551616 mw) ⟨hbm, hm0, hml, hN⟩ (digs_bd (by decide) _ _) (digs_bd (by decide) _ _) (digs_len _ _) (digs_len _ _) (by rw [dnum hM0]; exact Nat.mod_lt _ hN) hiv (Nat.mod_lt _ hN) (by rw [dnum hM0, dnum hM0]; exact sh_in _ _ _)) bd121 [(0, 0), (1, 0), (2, 0), (12000, 0), (2, 0)] [17000] rfl (.cons rfl (.cons rfl (.cons rfl .nil))) rfl (.cons rfl rfl (.cons rfl rfl (.cons rfl rfl .nil))) (.whole rfl rfl (OkL.all rfl) (by intro h; first | exact h | rfl) (.flat rfl (flatM flat_vi) (by intro h; first | exact h | rfl) (.flat rfl (flatM flat_vi) (by intro h; first | exact h | rfl) (.flat rfl (by first | exact flatM flat_vi | exact flatM flat_bool | (simp [flatV, flat_vi]; done)) (by intro h; first | exact h | rfl) (.flat rfl (by first | exact flatM flat_vi | exact flatM flat_bool | (simp [flatV, flat_vi]; done)) (by intro h; first | exact h | rfl) .nil))))) rfl (.keep rfl (.keep rfl (.keep rfl (.keep rfl (.keep rfl (.new (flat_map_ren (by first | exact flatM flat_vi | exact flatM flat_bool | (simp [flatV, flat_vi]; done))) (OkL.flat (by first | exact flatM flat_vi | exact flatM flat_bool | (simp [flatV, flat_vi]; done))) .nil)))))) (frC rfl frN) (by decide) (.cons rfl rfl .nil) rfl rfl rfl rfl ?_
  refine AWo.pure (PureOp.move rfl) rfl rfl ?_
  refine AWo.pure (PureOp.move rfl) rfl rfl ?_
  refine AWo.callX (reduce_ctr (a := b) ⟨hbm, hm0, hml, hN⟩ hb hlb) bd61 [(0, 0), (1, 0), (2, 0), (4, 0)] [20000] rfl (.cons rfl (.cons rfl .nil)) rfl (.cons rfl rfl (.cons rfl rfl .nil)) (.whole rfl rfl (OkL.all rfl) (by intro h; first | exact h | rfl) (.flat rfl (flatM flat_vi) (by intro h; first | exact h | rfl) (.flat rfl (flatM flat_vi) (by intro h; first | exact h | rfl) (.flat rfl (by first | exact flatM flat_vi | exact flatM flat_bool | (simp [flatV, flat_vi]; done)) (by intro h; first | exact h | rfl) .nil)))) rfl (.keep rfl (.keep rfl (.keep rfl (.keep rfl (.new (flat_map_ren (by first | exact flatM flat_vi | exact flatM flat_bool | (simp [flatV, flat_vi]; done))) (OkL.flat (by first | exact flatM flat_vi | exact flatM flat_bool | (simp [flatV, flat_vi]; done))) .nil))))) (frC rfl frN) (by decide) (.cons rfl rfl .nil) rfl rfl rfl rfl ?_
  refine AWo.callX (shrink_ctr (a := digs 18446744073709551616 mw.length (num 18446744073709551616 a * 18446744073709551616 ^ mw.length % num 18446744073709551616 mw)) (b := digs 18446744073709551616 mw.length (num 18446744073709551616 b % num 18446744073709551616 mw)) (r := num 18446744073709551616 a * num 18446744073709551616 b % num 18446744073709551616 mw) ⟨hbm, hm0, hml, hN⟩ (digs_bd (by decide) _ _) (digs_bd (by decide) _ _) (digs_len _ _) (digs_len _ _) (by rw [dnum hM0]; exact Nat.mod_lt _ hN) hiv (Nat.mod_lt _ hN) (by rw [dnum hM0, dnum hM0]; exact sh_mul _ _ _ _)) bd121 [(0, 0), (1, 0), (2, 0), (17000, 0), (20000, 0)] [21000] rfl (.cons rfl (.cons rfl (.cons rfl .nil))) rfl (.cons rfl rfl (.cons rfl rfl (.cons rfl rfl .nil))) (.whole rfl rfl (OkL.all rfl) (by intro h; first | exact h | rfl) (.flat rfl (flatM flat_vi) (by intro h; first | exact h | rfl) (.flat rfl (flatM flat_vi) (by intro h; first | exact h | rfl) (.flat rfl (by first | exact flatM flat_vi | exact flatM flat_bool | (simp [flatV, flat_vi]; done)) (by intro h; first | exact h | rfl) (.flat rfl (by first | exact flatM flat_vi | exact flatM flat_bool | (simp [flatV, flat_vi]; done)) (by intro h; first | exact h | rfl) .nil))))) rfl (.keep rfl (.keep rfl (.keep rfl (.keep rfl (.keep rfl (.new (flat_map_ren (by first | exact flatM flat_vi | exact flatM flat_bool | (simp [flatV, flat_vi]; done))) (OkL.flat (by first | exact flatM flat_vi | exact flatM flat_bool | (simp [flatV, flat_vi]; done))) .nil)))))) (frC rfl frN) (by decide) (.cons rfl rfl .nil) rfl rfl rfl rfl ?_
  refine AWo.pure (PureOp.assign rfl) rfl rfl ?_
  refine AWo.nil (by kernel_rfl) ?_
  refine AW.ret ?_
  refine RetQ.gc [_] [21000] [.tmp 6] (.inl rfl) rfl (.tmp rfl .nil) rfl (.cons rfl rfl .nil) (OutL.whole rfl rfl (OkL.all rfl) (by intro h; first | rfl | exact h.elim id fun h => absurd h.1 (by simp)) (OutL.flat rfl (flatM flat_vi) (by intro h; first | rfl | exact h.elim id fun h => absurd h.1 (by simp)) (OutL.flat rfl (flatM flat_vi) (by intro h; first | rfl | exact h.elim id fun h => absurd h.1 (by simp)) (OutL.flat rfl (by first | exact flatM flat_vi | exact flatM flat_bool | (simp [flatV, flat_vi]; done)) (by intro h; first | rfl | exact h.elim id fun h => absurd h.1 (by simp)) (OutL.flat rfl (by first | exact flatM flat_vi | exact flatM flat_bool | (simp [flatV, flat_vi]; done)) (by intro h; first | rfl | exact h.elim id fun h => absurd h.1 (by simp)) (OutL.flat rfl (by first | exact flatM flat_vi | exact flatM flat_bool | (simp [flatV, flat_vi]; done)) (by intro h; first | rfl | exact h.elim id fun h => absurd h.1 (by simp)) trivial)))))) (by decide) rfl

set_option maxRecDepth 10000 in
theorem mexp_ctr {mw a b : List Nat} {iv : Nat} (hM : MwOk mw) (ha : bd 18446744073709551616 a) (hb : bd 18446744073709551616 b) (hla : a.length ≤ 1000) (hlb : b.length ≤ 1000) (hiv : (num 18446744073709551616 mw * iv + 1) % 18446744073709551616 = 0) (hN1 : 1 < num 18446744073709551616 mw) : GC Try.prog 54 [.pointer (some ⟨0, 0, none⟩), .slice (some ⟨3, 0, none⟩) a.length 0, .slice (some ⟨4, 0, none⟩) b.length 0] [⟨[.slice (some ⟨1, 0, none⟩) mw.length 0, vi .u64 iv, .slice (some ⟨2, 0, none⟩) mw.length 0], false, 1⟩, ⟨(mw).map (vi .u64), false, 1⟩, ⟨(digs 18446744073709551616 mw.length (18446744073709551616 ^ mw.length * 18446744073709551616 ^ mw.length % num 18446744073709551616 mw)).map (vi .u64), false, 1⟩, ⟨a.map (vi .u64), false, 1⟩, ⟨b.map (vi .u64), false, 1⟩] [.slice (some ⟨5, 0, none⟩) mw.length 0] [⟨[.slice (some ⟨1, 0, none⟩) mw.length 0, vi .u64 iv, .slice (some ⟨2, 0, none⟩) mw.length 0], false, 1⟩, ⟨(mw).map (vi .u64), false, 1⟩, ⟨(digs 18446744073709551616 mw.length (18446744073709551616 ^ mw.length * 18446744073709551616 ^ mw.length % num 18446744073709551616 mw)).map (vi .u64), false, 1⟩, ⟨a.map (vi .u64), false, 1⟩, ⟨b.map (vi .u64), false, 1⟩, ⟨(digs 18446744073709551616 mw.length (num 18446744073709551616 a ^ num 18446744073709551616 b % num 18446744073709551616 mw)).map (vi .u64), true, 1⟩] := by
  refine GC.intro Try.func54 rfl (by show 3 ≤ 64; decide) (by first | exact Nat.le_refl _ | decide | simp) ?_
  have hM0 := hM
  obtain ⟨hbm, hm0, hml, hN⟩ := hM
  have hB := num_lt_blen (num 18446744073709551616 b)
  have hbw := blen_words hb
  have h1N : 1 % num 18446744073709551616 mw = 1 := Nat.mod_eq_of_lt hN1
  refine AW.seqR ?_
  refine AWo.pure (PureOp.assign rfl) rfl rfl ?_
  refine AWo.nil trivial ?_
  refine AW.seqR ?_
  refine AWo.pure (PureOp.move rfl) rfl rfl ?_
  refine AWo.pure (PureOp.nilCheck rfl) rfl rfl ?_
  refine AWo.pure (PureOp.fld tbok rfl rfl rfl (by decide)) rfl rfl ?_
  refine AWo.load tbok rfl rfl rfl rfl rfl rfl ?_
  refine AWo.pure (PureOp.lenS tbok rfl rfl) rfl rfl ?_
  refine AWo.makeI tbok 17000 rfl rfl rfl rfl rfl rfl (by first | decide | omega) (by first | decide | omega) rfl rfl rfl ?_
  refine AWo.pure (PureOp.assign rfl) rfl rfl ?_
  refine AWo.nil trivial ?_
  refine AW.seqR ?_
  refine AWo.pure (PureOp.move rfl) rfl rfl ?_
  first | refine AWo.pure (PureOp.idx1 (j := 0) tbok rfl rfl rfl rfl (by first | decide | omega)) rfl rfl ?_ | refine AWo.pure (PureOp.idx (j := 0) tbok rfl rfl rfl rfl (by first | decide | omega)) rfl rfl ?_
  refine AWo.storeM (f := (vi .u64)) (y := 1) tbok rfl rfl rfl rfl (by simp; omega) rfl rfl ?_
  refine AWo.nil trivial ?_
  rw [show (List.replicate mw.length 0).set 0 1 = digs 18446744073709551616 mw.length (1 % num 18446744073709551616 mw) from one_digs hbm hm0 hN1]
  refine AW.seqD mixed ?_
  refine AWo.pure (PureOp.move rfl) rfl rfl ?_
  refine AWo.pure (PureOp.move rfl) rfl rfl ?_
  refine AWo.pure (PureOp.move rfl) rfl rfl ?_
  refine AWo.callX (reduce_ctr (a := a) ⟨hbm, hm0, hml, hN⟩ ha hla) bd61 [(0, 0), (1, 0), (2, 0), (3, 0)] [23000] rfl (.cons rfl (.cons rfl .nil)) rfl (.cons rfl rfl (.cons rfl rfl .nil)) (.whole rfl rfl (OkL.all rfl) (by intro h; first | exact h | rfl) (.flat rfl (flatM flat_vi) (by intro h; first | exact h | rfl) (.flat rfl (flatM flat_vi) (by intro h; first | exact h | rfl) (.flat rfl (by first | exact flatM flat_vi | exact flatM flat_bool | (simp [flatV, flat_vi]; done)) (by intro h; first | exact h | rfl) .nil)))) rfl (.keep rfl (.keep rfl (.keep rfl (.keep rfl (.new (flat_map_ren (by first | exact flatM flat_vi | exact flatM flat_bool | (simp [flatV, flat_vi]; done))) (OkL.flat (by first | exact flatM flat_vi | exact flatM flat_bool | (simp [flatV, flat_vi]; done))) .nil))))) (frC rfl frN) (by decide) (.cons rfl rfl .nil) rfl rfl rfl rfl ?_
  refine AWo.pure (PureOp.move rfl) rfl rfl ?_
  refine AWo.pure (PureOp.nilCheck rfl) rfl rfl ?_
  refine AWo.pure (PureOp.fld tbok rfl rfl rfl (by decide)) rfl rfl ?_
  refine AWo.load tbok rfl rfl rfl rfl rfl rfl ?_
  refine AWo.callX (shrink_ctr (a := digs 18446744073709551616 mw.length (num 18446744073709551616 a % num 18446744073709551616 mw)) (b := digs 18446744073709551616 mw.length (18446744073709551616 ^ mw.length * 18446744073709551616 ^ mw.length % num 18446744073709551616 mw)) (r := num 18446744073709551616 a * 18446744073709551616 ^ mw.length % num 18446744073709551616 mw) ⟨hbm, hm0, hml, hN⟩ (digs_bd (by decide) _ _) (digs_bd (by decide) _ _) (digs_len _ _) (digs_len _ _) (by rw [dnum hM0]; exact Nat.mod_lt _ hN) hiv (Nat.mod_lt _ hN) (by rw [dnum hM0, dnum hM0]; exact sh_in _ _ _)) bd121 [(0, 0), (1, 0), (2, 0), (23000, 0), (2, 0)] [28000] rfl (.cons rfl (.cons rfl (.cons rfl .nil))) rfl (.cons rfl rfl (.cons rfl rfl (.cons rfl rfl .nil))) (.whole rfl rfl (OkL.all rfl) (by intro h; first | exact h | rfl) (.flat rfl (flatM flat_vi) (by intro h; first | exact h | rfl) (.flat rfl (flatM flat_vi) (by intro h; first | exact h | rfl) (.flat rfl (by first | exact flatM flat_vi | exact flatM flat_bool | (simp [flatV, flat_vi]; done)) (by intro h; first | exact h | rfl) (.flat rfl (by first | exact flatM flat_vi | exact flatM flat_bool | (simp [flatV, flat_vi]; done)) (by intro h; first | exact h | rfl) .nil))))) rfl (.keep rfl (.keep rfl (.keep rfl (.keep rfl (.keep rfl (.new (flat_map_ren (by first | exact flatM flat_vi | exact flatM flat_bool | (simp [flatV, flat_vi]; done))) (OkL.flat (by first | exact flatM flat_vi | exact flatM flat_bool | (simp [flatV, flat_vi]; done))) .nil)))))) (frC rfl frN) (by decide) (.cons rfl rfl .nil) rfl rfl rfl rfl ?_
  refine AWo.pure (PureOp.move rfl) rfl rfl ?_
  refine AWo.pure (PureOp.move rfl) rfl rfl ?_
  refine AWo.pure (PureOp.move rfl) rfl rfl ?_
  refine AWo.pure (PureOp.nilCheck rfl) rfl rfl ?_
  refine AWo.pure (PureOp.fld tbok rfl rfl rfl (by decide)) rfl rfl ?_
  refine AWo.load tbok rfl rfl rfl rfl rfl rfl ?_
  refine AWo.callX (shrink_ctr (a := digs 18446744073709551616 mw.length (1 % num 18446744073709551616 mw)) (b := digs 18446744073709551616 mw.length (18446744073709551616 ^ mw.length * 18446744073709551616 ^ mw.length % num 18446744073709551616 mw)) (r := 1 * 18446744073709551616 ^ mw.length % num 18446744073709551616 mw) ⟨hbm, hm0, hml, hN⟩ (digs_bd (by decide) _ _) (digs_bd (by decide) _ _) (digs_len _ _) (digs_len _ _) (by rw [dnum hM0]; exact Nat.mod_lt _ hN) hiv (Nat.mod_lt _ hN) (by rw [dnum hM0, dnum hM0]; exact sh_in _ _ _)) bd121 [(0, 0), (1, 0), (2, 0), (17000, 0), (2, 0)] [35000] rfl (.cons rfl (.cons rfl (.cons rfl .nil))) rfl (.cons rfl rfl (.cons rfl rfl (.cons rfl rfl .nil))) (.whole rfl rfl (OkL.all rfl) (by intro h; first | exact h | rfl) (.flat rfl (flatM flat_vi) (by intro h; first | exact h | rfl) (.flat rfl (flatM flat_vi) (by intro h; first | exact h | rfl) (.flat rfl (by first | exact flatM flat_vi | exact flatM flat_bool | (simp [flatV, flat_vi]; done)) (by intro h; first | exact h | rfl) (.flat rfl (by first | exact flatM flat_vi | exact flatM flat_bool | (simp [flatV, flat_vi]; done)) (by intro h; first | exact h | rfl) .nil))))) rfl (.keep rfl (.keep rfl (.keep rfl (.keep rfl (.keep rfl (.new (flat_map_ren (by first | exact flatM flat_vi | exact flatM flat_bool | (simp [flatV, flat_vi]; done))) (OkL.flat (by first | exact flatM flat_vi | exact flatM flat_bool | (simp [flatV, flat_vi]; done))) .nil)))))) (frC rfl frN) (by decide) (.cons rfl rfl .nil) rfl rfl rfl rfl ?_
  refine AWo.pure (PureOp.assign rfl) rfl rfl ?_
  refine AWo.pure (PureOp.assign rfl) rfl rfl ?_
  refine AWo.nil (by kernel_rfl) ?_
  refine AW.seq ?_
  refine AW.seqR ?_
  refine AWo.pure (PureOp.move rfl) rfl rfl ?_
  refine AWo.callX (lbits_ctr hb (by omega)) bd66 [(4, 0)] [] rfl (.cons rfl .nil) rfl (.cons rfl rfl .nil) (.flat rfl (by first | exact flatM flat_vi | exact flatM flat_bool | (simp [flatV, flat_vi]; done)) (by intro h; first | exact h | rfl) .nil) rfl (.keep rfl .nil) frN (by decide) (.cons rfl rfl .nil) rfl rfl rfl rfl ?_
  first | refine AWo.pure ((PureOp.subI (b := 1) rfl rfl (by first | decide | omega) (by first | decide | omega)).mono (v' := vp (blen (num 18446744073709551616 b))) (by first | rfl | (simp only [vp, vi]; congr 1; omega))) rfl rfl ?_ | refine AWo.pure ((PureOp.subP rfl rfl (by first | decide | omega)).mono (v' := vp (blen (num 18446744073709551616 b))) (by first | rfl | (simp only [vp, vi]; congr 1; omega))) rfl rfl ?_ | refine AWo.pure ((PureOp.bin rfl rfl rfl).mono (v' := vp (blen (num 18446744073709551616 b))) (by first | rfl | (simp only [vp, vi]; congr 1; omega))) rfl rfl ?_
  refine AWo.pure (PureOp.assign rfl) rfl rfl ?_
  refine AWo.nil trivial ?_
  refine AW.block ?_
  refine AW.loopw (fun mm σ => ∃ r, (r ≤ blen (num 18446744073709551616 b)) ∧ mm = 1 * r ∧ σ = ⟨(upd (upd (upd (upd (upd (upd emp 0 (.pointer (some ⟨0, 0, none⟩))) 2 (.slice (some ⟨4, 0, none⟩) b.length 0)) 7 (.slice (some ⟨17000, 0, none⟩) mw.length 0)) 8 (.slice (some ⟨28000, 0, none⟩) mw.length 0)) 9 (.slice (some ⟨77000, 0, none⟩) mw.length 0)) 10 (vp r)), (upd (upd (upd (upd (upd (upd (upd (upd emp 0 ⟨[.slice (some ⟨1, 0, none⟩) mw.length 0, vi .u64 iv, .slice (some ⟨2, 0, none⟩) mw.length 0], false, 1⟩) 1 ⟨mw.map (vi .u64), false, 1⟩) 2 ⟨(digs 18446744073709551616 mw.length (18446744073709551616 ^ mw.length * 18446744073709551616 ^ mw.length % num 18446744073709551616 mw)).map (vi .u64), false, 1⟩) 3 ⟨a.map (vi .u64), false, 1⟩) 4 ⟨b.map (vi .u64), false, 1⟩) 17000 ⟨(digs 18446744073709551616 mw.length (1 % num 18446744073709551616 mw)).map (vi .u64), true, 1⟩) 28000 ⟨(digs 18446744073709551616 mw.length (num 18446744073709551616 a * 18446744073709551616 ^ mw.length % num 18446744073709551616 mw)).map (vi .u64), true, 1⟩) 77000 ⟨(digs 18446744073709551616 mw.length (num 18446744073709551616 a ^ (num 18446744073709551616 b / 2 ^ r) * 18446744073709551616 ^ mw.length % num 18446744073709551616 mw)).map (vi .u64), true, 1⟩)⟩) (fm := [(77000, 35000)]) ?_ ⟨blen (num 18446744073709551616 b), Nat.le_refl _, rfl, rfl⟩ ?_
  ·
    refine Wk.of [0, 1, 2, 3, 4, 17000, 28000, 77000] ?_ ?_ ?_ (by decide) rfl
    ·
      refine WkE.upd rfl (by first | exact VR.flat _ rfl | exact VR.eqv (vp_succ _) rfl | exact VR.eqv (vp_succ _).symm rfl | exact VR.eqv (by first | rfl | (congr 1; omega) | (simp; done) | (simp; omega)) rfl) ?_
      refine WkE.upd rfl (.slice (77000) 0 _ 0 ⟨_, rfl⟩ (by simp) (by simp)) ?_
      refine WkE.upd rfl (.slice (28000) 0 _ 0 ⟨_, rfl⟩ (by simp) (by simp)) ?_
      refine WkE.upd rfl (.slice (17000) 0 _ 0 ⟨_, rfl⟩ (by simp) (by simp)) ?_
      refine WkE.upd rfl (.slice (4) 0 _ 0 ⟨_, rfl⟩ (by simp) (by simp)) ?_
      refine WkE.upd rfl (.ptr (0) 0 ⟨_, rfl⟩) ?_
      exact WkE.emp
    ·
      refine WkM.flatM rfl (by first | exact congrArg (fun z => digs 18446744073709551616 mw.length (z * 18446744073709551616 ^ mw.length % num 18446744073709551616 mw)) (pow_odd hbit) | exact congrArg (fun z => digs 18446744073709551616 mw.length (z * 18446744073709551616 ^ mw.length % num 18446744073709551616 mw)) (pow_even hbit) | exact exp_init hB) flat_vi (fun h => h) ?_
      refine WkM.flatM rfl (by first | rfl | assumption | simp) (fun _ => rfl) (fun h => h) ?_
      refine WkM.flatM rfl (by first | rfl | assumption | simp) (fun _ => rfl) (fun h => h) ?_
      refine WkM.flatM rfl (by first | rfl | assumption | simp) (fun _ => rfl) (fun h => h) ?_
      refine WkM.flatM rfl (by first | rfl | assumption | simp) (fun _ => rfl) (fun h => h) ?_
      refine WkM.flatM rfl (by first | rfl | assumption | simp) (fun _ => rfl) (fun h => h) ?_
      refine WkM.flatM rfl (by first | rfl | assumption | simp) (fun _ => rfl) (fun h => h) ?_
      refine WkM.ren [1, 2] rfl rfl rfl (dom_all rfl) (fun h => h) ?_
      exact WkM.emp
    ·
      repeat (refine dom_upd_mem (by decide) ?_)
      exact dom_emp
  ·
    rintro mm σ ⟨r, hr, rfl, rfl⟩
    refine AW.seq ?_
    refine AW.seqR ?_
    refine AWo.pure (PureOp.move rfl) rfl rfl ?_
    first | refine AWo.pure (PureOp.geP rfl rfl) rfl rfl ?_ | refine AWo.pure (PureOp.geN (b := 0) rfl rfl) rfl rfl ?_ | refine AWo.pure (PureOp.bin rfl rfl rfl) rfl rfl ?_
    refine AWo.nil trivial ?_
    refine AW.cond rfl (fun hb0 => ?_) (fun hb0 => ?_)
    ·
      have hp0 : 0 < r := by simpa using hb0
      obtain ⟨r, rfl⟩ : ∃ q, r = q + 1 := ⟨r - 1, by omega⟩
      rw [vp_succ]
      have hal := bit_len hb (show r < blen (num 18446744073709551616 b) by omega)
      refine AW.skip ?_
      refine thenA_normal ?_
      refine AW.seq ?_
      refine AW.block ?_
      refine AW.seqR ?_
      refine AWo.pure (PureOp.move rfl) rfl rfl ?_
      refine AWo.pure (PureOp.move rfl) rfl rfl ?_
      refine AWo.pure (PureOp.move rfl) rfl rfl ?_
      refine AWo.callX (shrink_ctr (a := digs 18446744073709551616 mw.length (num 18446744073709551616 a ^ (num 18446744073709551616 b / 2 ^ (r + 1)) * 18446744073709551616 ^ mw.length % num 18446744073709551616 mw)) (b := digs 18446744073709551616 mw.length (num 18446744073709551616 a ^ (num 18446744073709551616 b / 2 ^ (r + 1)) * 18446744073709551616 ^ mw.length % num 18446744073709551616 mw)) (r := (num 18446744073709551616 a ^ (num 18446744073709551616 b / 2 ^ (r + 1)) * num 18446744073709551616 a ^ (num 18446744073709551616 b / 2 ^ (r + 1))) * 18446744073709551616 ^ mw.length % num 18446744073709551616 mw) ⟨hbm, hm0, hml, hN⟩ (digs_bd (by decide) _ _) (digs_bd (by decide) _ _) (digs_len _ _) (digs_len _ _) (by rw [dnum hM0]; exact Nat.mod_lt _ hN) hiv (Nat.mod_lt _ hN) (by rw [dnum hM0]; exact sh_sq _ _ _ _)) bd121 [(0, 0), (1, 0), (2, 0), (77000, 0), (77000, 0)] [46000] rfl (.cons rfl (.cons rfl (.cons rfl .nil))) rfl (.cons rfl rfl (.cons rfl rfl (.cons rfl rfl .nil))) (.whole rfl rfl (OkL.all rfl) (by intro h; first | exact h | rfl) (.flat rfl (flatM flat_vi) (by intro h; first | exact h | rfl) (.flat rfl (flatM flat_vi) (by intro h; first | exact h | rfl) (.flat rfl (by first | exact flatM flat_vi | exact flatM flat_bool | (simp [flatV, flat_vi]; done)) (by intro h; first | exact h | rfl) (.flat rfl (by first | exact flatM flat_vi | exact flatM flat_bool | (simp [flatV, flat_vi]; done)) (by intro h; first | exact h | rfl) .nil))))) rfl (.keep rfl (.keep rfl (.keep rfl (.keep rfl (.keep rfl (.new (flat_map_ren (by first | exact flatM flat_vi | exact flatM flat_bool | (simp [flatV, flat_vi]; done))) (OkL.flat (by first | exact flatM flat_vi | exact flatM flat_bool | (simp [flatV, flat_vi]; done))) .nil)))))) (frC rfl frN) (by decide) (.cons rfl rfl .nil) rfl rfl rfl rfl ?_
      refine AWo.pure (PureOp.assign rfl) rfl rfl ?_
      refine AWo.nil trivial ?_
      refine AW.seqR ?_
      refine AWo.pure (PureOp.move rfl) rfl rfl ?_
      refine AWo.pure (PureOp.move rfl) rfl rfl ?_
      first | refine AWo.pure ((PureOp.quoN (b := 64) 9223372036854775808 rfl rfl (by decide) (by decide) (by first | decide | omega) (by first | decide | omega)).mono (v' := vi .i64 (r / 64)) rfl) rfl rfl ?_ | refine AWo.pure ((PureOp.quo rfl rfl (by first | decide | omega)).mono (v' := vi .i64 (r / 64)) rfl) rfl rfl ?_
      first | refine AWo.pure (PureOp.idx1 tbok rfl rfl rfl rfl (by first | decide | omega)) rfl rfl ?_ | refine AWo.pure (PureOp.idx tbok rfl rfl rfl rfl (by first | decide | omega)) rfl rfl ?_
      refine AWo.loadM tbok 0 rfl rfl rfl (by omega) rfl rfl ?_
      refine AWo.pure (PureOp.move rfl) rfl rfl ?_
      first | refine AWo.pure ((PureOp.remN (b := 64) rfl rfl (by first | decide | omega)).mono (v' := vi .i64 (r % 64)) rfl) rfl rfl ?_ | refine AWo.pure ((PureOp.rem rfl rfl (by first | decide | omega)).mono (v' := vi .i64 (r % 64)) rfl) rfl rfl ?_
      refine AWo.pure (PureOp.shrN (b := r % 64) 64 rfl rfl rfl (by omega)) rfl rfl ?_
      refine AWo.pure ((PureOp.andN 18446744073709551616 rfl rfl (by decide) (by decide) (Nat.lt_of_le_of_lt (Nat.div_le_self _ _) (bd_getD hb (by decide) _)) (by decide)).mono (v' := vi .u64 (num 18446744073709551616 b / 2 ^ r % 2)) (congrArg (vi .u64) ((Nat.and_one_is_mod _).trans (bit64_at hb r)))) rfl rfl ?_
      first | refine AWo.pure (PureOp.eqN (b := 1) rfl rfl) rfl rfl ?_ | refine AWo.pure (PureOp.bin rfl rfl rfl) rfl rfl ?_
      refine AWo.nil trivial ?_
      refine AW.cond rfl (fun hb1 => ?_) (fun hb1 => ?_)
      ·
        have hbit : num 18446744073709551616 b / 2 ^ r % 2 = 1 := by simpa using hb1
        refine AW.region ?_
        refine AWo.pure (PureOp.move rfl) rfl rfl ?_
        refine AWo.pure (PureOp.move rfl) rfl rfl ?_
        refine AWo.pure (PureOp.move rfl) rfl rfl ?_
        refine AWo.callX (shrink_ctr (a := digs 18446744073709551616 mw.length ((num 18446744073709551616 a ^ (num 18446744073709551616 b / 2 ^ (r + 1)) * num 18446744073709551616 a ^ (num 18446744073709551616 b / 2 ^ (r + 1))) * 18446744073709551616 ^ mw.length % num 18446744073709551616 mw)) (b := digs 18446744073709551616 mw.length (num 18446744073709551616 a * 18446744073709551616 ^ mw.length % num 18446744073709551616 mw)) (r := ((num 18446744073709551616 a ^ (num 18446744073709551616 b / 2 ^ (r + 1)) * num 18446744073709551616 a ^ (num 18446744073709551616 b / 2 ^ (r + 1))) * num 18446744073709551616 a) * 18446744073709551616 ^ mw.length % num 18446744073709551616 mw) ⟨hbm, hm0, hml, hN⟩ (digs_bd (by decide) _ _) (digs_bd (by decide) _ _) (digs_len _ _) (digs_len _ _) (by rw [dnum hM0]; exact Nat.mod_lt _ hN) hiv (Nat.mod_lt _ hN) (by rw [dnum hM0, dnum hM0]; exact sh_sq _ _ _ _)) bd121 [(0, 0), (1, 0), (2, 0), (46000, 0), (28000, 0)] [60000] rfl (.cons rfl (.cons rfl (.cons rfl .nil))) rfl (.cons rfl rfl (.cons rfl rfl (.cons rfl rfl .nil))) (.whole rfl rfl (OkL.all rfl) (by intro h; first | exact h | rfl) (.flat rfl (flatM flat_vi) (by intro h; first | exact h | rfl) (.flat rfl (flatM flat_vi) (by intro h; first | exact h | rfl) (.flat rfl (by first | exact flatM flat_vi | exact flatM flat_bool | (simp [flatV, flat_vi]; done)) (by intro h; first | exact h | rfl) (.flat rfl (by first | exact flatM flat_vi | exact flatM flat_bool | (simp [flatV, flat_vi]; done)) (by intro h; first | exact h | rfl) .nil))))) rfl (.keep rfl (.keep rfl (.keep rfl (.keep rfl (.keep rfl (.new (flat_map_ren (by first | exact flatM flat_vi | exact flatM flat_bool | (simp [flatV, flat_vi]; done))) (OkL.flat (by first | exact flatM flat_vi | exact flatM flat_bool | (simp [flatV, flat_vi]; done))) .nil)))))) (frC rfl frN) (by decide) (.cons rfl rfl .nil) rfl rfl rfl rfl ?_
        refine AWo.pure (PureOp.assign rfl) rfl rfl ?_
        refine AWo.nil trivial ?_
        refine inBlockA_normal ?_
        refine thenA_normal ?_
        refine AW.region ?_
        refine AWo.pure (PureOp.move rfl) rfl rfl ?_
        first | refine AWo.pure (PureOp.subI (b := 1) rfl rfl (by first | decide | omega) (by first | decide | omega)) rfl rfl ?_ | refine AWo.pure (PureOp.subP rfl rfl (by first | decide | omega)) rfl rfl ?_ | refine AWo.pure (PureOp.bin rfl rfl rfl) rfl rfl ?_
        refine AWo.pure (PureOp.assign rfl) rfl rfl ?_
        refine AWo.nil trivial ?_
        refine thenA_normal ?_
        refine ⟨1 * r, [(77000, 60000)], _, by omega, ?_, r, by omega, rfl, rfl⟩
        refine Wk.of [0, 1, 2, 3, 4, 17000, 28000, 77000] ?_ ?_ ?_ (by decide) rfl
        ·
          refine WkE.upd rfl (by first | exact VR.flat _ rfl | exact VR.eqv (vp_succ _) rfl | exact VR.eqv (vp_succ _).symm rfl | exact VR.eqv (by first | rfl | (congr 1; omega) | (simp; done) | (simp; omega)) rfl) ?_
          refine WkE.upd rfl (.slice (77000) 0 _ 0 ⟨_, rfl⟩ (by simp) (by simp)) ?_
          refine WkE.upd rfl (.slice (28000) 0 _ 0 ⟨_, rfl⟩ (by simp) (by simp)) ?_
          refine WkE.upd rfl (.slice (17000) 0 _ 0 ⟨_, rfl⟩ (by simp) (by simp)) ?_
          refine WkE.upd rfl (.slice (4) 0 _ 0 ⟨_, rfl⟩ (by simp) (by simp)) ?_
          refine WkE.upd rfl (.ptr (0) 0 ⟨_, rfl⟩) ?_
          exact WkE.emp
        ·
          refine WkM.flatM rfl (by first | exact congrArg (fun z => digs 18446744073709551616 mw.length (z * 18446744073709551616 ^ mw.length % num 18446744073709551616 mw)) (pow_odd hbit) | exact congrArg (fun z => digs 18446744073709551616 mw.length (z * 18446744073709551616 ^ mw.length % num 18446744073709551616 mw)) (pow_even hbit) | exact exp_init hB) flat_vi (fun h => h) ?_
          refine WkM.flatM rfl (by first | rfl | assumption | simp) (fun _ => rfl) (fun h => h) ?_
          refine WkM.flatM rfl (by first | rfl | assumption | simp) (fun _ => rfl) (fun h => h) ?_
          refine WkM.flatM rfl (by first | rfl | assumption | simp) (fun _ => rfl) (fun h => h) ?_
          refine WkM.flatM rfl (by first | rfl | assumption | simp) (fun _ => rfl) (fun h => h) ?_
          refine WkM.flatM rfl (by first | rfl | assumption | simp) (fun _ => rfl) (fun h => h) ?_
          refine WkM.flatM rfl (by first | rfl | assumption | simp) (fun _ => rfl) (fun h => h) ?_
          refine WkM.ren [1, 2] rfl rfl rfl (dom_all rfl) (fun h => h) ?_
          exact WkM.emp
        ·
          repeat (refine dom_upd_mem (by decide) ?_)
          exact dom_emp
      ·
        have hbit : ¬ num 18446744073709551616 b / 2 ^ r % 2 = 1 := by simpa using hb1
        refine AW.skip ?_
        refine inBlockA_normal ?_
        refine thenA_normal ?_
        refine AW.region ?_
        refine AWo.pure (PureOp.move rfl) rfl rfl ?_
        first | refine AWo.pure (PureOp.subI (b := 1) rfl rfl (by first | decide | omega) (by first | decide | omega)) rfl rfl ?_ | refine AWo.pure (PureOp.subP rfl rfl (by first | decide | omega)) rfl rfl ?_ | refine AWo.pure (PureOp.bin rfl rfl rfl) rfl rfl ?_
        refine AWo.pure (PureOp.assign rfl) rfl rfl ?_
        refine AWo.nil trivial ?_
        refine thenA_normal ?_
        refine ⟨1 * r, [(77000, 46000)], _, by omega, ?_, r, by omega, rfl, rfl⟩
        refine Wk.of [0, 1, 2, 3, 4, 17000, 28000, 77000] ?_ ?_ ?_ (by decide) rfl
        ·
          refine WkE.upd rfl (by first | exact VR.flat _ rfl | exact VR.eqv (vp_succ _) rfl | exact VR.eqv (vp_succ _).symm rfl | exact VR.eqv (by first | rfl | (congr 1; omega) | (simp; done) | (simp; omega)) rfl) ?_
          refine WkE.upd rfl (.slice (77000) 0 _ 0 ⟨_, rfl⟩ (by simp) (by simp)) ?_
          refine WkE.upd rfl (.slice (28000) 0 _ 0 ⟨_, rfl⟩ (by simp) (by simp)) ?_
          refine WkE.upd rfl (.slice (17000) 0 _ 0 ⟨_, rfl⟩ (by simp) (by simp)) ?_
          refine WkE.upd rfl (.slice (4) 0 _ 0 ⟨_, rfl⟩ (by simp) (by simp)) ?_
          refine WkE.upd rfl (.ptr (0) 0 ⟨_, rfl⟩) ?_
          exact WkE.emp
        ·
          refine WkM.flatM rfl (by first | exact congrArg (fun z => digs 18446744073709551616 mw.length (z * 18446744073709551616 ^ mw.length % num 18446744073709551616 mw)) (pow_odd hbit) | exact congrArg (fun z => digs 18446744073709551616 mw.length (z * 18446744073709551616 ^ mw.length % num 18446744073709551616 mw)) (pow_even hbit) | exact exp_init hB) flat_vi (fun h => h) ?_
          refine WkM.flatM rfl (by first | rfl | assumption | simp) (fun _ => rfl) (fun h => h) ?_
          refine WkM.flatM rfl (by first | rfl | assumption | simp) (fun _ => rfl) (fun h => h) ?_
          refine WkM.flatM rfl (by first | rfl | assumption | simp) (fun _ => rfl) (fun h => h) ?_
          refine WkM.flatM rfl (by first | rfl | assumption | simp) (fun _ => rfl) (fun h => h) ?_
          refine WkM.flatM rfl (by first | rfl | assumption | simp) (fun _ => rfl) (fun h => h) ?_
          refine WkM.flatM rfl (by first | rfl | assumption | simp) (fun _ => rfl) (fun h => h) ?_
          refine WkM.ren [1, 2] rfl rfl rfl (dom_all rfl) (fun h => h) ?_
          exact WkM.emp
        ·
          repeat (refine dom_upd_mem (by decide) ?_)
          exact dom_emp
    ·
      obtain rfl : r = 0 := by simpa using hb0
      refine AW.exit ?_
      refine thenA_exit ?_
      refine thenA_exit ?_
      refine inBlockA_hit ?_
      refine thenA_normal ?_
      rw [Nat.pow_zero, Nat.div_one]
      refine AW.seqR ?_
      refine AWo.pure (PureOp.move rfl) rfl rfl ?_
      refine AWo.pure (PureOp.move rfl) rfl rfl ?_
      refine AWo.pure (PureOp.move rfl) rfl rfl ?_
      refine AWo.callX (shrink_ctr (a := digs 18446744073709551616 mw.length (num 18446744073709551616 a ^ num 18446744073709551616 b * 18446744073709551616 ^ mw.length % num 18446744073709551616 mw)) (b := digs 18446744073709551616 mw.length (1 % num 18446744073709551616 mw)) (r := num 18446744073709551616 a ^ num 18446744073709551616 b % num 18446744073709551616 mw) ⟨hbm, hm0, hml, hN⟩ (digs_bd (by decide) _ _) (digs_bd (by decide) _ _) (digs_len _ _) (digs_len _ _) (by rw [dnum hM0]; exact Nat.mod_lt _ hN) hiv (Nat.mod_lt _ hN) (by rw [dnum hM0, dnum hM0, h1N, Nat.mul_one, Nat.mod_mod, Nat.mod_mul_mod])) bd121 [(0, 0), (1, 0), (2, 0), (77000, 0), (17000, 0)] [64000] rfl (.cons rfl (.cons rfl (.cons rfl .nil))) rfl (.cons rfl rfl (.cons rfl rfl (.cons rfl rfl .nil))) (.whole rfl rfl (OkL.all rfl) (by intro h; first | exact h | rfl) (.flat rfl (flatM flat_vi) (by intro h; first | exact h | rfl) (.flat rfl (flatM flat_vi) (by intro h; first | exact h | rfl) (.flat rfl (by first | exact flatM flat_vi | exact flatM flat_bool | (simp [flatV, flat_vi]; done)) (by intro h; first | exact h | rfl) (.flat rfl (by first | exact flatM flat_vi | exact flatM flat_bool | (simp [flatV, flat_vi]; done)) (by intro h; first | exact h | rfl) .nil))))) rfl (.keep rfl (.keep rfl (.keep rfl (.keep rfl (.keep rfl (.new (flat_map_ren (by first | exact flatM flat_vi | exact flatM flat_bool | (simp [flatV, flat_vi]; done))) (OkL.flat (by first | exact flatM flat_vi | exact flatM flat_bool | (simp [flatV, flat_vi]; done))) .nil)))))) (frC rfl frN) (by decide) (.cons rfl rfl .nil) rfl rfl rfl rfl ?_
      refine AWo.pure (PureOp.assign rfl) rfl rfl ?_
      refine AWo.nil trivial ?_
      refine AW.ret ?_
      refine RetQ.gc [_] [64000] [.tmp 6] (.inl rfl) rfl (.tmp rfl .nil) rfl (.cons rfl rfl .nil) (OutL.whole rfl rfl (OkL.all rfl) (by intro h; first | rfl | exact h.elim id fun h => absurd h.1 (by simp)) (OutL.flat rfl (flatM flat_vi) (by intro h; first | rfl | exact h.elim id fun h => absurd h.1 (by simp)) (OutL.flat rfl (flatM flat_vi) (by intro h; first | rfl | exact h.elim id fun h => absurd h.1 (by simp)) (OutL.flat rfl (by first | exact flatM flat_vi | exact flatM flat_bool | (simp [flatV, flat_vi]; done)) (by intro h; first | rfl | exact h.elim id fun h => absurd h.1 (by simp)) (OutL.flat rfl (by first | exact flatM flat_vi | exact flatM flat_bool | (simp [flatV, flat_vi]; done)) (by intro h; first | rfl | exact h.elim id fun h => absurd h.1 (by simp)) (OutL.flat rfl (by first | exact flatM flat_vi | exact flatM flat_bool | (simp [flatV, flat_vi]; done)) (by intro h; first | rfl | exact h.elim id fun h => absurd h.1 (by simp)) trivial)))))) (by decide) rfl
end Go.Proofs.Ytiikffiembcboaa
