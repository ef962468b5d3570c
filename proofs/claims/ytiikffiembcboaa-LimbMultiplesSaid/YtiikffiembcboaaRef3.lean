/- The document's rest. -/
import Derived.Test.YtiikffiembcboaaLimb5
import Derived.Test.YtiikffiembcboaaSim26
namespace Go.Proofs.Ytiikffiembcboaa
open Go Sim

theorem addD_ctr {x y : Nat} (hlx : (D 4294967296 x).length < 100000000) (hly : (D 4294967296 y).length < 100000000) : GC Try.prog 70 [.slice (some ⟨0, 0, none⟩) (D 4294967296 x).length 0, .slice (some ⟨1, 0, none⟩) (D 4294967296 y).length 0] [⟨(D 4294967296 x).map (vi .u64), false, 1⟩, ⟨(D 4294967296 y).map (vi .u64), false, 1⟩] [.slice (some ⟨2, 0, none⟩) (D 4294967296 (x + y)).length 0] [⟨(D 4294967296 x).map (vi .u64), false, 1⟩, ⟨(D 4294967296 y).map (vi .u64), false, 1⟩, ⟨(D 4294967296 (x + y)).map (vi .u64), true, 1⟩] := by
  have h := radd_ctr (a := D 4294967296 x) (b := D 4294967296 y) (bd_D (by decide) _) (bd_D (by decide) _) hlx hly
  simp only [num_D (show 2 ≤ 4294967296 by decide)] at h
  exact h
theorem subD_ctr {x y : Nat} (hlx : (D 4294967296 x).length < 100000000) (hly : (D 4294967296 y).length < 100000000) (h : y ≤ x) : GC Try.prog 71 [.slice (some ⟨0, 0, none⟩) (D 4294967296 x).length 0, .slice (some ⟨1, 0, none⟩) (D 4294967296 y).length 0] [⟨(D 4294967296 x).map (vi .u64), false, 1⟩, ⟨(D 4294967296 y).map (vi .u64), false, 1⟩] [.slice (some ⟨2, 0, none⟩) (D 4294967296 (x - y)).length 0] [⟨(D 4294967296 x).map (vi .u64), false, 1⟩, ⟨(D 4294967296 y).map (vi .u64), false, 1⟩, ⟨(D 4294967296 (x - y)).map (vi .u64), true, 1⟩] := by
  have h := rsub_ctr (a := D 4294967296 x) (b := D 4294967296 y) (bd_D (by decide) _) (bd_D (by decide) _) hlx hly (by rw [num_D (by decide), num_D (by decide)]; exact h)
  simp only [num_D (show 2 ≤ 4294967296 by decide)] at h
  exact h
theorem mulD_ctr {x y : Nat} (hlx : (D 4294967296 x).length < 100000000) (hly : (D 4294967296 y).length < 100000000) : GC Try.prog 72 [.slice (some ⟨0, 0, none⟩) (D 4294967296 x).length 0, .slice (some ⟨1, 0, none⟩) (D 4294967296 y).length 0] [⟨(D 4294967296 x).map (vi .u64), false, 1⟩, ⟨(D 4294967296 y).map (vi .u64), false, 1⟩] [.slice (some ⟨2, 0, none⟩) (D 4294967296 (x * y)).length 0] [⟨(D 4294967296 x).map (vi .u64), false, 1⟩, ⟨(D 4294967296 y).map (vi .u64), false, 1⟩, ⟨(D 4294967296 (x * y)).map (vi .u64), true, 1⟩] := by
  have h := rmul_ctr (a := D 4294967296 x) (b := D 4294967296 y) (bd_D (by decide) _) (bd_D (by decide) _) hlx hly
  simp only [num_D (show 2 ≤ 4294967296 by decide)] at h
  exact h
theorem cmpD_ctr {x y : Nat} (hlx : (D 4294967296 x).length < 100000000) (hly : (D 4294967296 y).length < 100000000) : GC Try.prog 34 [.slice (some ⟨0, 0, none⟩) (D 4294967296 x).length 0, .slice (some ⟨1, 0, none⟩) (D 4294967296 y).length 0] [⟨(D 4294967296 x).map (vi .u64), false, 1⟩, ⟨(D 4294967296 y).map (vi .u64), false, 1⟩] [.int .i64 (cmpI x y)] [⟨(D 4294967296 x).map (vi .u64), false, 1⟩, ⟨(D 4294967296 y).map (vi .u64), false, 1⟩] := by
  have h := rcmp_ctr (a := D 4294967296 x) (b := D 4294967296 y) (bd_D (by decide) _) (bd_D (by decide) _) (Nat.lt_trans hlx (by decide)) (Nat.lt_trans hly (by decide))
  simp only [num_D (show 2 ≤ 4294967296 by decide)] at h
  exact h
theorem shiftD_ctr {x k : Nat} (hlx : (D 4294967296 x).length < 100000000) (hk : k < 32) : GC Try.prog 131 [.slice (some ⟨0, 0, none⟩) (D 4294967296 x).length 0, vi .i64 (k)] [⟨(D 4294967296 x).map (vi .u64), false, 1⟩] [.slice (some ⟨1, 0, none⟩) (D 4294967296 (x * 2 ^ k)).length 0] [⟨(D 4294967296 x).map (vi .u64), false, 1⟩, ⟨(D 4294967296 (x * 2 ^ k)).map (vi .u64), true, 1⟩] := by
  have h := shift_ctr (a := D 4294967296 x) (k := k) (bd_D (by decide) _) hlx hk
  simp only [num_D (show 2 ≤ 4294967296 by decide)] at h
  exact h
theorem mul256_ctr {x : Nat} (hlx : (D 4294967296 x).length < 100000000) : GC Try.prog 72 [.slice (some ⟨0, 0, none⟩) (D 4294967296 x).length 0, .slice (some ⟨1, 0, none⟩) ([256]).length 0] [⟨(D 4294967296 x).map (vi .u64), false, 1⟩, ⟨([256]).map (vi .u64), false, 1⟩] [.slice (some ⟨2, 0, none⟩) (D 4294967296 (x * 256)).length 0] [⟨(D 4294967296 x).map (vi .u64), false, 1⟩, ⟨([256]).map (vi .u64), false, 1⟩, ⟨(D 4294967296 (x * 256)).map (vi .u64), true, 1⟩] := by
  have h := rmul_ctr (a := D 4294967296 x) (b := [256]) (bd_D (by decide) _) (fun y hy => by simp at hy; rw [hy]; decide) hlx (by decide)
  rw [num_D (by decide), show num 4294967296 [256] = 256 from rfl] at h
  exact h

theorem num_one {B : Nat} (x : Nat) : num B [x] = x := by simp [num]
theorem bd_byte (v : Nat) : bd 4294967296 [v % 256] := fun y hy => by simp at hy; rw [hy]; exact Nat.lt_trans (Nat.mod_lt _ (by decide)) (by decide)
theorem num_byte (v : Nat) : num 4294967296 [v % 256] = v % 256 := @num_one 4294967296 (v % 256)

theorem byteD (x r : Nat) : (D 4294967296 x).getD (r / 4) 0 / 256 ^ (r % 4) % 256 = x / 256 ^ r % 256 := by
  rw [D_getD (by decide)]
  have hd : x / 256 ^ r = x / 4294967296 ^ (r / 4) / 256 ^ (r % 4) := by
    rw [Nat.div_div_eq_div_mul, show (4294967296 : Nat) = 256 ^ 4 from by decide, ← Nat.pow_mul, ← Nat.pow_add, Nat.div_add_mod]
  rw [hd]
  generalize x / 4294967296 ^ (r / 4) = z
  have hj : r % 4 < 4 := Nat.mod_lt _ (by decide)
  generalize r % 4 = j at hj
  have e : 4294967296 = 256 ^ j * (256 * 256 ^ (3 - j)) := by
    rw [← Nat.mul_assoc, Nat.mul_right_comm, ← Nat.pow_add, show j + (3 - j) = 3 by omega]
  rw [e, Nat.mod_mul_right_div_self, Nat.mod_mul_right_mod]

theorem mod_room {N : Nat} (h : (D 4294967296 N).length < 1000000) : ∀ z, z < N * 512 → (D 4294967296 z).length < 100000000 := fun z hz => by
  have h1 : N < 4294967296 ^ (D 4294967296 N).length := (D_len_le (B := 4294967296) (by decide) N _).1 (Nat.le_refl _)
  have h2 : z < 4294967296 ^ ((D 4294967296 N).length + 1) := Nat.lt_of_lt_of_le hz (by rw [Nat.pow_succ]; exact Nat.mul_le_mul (Nat.le_of_lt h1) (by decide))
  have := (D_len_le (B := 4294967296) (by decide) z _).2 h2
  omega

theorem mod_top {N : Nat} (x : Nat) : x / 256 ^ (4 * (D 4294967296 x).length) % N = 0 := by
  have h1 : x < 4294967296 ^ (D 4294967296 x).length := (D_len_le (B := 4294967296) (by decide) x _).1 (Nat.le_refl _)
  rw [Nat.pow_mul, show (256 : Nat) ^ 4 = 4294967296 from by decide, Nat.div_eq_of_lt h1, Nat.zero_mod]

theorem mod_small {x y r N : Nat} (h : y < N) : y * 256 + x / 256 ^ r % 256 < N * 2 ^ 9 := by
  have h2 := Nat.mod_lt (x / 256 ^ r) (show 0 < 256 by decide)
  omega

theorem mod_two (v M : Nat) : v % (M * 2) = v % M + M * (v / M % 2) := Nat.mod_mul

theorem mod_lo {v N k z : Nat} (hz : z = v % (N * 2 ^ (k + 1))) (h : z < N * 2 ^ k) : z = v % (N * 2 ^ k) := by
  have h1 := mod_two v (N * 2 ^ k)
  rw [Nat.mul_assoc, ← Nat.pow_succ] at h1
  rw [h1] at hz
  rcases Nat.mod_two_eq_zero_or_one (v / (N * 2 ^ k)) with h2 | h2
  · rw [hz, h2]; rfl
  · rw [h2] at hz; omega

theorem mod_hi {v N k z : Nat} (hz : z = v % (N * 2 ^ (k + 1))) (h : N * 2 ^ k ≤ z) : z - N * 2 ^ k = v % (N * 2 ^ k) := by
  have h1 := mod_two v (N * 2 ^ k)
  rw [Nat.mul_assoc, ← Nat.pow_succ] at h1
  rw [h1] at hz
  rcases Nat.mod_two_eq_zero_or_one (v / (N * 2 ^ k)) with h2 | h2
  · rcases Nat.eq_zero_or_pos (N * 2 ^ k) with h3 | h3
    · rw [h3] at hz ⊢; rw [hz]; simp
    · have := Nat.mod_lt v h3
      rw [h2] at hz; omega
  · rw [h2] at hz; omega

theorem mod_byte {x r N : Nat} : (x / 256 ^ (r + 1) % N * 256 + x / 256 ^ r % 256) % N = x / 256 ^ r % N := by
  have e : x / 256 ^ r = x / 256 ^ (r + 1) * 256 + x / 256 ^ r % 256 := by
    rw [Nat.pow_succ, ← Nat.div_div_eq_div_mul]
    omega
  generalize x / 256 ^ r % 256 = b at *
  generalize x / 256 ^ (r + 1) = y at *
  rw [e, Nat.add_mod, Nat.mod_mul_mod, ← Nat.add_mod]

set_option maxRecDepth 10000 in
theorem modD_ctr {x N : Nat} (hN : 0 < N) (hlx : (D 4294967296 x).length < 1000000) (hlN : (D 4294967296 N).length < 1000000) : GC Try.prog 67 [.slice (some ⟨0, 0, none⟩) (D 4294967296 x).length 0, .slice (some ⟨1, 0, none⟩) (D 4294967296 N).length 0] [⟨(D 4294967296 x).map (vi .u64), false, 1⟩, ⟨(D 4294967296 N).map (vi .u64), false, 1⟩] [.slice (some ⟨2, 0, none⟩) (D 4294967296 (x % N)).length 0] [⟨(D 4294967296 x).map (vi .u64), false, 1⟩, ⟨(D 4294967296 N).map (vi .u64), false, 1⟩, ⟨(D 4294967296 (x % N)).map (vi .u64), true, 1⟩] := by
  refine GC.intro Try.func67 rfl (by show 2 ≤ 68; decide) (by first | exact Nat.le_refl _ | decide | simp) ?_
  have hL := mod_room hlN
  refine AW.seqR ?_
  refine AWo.pure (PureOp.assign rfl) rfl rfl ?_
  refine AWo.nil trivial ?_
  refine AW.seqR ?_
  refine AWo.pure (PureOp.buildArr tbok [] rfl rfl rfl (by decide) rfl rfl) rfl rfl ?_
  refine AWo.alloc tbok 6000 1 _ rfl rfl rfl rfl rfl rfl ?_
  refine AWo.storeAllN tbok rfl rfl rfl rfl (by first | (simp [*]; done) | rfl) (by first | (simp [*]; done) | rfl) (by first | exact oneM (fun _ => rfl) _ | rfl | (simp; done)) rfl ?_
  refine AWo.nil trivial ?_
  refine AW.seq ?_
  refine AW.seqR ?_
  refine AWo.pure (PureOp.assign rfl) rfl rfl ?_
  refine AWo.nil trivial ?_
  refine AW.block ?_
  refine AW.rounds 10 ?_
  refine roundsA_succ ?_
  refine AW.seq ?_
  refine AW.seqR ?_
  refine AWo.pure (PureOp.move rfl) rfl rfl ?_
  first | refine AWo.pure (PureOp.ltN (b := 9) rfl rfl) rfl rfl ?_ | refine AWo.pure (PureOp.bin rfl rfl rfl) rfl rfl ?_
  refine AWo.nil trivial ?_
  refine AW.condT rfl ?_
  refine AW.skip ?_
  refine thenA_normal ?_
  refine AW.seq ?_
  refine AW.block ?_
  refine AW.region ?_
  refine AWo.pure (PureOp.move rfl) rfl rfl ?_
  refine AWo.pure (PureOp.move rfl) rfl rfl ?_
  refine AWo.pure (PureOp.move rfl) rfl rfl ?_
  refine AWo.callX (shiftD_ctr (x := N) (k := 0) (Nat.lt_trans hlN (by decide)) (by decide)) bd131 [(1, 0)] [21000] rfl (.cons rfl (.cons rfl .nil)) rfl (.cons rfl rfl (.cons rfl rfl .nil)) (.flat rfl (by first | exact flatM flat_vi | exact flatM flat_bool | (simp [flatV, flat_vi]; done)) (by intro h; first | exact h | rfl) .nil) rfl (.keep rfl (.new (flat_map_ren (by first | exact flatM flat_vi | exact flatM flat_bool | (simp [flatV, flat_vi]; done))) (OkL.flat (by first | exact flatM flat_vi | exact flatM flat_bool | (simp [flatV, flat_vi]; done))) .nil)) (frC rfl frN) (by decide) (.cons rfl rfl .nil) rfl rfl rfl rfl ?_
  first | refine AWo.pure (PureOp.arr1 tbok rfl rfl rfl rfl (by first | decide | omega)) rfl rfl ?_ | refine AWo.pure (PureOp.arr tbok rfl rfl rfl rfl (by first | decide | omega)) rfl rfl ?_
  refine AWo.store1 tbok rfl rfl rfl rfl rfl (by simp [Value.cells]) rfl rfl ?_
  refine AWo.nil trivial ?_
  refine inBlockA_normal ?_
  refine thenA_normal ?_
  refine AW.region ?_
  refine AWo.pure (PureOp.move rfl) rfl rfl ?_
  first | refine AWo.pure (PureOp.addI (b := 1) rfl rfl (by first | decide | omega)) rfl rfl ?_ | refine AWo.pure (PureOp.bin rfl rfl rfl) rfl rfl ?_
  refine AWo.pure (PureOp.assign rfl) rfl rfl ?_
  refine AWo.nil trivial ?_
  refine thenA_normal ?_
  refine roundsA_succ ?_
  refine AW.seq ?_
  refine AW.seqR ?_
  refine AWo.pure (PureOp.move rfl) rfl rfl ?_
  first | refine AWo.pure (PureOp.ltN (b := 9) rfl rfl) rfl rfl ?_ | refine AWo.pure (PureOp.bin rfl rfl rfl) rfl rfl ?_
  refine AWo.nil trivial ?_
  refine AW.condT rfl ?_
  refine AW.skip ?_
  refine thenA_normal ?_
  refine AW.seq ?_
  refine AW.block ?_
  refine AW.region ?_
  refine AWo.pure (PureOp.move rfl) rfl rfl ?_
  refine AWo.pure (PureOp.move rfl) rfl rfl ?_
  refine AWo.pure (PureOp.move rfl) rfl rfl ?_
  refine AWo.callX (shiftD_ctr (x := N) (k := 1) (Nat.lt_trans hlN (by decide)) (by decide)) bd131 [(1, 0)] [21001] rfl (.cons rfl (.cons rfl .nil)) rfl (.cons rfl rfl (.cons rfl rfl .nil)) (.flat rfl (by first | exact flatM flat_vi | exact flatM flat_bool | (simp [flatV, flat_vi]; done)) (by intro h; first | exact h | rfl) .nil) rfl (.keep rfl (.new (flat_map_ren (by first | exact flatM flat_vi | exact flatM flat_bool | (simp [flatV, flat_vi]; done))) (OkL.flat (by first | exact flatM flat_vi | exact flatM flat_bool | (simp [flatV, flat_vi]; done))) .nil)) (frC rfl frN) (by decide) (.cons rfl rfl .nil) rfl rfl rfl rfl ?_
  first | refine AWo.pure (PureOp.arr1 tbok rfl rfl rfl rfl (by first | decide | omega)) rfl rfl ?_ | refine AWo.pure (PureOp.arr tbok rfl rfl rfl rfl (by first | decide | omega)) rfl rfl ?_
  refine AWo.store1 tbok rfl rfl rfl rfl rfl (by simp [Value.cells]) rfl rfl ?_
  refine AWo.nil trivial ?_
  refine inBlockA_normal ?_
  refine thenA_normal ?_
  refine AW.region ?_
  refine AWo.pure (PureOp.move rfl) rfl rfl ?_
  first | refine AWo.pure (PureOp.addI (b := 1) rfl rfl (by first | decide | omega)) rfl rfl ?_ | refine AWo.pure (PureOp.bin rfl rfl rfl) rfl rfl ?_
  refine AWo.pure (PureOp.assign rfl) rfl rfl ?_
  refine AWo.nil trivial ?_
  refine thenA_normal ?_
  refine roundsA_succ ?_
  refine AW.seq ?_
  refine AW.seqR ?_
  refine AWo.pure (PureOp.move rfl) rfl rfl ?_
  first | refine AWo.pure (PureOp.ltN (b := 9) rfl rfl) rfl rfl ?_ | refine AWo.pure (PureOp.bin rfl rfl rfl) rfl rfl ?_
  refine AWo.nil trivial ?_
  refine AW.condT rfl ?_
  refine AW.skip ?_
  refine thenA_normal ?_
  refine AW.seq ?_
  refine AW.block ?_
  refine AW.region ?_
  refine AWo.pure (PureOp.move rfl) rfl rfl ?_
  refine AWo.pure (PureOp.move rfl) rfl rfl ?_
  refine AWo.pure (PureOp.move rfl) rfl rfl ?_
  refine AWo.callX (shiftD_ctr (x := N) (k := 2) (Nat.lt_trans hlN (by decide)) (by decide)) bd131 [(1, 0)] [21002] rfl (.cons rfl (.cons rfl .nil)) rfl (.cons rfl rfl (.cons rfl rfl .nil)) (.flat rfl (by first | exact flatM flat_vi | exact flatM flat_bool | (simp [flatV, flat_vi]; done)) (by intro h; first | exact h | rfl) .nil) rfl (.keep rfl (.new (flat_map_ren (by first | exact flatM flat_vi | exact flatM flat_bool | (simp [flatV, flat_vi]; done))) (OkL.flat (by first | exact flatM flat_vi | exact flatM flat_bool | (simp [flatV, flat_vi]; done))) .nil)) (frC rfl frN) (by decide) (.cons rfl rfl .nil) rfl rfl rfl rfl ?_
  first | refine AWo.pure (PureOp.arr1 tbok rfl rfl rfl rfl (by first | decide | omega)) rfl rfl ?_ | refine AWo.pure (PureOp.arr tbok rfl rfl rfl rfl (by first | decide | omega)) rfl rfl ?_
  refine AWo.store1 tbok rfl rfl rfl rfl rfl (by simp [Value.cells]) rfl rfl ?_
  refine AWo.nil trivial ?_
  refine inBlockA_normal ?_
  refine thenA_normal ?_
  refine AW.region ?_
  refine AWo.pure (PureOp.move rfl) rfl rfl ?_
  first | refine AWo.pure (PureOp.addI (b := 1) rfl rfl (by first | decide | omega)) rfl rfl ?_ | refine AWo.pure (PureOp.bin rfl rfl rfl) rfl rfl ?_
  refine AWo.pure (PureOp.assign rfl) rfl rfl ?_
  refine AWo.nil trivial ?_
  refine thenA_normal ?_
  refine roundsA_succ ?_
  refine AW.seq ?_
  refine AW.seqR ?_
  refine AWo.pure (PureOp.move rfl) rfl rfl ?_
  first | refine AWo.pure (PureOp.ltN (b := 9) rfl rfl) rfl rfl ?_ | refine AWo.pure (PureOp.bin rfl rfl rfl) rfl rfl ?_
  refine AWo.nil trivial ?_
  refine AW.condT rfl ?_
  refine AW.skip ?_
  refine thenA_normal ?_
  refine AW.seq ?_
  refine AW.block ?_
  refine AW.region ?_
  refine AWo.pure (PureOp.move rfl) rfl rfl ?_
  refine AWo.pure (PureOp.move rfl) rfl rfl ?_
  refine AWo.pure (PureOp.move rfl) rfl rfl ?_
  refine AWo.callX (shiftD_ctr (x := N) (k := 3) (Nat.lt_trans hlN (by decide)) (by decide)) bd131 [(1, 0)] [21003] rfl (.cons rfl (.cons rfl .nil)) rfl (.cons rfl rfl (.cons rfl rfl .nil)) (.flat rfl (by first | exact flatM flat_vi | exact flatM flat_bool | (simp [flatV, flat_vi]; done)) (by intro h; first | exact h | rfl) .nil) rfl (.keep rfl (.new (flat_map_ren (by first | exact flatM flat_vi | exact flatM flat_bool | (simp [flatV, flat_vi]; done))) (OkL.flat (by first | exact flatM flat_vi | exact flatM flat_bool | (simp [flatV, flat_vi]; done))) .nil)) (frC rfl frN) (by decide) (.cons rfl rfl .nil) rfl rfl rfl rfl ?_
  first | refine AWo.pure (PureOp.arr1 tbok rfl rfl rfl rfl (by first | decide | omega)) rfl rfl ?_ | refine AWo.pure (PureOp.arr tbok rfl rfl rfl rfl (by first | decide | omega)) rfl rfl ?_
  refine AWo.store1 tbok rfl rfl rfl rfl rfl (by simp [Value.cells]) rfl rfl ?_
  refine AWo.nil trivial ?_
  refine inBlockA_normal ?_
  refine thenA_normal ?_
  refine AW.region ?_
  refine AWo.pure (PureOp.move rfl) rfl rfl ?_
  first | refine AWo.pure (PureOp.addI (b := 1) rfl rfl (by first | decide | omega)) rfl rfl ?_ | refine AWo.pure (PureOp.bin rfl rfl rfl) rfl rfl ?_
  refine AWo.pure (PureOp.assign rfl) rfl rfl ?_
  refine AWo.nil trivial ?_
  refine thenA_normal ?_
  refine roundsA_succ ?_
  refine AW.seq ?_
  refine AW.seqR ?_
  refine AWo.pure (PureOp.move rfl) rfl rfl ?_
  first | refine AWo.pure (PureOp.ltN (b := 9) rfl rfl) rfl rfl ?_ | refine AWo.pure (PureOp.bin rfl rfl rfl) rfl rfl ?_
  refine AWo.nil trivial ?_
  refine AW.condT rfl ?_
  refine AW.skip ?_
  refine thenA_normal ?_
  refine AW.seq ?_
  refine AW.block ?_
  refine AW.region ?_
  refine AWo.pure (PureOp.move rfl) rfl rfl ?_
  refine AWo.pure (PureOp.move rfl) rfl rfl ?_
  refine AWo.pure (PureOp.move rfl) rfl rfl ?_
  refine AWo.callX (shiftD_ctr (x := N) (k := 4) (Nat.lt_trans hlN (by decide)) (by decide)) bd131 [(1, 0)] [21004] rfl (.cons rfl (.cons rfl .nil)) rfl (.cons rfl rfl (.cons rfl rfl .nil)) (.flat rfl (by first | exact flatM flat_vi | exact flatM flat_bool | (simp [flatV, flat_vi]; done)) (by intro h; first | exact h | rfl) .nil) rfl (.keep rfl (.new (flat_map_ren (by first | exact flatM flat_vi | exact flatM flat_bool | (simp [flatV, flat_vi]; done))) (OkL.flat (by first | exact flatM flat_vi | exact flatM flat_bool | (simp [flatV, flat_vi]; done))) .nil)) (frC rfl frN) (by decide) (.cons rfl rfl .nil) rfl rfl rfl rfl ?_
  first | refine AWo.pure (PureOp.arr1 tbok rfl rfl rfl rfl (by first | decide | omega)) rfl rfl ?_ | refine AWo.pure (PureOp.arr tbok rfl rfl rfl rfl (by first | decide | omega)) rfl rfl ?_
  refine AWo.store1 tbok rfl rfl rfl rfl rfl (by simp [Value.cells]) rfl rfl ?_
  refine AWo.nil trivial ?_
  refine inBlockA_normal ?_
  refine thenA_normal ?_
  refine AW.region ?_
  refine AWo.pure (PureOp.move rfl) rfl rfl ?_
  first | refine AWo.pure (PureOp.addI (b := 1) rfl rfl (by first | decide | omega)) rfl rfl ?_ | refine AWo.pure (PureOp.bin rfl rfl rfl) rfl rfl ?_
  refine AWo.pure (PureOp.assign rfl) rfl rfl ?_
  refine AWo.nil trivial ?_
  refine thenA_normal ?_
  refine roundsA_succ ?_
  refine AW.seq ?_
  refine AW.seqR ?_
  refine AWo.pure (PureOp.move rfl) rfl rfl ?_
  first | refine AWo.pure (PureOp.ltN (b := 9) rfl rfl) rfl rfl ?_ | refine AWo.pure (PureOp.bin rfl rfl rfl) rfl rfl ?_
  refine AWo.nil trivial ?_
  refine AW.condT rfl ?_
  refine AW.skip ?_
  refine thenA_normal ?_
  refine AW.seq ?_
  refine AW.block ?_
  refine AW.region ?_
  refine AWo.pure (PureOp.move rfl) rfl rfl ?_
  refine AWo.pure (PureOp.move rfl) rfl rfl ?_
  refine AWo.pure (PureOp.move rfl) rfl rfl ?_
  refine AWo.callX (shiftD_ctr (x := N) (k := 5) (Nat.lt_trans hlN (by decide)) (by decide)) bd131 [(1, 0)] [21005] rfl (.cons rfl (.cons rfl .nil)) rfl (.cons rfl rfl (.cons rfl rfl .nil)) (.flat rfl (by first | exact flatM flat_vi | exact flatM flat_bool | (simp [flatV, flat_vi]; done)) (by intro h; first | exact h | rfl) .nil) rfl (.keep rfl (.new (flat_map_ren (by first | exact flatM flat_vi | exact flatM flat_bool | (simp [flatV, flat_vi]; done))) (OkL.flat (by first | exact flatM flat_vi | exact flatM flat_bool | (simp [flatV, flat_vi]; done))) .nil)) (frC rfl frN) (by decide) (.cons rfl rfl .nil) rfl rfl rfl rfl ?_
  first | refine AWo.pure (PureOp.arr1 tbok rfl rfl rfl rfl (by first | decide | omega)) rfl rfl ?_ | refine AWo.pure (PureOp.arr tbok rfl rfl rfl rfl (by first | decide | omega)) rfl rfl ?_
  refine AWo.store1 tbok rfl rfl rfl rfl rfl (by simp [Value.cells]) rfl rfl ?_
  refine AWo.nil trivial ?_
  refine inBlockA_normal ?_
  refine thenA_normal ?_
  refine AW.region ?_
  refine AWo.pure (PureOp.move rfl) rfl rfl ?_
  first | refine AWo.pure (PureOp.addI (b := 1) rfl rfl (by first | decide | omega)) rfl rfl ?_ | refine AWo.pure (PureOp.bin rfl rfl rfl) rfl rfl ?_
  refine AWo.pure (PureOp.assign rfl) rfl rfl ?_
  refine AWo.nil trivial ?_
  refine thenA_normal ?_
  refine roundsA_succ ?_
  refine AW.seq ?_
  refine AW.seqR ?_
  refine AWo.pure (PureOp.move rfl) rfl rfl ?_
  first | refine AWo.pure (PureOp.ltN (b := 9) rfl rfl) rfl rfl ?_ | refine AWo.pure (PureOp.bin rfl rfl rfl) rfl rfl ?_
  refine AWo.nil trivial ?_
  refine AW.condT rfl ?_
  refine AW.skip ?_
  refine thenA_normal ?_
  refine AW.seq ?_
  refine AW.block ?_
  refine AW.region ?_
  refine AWo.pure (PureOp.move rfl) rfl rfl ?_
  refine AWo.pure (PureOp.move rfl) rfl rfl ?_
  refine AWo.pure (PureOp.move rfl) rfl rfl ?_
  refine AWo.callX (shiftD_ctr (x := N) (k := 6) (Nat.lt_trans hlN (by decide)) (by decide)) bd131 [(1, 0)] [21006] rfl (.cons rfl (.cons rfl .nil)) rfl (.cons rfl rfl (.cons rfl rfl .nil)) (.flat rfl (by first | exact flatM flat_vi | exact flatM flat_bool | (simp [flatV, flat_vi]; done)) (by intro h; first | exact h | rfl) .nil) rfl (.keep rfl (.new (flat_map_ren (by first | exact flatM flat_vi | exact flatM flat_bool | (simp [flatV, flat_vi]; done))) (OkL.flat (by first | exact flatM flat_vi | exact flatM flat_bool | (simp [flatV, flat_vi]; done))) .nil)) (frC rfl frN) (by decide) (.cons rfl rfl .nil) rfl rfl rfl rfl ?_
  first | refine AWo.pure (PureOp.arr1 tbok rfl rfl rfl rfl (by first | decide | omega)) rfl rfl ?_ | refine AWo.pure (PureOp.arr tbok rfl rfl rfl rfl (by first | decide | omega)) rfl rfl ?_
  refine AWo.store1 tbok rfl rfl rfl rfl rfl (by simp [Value.cells]) rfl rfl ?_
  refine AWo.nil trivial ?_
  refine inBlockA_normal ?_
  refine thenA_normal ?_
  refine AW.region ?_
  refine AWo.pure (PureOp.move rfl) rfl rfl ?_
  first | refine AWo.pure (PureOp.addI (b := 1) rfl rfl (by first | decide | omega)) rfl rfl ?_ | refine AWo.pure (PureOp.bin rfl rfl rfl) rfl rfl ?_
  refine AWo.pure (PureOp.assign rfl) rfl rfl ?_
  refine AWo.nil trivial ?_
  refine thenA_normal ?_
  refine roundsA_succ ?_
  refine AW.seq ?_
  refine AW.seqR ?_
  refine AWo.pure (PureOp.move rfl) rfl rfl ?_
  first | refine AWo.pure (PureOp.ltN (b := 9) rfl rfl) rfl rfl ?_ | refine AWo.pure (PureOp.bin rfl rfl rfl) rfl rfl ?_
  refine AWo.nil trivial ?_
  refine AW.condT rfl ?_
  refine AW.skip ?_
  refine thenA_normal ?_
  refine AW.seq ?_
  refine AW.block ?_
  refine AW.region ?_
  refine AWo.pure (PureOp.move rfl) rfl rfl ?_
  refine AWo.pure (PureOp.move rfl) rfl rfl ?_
  refine AWo.pure (PureOp.move rfl) rfl rfl ?_
  refine AWo.callX (shiftD_ctr (x := N) (k := 7) (Nat.lt_trans hlN (by decide)) (by decide)) bd131 [(1, 0)] [21007] rfl (.cons rfl (.cons rfl .nil)) rfl (.cons rfl rfl (.cons rfl rfl .nil)) (.flat rfl (by first | exact flatM flat_vi | exact flatM flat_bool | (simp [flatV, flat_vi]; done)) (by intro h; first | exact h | rfl) .nil) rfl (.keep rfl (.new (flat_map_ren (by first | exact flatM flat_vi | exact flatM flat_bool | (simp [flatV, flat_vi]; done))) (OkL.flat (by first | exact flatM flat_vi | exact flatM flat_bool | (simp [flatV, flat_vi]; done))) .nil)) (frC rfl frN) (by decide) (.cons rfl rfl .nil) rfl rfl rfl rfl ?_
  first | refine AWo.pure (PureOp.arr1 tbok rfl rfl rfl rfl (by first | decide | omega)) rfl rfl ?_ | refine AWo.pure (PureOp.arr tbok rfl rfl rfl rfl (by first | decide | omega)) rfl rfl ?_
  refine AWo.store1 tbok rfl rfl rfl rfl rfl (by simp [Value.cells]) rfl rfl ?_
  refine AWo.nil trivial ?_
  refine inBlockA_normal ?_
  refine thenA_normal ?_
  refine AW.region ?_
  refine AWo.pure (PureOp.move rfl) rfl rfl ?_
  first | refine AWo.pure (PureOp.addI (b := 1) rfl rfl (by first | decide | omega)) rfl rfl ?_ | refine AWo.pure (PureOp.bin rfl rfl rfl) rfl rfl ?_
  refine AWo.pure (PureOp.assign rfl) rfl rfl ?_
  refine AWo.nil trivial ?_
  refine thenA_normal ?_
  refine roundsA_succ ?_
  refine AW.seq ?_
  refine AW.seqR ?_
  refine AWo.pure (PureOp.move rfl) rfl rfl ?_
  first | refine AWo.pure (PureOp.ltN (b := 9) rfl rfl) rfl rfl ?_ | refine AWo.pure (PureOp.bin rfl rfl rfl) rfl rfl ?_
  refine AWo.nil trivial ?_
  refine AW.condT rfl ?_
  refine AW.skip ?_
  refine thenA_normal ?_
  refine AW.seq ?_
  refine AW.block ?_
  refine AW.region ?_
  refine AWo.pure (PureOp.move rfl) rfl rfl ?_
  refine AWo.pure (PureOp.move rfl) rfl rfl ?_
  refine AWo.pure (PureOp.move rfl) rfl rfl ?_
  refine AWo.callX (shiftD_ctr (x := N) (k := 8) (Nat.lt_trans hlN (by decide)) (by decide)) bd131 [(1, 0)] [21008] rfl (.cons rfl (.cons rfl .nil)) rfl (.cons rfl rfl (.cons rfl rfl .nil)) (.flat rfl (by first | exact flatM flat_vi | exact flatM flat_bool | (simp [flatV, flat_vi]; done)) (by intro h; first | exact h | rfl) .nil) rfl (.keep rfl (.new (flat_map_ren (by first | exact flatM flat_vi | exact flatM flat_bool | (simp [flatV, flat_vi]; done))) (OkL.flat (by first | exact flatM flat_vi | exact flatM flat_bool | (simp [flatV, flat_vi]; done))) .nil)) (frC rfl frN) (by decide) (.cons rfl rfl .nil) rfl rfl rfl rfl ?_
  first | refine AWo.pure (PureOp.arr1 tbok rfl rfl rfl rfl (by first | decide | omega)) rfl rfl ?_ | refine AWo.pure (PureOp.arr tbok rfl rfl rfl rfl (by first | decide | omega)) rfl rfl ?_
  refine AWo.store1 tbok rfl rfl rfl rfl rfl (by simp [Value.cells]) rfl rfl ?_
  refine AWo.nil trivial ?_
  refine inBlockA_normal ?_
  refine thenA_normal ?_
  refine AW.region ?_
  refine AWo.pure (PureOp.move rfl) rfl rfl ?_
  first | refine AWo.pure (PureOp.addI (b := 1) rfl rfl (by first | decide | omega)) rfl rfl ?_ | refine AWo.pure (PureOp.bin rfl rfl rfl) rfl rfl ?_
  refine AWo.pure (PureOp.assign rfl) rfl rfl ?_
  refine AWo.nil trivial ?_
  refine thenA_normal ?_
  refine roundsA_succ ?_
  refine AW.seq ?_
  refine AW.seqR ?_
  refine AWo.pure (PureOp.move rfl) rfl rfl ?_
  first | refine AWo.pure (PureOp.ltN (b := 9) rfl rfl) rfl rfl ?_ | refine AWo.pure (PureOp.bin rfl rfl rfl) rfl rfl ?_
  refine AWo.nil trivial ?_
  refine AW.condF rfl ?_
  refine AW.exit ?_
  refine thenA_exit ?_
  refine thenA_exit ?_
  refine inBlockA_hit ?_
  refine thenA_normal ?_
  refine AW.seqR ?_
  refine AWo.buildSlice tbok 23000 [] (out := []) rfl rfl (by decide) rfl rfl rfl (by decide) rfl rfl rfl rfl rfl ?_
  refine AWo.pure (PureOp.assign rfl) rfl rfl ?_
  refine AWo.nil trivial ?_
  refine AW.seq ?_
  refine AW.seqR ?_
  refine AWo.pure (PureOp.move rfl) rfl rfl ?_
  refine AWo.pure (PureOp.lenS tbok rfl rfl) rfl rfl ?_
  first | refine AWo.pure (PureOp.mulI (b := 4) rfl rfl (by first | decide | omega)) rfl rfl ?_ | refine AWo.pure (PureOp.bin rfl rfl rfl) rfl rfl ?_
  first | refine AWo.pure ((PureOp.subI (b := 1) rfl rfl (by first | decide | omega) (by first | decide | omega)).mono (v' := vp (4 * (D 4294967296 x).length)) (by first | rfl | (simp only [vp]; congr 1; omega))) rfl rfl ?_ | refine AWo.pure ((PureOp.subP rfl rfl (by first | decide | omega)).mono (v' := vp (4 * (D 4294967296 x).length)) (by first | rfl | (simp only [vp]; congr 1; omega))) rfl rfl ?_ | refine AWo.pure ((PureOp.bin rfl rfl rfl).mono (v' := vp (4 * (D 4294967296 x).length)) (by first | rfl | (simp only [vp]; congr 1; omega))) rfl rfl ?_
  refine AWo.pure (PureOp.assign rfl) rfl rfl ?_
  refine AWo.nil trivial ?_
  refine AW.block ?_
  refine AW.loopw (fun mm σ => ∃ y, ∃ r, (r ≤ 4 * (D 4294967296 x).length ∧ y = x / 256 ^ r % N) ∧ mm = 1 * r ∧ σ = ⟨(upd (upd (upd (upd emp 0 (.slice (some ⟨0, 0, none⟩) (D 4294967296 x).length 0)) 5 (.pointer (some ⟨6000, 0, none⟩))) 7 (.slice (some ⟨77000, 0, none⟩) (D 4294967296 (y)).length 0)) 8 (vp r)), (upd (upd (upd (upd (upd (upd (upd (upd (upd (upd (upd (upd (upd emp 0 ⟨(D 4294967296 x).map (vi .u64), false, 1⟩) 1 ⟨(D 4294967296 N).map (vi .u64), false, 1⟩) 6000 ⟨[.slice (some ⟨21000, 0, none⟩) (D 4294967296 (N * 2 ^ 0)).length 0, .slice (some ⟨21001, 0, none⟩) (D 4294967296 (N * 2 ^ 1)).length 0, .slice (some ⟨21002, 0, none⟩) (D 4294967296 (N * 2 ^ 2)).length 0, .slice (some ⟨21003, 0, none⟩) (D 4294967296 (N * 2 ^ 3)).length 0, .slice (some ⟨21004, 0, none⟩) (D 4294967296 (N * 2 ^ 4)).length 0, .slice (some ⟨21005, 0, none⟩) (D 4294967296 (N * 2 ^ 5)).length 0, .slice (some ⟨21006, 0, none⟩) (D 4294967296 (N * 2 ^ 6)).length 0, .slice (some ⟨21007, 0, none⟩) (D 4294967296 (N * 2 ^ 7)).length 0, .slice (some ⟨21008, 0, none⟩) (D 4294967296 (N * 2 ^ 8)).length 0], true, 1⟩) 21000 ⟨(D 4294967296 (N * 2 ^ 0)).map (vi .u64), true, 1⟩) 21001 ⟨(D 4294967296 (N * 2 ^ 1)).map (vi .u64), true, 1⟩) 21002 ⟨(D 4294967296 (N * 2 ^ 2)).map (vi .u64), true, 1⟩) 21003 ⟨(D 4294967296 (N * 2 ^ 3)).map (vi .u64), true, 1⟩) 21004 ⟨(D 4294967296 (N * 2 ^ 4)).map (vi .u64), true, 1⟩) 21005 ⟨(D 4294967296 (N * 2 ^ 5)).map (vi .u64), true, 1⟩) 21006 ⟨(D 4294967296 (N * 2 ^ 6)).map (vi .u64), true, 1⟩) 21007 ⟨(D 4294967296 (N * 2 ^ 7)).map (vi .u64), true, 1⟩) 21008 ⟨(D 4294967296 (N * 2 ^ 8)).map (vi .u64), true, 1⟩) 77000 ⟨(D 4294967296 (y)).map (vi .u64), true, 1⟩)⟩) (fm := [(77000, 23000)]) ?_ ⟨0, 4 * (D 4294967296 x).length, ⟨Nat.le_refl _, (mod_top x).symm⟩, rfl, rfl⟩ ?_
  ·
    refine Wk.of [0, 1, 6000, 21000, 21001, 21002, 21003, 21004, 21005, 21006, 21007, 21008, 77000] ?_ ?_ ?_ (by decide) rfl
    ·
      refine WkE.upd rfl (by first | exact VR.flat _ rfl | exact VR.eqv (vp_succ _) rfl | exact VR.eqv (vp_succ _).symm rfl | exact VR.eqv (by first | rfl | (congr 1; omega) | (simp; done) | (simp; omega)) rfl) ?_
      refine WkE.upd rfl (.slice (77000) 0 _ 0 ⟨_, rfl⟩ (by simp) (by simp)) ?_
      refine WkE.upd rfl (.ptr (6000) 0 ⟨_, rfl⟩) ?_
      refine WkE.upd rfl (.slice (0) 0 _ 0 ⟨_, rfl⟩ (by simp) (by simp)) ?_
      exact WkE.emp
    ·
      refine WkM.flatM rfl rfl flat_vi (fun h => h) ?_
      refine WkM.flatM rfl (by first | rfl | assumption | simp) (fun _ => rfl) (fun h => h) ?_
      refine WkM.flatM rfl (by first | rfl | assumption | simp) (fun _ => rfl) (fun h => h) ?_
      refine WkM.flatM rfl (by first | rfl | assumption | simp) (fun _ => rfl) (fun h => h) ?_
      refine WkM.flatM rfl (by first | rfl | assumption | simp) (fun _ => rfl) (fun h => h) ?_
      refine WkM.flatM rfl (by first | rfl | assumption | simp) (fun _ => rfl) (fun h => h) ?_
      refine WkM.flatM rfl (by first | rfl | assumption | simp) (fun _ => rfl) (fun h => h) ?_
      refine WkM.flatM rfl (by first | rfl | assumption | simp) (fun _ => rfl) (fun h => h) ?_
      refine WkM.flatM rfl (by first | rfl | assumption | simp) (fun _ => rfl) (fun h => h) ?_
      refine WkM.flatM rfl (by first | rfl | assumption | simp) (fun _ => rfl) (fun h => h) ?_
      refine WkM.ren [21000, 21001, 21002, 21003, 21004, 21005, 21006, 21007, 21008] rfl rfl rfl (dom_all rfl) (fun h => h) ?_
      refine WkM.flatM rfl (by first | rfl | assumption | simp) (fun _ => rfl) (fun h => h) ?_
      refine WkM.flatM rfl (by first | rfl | assumption | simp) (fun _ => rfl) (fun h => h) ?_
      exact WkM.emp
    ·
      repeat (refine dom_upd_mem (by decide) ?_)
      exact dom_emp
  ·
    rintro mm σ ⟨y, r, ⟨hr0, hy⟩, rfl, rfl⟩
    refine AW.seq ?_
    refine AW.seqR ?_
    refine AWo.pure (PureOp.move rfl) rfl rfl ?_
    first | refine AWo.pure (PureOp.geP rfl rfl) rfl rfl ?_ | refine AWo.pure (PureOp.geN (b := 0) rfl rfl) rfl rfl ?_ | refine AWo.pure (PureOp.bin rfl rfl rfl) rfl rfl ?_
    refine AWo.nil trivial ?_
    refine AW.cond rfl (fun hb0 => ?_) (fun hb0 => ?_)
    ·
      have hp0 : 0 < r := by simpa using hb0
      obtain ⟨r, rfl⟩ : ∃ q, r = q + 1 := ⟨r - 1, by omega⟩
      rw [vp_succ]
      have hr4 : r / 4 < (D 4294967296 x).length := by omega
      have hx := bd_getD (bd_D (B := 4294967296) (by decide) x) (by decide) (r / 4)
      have hyN : y < N := by rw [hy]; exact Nat.mod_lt _ hN
      have hv := mod_small (x := x) (r := r) hyN
      refine AW.skip ?_
      refine thenA_normal ?_
      refine AW.seq ?_
      refine AW.block ?_
      refine AW.seqR ?_
      refine AWo.pure (PureOp.move rfl) rfl rfl ?_
      refine AWo.pure (PureOp.move rfl) rfl rfl ?_
      first | refine AWo.pure (PureOp.quoN (b := 4) 9223372036854775808 rfl rfl (by decide) (by decide) (by first | decide | omega) (by first | decide | omega)) rfl rfl ?_ | refine AWo.pure (PureOp.quo rfl rfl (by first | decide | omega)) rfl rfl ?_
      first | refine AWo.pure (PureOp.idxN tbok (j := r / 4) rfl rfl rfl rfl hr4) rfl rfl ?_ | refine AWo.pure (PureOp.idx1 tbok rfl rfl rfl rfl hr4) rfl rfl ?_ | refine AWo.pure (PureOp.idx tbok rfl rfl rfl rfl hr4) rfl rfl ?_
      refine AWo.loadM tbok 0 rfl rfl rfl (by omega) rfl rfl ?_
      refine AWo.pure (PureOp.assign rfl) rfl rfl ?_
      refine AWo.nil trivial ?_
      refine AW.seq ?_
      refine AW.seqR ?_
      refine AWo.pure (PureOp.assign rfl) rfl rfl ?_
      refine AWo.nil trivial ?_
      refine AW.block ?_
      refine AW.loopw (fun mm σ => ∃ j, (j ≤ r % 4) ∧ mm = r % 4 - j ∧ σ = ⟨(upd (upd (upd (upd (upd (upd emp 0 (.slice (some ⟨0, 0, none⟩) (D 4294967296 x).length 0)) 5 (.pointer (some ⟨6000, 0, none⟩))) 7 (.slice (some ⟨77000, 0, none⟩) (D 4294967296 (y)).length 0)) 8 (vi .i64 r)) 9 (vi .u64 ((D 4294967296 x).getD (r / 4) 0 / 256 ^ j))) 10 (vi .i64 j)), (upd (upd (upd (upd (upd (upd (upd (upd (upd (upd (upd (upd (upd emp 0 ⟨(D 4294967296 x).map (vi .u64), false, 1⟩) 1 ⟨(D 4294967296 N).map (vi .u64), false, 1⟩) 6000 ⟨[.slice (some ⟨21000, 0, none⟩) (D 4294967296 (N * 2 ^ 0)).length 0, .slice (some ⟨21001, 0, none⟩) (D 4294967296 (N * 2 ^ 1)).length 0, .slice (some ⟨21002, 0, none⟩) (D 4294967296 (N * 2 ^ 2)).length 0, .slice (some ⟨21003, 0, none⟩) (D 4294967296 (N * 2 ^ 3)).length 0, .slice (some ⟨21004, 0, none⟩) (D 4294967296 (N * 2 ^ 4)).length 0, .slice (some ⟨21005, 0, none⟩) (D 4294967296 (N * 2 ^ 5)).length 0, .slice (some ⟨21006, 0, none⟩) (D 4294967296 (N * 2 ^ 6)).length 0, .slice (some ⟨21007, 0, none⟩) (D 4294967296 (N * 2 ^ 7)).length 0, .slice (some ⟨21008, 0, none⟩) (D 4294967296 (N * 2 ^ 8)).length 0], true, 1⟩) 21000 ⟨(D 4294967296 (N * 2 ^ 0)).map (vi .u64), true, 1⟩) 21001 ⟨(D 4294967296 (N * 2 ^ 1)).map (vi .u64), true, 1⟩) 21002 ⟨(D 4294967296 (N * 2 ^ 2)).map (vi .u64), true, 1⟩) 21003 ⟨(D 4294967296 (N * 2 ^ 3)).map (vi .u64), true, 1⟩) 21004 ⟨(D 4294967296 (N * 2 ^ 4)).map (vi .u64), true, 1⟩) 21005 ⟨(D 4294967296 (N * 2 ^ 5)).map (vi .u64), true, 1⟩) 21006 ⟨(D 4294967296 (N * 2 ^ 6)).map (vi .u64), true, 1⟩) 21007 ⟨(D 4294967296 (N * 2 ^ 7)).map (vi .u64), true, 1⟩) 21008 ⟨(D 4294967296 (N * 2 ^ 8)).map (vi .u64), true, 1⟩) 77000 ⟨(D 4294967296 (y)).map (vi .u64), true, 1⟩)⟩) (fm := []) ?_ ⟨0, Nat.zero_le _, rfl, rfl⟩ ?_
      ·
        refine Wk.of [0, 1, 6000, 21000, 21001, 21002, 21003, 21004, 21005, 21006, 21007, 21008, 77000] ?_ ?_ ?_ (by decide) rfl
        ·
          refine WkE.upd rfl (by first | exact VR.flat _ rfl | exact VR.eqv (vp_succ _) rfl | exact VR.eqv (vp_succ _).symm rfl | exact VR.eqv (by first | rfl | (congr 1; omega) | (simp; done) | (simp; omega)) rfl) ?_
          refine WkE.upd rfl (by first | exact VR.flat _ rfl | exact VR.eqv (vp_succ _) rfl | exact VR.eqv (vp_succ _).symm rfl | exact VR.eqv (by first | rfl | (congr 1; omega) | (simp; done) | (simp; omega)) rfl) ?_
          refine WkE.upd rfl (by first | exact VR.flat _ rfl | exact VR.eqv (vp_succ _) rfl | exact VR.eqv (vp_succ _).symm rfl | exact VR.eqv (by first | rfl | (congr 1; omega) | (simp; done) | (simp; omega)) rfl) ?_
          refine WkE.upd rfl (.slice (77000) 0 _ 0 ⟨_, rfl⟩ (by simp) (by simp)) ?_
          refine WkE.upd rfl (.ptr (6000) 0 ⟨_, rfl⟩) ?_
          refine WkE.upd rfl (.slice (0) 0 _ 0 ⟨_, rfl⟩ (by simp) (by simp)) ?_
          exact WkE.emp
        ·
          refine WkM.flatM rfl (by first | rfl | assumption | simp) (fun _ => rfl) (fun h => h) ?_
          refine WkM.flatM rfl (by first | rfl | assumption | simp) (fun _ => rfl) (fun h => h) ?_
          refine WkM.flatM rfl (by first | rfl | assumption | simp) (fun _ => rfl) (fun h => h) ?_
          refine WkM.flatM rfl (by first | rfl | assumption | simp) (fun _ => rfl) (fun h => h) ?_
          refine WkM.flatM rfl (by first | rfl | assumption | simp) (fun _ => rfl) (fun h => h) ?_
          refine WkM.flatM rfl (by first | rfl | assumption | simp) (fun _ => rfl) (fun h => h) ?_
          refine WkM.flatM rfl (by first | rfl | assumption | simp) (fun _ => rfl) (fun h => h) ?_
          refine WkM.flatM rfl (by first | rfl | assumption | simp) (fun _ => rfl) (fun h => h) ?_
          refine WkM.flatM rfl (by first | rfl | assumption | simp) (fun _ => rfl) (fun h => h) ?_
          refine WkM.flatM rfl (by first | rfl | assumption | simp) (fun _ => rfl) (fun h => h) ?_
          refine WkM.ren [21000, 21001, 21002, 21003, 21004, 21005, 21006, 21007, 21008] rfl rfl rfl (dom_all rfl) (fun h => h) ?_
          refine WkM.flatM rfl (by first | rfl | assumption | simp) (fun _ => rfl) (fun h => h) ?_
          refine WkM.flatM rfl (by first | rfl | assumption | simp) (fun _ => rfl) (fun h => h) ?_
          exact WkM.emp
        ·
          repeat (refine dom_upd_mem (by decide) ?_)
          exact dom_emp
      ·
        rintro mm σ ⟨j, hinv, rfl, rfl⟩
        refine AW.seq ?_
        refine AW.seqR ?_
        refine AWo.pure (PureOp.move rfl) rfl rfl ?_
        refine AWo.pure (PureOp.move rfl) rfl rfl ?_
        refine AWo.pure ((PureOp.remN (b := 4) rfl rfl (by decide)).mono (v' := vi .i64 (r % 4)) rfl) rfl rfl ?_
        first | refine AWo.pure (PureOp.ltN rfl rfl) rfl rfl ?_ | refine AWo.pure (PureOp.bin rfl rfl rfl) rfl rfl ?_
        refine AWo.nil trivial ?_
        refine AW.cond rfl (fun hb1 => ?_) (fun hb1 => ?_)
        ·
          have hj : j < r % 4 := by simpa using hb1
          refine AW.skip ?_
          refine thenA_normal ?_
          refine AW.seq ?_
          refine AW.block ?_
          refine AW.region ?_
          refine AWo.pure (PureOp.move rfl) rfl rfl ?_
          refine AWo.pure ((PureOp.quoN (b := 256) 18446744073709551616 rfl rfl (by decide) (by decide) (by decide) (Nat.lt_of_le_of_lt (Nat.div_le_self _ _) (Nat.lt_trans hx (by decide)))).mono (v' := vi .u64 ((D 4294967296 x).getD (r / 4) 0 / 256 ^ (j + 1))) (congrArg (vi .u64) (by rw [Nat.div_div_eq_div_mul, ← Nat.pow_succ]))) rfl rfl ?_
          refine AWo.pure (PureOp.assign rfl) rfl rfl ?_
          refine AWo.nil trivial ?_
          refine inBlockA_normal ?_
          refine thenA_normal ?_
          refine AW.region ?_
          refine AWo.pure (PureOp.move rfl) rfl rfl ?_
          first | refine AWo.pure (PureOp.addI (b := 1) rfl rfl (by first | decide | omega)) rfl rfl ?_ | refine AWo.pure (PureOp.bin rfl rfl rfl) rfl rfl ?_
          refine AWo.pure (PureOp.assign rfl) rfl rfl ?_
          refine AWo.nil trivial ?_
          refine thenA_normal ?_
          refine ⟨r % 4 - (j + 1), [], _, by omega, ?_, j + 1, by omega, rfl, rfl⟩
          refine Wk.of [0, 1, 6000, 21000, 21001, 21002, 21003, 21004, 21005, 21006, 21007, 21008, 77000] ?_ ?_ ?_ (by decide) rfl
          ·
            refine WkE.upd rfl (by first | exact VR.flat _ rfl | exact VR.eqv (vp_succ _) rfl | exact VR.eqv (vp_succ _).symm rfl | exact VR.eqv (by first | rfl | (congr 1; omega) | (simp; done) | (simp; omega)) rfl) ?_
            refine WkE.upd rfl (by first | exact VR.flat _ rfl | exact VR.eqv (vp_succ _) rfl | exact VR.eqv (vp_succ _).symm rfl | exact VR.eqv (by first | rfl | (congr 1; omega) | (simp; done) | (simp; omega)) rfl) ?_
            refine WkE.upd rfl (by first | exact VR.flat _ rfl | exact VR.eqv (vp_succ _) rfl | exact VR.eqv (vp_succ _).symm rfl | exact VR.eqv (by first | rfl | (congr 1; omega) | (simp; done) | (simp; omega)) rfl) ?_
            refine WkE.upd rfl (.slice (77000) 0 _ 0 ⟨_, rfl⟩ (by simp) (by simp)) ?_
            refine WkE.upd rfl (.ptr (6000) 0 ⟨_, rfl⟩) ?_
            refine WkE.upd rfl (.slice (0) 0 _ 0 ⟨_, rfl⟩ (by simp) (by simp)) ?_
            exact WkE.emp
          ·
            refine WkM.flatM rfl (by first | rfl | assumption | simp) (fun _ => rfl) (fun h => h) ?_
            refine WkM.flatM rfl (by first | rfl | assumption | simp) (fun _ => rfl) (fun h => h) ?_
            refine WkM.flatM rfl (by first | rfl | assumption | simp) (fun _ => rfl) (fun h => h) ?_
            refine WkM.flatM rfl (by first | rfl | assumption | simp) (fun _ => rfl) (fun h => h) ?_
            refine WkM.flatM rfl (by first | rfl | assumption | simp) (fun _ => rfl) (fun h => h) ?_
            refine WkM.flatM rfl (by first | rfl | assumption | simp) (fun _ => rfl) (fun h => h) ?_
            refine WkM.flatM rfl (by first | rfl | assumption | simp) (fun _ => rfl) (fun h => h) ?_
            refine WkM.flatM rfl (by first | rfl | assumption | simp) (fun _ => rfl) (fun h => h) ?_
            refine WkM.flatM rfl (by first | rfl | assumption | simp) (fun _ => rfl) (fun h => h) ?_
            refine WkM.flatM rfl (by first | rfl | assumption | simp) (fun _ => rfl) (fun h => h) ?_
            refine WkM.ren [21000, 21001, 21002, 21003, 21004, 21005, 21006, 21007, 21008] rfl rfl rfl (dom_all rfl) (fun h => h) ?_
            refine WkM.flatM rfl (by first | rfl | assumption | simp) (fun _ => rfl) (fun h => h) ?_
            refine WkM.flatM rfl (by first | rfl | assumption | simp) (fun _ => rfl) (fun h => h) ?_
            exact WkM.emp
          ·
            repeat (refine dom_upd_mem (by decide) ?_)
            exact dom_emp
        ·
          obtain rfl : j = r % 4 := by simp at hb1; omega
          refine AW.exit ?_
          refine thenA_exit ?_
          refine thenA_exit ?_
          refine inBlockA_hit ?_
          refine thenA_normal ?_
          refine AW.seqR ?_
          refine AWo.pure (PureOp.move rfl) rfl rfl ?_
          refine AWo.buildSlice tbok 46000 [(0, vi .u64 256)] (out := [vi .u64 256]) rfl rfl (by decide) rfl rfl rfl (by decide) rfl rfl rfl rfl rfl ?_
          refine AWo.callX (mul256_ctr (x := y) (hL _ (by omega))) bd72 [(77000, 0), (46000, 0)] [47000] rfl (.cons rfl (.cons rfl .nil)) rfl (.cons rfl rfl (.cons rfl rfl .nil)) (.flat rfl (by first | exact flatM flat_vi | exact flatM flat_bool | (simp [flatV, flat_vi]; done)) (by intro h; first | exact h | rfl) (.flat rfl (by first | exact flatM flat_vi | exact flatM flat_bool | (simp [flatV, flat_vi]; done)) (by intro h; first | exact h | rfl) .nil)) rfl (.keep rfl (.keep rfl (.new (flat_map_ren (by first | exact flatM flat_vi | exact flatM flat_bool | (simp [flatV, flat_vi]; done))) (OkL.flat (by first | exact flatM flat_vi | exact flatM flat_bool | (simp [flatV, flat_vi]; done))) .nil))) (frC rfl frN) (by decide) (.cons rfl rfl .nil) rfl rfl rfl rfl ?_
          refine AWo.pure (PureOp.move rfl) rfl rfl ?_
          refine AWo.pure ((PureOp.remN (b := 256) rfl rfl (by decide)).mono (v' := vi .u64 (x / 256 ^ r % 256)) (congrArg (vi .u64) (byteD x r))) rfl rfl ?_
          refine AWo.buildSlice tbok 50000 [(0, vi .u64 (x / 256 ^ r % 256))] (out := [vi .u64 (x / 256 ^ r % 256)]) rfl rfl (by decide) rfl rfl rfl (by decide) rfl rfl rfl rfl rfl ?_
          refine AWo.callX (trim_ctr (a := [x / 256 ^ r % 256]) (v := x / 256 ^ r % 256) (n := 1) (bd_byte _) (num_byte _) rfl (by simp)) bd118 [(50000, 0)] [] rfl (.cons rfl .nil) rfl (.cons rfl rfl .nil) (.flat rfl (by first | exact flatM flat_vi | exact flatM flat_bool | (simp [flatV, flat_vi]; done)) (by intro h; first | exact h | rfl) .nil) rfl (.keep rfl .nil) frN (by decide) (.cons rfl rfl .nil) rfl rfl rfl rfl ?_
          refine AWo.callX (addD_ctr (x := y * 256) (y := x / 256 ^ r % 256) (hL _ (by omega)) (hL _ (by have := Nat.mod_lt (x / 256 ^ r) (show 0 < 256 by decide); omega))) bd70 [(47000, 0), (50000, 0)] [52000] rfl (.cons rfl (.cons rfl .nil)) rfl (.cons rfl rfl (.cons rfl rfl .nil)) (.flat rfl (by first | exact flatM flat_vi | exact flatM flat_bool | (simp [flatV, flat_vi]; done)) (by intro h; first | exact h | rfl) (.part rfl (dpart (by decide) (bd_byte _) (num_byte _)) (flatM flat_vi) (by rw [Nat.zero_add]; exact dpart_len (by decide) (bd_byte (x / 256 ^ r)) (num_byte _)) .nil)) rfl (.keep rfl (.keep rfl (.new (flat_map_ren (by first | exact flatM flat_vi | exact flatM flat_bool | (simp [flatV, flat_vi]; done))) (OkL.flat (by first | exact flatM flat_vi | exact flatM flat_bool | (simp [flatV, flat_vi]; done))) .nil))) (frC rfl frN) (by decide) (.cons rfl rfl .nil) rfl rfl rfl rfl ?_
          refine AWo.pure (PureOp.assign rfl) rfl rfl ?_
          refine AWo.nil trivial ?_
          refine AW.seqR ?_
          refine AWo.pure (PureOp.assign rfl) rfl rfl ?_
          refine AWo.nil trivial ?_
          refine AW.block ?_
          refine AW.loopw (fun mm σ => ∃ z, ∃ k, (k ≤ 9 ∧ z = (y * 256 + x / 256 ^ r % 256) % (N * 2 ^ k)) ∧ mm = 1 * k ∧ σ = ⟨(upd (upd (upd (upd (upd emp 0 (.slice (some ⟨0, 0, none⟩) (D 4294967296 x).length 0)) 5 (.pointer (some ⟨6000, 0, none⟩))) 7 (.slice (some ⟨77000, 0, none⟩) (D 4294967296 (z)).length 0)) 8 (vi .i64 r)) 11 (vp k)), (upd (upd (upd (upd (upd (upd (upd (upd (upd (upd (upd (upd (upd emp 0 ⟨(D 4294967296 x).map (vi .u64), false, 1⟩) 1 ⟨(D 4294967296 N).map (vi .u64), false, 1⟩) 6000 ⟨[.slice (some ⟨21000, 0, none⟩) (D 4294967296 (N * 2 ^ 0)).length 0, .slice (some ⟨21001, 0, none⟩) (D 4294967296 (N * 2 ^ 1)).length 0, .slice (some ⟨21002, 0, none⟩) (D 4294967296 (N * 2 ^ 2)).length 0, .slice (some ⟨21003, 0, none⟩) (D 4294967296 (N * 2 ^ 3)).length 0, .slice (some ⟨21004, 0, none⟩) (D 4294967296 (N * 2 ^ 4)).length 0, .slice (some ⟨21005, 0, none⟩) (D 4294967296 (N * 2 ^ 5)).length 0, .slice (some ⟨21006, 0, none⟩) (D 4294967296 (N * 2 ^ 6)).length 0, .slice (some ⟨21007, 0, none⟩) (D 4294967296 (N * 2 ^ 7)).length 0, .slice (some ⟨21008, 0, none⟩) (D 4294967296 (N * 2 ^ 8)).length 0], true, 1⟩) 21000 ⟨(D 4294967296 (N * 2 ^ 0)).map (vi .u64), true, 1⟩) 21001 ⟨(D 4294967296 (N * 2 ^ 1)).map (vi .u64), true, 1⟩) 21002 ⟨(D 4294967296 (N * 2 ^ 2)).map (vi .u64), true, 1⟩) 21003 ⟨(D 4294967296 (N * 2 ^ 3)).map (vi .u64), true, 1⟩) 21004 ⟨(D 4294967296 (N * 2 ^ 4)).map (vi .u64), true, 1⟩) 21005 ⟨(D 4294967296 (N * 2 ^ 5)).map (vi .u64), true, 1⟩) 21006 ⟨(D 4294967296 (N * 2 ^ 6)).map (vi .u64), true, 1⟩) 21007 ⟨(D 4294967296 (N * 2 ^ 7)).map (vi .u64), true, 1⟩) 21008 ⟨(D 4294967296 (N * 2 ^ 8)).map (vi .u64), true, 1⟩) 77000 ⟨(D 4294967296 (z)).map (vi .u64), true, 1⟩)⟩) (fm := [(77000, 52000)]) ?_ ⟨y * 256 + x / 256 ^ r % 256, 9, ⟨by decide, (Nat.mod_eq_of_lt hv).symm⟩, rfl, rfl⟩ ?_
          ·
            refine Wk.of [0, 1, 6000, 21000, 21001, 21002, 21003, 21004, 21005, 21006, 21007, 21008, 77000] ?_ ?_ ?_ (by decide) rfl
            ·
              refine WkE.upd rfl (by first | exact VR.flat _ rfl | exact VR.eqv (vp_succ _) rfl | exact VR.eqv (vp_succ _).symm rfl | exact VR.eqv (by first | rfl | (congr 1; omega) | (simp; done) | (simp; omega)) rfl) ?_
              refine WkE.upd rfl (by first | exact VR.flat _ rfl | exact VR.eqv (vp_succ _) rfl | exact VR.eqv (vp_succ _).symm rfl | exact VR.eqv (by first | rfl | (congr 1; omega) | (simp; done) | (simp; omega)) rfl) ?_
              refine WkE.upd rfl (.slice (77000) 0 _ 0 ⟨_, rfl⟩ (by simp) (by simp)) ?_
              refine WkE.upd rfl (.ptr (6000) 0 ⟨_, rfl⟩) ?_
              refine WkE.upd rfl (.slice (0) 0 _ 0 ⟨_, rfl⟩ (by simp) (by simp)) ?_
              exact WkE.emp
            ·
              refine WkM.flatM rfl (by first | rfl | assumption | simp) (fun _ => rfl) (fun h => h) ?_
              refine WkM.flatM rfl (by first | rfl | assumption | simp) (fun _ => rfl) (fun h => h) ?_
              refine WkM.flatM rfl (by first | rfl | assumption | simp) (fun _ => rfl) (fun h => h) ?_
              refine WkM.flatM rfl (by first | rfl | assumption | simp) (fun _ => rfl) (fun h => h) ?_
              refine WkM.flatM rfl (by first | rfl | assumption | simp) (fun _ => rfl) (fun h => h) ?_
              refine WkM.flatM rfl (by first | rfl | assumption | simp) (fun _ => rfl) (fun h => h) ?_
              refine WkM.flatM rfl (by first | rfl | assumption | simp) (fun _ => rfl) (fun h => h) ?_
              refine WkM.flatM rfl (by first | rfl | assumption | simp) (fun _ => rfl) (fun h => h) ?_
              refine WkM.flatM rfl (by first | rfl | assumption | simp) (fun _ => rfl) (fun h => h) ?_
              refine WkM.flatM rfl (by first | rfl | assumption | simp) (fun _ => rfl) (fun h => h) ?_
              refine WkM.ren [21000, 21001, 21002, 21003, 21004, 21005, 21006, 21007, 21008] rfl rfl rfl (dom_all rfl) (fun h => h) ?_
              refine WkM.flatM rfl (by first | rfl | assumption | simp) (fun _ => rfl) (fun h => h) ?_
              refine WkM.flatM rfl (by first | rfl | assumption | simp) (fun _ => rfl) (fun h => h) ?_
              exact WkM.emp
            ·
              repeat (refine dom_upd_mem (by decide) ?_)
              exact dom_emp
          ·
            rintro mm σ ⟨z, k, ⟨hk9, hz⟩, rfl, rfl⟩
            refine AW.seq ?_
            refine AW.seqR ?_
            refine AWo.pure (PureOp.move rfl) rfl rfl ?_
            first | refine AWo.pure (PureOp.geP rfl rfl) rfl rfl ?_ | refine AWo.pure (PureOp.geN (b := 0) rfl rfl) rfl rfl ?_ | refine AWo.pure (PureOp.bin rfl rfl rfl) rfl rfl ?_
            refine AWo.nil trivial ?_
            refine AW.cond rfl (fun hb2 => ?_) (fun hb2 => ?_)
            ·
              have hp0 : 0 < k := by simpa using hb2
              have hkc : k = 1 ∨ k = 2 ∨ k = 3 ∨ k = 4 ∨ k = 5 ∨ k = 6 ∨ k = 7 ∨ k = 8 ∨ k = 9 := by omega
              rcases hkc with rfl | rfl | rfl | rfl | rfl | rfl | rfl | rfl | rfl
              ·
                rw [show vp 1 = vi .i64 0 from rfl]
                have hzl : z < N * 2 ^ 1 := by rw [hz]; exact Nat.mod_lt _ (Nat.mul_pos hN (by decide))
                refine AW.skip ?_
                refine thenA_normal ?_
                refine AW.seq ?_
                refine AW.block ?_
                refine AW.seqR ?_
                refine AWo.pure (PureOp.move rfl) rfl rfl ?_
                refine AWo.pure (PureOp.move rfl) rfl rfl ?_
                first | refine AWo.pure (PureOp.arr1 tbok rfl rfl rfl rfl (by first | decide | omega)) rfl rfl ?_ | refine AWo.pure (PureOp.arr tbok rfl rfl rfl rfl (by first | decide | omega)) rfl rfl ?_
                refine AWo.load tbok rfl rfl rfl rfl rfl rfl ?_
                refine AWo.callX (cmpD_ctr (x := z) (y := N * 2 ^ 0) (hL _ (by omega)) (hL _ (by omega))) bd34 [(77000, 0), (21000, 0)] [] rfl (.cons rfl (.cons rfl .nil)) rfl (.cons rfl rfl (.cons rfl rfl .nil)) (.flat rfl (by first | exact flatM flat_vi | exact flatM flat_bool | (simp [flatV, flat_vi]; done)) (by intro h; first | exact h | rfl) (.flat rfl (by first | exact flatM flat_vi | exact flatM flat_bool | (simp [flatV, flat_vi]; done)) (by intro h; first | exact h | rfl) .nil)) rfl (.keep rfl (.keep rfl .nil)) frN (by decide) (.cons rfl rfl .nil) rfl rfl rfl rfl ?_
                first | refine AWo.pure (PureOp.geP rfl rfl) rfl rfl ?_ | refine AWo.pure (PureOp.geN (b := 0) rfl rfl) rfl rfl ?_ | refine AWo.pure (PureOp.bin rfl rfl rfl) rfl rfl ?_
                refine AWo.nil trivial ?_
                refine AW.cond rfl (fun hb3 => ?_) (fun hb3 => ?_)
                ·
                  have hge : N * 2 ^ 0 ≤ z := ge_of_cmp (by simpa using hb3)
                  refine AW.region ?_
                  refine AWo.pure (PureOp.move rfl) rfl rfl ?_
                  refine AWo.pure (PureOp.move rfl) rfl rfl ?_
                  first | refine AWo.pure (PureOp.arr1 tbok rfl rfl rfl rfl (by first | decide | omega)) rfl rfl ?_ | refine AWo.pure (PureOp.arr tbok rfl rfl rfl rfl (by first | decide | omega)) rfl rfl ?_
                  refine AWo.load tbok rfl rfl rfl rfl rfl rfl ?_
                  refine AWo.callX (subD_ctr (x := z) (y := N * 2 ^ 0) (hL _ (by omega)) (hL _ (by omega)) hge) bd71 [(77000, 0), (21000, 0)] [67000] rfl (.cons rfl (.cons rfl .nil)) rfl (.cons rfl rfl (.cons rfl rfl .nil)) (.flat rfl (by first | exact flatM flat_vi | exact flatM flat_bool | (simp [flatV, flat_vi]; done)) (by intro h; first | exact h | rfl) (.flat rfl (by first | exact flatM flat_vi | exact flatM flat_bool | (simp [flatV, flat_vi]; done)) (by intro h; first | exact h | rfl) .nil)) rfl (.keep rfl (.keep rfl (.new (flat_map_ren (by first | exact flatM flat_vi | exact flatM flat_bool | (simp [flatV, flat_vi]; done))) (OkL.flat (by first | exact flatM flat_vi | exact flatM flat_bool | (simp [flatV, flat_vi]; done))) .nil))) (frC rfl frN) (by decide) (.cons rfl rfl .nil) rfl rfl rfl rfl ?_
                  refine AWo.pure (PureOp.assign rfl) rfl rfl ?_
                  refine AWo.nil trivial ?_
                  refine inBlockA_normal ?_
                  refine thenA_normal ?_
                  refine AW.region ?_
                  refine AWo.pure (PureOp.move rfl) rfl rfl ?_
                  first | refine AWo.pure (PureOp.subI (b := 1) rfl rfl (by first | decide | omega) (by first | decide | omega)) rfl rfl ?_ | refine AWo.pure (PureOp.subP rfl rfl (by first | decide | omega)) rfl rfl ?_ | refine AWo.pure (PureOp.bin rfl rfl rfl) rfl rfl ?_
                  refine AWo.pure (PureOp.assign rfl) rfl rfl ?_
                  refine AWo.nil trivial ?_
                  refine thenA_normal ?_
                  refine ⟨1 * 0, [(77000, 67000)], _, by omega, ?_, z - N * 2 ^ 0, 0, ⟨by decide, mod_hi hz hge⟩, rfl, rfl⟩
                  refine Wk.of [0, 1, 6000, 21000, 21001, 21002, 21003, 21004, 21005, 21006, 21007, 21008, 77000] ?_ ?_ ?_ (by decide) rfl
                  ·
                    refine WkE.upd rfl (by first | exact VR.flat _ rfl | exact VR.eqv (vp_succ _) rfl | exact VR.eqv (vp_succ _).symm rfl | exact VR.eqv (by first | rfl | (congr 1; omega) | (simp; done) | (simp; omega)) rfl) ?_
                    refine WkE.upd rfl (by first | exact VR.flat _ rfl | exact VR.eqv (vp_succ _) rfl | exact VR.eqv (vp_succ _).symm rfl | exact VR.eqv (by first | rfl | (congr 1; omega) | (simp; done) | (simp; omega)) rfl) ?_
                    refine WkE.upd rfl (.slice (77000) 0 _ 0 ⟨_, rfl⟩ (by simp) (by simp)) ?_
                    refine WkE.upd rfl (.ptr (6000) 0 ⟨_, rfl⟩) ?_
                    refine WkE.upd rfl (.slice (0) 0 _ 0 ⟨_, rfl⟩ (by simp) (by simp)) ?_
                    exact WkE.emp
                  ·
                    refine WkM.flatM rfl (by first | rfl | assumption | simp) (fun _ => rfl) (fun h => h) ?_
                    refine WkM.flatM rfl (by first | rfl | assumption | simp) (fun _ => rfl) (fun h => h) ?_
                    refine WkM.flatM rfl (by first | rfl | assumption | simp) (fun _ => rfl) (fun h => h) ?_
                    refine WkM.flatM rfl (by first | rfl | assumption | simp) (fun _ => rfl) (fun h => h) ?_
                    refine WkM.flatM rfl (by first | rfl | assumption | simp) (fun _ => rfl) (fun h => h) ?_
                    refine WkM.flatM rfl (by first | rfl | assumption | simp) (fun _ => rfl) (fun h => h) ?_
                    refine WkM.flatM rfl (by first | rfl | assumption | simp) (fun _ => rfl) (fun h => h) ?_
                    refine WkM.flatM rfl (by first | rfl | assumption | simp) (fun _ => rfl) (fun h => h) ?_
                    refine WkM.flatM rfl (by first | rfl | assumption | simp) (fun _ => rfl) (fun h => h) ?_
                    refine WkM.flatM rfl (by first | rfl | assumption | simp) (fun _ => rfl) (fun h => h) ?_
                    refine WkM.ren [21000, 21001, 21002, 21003, 21004, 21005, 21006, 21007, 21008] rfl rfl rfl (dom_all rfl) (fun h => h) ?_
                    refine WkM.flatM rfl (by first | rfl | assumption | simp) (fun _ => rfl) (fun h => h) ?_
                    refine WkM.flatM rfl (by first | rfl | assumption | simp) (fun _ => rfl) (fun h => h) ?_
                    exact WkM.emp
                  ·
                    repeat (refine dom_upd_mem (by decide) ?_)
                    exact dom_emp
                ·
                  have hlt : z < N * 2 ^ 0 := lt_of_cmp (by simpa using hb3)
                  refine AW.skip ?_
                  refine inBlockA_normal ?_
                  refine thenA_normal ?_
                  refine AW.region ?_
                  refine AWo.pure (PureOp.move rfl) rfl rfl ?_
                  first | refine AWo.pure (PureOp.subI (b := 1) rfl rfl (by first | decide | omega) (by first | decide | omega)) rfl rfl ?_ | refine AWo.pure (PureOp.subP rfl rfl (by first | decide | omega)) rfl rfl ?_ | refine AWo.pure (PureOp.bin rfl rfl rfl) rfl rfl ?_
                  refine AWo.pure (PureOp.assign rfl) rfl rfl ?_
                  refine AWo.nil trivial ?_
                  refine thenA_normal ?_
                  refine ⟨1 * 0, [(77000, 77000)], _, by omega, ?_, z, 0, ⟨by decide, mod_lo hz hlt⟩, rfl, rfl⟩
                  refine Wk.of [0, 1, 6000, 21000, 21001, 21002, 21003, 21004, 21005, 21006, 21007, 21008, 77000] ?_ ?_ ?_ (by decide) rfl
                  ·
                    refine WkE.upd rfl (by first | exact VR.flat _ rfl | exact VR.eqv (vp_succ _) rfl | exact VR.eqv (vp_succ _).symm rfl | exact VR.eqv (by first | rfl | (congr 1; omega) | (simp; done) | (simp; omega)) rfl) ?_
                    refine WkE.upd rfl (by first | exact VR.flat _ rfl | exact VR.eqv (vp_succ _) rfl | exact VR.eqv (vp_succ _).symm rfl | exact VR.eqv (by first | rfl | (congr 1; omega) | (simp; done) | (simp; omega)) rfl) ?_
                    refine WkE.upd rfl (.slice (77000) 0 _ 0 ⟨_, rfl⟩ (by simp) (by simp)) ?_
                    refine WkE.upd rfl (.ptr (6000) 0 ⟨_, rfl⟩) ?_
                    refine WkE.upd rfl (.slice (0) 0 _ 0 ⟨_, rfl⟩ (by simp) (by simp)) ?_
                    exact WkE.emp
                  ·
                    refine WkM.flatM rfl (by first | rfl | assumption | simp) (fun _ => rfl) (fun h => h) ?_
                    refine WkM.flatM rfl (by first | rfl | assumption | simp) (fun _ => rfl) (fun h => h) ?_
                    refine WkM.flatM rfl (by first | rfl | assumption | simp) (fun _ => rfl) (fun h => h) ?_
                    refine WkM.flatM rfl (by first | rfl | assumption | simp) (fun _ => rfl) (fun h => h) ?_
                    refine WkM.flatM rfl (by first | rfl | assumption | simp) (fun _ => rfl) (fun h => h) ?_
                    refine WkM.flatM rfl (by first | rfl | assumption | simp) (fun _ => rfl) (fun h => h) ?_
                    refine WkM.flatM rfl (by first | rfl | assumption | simp) (fun _ => rfl) (fun h => h) ?_
                    refine WkM.flatM rfl (by first | rfl | assumption | simp) (fun _ => rfl) (fun h => h) ?_
                    refine WkM.flatM rfl (by first | rfl | assumption | simp) (fun _ => rfl) (fun h => h) ?_
                    refine WkM.flatM rfl (by first | rfl | assumption | simp) (fun _ => rfl) (fun h => h) ?_
                    refine WkM.ren [21000, 21001, 21002, 21003, 21004, 21005, 21006, 21007, 21008] rfl rfl rfl (dom_all rfl) (fun h => h) ?_
                    refine WkM.flatM rfl (by first | rfl | assumption | simp) (fun _ => rfl) (fun h => h) ?_
                    refine WkM.flatM rfl (by first | rfl | assumption | simp) (fun _ => rfl) (fun h => h) ?_
                    exact WkM.emp
                  ·
                    repeat (refine dom_upd_mem (by decide) ?_)
                    exact dom_emp
              ·
                rw [show vp 2 = vi .i64 1 from rfl]
                have hzl : z < N * 2 ^ 2 := by rw [hz]; exact Nat.mod_lt _ (Nat.mul_pos hN (by decide))
                refine AW.skip ?_
                refine thenA_normal ?_
                refine AW.seq ?_
                refine AW.block ?_
                refine AW.seqR ?_
                refine AWo.pure (PureOp.move rfl) rfl rfl ?_
                refine AWo.pure (PureOp.move rfl) rfl rfl ?_
                first | refine AWo.pure (PureOp.arr1 tbok rfl rfl rfl rfl (by first | decide | omega)) rfl rfl ?_ | refine AWo.pure (PureOp.arr tbok rfl rfl rfl rfl (by first | decide | omega)) rfl rfl ?_
                refine AWo.load tbok rfl rfl rfl rfl rfl rfl ?_
                refine AWo.callX (cmpD_ctr (x := z) (y := N * 2 ^ 1) (hL _ (by omega)) (hL _ (by omega))) bd34 [(77000, 0), (21001, 0)] [] rfl (.cons rfl (.cons rfl .nil)) rfl (.cons rfl rfl (.cons rfl rfl .nil)) (.flat rfl (by first | exact flatM flat_vi | exact flatM flat_bool | (simp [flatV, flat_vi]; done)) (by intro h; first | exact h | rfl) (.flat rfl (by first | exact flatM flat_vi | exact flatM flat_bool | (simp [flatV, flat_vi]; done)) (by intro h; first | exact h | rfl) .nil)) rfl (.keep rfl (.keep rfl .nil)) frN (by decide) (.cons rfl rfl .nil) rfl rfl rfl rfl ?_
                first | refine AWo.pure (PureOp.geP rfl rfl) rfl rfl ?_ | refine AWo.pure (PureOp.geN (b := 0) rfl rfl) rfl rfl ?_ | refine AWo.pure (PureOp.bin rfl rfl rfl) rfl rfl ?_
                refine AWo.nil trivial ?_
                refine AW.cond rfl (fun hb4 => ?_) (fun hb4 => ?_)
                ·
                  have hge : N * 2 ^ 1 ≤ z := ge_of_cmp (by simpa using hb4)
                  refine AW.region ?_
                  refine AWo.pure (PureOp.move rfl) rfl rfl ?_
                  refine AWo.pure (PureOp.move rfl) rfl rfl ?_
                  first | refine AWo.pure (PureOp.arr1 tbok rfl rfl rfl rfl (by first | decide | omega)) rfl rfl ?_ | refine AWo.pure (PureOp.arr tbok rfl rfl rfl rfl (by first | decide | omega)) rfl rfl ?_
                  refine AWo.load tbok rfl rfl rfl rfl rfl rfl ?_
                  refine AWo.callX (subD_ctr (x := z) (y := N * 2 ^ 1) (hL _ (by omega)) (hL _ (by omega)) hge) bd71 [(77000, 0), (21001, 0)] [67000] rfl (.cons rfl (.cons rfl .nil)) rfl (.cons rfl rfl (.cons rfl rfl .nil)) (.flat rfl (by first | exact flatM flat_vi | exact flatM flat_bool | (simp [flatV, flat_vi]; done)) (by intro h; first | exact h | rfl) (.flat rfl (by first | exact flatM flat_vi | exact flatM flat_bool | (simp [flatV, flat_vi]; done)) (by intro h; first | exact h | rfl) .nil)) rfl (.keep rfl (.keep rfl (.new (flat_map_ren (by first | exact flatM flat_vi | exact flatM flat_bool | (simp [flatV, flat_vi]; done))) (OkL.flat (by first | exact flatM flat_vi | exact flatM flat_bool | (simp [flatV, flat_vi]; done))) .nil))) (frC rfl frN) (by decide) (.cons rfl rfl .nil) rfl rfl rfl rfl ?_
                  refine AWo.pure (PureOp.assign rfl) rfl rfl ?_
                  refine AWo.nil trivial ?_
                  refine inBlockA_normal ?_
                  refine thenA_normal ?_
                  refine AW.region ?_
                  refine AWo.pure (PureOp.move rfl) rfl rfl ?_
                  first | refine AWo.pure (PureOp.subI (b := 1) rfl rfl (by first | decide | omega) (by first | decide | omega)) rfl rfl ?_ | refine AWo.pure (PureOp.subP rfl rfl (by first | decide | omega)) rfl rfl ?_ | refine AWo.pure (PureOp.bin rfl rfl rfl) rfl rfl ?_
                  refine AWo.pure (PureOp.assign rfl) rfl rfl ?_
                  refine AWo.nil trivial ?_
                  refine thenA_normal ?_
                  refine ⟨1 * 1, [(77000, 67000)], _, by omega, ?_, z - N * 2 ^ 1, 1, ⟨by decide, mod_hi hz hge⟩, rfl, rfl⟩
                  refine Wk.of [0, 1, 6000, 21000, 21001, 21002, 21003, 21004, 21005, 21006, 21007, 21008, 77000] ?_ ?_ ?_ (by decide) rfl
                  ·
                    refine WkE.upd rfl (by first | exact VR.flat _ rfl | exact VR.eqv (vp_succ _) rfl | exact VR.eqv (vp_succ _).symm rfl | exact VR.eqv (by first | rfl | (congr 1; omega) | (simp; done) | (simp; omega)) rfl) ?_
                    refine WkE.upd rfl (by first | exact VR.flat _ rfl | exact VR.eqv (vp_succ _) rfl | exact VR.eqv (vp_succ _).symm rfl | exact VR.eqv (by first | rfl | (congr 1; omega) | (simp; done) | (simp; omega)) rfl) ?_
                    refine WkE.upd rfl (.slice (77000) 0 _ 0 ⟨_, rfl⟩ (by simp) (by simp)) ?_
                    refine WkE.upd rfl (.ptr (6000) 0 ⟨_, rfl⟩) ?_
                    refine WkE.upd rfl (.slice (0) 0 _ 0 ⟨_, rfl⟩ (by simp) (by simp)) ?_
                    exact WkE.emp
                  ·
                    refine WkM.flatM rfl (by first | rfl | assumption | simp) (fun _ => rfl) (fun h => h) ?_
                    refine WkM.flatM rfl (by first | rfl | assumption | simp) (fun _ => rfl) (fun h => h) ?_
                    refine WkM.flatM rfl (by first | rfl | assumption | simp) (fun _ => rfl) (fun h => h) ?_
                    refine WkM.flatM rfl (by first | rfl | assumption | simp) (fun _ => rfl) (fun h => h) ?_
                    refine WkM.flatM rfl (by first | rfl | assumption | simp) (fun _ => rfl) (fun h => h) ?_
                    refine WkM.flatM rfl (by first | rfl | assumption | simp) (fun _ => rfl) (fun h => h) ?_
                    refine WkM.flatM rfl (by first | rfl | assumption | simp) (fun _ => rfl) (fun h => h) ?_
                    refine WkM.flatM rfl (by first | rfl | assumption | simp) (fun _ => rfl) (fun h => h) ?_
                    refine WkM.flatM rfl (by first | rfl | assumption | simp) (fun _ => rfl) (fun h => h) ?_
                    refine WkM.flatM rfl (by first | rfl | assumption | simp) (fun _ => rfl) (fun h => h) ?_
                    refine WkM.ren [21000, 21001, 21002, 21003, 21004, 21005, 21006, 21007, 21008] rfl rfl rfl (dom_all rfl) (fun h => h) ?_
                    refine WkM.flatM rfl (by first | rfl | assumption | simp) (fun _ => rfl) (fun h => h) ?_
                    refine WkM.flatM rfl (by first | rfl | assumption | simp) (fun _ => rfl) (fun h => h) ?_
                    exact WkM.emp
                  ·
                    repeat (refine dom_upd_mem (by decide) ?_)
                    exact dom_emp
                ·
                  have hlt : z < N * 2 ^ 1 := lt_of_cmp (by simpa using hb4)
                  refine AW.skip ?_
                  refine inBlockA_normal ?_
                  refine thenA_normal ?_
                  refine AW.region ?_
                  refine AWo.pure (PureOp.move rfl) rfl rfl ?_
                  first | refine AWo.pure (PureOp.subI (b := 1) rfl rfl (by first | decide | omega) (by first | decide | omega)) rfl rfl ?_ | refine AWo.pure (PureOp.subP rfl rfl (by first | decide | omega)) rfl rfl ?_ | refine AWo.pure (PureOp.bin rfl rfl rfl) rfl rfl ?_
                  refine AWo.pure (PureOp.assign rfl) rfl rfl ?_
                  refine AWo.nil trivial ?_
                  refine thenA_normal ?_
                  refine ⟨1 * 1, [(77000, 77000)], _, by omega, ?_, z, 1, ⟨by decide, mod_lo hz hlt⟩, rfl, rfl⟩
                  refine Wk.of [0, 1, 6000, 21000, 21001, 21002, 21003, 21004, 21005, 21006, 21007, 21008, 77000] ?_ ?_ ?_ (by decide) rfl
                  ·
                    refine WkE.upd rfl (by first | exact VR.flat _ rfl | exact VR.eqv (vp_succ _) rfl | exact VR.eqv (vp_succ _).symm rfl | exact VR.eqv (by first | rfl | (congr 1; omega) | (simp; done) | (simp; omega)) rfl) ?_
                    refine WkE.upd rfl (by first | exact VR.flat _ rfl | exact VR.eqv (vp_succ _) rfl | exact VR.eqv (vp_succ _).symm rfl | exact VR.eqv (by first | rfl | (congr 1; omega) | (simp; done) | (simp; omega)) rfl) ?_
                    refine WkE.upd rfl (.slice (77000) 0 _ 0 ⟨_, rfl⟩ (by simp) (by simp)) ?_
                    refine WkE.upd rfl (.ptr (6000) 0 ⟨_, rfl⟩) ?_
                    refine WkE.upd rfl (.slice (0) 0 _ 0 ⟨_, rfl⟩ (by simp) (by simp)) ?_
                    exact WkE.emp
                  ·
                    refine WkM.flatM rfl (by first | rfl | assumption | simp) (fun _ => rfl) (fun h => h) ?_
                    refine WkM.flatM rfl (by first | rfl | assumption | simp) (fun _ => rfl) (fun h => h) ?_
                    refine WkM.flatM rfl (by first | rfl | assumption | simp) (fun _ => rfl) (fun h => h) ?_
                    refine WkM.flatM rfl (by first | rfl | assumption | simp) (fun _ => rfl) (fun h => h) ?_
                    refine WkM.flatM rfl (by first | rfl | assumption | simp) (fun _ => rfl) (fun h => h) ?_
                    refine WkM.flatM rfl (by first | rfl | assumption | simp) (fun _ => rfl) (fun h => h) ?_
                    refine WkM.flatM rfl (by first | rfl | assumption | simp) (fun _ => rfl) (fun h => h) ?_
                    refine WkM.flatM rfl (by first | rfl | assumption | simp) (fun _ => rfl) (fun h => h) ?_
                    refine WkM.flatM rfl (by first | rfl | assumption | simp) (fun _ => rfl) (fun h => h) ?_
                    refine WkM.flatM rfl (by first | rfl | assumption | simp) (fun _ => rfl) (fun h => h) ?_
                    refine WkM.ren [21000, 21001, 21002, 21003, 21004, 21005, 21006, 21007, 21008] rfl rfl rfl (dom_all rfl) (fun h => h) ?_
                    refine WkM.flatM rfl (by first | rfl | assumption | simp) (fun _ => rfl) (fun h => h) ?_
                    refine WkM.flatM rfl (by first | rfl | assumption | simp) (fun _ => rfl) (fun h => h) ?_
                    exact WkM.emp
                  ·
                    repeat (refine dom_upd_mem (by decide) ?_)
                    exact dom_emp
              ·
                rw [show vp 3 = vi .i64 2 from rfl]
                have hzl : z < N * 2 ^ 3 := by rw [hz]; exact Nat.mod_lt _ (Nat.mul_pos hN (by decide))
                refine AW.skip ?_
                refine thenA_normal ?_
                refine AW.seq ?_
                refine AW.block ?_
                refine AW.seqR ?_
                refine AWo.pure (PureOp.move rfl) rfl rfl ?_
                refine AWo.pure (PureOp.move rfl) rfl rfl ?_
                first | refine AWo.pure (PureOp.arr1 tbok rfl rfl rfl rfl (by first | decide | omega)) rfl rfl ?_ | refine AWo.pure (PureOp.arr tbok rfl rfl rfl rfl (by first | decide | omega)) rfl rfl ?_
                refine AWo.load tbok rfl rfl rfl rfl rfl rfl ?_
                refine AWo.callX (cmpD_ctr (x := z) (y := N * 2 ^ 2) (hL _ (by omega)) (hL _ (by omega))) bd34 [(77000, 0), (21002, 0)] [] rfl (.cons rfl (.cons rfl .nil)) rfl (.cons rfl rfl (.cons rfl rfl .nil)) (.flat rfl (by first | exact flatM flat_vi | exact flatM flat_bool | (simp [flatV, flat_vi]; done)) (by intro h; first | exact h | rfl) (.flat rfl (by first | exact flatM flat_vi | exact flatM flat_bool | (simp [flatV, flat_vi]; done)) (by intro h; first | exact h | rfl) .nil)) rfl (.keep rfl (.keep rfl .nil)) frN (by decide) (.cons rfl rfl .nil) rfl rfl rfl rfl ?_
                first | refine AWo.pure (PureOp.geP rfl rfl) rfl rfl ?_ | refine AWo.pure (PureOp.geN (b := 0) rfl rfl) rfl rfl ?_ | refine AWo.pure (PureOp.bin rfl rfl rfl) rfl rfl ?_
                refine AWo.nil trivial ?_
                refine AW.cond rfl (fun hb5 => ?_) (fun hb5 => ?_)
                ·
                  have hge : N * 2 ^ 2 ≤ z := ge_of_cmp (by simpa using hb5)
                  refine AW.region ?_
                  refine AWo.pure (PureOp.move rfl) rfl rfl ?_
                  refine AWo.pure (PureOp.move rfl) rfl rfl ?_
                  first | refine AWo.pure (PureOp.arr1 tbok rfl rfl rfl rfl (by first | decide | omega)) rfl rfl ?_ | refine AWo.pure (PureOp.arr tbok rfl rfl rfl rfl (by first | decide | omega)) rfl rfl ?_
                  refine AWo.load tbok rfl rfl rfl rfl rfl rfl ?_
                  refine AWo.callX (subD_ctr (x := z) (y := N * 2 ^ 2) (hL _ (by omega)) (hL _ (by omega)) hge) bd71 [(77000, 0), (21002, 0)] [67000] rfl (.cons rfl (.cons rfl .nil)) rfl (.cons rfl rfl (.cons rfl rfl .nil)) (.flat rfl (by first | exact flatM flat_vi | exact flatM flat_bool | (simp [flatV, flat_vi]; done)) (by intro h; first | exact h | rfl) (.flat rfl (by first | exact flatM flat_vi | exact flatM flat_bool | (simp [flatV, flat_vi]; done)) (by intro h; first | exact h | rfl) .nil)) rfl (.keep rfl (.keep rfl (.new (flat_map_ren (by first | exact flatM flat_vi | exact flatM flat_bool | (simp [flatV, flat_vi]; done))) (OkL.flat (by first | exact flatM flat_vi | exact flatM flat_bool | (simp [flatV, flat_vi]; done))) .nil))) (frC rfl frN) (by decide) (.cons rfl rfl .nil) rfl rfl rfl rfl ?_
                  refine AWo.pure (PureOp.assign rfl) rfl rfl ?_
                  refine AWo.nil trivial ?_
                  refine inBlockA_normal ?_
                  refine thenA_normal ?_
                  refine AW.region ?_
                  refine AWo.pure (PureOp.move rfl) rfl rfl ?_
                  first | refine AWo.pure (PureOp.subI (b := 1) rfl rfl (by first | decide | omega) (by first | decide | omega)) rfl rfl ?_ | refine AWo.pure (PureOp.subP rfl rfl (by first | decide | omega)) rfl rfl ?_ | refine AWo.pure (PureOp.bin rfl rfl rfl) rfl rfl ?_
                  refine AWo.pure (PureOp.assign rfl) rfl rfl ?_
                  refine AWo.nil trivial ?_
                  refine thenA_normal ?_
                  refine ⟨1 * 2, [(77000, 67000)], _, by omega, ?_, z - N * 2 ^ 2, 2, ⟨by decide, mod_hi hz hge⟩, rfl, rfl⟩
                  refine Wk.of [0, 1, 6000, 21000, 21001, 21002, 21003, 21004, 21005, 21006, 21007, 21008, 77000] ?_ ?_ ?_ (by decide) rfl
                  ·
                    refine WkE.upd rfl (by first | exact VR.flat _ rfl | exact VR.eqv (vp_succ _) rfl | exact VR.eqv (vp_succ _).symm rfl | exact VR.eqv (by first | rfl | (congr 1; omega) | (simp; done) | (simp; omega)) rfl) ?_
                    refine WkE.upd rfl (by first | exact VR.flat _ rfl | exact VR.eqv (vp_succ _) rfl | exact VR.eqv (vp_succ _).symm rfl | exact VR.eqv (by first | rfl | (congr 1; omega) | (simp; done) | (simp; omega)) rfl) ?_
                    refine WkE.upd rfl (.slice (77000) 0 _ 0 ⟨_, rfl⟩ (by simp) (by simp)) ?_
                    refine WkE.upd rfl (.ptr (6000) 0 ⟨_, rfl⟩) ?_
                    refine WkE.upd rfl (.slice (0) 0 _ 0 ⟨_, rfl⟩ (by simp) (by simp)) ?_
                    exact WkE.emp
                  ·
                    refine WkM.flatM rfl (by first | rfl | assumption | simp) (fun _ => rfl) (fun h => h) ?_
                    refine WkM.flatM rfl (by first | rfl | assumption | simp) (fun _ => rfl) (fun h => h) ?_
                    refine WkM.flatM rfl (by first | rfl | assumption | simp) (fun _ => rfl) (fun h => h) ?_
                    refine WkM.flatM rfl (by first | rfl | assumption | simp) (fun _ => rfl) (fun h => h) ?_
                    refine WkM.flatM rfl (by first | rfl | assumption | simp) (fun _ => rfl) (fun h => h) ?_
                    refine WkM.flatM rfl (by first | rfl | assumption | simp) (fun _ => rfl) (fun h => h) ?_
                    refine WkM.flatM rfl (by first | rfl | assumption | simp) (fun _ => rfl) (fun h => h) ?_
                    refine WkM.flatM rfl (by first | rfl | assumption | simp) (fun _ => rfl) (fun h => h) ?_
                    refine WkM.flatM rfl (by first | rfl | assumption | simp) (fun _ => rfl) (fun h => h) ?_
                    refine WkM.flatM rfl (by first | rfl | assumption | simp) (fun _ => rfl) (fun h => h) ?_
                    refine WkM.ren [21000, 21001, 21002, 21003, 21004, 21005, 21006, 21007, 21008] rfl rfl rfl (dom_all rfl) (fun h => h) ?_
                    refine WkM.flatM rfl (by first | rfl | assumption | simp) (fun _ => rfl) (fun h => h) ?_
                    refine WkM.flatM rfl (by first | rfl | assumption | simp) (fun _ => rfl) (fun h => h) ?_
                    exact WkM.emp
                  ·
                    repeat (refine dom_upd_mem (by decide) ?_)
                    exact dom_emp
                ·
                  have hlt : z < N * 2 ^ 2 := lt_of_cmp (by simpa using hb5)
                  refine AW.skip ?_
                  refine inBlockA_normal ?_
                  refine thenA_normal ?_
                  refine AW.region ?_
                  refine AWo.pure (PureOp.move rfl) rfl rfl ?_
                  first | refine AWo.pure (PureOp.subI (b := 1) rfl rfl (by first | decide | omega) (by first | decide | omega)) rfl rfl ?_ | refine AWo.pure (PureOp.subP rfl rfl (by first | decide | omega)) rfl rfl ?_ | refine AWo.pure (PureOp.bin rfl rfl rfl) rfl rfl ?_
                  refine AWo.pure (PureOp.assign rfl) rfl rfl ?_
                  refine AWo.nil trivial ?_
                  refine thenA_normal ?_
                  refine ⟨1 * 2, [(77000, 77000)], _, by omega, ?_, z, 2, ⟨by decide, mod_lo hz hlt⟩, rfl, rfl⟩
                  refine Wk.of [0, 1, 6000, 21000, 21001, 21002, 21003, 21004, 21005, 21006, 21007, 21008, 77000] ?_ ?_ ?_ (by decide) rfl
                  ·
                    refine WkE.upd rfl (by first | exact VR.flat _ rfl | exact VR.eqv (vp_succ _) rfl | exact VR.eqv (vp_succ _).symm rfl | exact VR.eqv (by first | rfl | (congr 1; omega) | (simp; done) | (simp; omega)) rfl) ?_
                    refine WkE.upd rfl (by first | exact VR.flat _ rfl | exact VR.eqv (vp_succ _) rfl | exact VR.eqv (vp_succ _).symm rfl | exact VR.eqv (by first | rfl | (congr 1; omega) | (simp; done) | (simp; omega)) rfl) ?_
                    refine WkE.upd rfl (.slice (77000) 0 _ 0 ⟨_, rfl⟩ (by simp) (by simp)) ?_
                    refine WkE.upd rfl (.ptr (6000) 0 ⟨_, rfl⟩) ?_
                    refine WkE.upd rfl (.slice (0) 0 _ 0 ⟨_, rfl⟩ (by simp) (by simp)) ?_
                    exact WkE.emp
                  ·
                    refine WkM.flatM rfl (by first | rfl | assumption | simp) (fun _ => rfl) (fun h => h) ?_
                    refine WkM.flatM rfl (by first | rfl | assumption | simp) (fun _ => rfl) (fun h => h) ?_
                    refine WkM.flatM rfl (by first | rfl | assumption | simp) (fun _ => rfl) (fun h => h) ?_
                    refine WkM.flatM rfl (by first | rfl | assumption | simp) (fun _ => rfl) (fun h => h) ?_
                    refine WkM.flatM rfl (by first | rfl | assumption | simp) (fun _ => rfl) (fun h => h) ?_
                    refine WkM.flatM rfl (by first | rfl | assumption | simp) (fun _ => rfl) (fun h => h) ?_
                    refine WkM.flatM rfl (by first | rfl | assumption | simp) (fun _ => rfl) (fun h => h) ?_
                    refine WkM.flatM rfl (by first | rfl | assumption | simp) (fun _ => rfl) (fun h => h) ?_
                    refine WkM.flatM rfl (by first | rfl | assumption | simp) (fun _ => rfl) (fun h => h) ?_
                    refine WkM.flatM rfl (by first | rfl | assumption | simp) (fun _ => rfl) (fun h => h) ?_
                    refine WkM.ren [21000, 21001, 21002, 21003, 21004, 21005, 21006, 21007, 21008] rfl rfl rfl (dom_all rfl) (fun h => h) ?_
                    refine WkM.flatM rfl (by first | rfl | assumption | simp) (fun _ => rfl) (fun h => h) ?_
                    refine WkM.flatM rfl (by first | rfl | assumption | simp) (fun _ => rfl) (fun h => h) ?_
                    exact WkM.emp
                  ·
                    repeat (refine dom_upd_mem (by decide) ?_)
                    exact dom_emp
              ·
                rw [show vp 4 = vi .i64 3 from rfl]
                have hzl : z < N * 2 ^ 4 := by rw [hz]; exact Nat.mod_lt _ (Nat.mul_pos hN (by decide))
                refine AW.skip ?_
                refine thenA_normal ?_
                refine AW.seq ?_
                refine AW.block ?_
                refine AW.seqR ?_
                refine AWo.pure (PureOp.move rfl) rfl rfl ?_
                refine AWo.pure (PureOp.move rfl) rfl rfl ?_
                first | refine AWo.pure (PureOp.arr1 tbok rfl rfl rfl rfl (by first | decide | omega)) rfl rfl ?_ | refine AWo.pure (PureOp.arr tbok rfl rfl rfl rfl (by first | decide | omega)) rfl rfl ?_
                refine AWo.load tbok rfl rfl rfl rfl rfl rfl ?_
                refine AWo.callX (cmpD_ctr (x := z) (y := N * 2 ^ 3) (hL _ (by omega)) (hL _ (by omega))) bd34 [(77000, 0), (21003, 0)] [] rfl (.cons rfl (.cons rfl .nil)) rfl (.cons rfl rfl (.cons rfl rfl .nil)) (.flat rfl (by first | exact flatM flat_vi | exact flatM flat_bool | (simp [flatV, flat_vi]; done)) (by intro h; first | exact h | rfl) (.flat rfl (by first | exact flatM flat_vi | exact flatM flat_bool | (simp [flatV, flat_vi]; done)) (by intro h; first | exact h | rfl) .nil)) rfl (.keep rfl (.keep rfl .nil)) frN (by decide) (.cons rfl rfl .nil) rfl rfl rfl rfl ?_
                first | refine AWo.pure (PureOp.geP rfl rfl) rfl rfl ?_ | refine AWo.pure (PureOp.geN (b := 0) rfl rfl) rfl rfl ?_ | refine AWo.pure (PureOp.bin rfl rfl rfl) rfl rfl ?_
                refine AWo.nil trivial ?_
                refine AW.cond rfl (fun hb6 => ?_) (fun hb6 => ?_)
                ·
                  have hge : N * 2 ^ 3 ≤ z := ge_of_cmp (by simpa using hb6)
                  refine AW.region ?_
                  refine AWo.pure (PureOp.move rfl) rfl rfl ?_
                  refine AWo.pure (PureOp.move rfl) rfl rfl ?_
                  first | refine AWo.pure (PureOp.arr1 tbok rfl rfl rfl rfl (by first | decide | omega)) rfl rfl ?_ | refine AWo.pure (PureOp.arr tbok rfl rfl rfl rfl (by first | decide | omega)) rfl rfl ?_
                  refine AWo.load tbok rfl rfl rfl rfl rfl rfl ?_
                  refine AWo.callX (subD_ctr (x := z) (y := N * 2 ^ 3) (hL _ (by omega)) (hL _ (by omega)) hge) bd71 [(77000, 0), (21003, 0)] [67000] rfl (.cons rfl (.cons rfl .nil)) rfl (.cons rfl rfl (.cons rfl rfl .nil)) (.flat rfl (by first | exact flatM flat_vi | exact flatM flat_bool | (simp [flatV, flat_vi]; done)) (by intro h; first | exact h | rfl) (.flat rfl (by first | exact flatM flat_vi | exact flatM flat_bool | (simp [flatV, flat_vi]; done)) (by intro h; first | exact h | rfl) .nil)) rfl (.keep rfl (.keep rfl (.new (flat_map_ren (by first | exact flatM flat_vi | exact flatM flat_bool | (simp [flatV, flat_vi]; done))) (OkL.flat (by first | exact flatM flat_vi | exact flatM flat_bool | (simp [flatV, flat_vi]; done))) .nil))) (frC rfl frN) (by decide) (.cons rfl rfl .nil) rfl rfl rfl rfl ?_
                  refine AWo.pure (PureOp.assign rfl) rfl rfl ?_
                  refine AWo.nil trivial ?_
                  refine inBlockA_normal ?_
                  refine thenA_normal ?_
                  refine AW.region ?_
                  refine AWo.pure (PureOp.move rfl) rfl rfl ?_
                  first | refine AWo.pure (PureOp.subI (b := 1) rfl rfl (by first | decide | omega) (by first | decide | omega)) rfl rfl ?_ | refine AWo.pure (PureOp.subP rfl rfl (by first | decide | omega)) rfl rfl ?_ | refine AWo.pure (PureOp.bin rfl rfl rfl) rfl rfl ?_
                  refine AWo.pure (PureOp.assign rfl) rfl rfl ?_
                  refine AWo.nil trivial ?_
                  refine thenA_normal ?_
                  refine ⟨1 * 3, [(77000, 67000)], _, by omega, ?_, z - N * 2 ^ 3, 3, ⟨by decide, mod_hi hz hge⟩, rfl, rfl⟩
                  refine Wk.of [0, 1, 6000, 21000, 21001, 21002, 21003, 21004, 21005, 21006, 21007, 21008, 77000] ?_ ?_ ?_ (by decide) rfl
                  ·
                    refine WkE.upd rfl (by first | exact VR.flat _ rfl | exact VR.eqv (vp_succ _) rfl | exact VR.eqv (vp_succ _).symm rfl | exact VR.eqv (by first | rfl | (congr 1; omega) | (simp; done) | (simp; omega)) rfl) ?_
                    refine WkE.upd rfl (by first | exact VR.flat _ rfl | exact VR.eqv (vp_succ _) rfl | exact VR.eqv (vp_succ _).symm rfl | exact VR.eqv (by first | rfl | (congr 1; omega) | (simp; done) | (simp; omega)) rfl) ?_
                    refine WkE.upd rfl (.slice (77000) 0 _ 0 ⟨_, rfl⟩ (by simp) (by simp)) ?_
                    refine WkE.upd rfl (.ptr (6000) 0 ⟨_, rfl⟩) ?_
                    refine WkE.upd rfl (.slice (0) 0 _ 0 ⟨_, rfl⟩ (by simp) (by simp)) ?_
                    exact WkE.emp
                  ·
                    refine WkM.flatM rfl (by first | rfl | assumption | simp) (fun _ => rfl) (fun h => h) ?_
                    refine WkM.flatM rfl (by first | rfl | assumption | simp) (fun _ => rfl) (fun h => h) ?_
                    refine WkM.flatM rfl (by first | rfl | assumption | simp) (fun _ => rfl) (fun h => h) ?_
                    refine WkM.flatM rfl (by first | rfl | assumption | simp) (fun _ => rfl) (fun h => h) ?_
                    refine WkM.flatM rfl (by first | rfl | assumption | simp) (fun _ => rfl) (fun h => h) ?_
                    refine WkM.flatM rfl (by first | rfl | assumption | simp) (fun _ => rfl) (fun h => h) ?_
                    refine WkM.flatM rfl (by first | rfl | assumption | simp) (fun _ => rfl) (fun h => h) ?_
                    refine WkM.flatM rfl (by first | rfl | assumption | simp) (fun _ => rfl) (fun h => h) ?_
                    refine WkM.flatM rfl (by first | rfl | assumption | simp) (fun _ => rfl) (fun h => h) ?_
                    refine WkM.flatM rfl (by first | rfl | assumption | simp) (fun _ => rfl) (fun h => h) ?_
                    refine WkM.ren [21000, 21001, 21002, 21003, 21004, 21005, 21006, 21007, 21008] rfl rfl rfl (dom_all rfl) (fun h => h) ?_
                    refine WkM.flatM rfl (by first | rfl | assumption | simp) (fun _ => rfl) (fun h => h) ?_
                    refine WkM.flatM rfl (by first | rfl | assumption | simp) (fun _ => rfl) (fun h => h) ?_
                    exact WkM.emp
                  ·
                    repeat (refine dom_upd_mem (by decide) ?_)
                    exact dom_emp
                ·
                  have hlt : z < N * 2 ^ 3 := lt_of_cmp (by simpa using hb6)
                  refine AW.skip ?_
                  refine inBlockA_normal ?_
                  refine thenA_normal ?_
                  refine AW.region ?_
                  refine AWo.pure (PureOp.move rfl) rfl rfl ?_
                  first | refine AWo.pure (PureOp.subI (b := 1) rfl rfl (by first | decide | omega) (by first | decide | omega)) rfl rfl ?_ | refine AWo.pure (PureOp.subP rfl rfl (by first | decide | omega)) rfl rfl ?_ | refine AWo.pure (PureOp.bin rfl rfl rfl) rfl rfl ?_
                  refine AWo.pure (PureOp.assign rfl) rfl rfl ?_
                  refine AWo.nil trivial ?_
                  refine thenA_normal ?_
                  refine ⟨1 * 3, [(77000, 77000)], _, by omega, ?_, z, 3, ⟨by decide, mod_lo hz hlt⟩, rfl, rfl⟩
                  refine Wk.of [0, 1, 6000, 21000, 21001, 21002, 21003, 21004, 21005, 21006, 21007, 21008, 77000] ?_ ?_ ?_ (by decide) rfl
                  ·
                    refine WkE.upd rfl (by first | exact VR.flat _ rfl | exact VR.eqv (vp_succ _) rfl | exact VR.eqv (vp_succ _).symm rfl | exact VR.eqv (by first | rfl | (congr 1; omega) | (simp; done) | (simp; omega)) rfl) ?_
                    refine WkE.upd rfl (by first | exact VR.flat _ rfl | exact VR.eqv (vp_succ _) rfl | exact VR.eqv (vp_succ _).symm rfl | exact VR.eqv (by first | rfl | (congr 1; omega) | (simp; done) | (simp; omega)) rfl) ?_
                    refine WkE.upd rfl (.slice (77000) 0 _ 0 ⟨_, rfl⟩ (by simp) (by simp)) ?_
                    refine WkE.upd rfl (.ptr (6000) 0 ⟨_, rfl⟩) ?_
                    refine WkE.upd rfl (.slice (0) 0 _ 0 ⟨_, rfl⟩ (by simp) (by simp)) ?_
                    exact WkE.emp
                  ·
                    refine WkM.flatM rfl (by first | rfl | assumption | simp) (fun _ => rfl) (fun h => h) ?_
                    refine WkM.flatM rfl (by first | rfl | assumption | simp) (fun _ => rfl) (fun h => h) ?_
                    refine WkM.flatM rfl (by first | rfl | assumption | simp) (fun _ => rfl) (fun h => h) ?_
                    refine WkM.flatM rfl (by first | rfl | assumption | simp) (fun _ => rfl) (fun h => h) ?_
                    refine WkM.flatM rfl (by first | rfl | assumption | simp) (fun _ => rfl) (fun h => h) ?_
                    refine WkM.flatM rfl (by first | rfl | assumption | simp) (fun _ => rfl) (fun h => h) ?_
                    refine WkM.flatM rfl (by first | rfl | assumption | simp) (fun _ => rfl) (fun h => h) ?_
                    refine WkM.flatM rfl (by first | rfl | assumption | simp) (fun _ => rfl) (fun h => h) ?_
                    refine WkM.flatM rfl (by first | rfl | assumption | simp) (fun _ => rfl) (fun h => h) ?_
                    refine WkM.flatM rfl (by first | rfl | assumption | simp) (fun _ => rfl) (fun h => h) ?_
                    refine WkM.ren [21000, 21001, 21002, 21003, 21004, 21005, 21006, 21007, 21008] rfl rfl rfl (dom_all rfl) (fun h => h) ?_
                    refine WkM.flatM rfl (by first | rfl | assumption | simp) (fun _ => rfl) (fun h => h) ?_
                    refine WkM.flatM rfl (by first | rfl | assumption | simp) (fun _ => rfl) (fun h => h) ?_
                    exact WkM.emp
                  ·
                    repeat (refine dom_upd_mem (by decide) ?_)
                    exact dom_emp
              ·
                rw [show vp 5 = vi .i64 4 from rfl]
                have hzl : z < N * 2 ^ 5 := by rw [hz]; exact Nat.mod_lt _ (Nat.mul_pos hN (by decide))
                refine AW.skip ?_
                refine thenA_normal ?_
                refine AW.seq ?_
                refine AW.block ?_
                refine AW.seqR ?_
                refine AWo.pure (PureOp.move rfl) rfl rfl ?_
                refine AWo.pure (PureOp.move rfl) rfl rfl ?_
                first | refine AWo.pure (PureOp.arr1 tbok rfl rfl rfl rfl (by first | decide | omega)) rfl rfl ?_ | refine AWo.pure (PureOp.arr tbok rfl rfl rfl rfl (by first | decide | omega)) rfl rfl ?_
                refine AWo.load tbok rfl rfl rfl rfl rfl rfl ?_
                refine AWo.callX (cmpD_ctr (x := z) (y := N * 2 ^ 4) (hL _ (by omega)) (hL _ (by omega))) bd34 [(77000, 0), (21004, 0)] [] rfl (.cons rfl (.cons rfl .nil)) rfl (.cons rfl rfl (.cons rfl rfl .nil)) (.flat rfl (by first | exact flatM flat_vi | exact flatM flat_bool | (simp [flatV, flat_vi]; done)) (by intro h; first | exact h | rfl) (.flat rfl (by first | exact flatM flat_vi | exact flatM flat_bool | (simp [flatV, flat_vi]; done)) (by intro h; first | exact h | rfl) .nil)) rfl (.keep rfl (.keep rfl .nil)) frN (by decide) (.cons rfl rfl .nil) rfl rfl rfl rfl ?_
                first | refine AWo.pure (PureOp.geP rfl rfl) rfl rfl ?_ | refine AWo.pure (PureOp.geN (b := 0) rfl rfl) rfl rfl ?_ | refine AWo.pure (PureOp.bin rfl rfl rfl) rfl rfl ?_
                refine AWo.nil trivial ?_
                refine AW.cond rfl (fun hb7 => ?_) (fun hb7 => ?_)
                ·
                  have hge : N * 2 ^ 4 ≤ z := ge_of_cmp (by simpa using hb7)
                  refine AW.region ?_
                  refine AWo.pure (PureOp.move rfl) rfl rfl ?_
                  refine AWo.pure (PureOp.move rfl) rfl rfl ?_
                  first | refine AWo.pure (PureOp.arr1 tbok rfl rfl rfl rfl (by first | decide | omega)) rfl rfl ?_ | refine AWo.pure (PureOp.arr tbok rfl rfl rfl rfl (by first | decide | omega)) rfl rfl ?_
                  refine AWo.load tbok rfl rfl rfl rfl rfl rfl ?_
                  refine AWo.callX (subD_ctr (x := z) (y := N * 2 ^ 4) (hL _ (by omega)) (hL _ (by omega)) hge) bd71 [(77000, 0), (21004, 0)] [67000] rfl (.cons rfl (.cons rfl .nil)) rfl (.cons rfl rfl (.cons rfl rfl .nil)) (.flat rfl (by first | exact flatM flat_vi | exact flatM flat_bool | (simp [flatV, flat_vi]; done)) (by intro h; first | exact h | rfl) (.flat rfl (by first | exact flatM flat_vi | exact flatM flat_bool | (simp [flatV, flat_vi]; done)) (by intro h; first | exact h | rfl) .nil)) rfl (.keep rfl (.keep rfl (.new (flat_map_ren (by first | exact flatM flat_vi | exact flatM flat_bool | (simp [flatV, flat_vi]; done))) (OkL.flat (by first | exact flatM flat_vi | exact flatM flat_bool | (simp [flatV, flat_vi]; done))) .nil))) (frC rfl frN) (by decide) (.cons rfl rfl .nil) rfl rfl rfl rfl ?_
                  refine AWo.pure (PureOp.assign rfl) rfl rfl ?_
                  refine AWo.nil trivial ?_
                  refine inBlockA_normal ?_
                  refine thenA_normal ?_
                  refine AW.region ?_
                  refine AWo.pure (PureOp.move rfl) rfl rfl ?_
                  first | refine AWo.pure (PureOp.subI (b := 1) rfl rfl (by first | decide | omega) (by first | decide | omega)) rfl rfl ?_ | refine AWo.pure (PureOp.subP rfl rfl (by first | decide | omega)) rfl rfl ?_ | refine AWo.pure (PureOp.bin rfl rfl rfl) rfl rfl ?_
                  refine AWo.pure (PureOp.assign rfl) rfl rfl ?_
                  refine AWo.nil trivial ?_
                  refine thenA_normal ?_
                  refine ⟨1 * 4, [(77000, 67000)], _, by omega, ?_, z - N * 2 ^ 4, 4, ⟨by decide, mod_hi hz hge⟩, rfl, rfl⟩
                  refine Wk.of [0, 1, 6000, 21000, 21001, 21002, 21003, 21004, 21005, 21006, 21007, 21008, 77000] ?_ ?_ ?_ (by decide) rfl
                  ·
                    refine WkE.upd rfl (by first | exact VR.flat _ rfl | exact VR.eqv (vp_succ _) rfl | exact VR.eqv (vp_succ _).symm rfl | exact VR.eqv (by first | rfl | (congr 1; omega) | (simp; done) | (simp; omega)) rfl) ?_
                    refine WkE.upd rfl (by first | exact VR.flat _ rfl | exact VR.eqv (vp_succ _) rfl | exact VR.eqv (vp_succ _).symm rfl | exact VR.eqv (by first | rfl | (congr 1; omega) | (simp; done) | (simp; omega)) rfl) ?_
                    refine WkE.upd rfl (.slice (77000) 0 _ 0 ⟨_, rfl⟩ (by simp) (by simp)) ?_
                    refine WkE.upd rfl (.ptr (6000) 0 ⟨_, rfl⟩) ?_
                    refine WkE.upd rfl (.slice (0) 0 _ 0 ⟨_, rfl⟩ (by simp) (by simp)) ?_
                    exact WkE.emp
                  ·
                    refine WkM.flatM rfl (by first | rfl | assumption | simp) (fun _ => rfl) (fun h => h) ?_
                    refine WkM.flatM rfl (by first | rfl | assumption | simp) (fun _ => rfl) (fun h => h) ?_
                    refine WkM.flatM rfl (by first | rfl | assumption | simp) (fun _ => rfl) (fun h => h) ?_
                    refine WkM.flatM rfl (by first | rfl | assumption | simp) (fun _ => rfl) (fun h => h) ?_
                    refine WkM.flatM rfl (by first | rfl | assumption | simp) (fun _ => rfl) (fun h => h) ?_
                    refine WkM.flatM rfl (by first | rfl | assumption | simp) (fun _ => rfl) (fun h => h) ?_
                    refine WkM.flatM rfl (by first | rfl | assumption | simp) (fun _ => rfl) (fun h => h) ?_
                    refine WkM.flatM rfl (by first | rfl | assumption | simp) (fun _ => rfl) (fun h => h) ?_
                    refine WkM.flatM rfl (by first | rfl | assumption | simp) (fun _ => rfl) (fun h => h) ?_
                    refine WkM.flatM rfl (by first | rfl | assumption | simp) (fun _ => rfl) (fun h => h) ?_
                    refine WkM.ren [21000, 21001, 21002, 21003, 21004, 21005, 21006, 21007, 21008] rfl rfl rfl (dom_all rfl) (fun h => h) ?_
                    refine WkM.flatM rfl (by first | rfl | assumption | simp) (fun _ => rfl) (fun h => h) ?_
                    refine WkM.flatM rfl (by first | rfl | assumption | simp) (fun _ => rfl) (fun h => h) ?_
                    exact WkM.emp
                  ·
                    repeat (refine dom_upd_mem (by decide) ?_)
                    exact dom_emp
                ·
                  have hlt : z < N * 2 ^ 4 := lt_of_cmp (by simpa using hb7)
                  refine AW.skip ?_
                  refine inBlockA_normal ?_
                  refine thenA_normal ?_
                  refine AW.region ?_
                  refine AWo.pure (PureOp.move rfl) rfl rfl ?_
                  first | refine AWo.pure (PureOp.subI (b := 1) rfl rfl (by first | decide | omega) (by first | decide | omega)) rfl rfl ?_ | refine AWo.pure (PureOp.subP rfl rfl (by first | decide | omega)) rfl rfl ?_ | refine AWo.pure (PureOp.bin rfl rfl rfl) rfl rfl ?_
                  refine AWo.pure (PureOp.assign rfl) rfl rfl ?_
                  refine AWo.nil trivial ?_
                  refine thenA_normal ?_
                  refine ⟨1 * 4, [(77000, 77000)], _, by omega, ?_, z, 4, ⟨by decide, mod_lo hz hlt⟩, rfl, rfl⟩
                  refine Wk.of [0, 1, 6000, 21000, 21001, 21002, 21003, 21004, 21005, 21006, 21007, 21008, 77000] ?_ ?_ ?_ (by decide) rfl
                  ·
                    refine WkE.upd rfl (by first | exact VR.flat _ rfl | exact VR.eqv (vp_succ _) rfl | exact VR.eqv (vp_succ _).symm rfl | exact VR.eqv (by first | rfl | (congr 1; omega) | (simp; done) | (simp; omega)) rfl) ?_
                    refine WkE.upd rfl (by first | exact VR.flat _ rfl | exact VR.eqv (vp_succ _) rfl | exact VR.eqv (vp_succ _).symm rfl | exact VR.eqv (by first | rfl | (congr 1; omega) | (simp; done) | (simp; omega)) rfl) ?_
                    refine WkE.upd rfl (.slice (77000) 0 _ 0 ⟨_, rfl⟩ (by simp) (by simp)) ?_
                    refine WkE.upd rfl (.ptr (6000) 0 ⟨_, rfl⟩) ?_
                    refine WkE.upd rfl (.slice (0) 0 _ 0 ⟨_, rfl⟩ (by simp) (by simp)) ?_
                    exact WkE.emp
                  ·
                    refine WkM.flatM rfl (by first | rfl | assumption | simp) (fun _ => rfl) (fun h => h) ?_
                    refine WkM.flatM rfl (by first | rfl | assumption | simp) (fun _ => rfl) (fun h => h) ?_
                    refine WkM.flatM rfl (by first | rfl | assumption | simp) (fun _ => rfl) (fun h => h) ?_
                    refine WkM.flatM rfl (by first | rfl | assumption | simp) (fun _ => rfl) (fun h => h) ?_
                    refine WkM.flatM rfl (by first | rfl | assumption | simp) (fun _ => rfl) (fun h => h) ?_
                    refine WkM.flatM rfl (by first | rfl | assumption | simp) (fun _ => rfl) (fun h => h) ?_
                    refine WkM.flatM rfl (by first | rfl | assumption | simp) (fun _ => rfl) (fun h => h) ?_
                    refine WkM.flatM rfl (by first | rfl | assumption | simp) (fun _ => rfl) (fun h => h) ?_
                    refine WkM.flatM rfl (by first | rfl | assumption | simp) (fun _ => rfl) (fun h => h) ?_
                    refine WkM.flatM rfl (by first | rfl | assumption | simp) (fun _ => rfl) (fun h => h) ?_
                    refine WkM.ren [21000, 21001, 21002, 21003, 21004, 21005, 21006, 21007, 21008] rfl rfl rfl (dom_all rfl) (fun h => h) ?_
                    refine WkM.flatM rfl (by first | rfl | assumption | simp) (fun _ => rfl) (fun h => h) ?_
                    refine WkM.flatM rfl (by first | rfl | assumption | simp) (fun _ => rfl) (fun h => h) ?_
                    exact WkM.emp
                  ·
                    repeat (refine dom_upd_mem (by decide) ?_)
                    exact dom_emp
              ·
                rw [show vp 6 = vi .i64 5 from rfl]
                have hzl : z < N * 2 ^ 6 := by rw [hz]; exact Nat.mod_lt _ (Nat.mul_pos hN (by decide))
                refine AW.skip ?_
                refine thenA_normal ?_
                refine AW.seq ?_
                refine AW.block ?_
                refine AW.seqR ?_
                refine AWo.pure (PureOp.move rfl) rfl rfl ?_
                refine AWo.pure (PureOp.move rfl) rfl rfl ?_
                first | refine AWo.pure (PureOp.arr1 tbok rfl rfl rfl rfl (by first | decide | omega)) rfl rfl ?_ | refine AWo.pure (PureOp.arr tbok rfl rfl rfl rfl (by first | decide | omega)) rfl rfl ?_
                refine AWo.load tbok rfl rfl rfl rfl rfl rfl ?_
                refine AWo.callX (cmpD_ctr (x := z) (y := N * 2 ^ 5) (hL _ (by omega)) (hL _ (by omega))) bd34 [(77000, 0), (21005, 0)] [] rfl (.cons rfl (.cons rfl .nil)) rfl (.cons rfl rfl (.cons rfl rfl .nil)) (.flat rfl (by first | exact flatM flat_vi | exact flatM flat_bool | (simp [flatV, flat_vi]; done)) (by intro h; first | exact h | rfl) (.flat rfl (by first | exact flatM flat_vi | exact flatM flat_bool | (simp [flatV, flat_vi]; done)) (by intro h; first | exact h | rfl) .nil)) rfl (.keep rfl (.keep rfl .nil)) frN (by decide) (.cons rfl rfl .nil) rfl rfl rfl rfl ?_
                first | refine AWo.pure (PureOp.geP rfl rfl) rfl rfl ?_ | refine AWo.pure (PureOp.geN (b := 0) rfl rfl) rfl rfl ?_ | refine AWo.pure (PureOp.bin rfl rfl rfl) rfl rfl ?_
                refine AWo.nil trivial ?_
                refine AW.cond rfl (fun hb8 => ?_) (fun hb8 => ?_)
                ·
                  have hge : N * 2 ^ 5 ≤ z := ge_of_cmp (by simpa using hb8)
                  refine AW.region ?_
                  refine AWo.pure (PureOp.move rfl) rfl rfl ?_
                  refine AWo.pure (PureOp.move rfl) rfl rfl ?_
                  first | refine AWo.pure (PureOp.arr1 tbok rfl rfl rfl rfl (by first | decide | omega)) rfl rfl ?_ | refine AWo.pure (PureOp.arr tbok rfl rfl rfl rfl (by first | decide | omega)) rfl rfl ?_
                  refine AWo.load tbok rfl rfl rfl rfl rfl rfl ?_
                  refine AWo.callX (subD_ctr (x := z) (y := N * 2 ^ 5) (hL _ (by omega)) (hL _ (by omega)) hge) bd71 [(77000, 0), (21005, 0)] [67000] rfl (.cons rfl (.cons rfl .nil)) rfl (.cons rfl rfl (.cons rfl rfl .nil)) (.flat rfl (by first | exact flatM flat_vi | exact flatM flat_bool | (simp [flatV, flat_vi]; done)) (by intro h; first | exact h | rfl) (.flat rfl (by first | exact flatM flat_vi | exact flatM flat_bool | (simp [flatV, flat_vi]; done)) (by intro h; first | exact h | rfl) .nil)) rfl (.keep rfl (.keep rfl (.new (flat_map_ren (by first | exact flatM flat_vi | exact flatM flat_bool | (simp [flatV, flat_vi]; done))) (OkL.flat (by first | exact flatM flat_vi | exact flatM flat_bool | (simp [flatV, flat_vi]; done))) .nil))) (frC rfl frN) (by decide) (.cons rfl rfl .nil) rfl rfl rfl rfl ?_
                  refine AWo.pure (PureOp.assign rfl) rfl rfl ?_
                  refine AWo.nil trivial ?_
                  refine inBlockA_normal ?_
                  refine thenA_normal ?_
                  refine AW.region ?_
                  refine AWo.pure (PureOp.move rfl) rfl rfl ?_
                  first | refine AWo.pure (PureOp.subI (b := 1) rfl rfl (by first | decide | omega) (by first | decide | omega)) rfl rfl ?_ | refine AWo.pure (PureOp.subP rfl rfl (by first | decide | omega)) rfl rfl ?_ | refine AWo.pure (PureOp.bin rfl rfl rfl) rfl rfl ?_
                  refine AWo.pure (PureOp.assign rfl) rfl rfl ?_
                  refine AWo.nil trivial ?_
                  refine thenA_normal ?_
                  refine ⟨1 * 5, [(77000, 67000)], _, by omega, ?_, z - N * 2 ^ 5, 5, ⟨by decide, mod_hi hz hge⟩, rfl, rfl⟩
                  refine Wk.of [0, 1, 6000, 21000, 21001, 21002, 21003, 21004, 21005, 21006, 21007, 21008, 77000] ?_ ?_ ?_ (by decide) rfl
                  ·
                    refine WkE.upd rfl (by first | exact VR.flat _ rfl | exact VR.eqv (vp_succ _) rfl | exact VR.eqv (vp_succ _).symm rfl | exact VR.eqv (by first | rfl | (congr 1; omega) | (simp; done) | (simp; omega)) rfl) ?_
                    refine WkE.upd rfl (by first | exact VR.flat _ rfl | exact VR.eqv (vp_succ _) rfl | exact VR.eqv (vp_succ _).symm rfl | exact VR.eqv (by first | rfl | (congr 1; omega) | (simp; done) | (simp; omega)) rfl) ?_
                    refine WkE.upd rfl (.slice (77000) 0 _ 0 ⟨_, rfl⟩ (by simp) (by simp)) ?_
                    refine WkE.upd rfl (.ptr (6000) 0 ⟨_, rfl⟩) ?_
                    refine WkE.upd rfl (.slice (0) 0 _ 0 ⟨_, rfl⟩ (by simp) (by simp)) ?_
                    exact WkE.emp
                  ·
                    refine WkM.flatM rfl (by first | rfl | assumption | simp) (fun _ => rfl) (fun h => h) ?_
                    refine WkM.flatM rfl (by first | rfl | assumption | simp) (fun _ => rfl) (fun h => h) ?_
                    refine WkM.flatM rfl (by first | rfl | assumption | simp) (fun _ => rfl) (fun h => h) ?_
                    refine WkM.flatM rfl (by first | rfl | assumption | simp) (fun _ => rfl) (fun h => h) ?_
                    refine WkM.flatM rfl (by first | rfl | assumption | simp) (fun _ => rfl) (fun h => h) ?_
                    refine WkM.flatM rfl (by first | rfl | assumption | simp) (fun _ => rfl) (fun h => h) ?_
                    refine WkM.flatM rfl (by first | rfl | assumption | simp) (fun _ => rfl) (fun h => h) ?_
                    refine WkM.flatM rfl (by first | rfl | assumption | simp) (fun _ => rfl) (fun h => h) ?_
                    refine WkM.flatM rfl (by first | rfl | assumption | simp) (fun _ => rfl) (fun h => h) ?_
                    refine WkM.flatM rfl (by first | rfl | assumption | simp) (fun _ => rfl) (fun h => h) ?_
                    refine WkM.ren [21000, 21001, 21002, 21003, 21004, 21005, 21006, 21007, 21008] rfl rfl rfl (dom_all rfl) (fun h => h) ?_
                    refine WkM.flatM rfl (by first | rfl | assumption | simp) (fun _ => rfl) (fun h => h) ?_
                    refine WkM.flatM rfl (by first | rfl | assumption | simp) (fun _ => rfl) (fun h => h) ?_
                    exact WkM.emp
                  ·
                    repeat (refine dom_upd_mem (by decide) ?_)
                    exact dom_emp
                ·
                  have hlt : z < N * 2 ^ 5 := lt_of_cmp (by simpa using hb8)
                  refine AW.skip ?_
                  refine inBlockA_normal ?_
                  refine thenA_normal ?_
                  refine AW.region ?_
                  refine AWo.pure (PureOp.move rfl) rfl rfl ?_
                  first | refine AWo.pure (PureOp.subI (b := 1) rfl rfl (by first | decide | omega) (by first | decide | omega)) rfl rfl ?_ | refine AWo.pure (PureOp.subP rfl rfl (by first | decide | omega)) rfl rfl ?_ | refine AWo.pure (PureOp.bin rfl rfl rfl) rfl rfl ?_
                  refine AWo.pure (PureOp.assign rfl) rfl rfl ?_
                  refine AWo.nil trivial ?_
                  refine thenA_normal ?_
                  refine ⟨1 * 5, [(77000, 77000)], _, by omega, ?_, z, 5, ⟨by decide, mod_lo hz hlt⟩, rfl, rfl⟩
                  refine Wk.of [0, 1, 6000, 21000, 21001, 21002, 21003, 21004, 21005, 21006, 21007, 21008, 77000] ?_ ?_ ?_ (by decide) rfl
                  ·
                    refine WkE.upd rfl (by first | exact VR.flat _ rfl | exact VR.eqv (vp_succ _) rfl | exact VR.eqv (vp_succ _).symm rfl | exact VR.eqv (by first | rfl | (congr 1; omega) | (simp; done) | (simp; omega)) rfl) ?_
                    refine WkE.upd rfl (by first | exact VR.flat _ rfl | exact VR.eqv (vp_succ _) rfl | exact VR.eqv (vp_succ _).symm rfl | exact VR.eqv (by first | rfl | (congr 1; omega) | (simp; done) | (simp; omega)) rfl) ?_
                    refine WkE.upd rfl (.slice (77000) 0 _ 0 ⟨_, rfl⟩ (by simp) (by simp)) ?_
                    refine WkE.upd rfl (.ptr (6000) 0 ⟨_, rfl⟩) ?_
                    refine WkE.upd rfl (.slice (0) 0 _ 0 ⟨_, rfl⟩ (by simp) (by simp)) ?_
                    exact WkE.emp
                  ·
                    refine WkM.flatM rfl (by first | rfl | assumption | simp) (fun _ => rfl) (fun h => h) ?_
                    refine WkM.flatM rfl (by first | rfl | assumption | simp) (fun _ => rfl) (fun h => h) ?_
                    refine WkM.flatM rfl (by first | rfl | assumption | simp) (fun _ => rfl) (fun h => h) ?_
                    refine WkM.flatM rfl (by first | rfl | assumption | simp) (fun _ => rfl) (fun h => h) ?_
                    refine WkM.flatM rfl (by first | rfl | assumption | simp) (fun _ => rfl) (fun h => h) ?_
                    refine WkM.flatM rfl (by first | rfl | assumption | simp) (fun _ => rfl) (fun h => h) ?_
                    refine WkM.flatM rfl (by first | rfl | assumption | simp) (fun _ => rfl) (fun h => h) ?_
                    refine WkM.flatM rfl (by first | rfl | assumption | simp) (fun _ => rfl) (fun h => h) ?_
                    refine WkM.flatM rfl (by first | rfl | assumption | simp) (fun _ => rfl) (fun h => h) ?_
                    refine WkM.flatM rfl (by first | rfl | assumption | simp) (fun _ => rfl) (fun h => h) ?_
                    refine WkM.ren [21000, 21001, 21002, 21003, 21004, 21005, 21006, 21007, 21008] rfl rfl rfl (dom_all rfl) (fun h => h) ?_
                    refine WkM.flatM rfl (by first | rfl | assumption | simp) (fun _ => rfl) (fun h => h) ?_
                    refine WkM.flatM rfl (by first | rfl | assumption | simp) (fun _ => rfl) (fun h => h) ?_
                    exact WkM.emp
                  ·
                    repeat (refine dom_upd_mem (by decide) ?_)
                    exact dom_emp
              ·
                rw [show vp 7 = vi .i64 6 from rfl]
                have hzl : z < N * 2 ^ 7 := by rw [hz]; exact Nat.mod_lt _ (Nat.mul_pos hN (by decide))
                refine AW.skip ?_
                refine thenA_normal ?_
                refine AW.seq ?_
                refine AW.block ?_
                refine AW.seqR ?_
                refine AWo.pure (PureOp.move rfl) rfl rfl ?_
                refine AWo.pure (PureOp.move rfl) rfl rfl ?_
                first | refine AWo.pure (PureOp.arr1 tbok rfl rfl rfl rfl (by first | decide | omega)) rfl rfl ?_ | refine AWo.pure (PureOp.arr tbok rfl rfl rfl rfl (by first | decide | omega)) rfl rfl ?_
                refine AWo.load tbok rfl rfl rfl rfl rfl rfl ?_
                refine AWo.callX (cmpD_ctr (x := z) (y := N * 2 ^ 6) (hL _ (by omega)) (hL _ (by omega))) bd34 [(77000, 0), (21006, 0)] [] rfl (.cons rfl (.cons rfl .nil)) rfl (.cons rfl rfl (.cons rfl rfl .nil)) (.flat rfl (by first | exact flatM flat_vi | exact flatM flat_bool | (simp [flatV, flat_vi]; done)) (by intro h; first | exact h | rfl) (.flat rfl (by first | exact flatM flat_vi | exact flatM flat_bool | (simp [flatV, flat_vi]; done)) (by intro h; first | exact h | rfl) .nil)) rfl (.keep rfl (.keep rfl .nil)) frN (by decide) (.cons rfl rfl .nil) rfl rfl rfl rfl ?_
                first | refine AWo.pure (PureOp.geP rfl rfl) rfl rfl ?_ | refine AWo.pure (PureOp.geN (b := 0) rfl rfl) rfl rfl ?_ | refine AWo.pure (PureOp.bin rfl rfl rfl) rfl rfl ?_
                refine AWo.nil trivial ?_
                refine AW.cond rfl (fun hb9 => ?_) (fun hb9 => ?_)
                ·
                  have hge : N * 2 ^ 6 ≤ z := ge_of_cmp (by simpa using hb9)
                  refine AW.region ?_
                  refine AWo.pure (PureOp.move rfl) rfl rfl ?_
                  refine AWo.pure (PureOp.move rfl) rfl rfl ?_
                  first | refine AWo.pure (PureOp.arr1 tbok rfl rfl rfl rfl (by first | decide | omega)) rfl rfl ?_ | refine AWo.pure (PureOp.arr tbok rfl rfl rfl rfl (by first | decide | omega)) rfl rfl ?_
                  refine AWo.load tbok rfl rfl rfl rfl rfl rfl ?_
                  refine AWo.callX (subD_ctr (x := z) (y := N * 2 ^ 6) (hL _ (by omega)) (hL _ (by omega)) hge) bd71 [(77000, 0), (21006, 0)] [67000] rfl (.cons rfl (.cons rfl .nil)) rfl (.cons rfl rfl (.cons rfl rfl .nil)) (.flat rfl (by first | exact flatM flat_vi | exact flatM flat_bool | (simp [flatV, flat_vi]; done)) (by intro h; first | exact h | rfl) (.flat rfl (by first | exact flatM flat_vi | exact flatM flat_bool | (simp [flatV, flat_vi]; done)) (by intro h; first | exact h | rfl) .nil)) rfl (.keep rfl (.keep rfl (.new (flat_map_ren (by first | exact flatM flat_vi | exact flatM flat_bool | (simp [flatV, flat_vi]; done))) (OkL.flat (by first | exact flatM flat_vi | exact flatM flat_bool | (simp [flatV, flat_vi]; done))) .nil))) (frC rfl frN) (by decide) (.cons rfl rfl .nil) rfl rfl rfl rfl ?_
                  refine AWo.pure (PureOp.assign rfl) rfl rfl ?_
                  refine AWo.nil trivial ?_
                  refine inBlockA_normal ?_
                  refine thenA_normal ?_
                  refine AW.region ?_
                  refine AWo.pure (PureOp.move rfl) rfl rfl ?_
                  first | refine AWo.pure (PureOp.subI (b := 1) rfl rfl (by first | decide | omega) (by first | decide | omega)) rfl rfl ?_ | refine AWo.pure (PureOp.subP rfl rfl (by first | decide | omega)) rfl rfl ?_ | refine AWo.pure (PureOp.bin rfl rfl rfl) rfl rfl ?_
                  refine AWo.pure (PureOp.assign rfl) rfl rfl ?_
                  refine AWo.nil trivial ?_
                  refine thenA_normal ?_
                  refine ⟨1 * 6, [(77000, 67000)], _, by omega, ?_, z - N * 2 ^ 6, 6, ⟨by decide, mod_hi hz hge⟩, rfl, rfl⟩
                  refine Wk.of [0, 1, 6000, 21000, 21001, 21002, 21003, 21004, 21005, 21006, 21007, 21008, 77000] ?_ ?_ ?_ (by decide) rfl
                  ·
                    refine WkE.upd rfl (by first | exact VR.flat _ rfl | exact VR.eqv (vp_succ _) rfl | exact VR.eqv (vp_succ _).symm rfl | exact VR.eqv (by first | rfl | (congr 1; omega) | (simp; done) | (simp; omega)) rfl) ?_
                    refine WkE.upd rfl (by first | exact VR.flat _ rfl | exact VR.eqv (vp_succ _) rfl | exact VR.eqv (vp_succ _).symm rfl | exact VR.eqv (by first | rfl | (congr 1; omega) | (simp; done) | (simp; omega)) rfl) ?_
                    refine WkE.upd rfl (.slice (77000) 0 _ 0 ⟨_, rfl⟩ (by simp) (by simp)) ?_
                    refine WkE.upd rfl (.ptr (6000) 0 ⟨_, rfl⟩) ?_
                    refine WkE.upd rfl (.slice (0) 0 _ 0 ⟨_, rfl⟩ (by simp) (by simp)) ?_
                    exact WkE.emp
                  ·
                    refine WkM.flatM rfl (by first | rfl | assumption | simp) (fun _ => rfl) (fun h => h) ?_
                    refine WkM.flatM rfl (by first | rfl | assumption | simp) (fun _ => rfl) (fun h => h) ?_
                    refine WkM.flatM rfl (by first | rfl | assumption | simp) (fun _ => rfl) (fun h => h) ?_
                    refine WkM.flatM rfl (by first | rfl | assumption | simp) (fun _ => rfl) (fun h => h) ?_
                    refine WkM.flatM rfl (by first | rfl | assumption | simp) (fun _ => rfl) (fun h => h) ?_
                    refine WkM.flatM rfl (by first | rfl | assumption | simp) (fun _ => rfl) (fun h => h) ?_
                    refine WkM.flatM rfl (by first | rfl | assumption | simp) (fun _ => rfl) (fun h => h) ?_
                    refine WkM.flatM rfl (by first | rfl | assumption | simp) (fun _ => rfl) (fun h => h) ?_
                    refine WkM.flatM rfl (by first | rfl | assumption | simp) (fun _ => rfl) (fun h => h) ?_
                    refine WkM.flatM rfl (by first | rfl | assumption | simp) (fun _ => rfl) (fun h => h) ?_
                    refine WkM.ren [21000, 21001, 21002, 21003, 21004, 21005, 21006, 21007, 21008] rfl rfl rfl (dom_all rfl) (fun h => h) ?_
                    refine WkM.flatM rfl (by first | rfl | assumption | simp) (fun _ => rfl) (fun h => h) ?_
                    refine WkM.flatM rfl (by first | rfl | assumption | simp) (fun _ => rfl) (fun h => h) ?_
                    exact WkM.emp
                  ·
                    repeat (refine dom_upd_mem (by decide) ?_)
                    exact dom_emp
                ·
                  have hlt : z < N * 2 ^ 6 := lt_of_cmp (by simpa using hb9)
                  refine AW.skip ?_
                  refine inBlockA_normal ?_
                  refine thenA_normal ?_
                  refine AW.region ?_
                  refine AWo.pure (PureOp.move rfl) rfl rfl ?_
                  first | refine AWo.pure (PureOp.subI (b := 1) rfl rfl (by first | decide | omega) (by first | decide | omega)) rfl rfl ?_ | refine AWo.pure (PureOp.subP rfl rfl (by first | decide | omega)) rfl rfl ?_ | refine AWo.pure (PureOp.bin rfl rfl rfl) rfl rfl ?_
                  refine AWo.pure (PureOp.assign rfl) rfl rfl ?_
                  refine AWo.nil trivial ?_
                  refine thenA_normal ?_
                  refine ⟨1 * 6, [(77000, 77000)], _, by omega, ?_, z, 6, ⟨by decide, mod_lo hz hlt⟩, rfl, rfl⟩
                  refine Wk.of [0, 1, 6000, 21000, 21001, 21002, 21003, 21004, 21005, 21006, 21007, 21008, 77000] ?_ ?_ ?_ (by decide) rfl
                  ·
                    refine WkE.upd rfl (by first | exact VR.flat _ rfl | exact VR.eqv (vp_succ _) rfl | exact VR.eqv (vp_succ _).symm rfl | exact VR.eqv (by first | rfl | (congr 1; omega) | (simp; done) | (simp; omega)) rfl) ?_
                    refine WkE.upd rfl (by first | exact VR.flat _ rfl | exact VR.eqv (vp_succ _) rfl | exact VR.eqv (vp_succ _).symm rfl | exact VR.eqv (by first | rfl | (congr 1; omega) | (simp; done) | (simp; omega)) rfl) ?_
                    refine WkE.upd rfl (.slice (77000) 0 _ 0 ⟨_, rfl⟩ (by simp) (by simp)) ?_
                    refine WkE.upd rfl (.ptr (6000) 0 ⟨_, rfl⟩) ?_
                    refine WkE.upd rfl (.slice (0) 0 _ 0 ⟨_, rfl⟩ (by simp) (by simp)) ?_
                    exact WkE.emp
                  ·
                    refine WkM.flatM rfl (by first | rfl | assumption | simp) (fun _ => rfl) (fun h => h) ?_
                    refine WkM.flatM rfl (by first | rfl | assumption | simp) (fun _ => rfl) (fun h => h) ?_
                    refine WkM.flatM rfl (by first | rfl | assumption | simp) (fun _ => rfl) (fun h => h) ?_
                    refine WkM.flatM rfl (by first | rfl | assumption | simp) (fun _ => rfl) (fun h => h) ?_
                    refine WkM.flatM rfl (by first | rfl | assumption | simp) (fun _ => rfl) (fun h => h) ?_
                    refine WkM.flatM rfl (by first | rfl | assumption | simp) (fun _ => rfl) (fun h => h) ?_
                    refine WkM.flatM rfl (by first | rfl | assumption | simp) (fun _ => rfl) (fun h => h) ?_
                    refine WkM.flatM rfl (by first | rfl | assumption | simp) (fun _ => rfl) (fun h => h) ?_
                    refine WkM.flatM rfl (by first | rfl | assumption | simp) (fun _ => rfl) (fun h => h) ?_
                    refine WkM.flatM rfl (by first | rfl | assumption | simp) (fun _ => rfl) (fun h => h) ?_
                    refine WkM.ren [21000, 21001, 21002, 21003, 21004, 21005, 21006, 21007, 21008] rfl rfl rfl (dom_all rfl) (fun h => h) ?_
                    refine WkM.flatM rfl (by first | rfl | assumption | simp) (fun _ => rfl) (fun h => h) ?_
                    refine WkM.flatM rfl (by first | rfl | assumption | simp) (fun _ => rfl) (fun h => h) ?_
                    exact WkM.emp
                  ·
                    repeat (refine dom_upd_mem (by decide) ?_)
                    exact dom_emp
              ·
                rw [show vp 8 = vi .i64 7 from rfl]
                have hzl : z < N * 2 ^ 8 := by rw [hz]; exact Nat.mod_lt _ (Nat.mul_pos hN (by decide))
                refine AW.skip ?_
                refine thenA_normal ?_
                refine AW.seq ?_
                refine AW.block ?_
                refine AW.seqR ?_
                refine AWo.pure (PureOp.move rfl) rfl rfl ?_
                refine AWo.pure (PureOp.move rfl) rfl rfl ?_
                first | refine AWo.pure (PureOp.arr1 tbok rfl rfl rfl rfl (by first | decide | omega)) rfl rfl ?_ | refine AWo.pure (PureOp.arr tbok rfl rfl rfl rfl (by first | decide | omega)) rfl rfl ?_
                refine AWo.load tbok rfl rfl rfl rfl rfl rfl ?_
                refine AWo.callX (cmpD_ctr (x := z) (y := N * 2 ^ 7) (hL _ (by omega)) (hL _ (by omega))) bd34 [(77000, 0), (21007, 0)] [] rfl (.cons rfl (.cons rfl .nil)) rfl (.cons rfl rfl (.cons rfl rfl .nil)) (.flat rfl (by first | exact flatM flat_vi | exact flatM flat_bool | (simp [flatV, flat_vi]; done)) (by intro h; first | exact h | rfl) (.flat rfl (by first | exact flatM flat_vi | exact flatM flat_bool | (simp [flatV, flat_vi]; done)) (by intro h; first | exact h | rfl) .nil)) rfl (.keep rfl (.keep rfl .nil)) frN (by decide) (.cons rfl rfl .nil) rfl rfl rfl rfl ?_
                first | refine AWo.pure (PureOp.geP rfl rfl) rfl rfl ?_ | refine AWo.pure (PureOp.geN (b := 0) rfl rfl) rfl rfl ?_ | refine AWo.pure (PureOp.bin rfl rfl rfl) rfl rfl ?_
                refine AWo.nil trivial ?_
                refine AW.cond rfl (fun hb10 => ?_) (fun hb10 => ?_)
                ·
                  have hge : N * 2 ^ 7 ≤ z := ge_of_cmp (by simpa using hb10)
                  refine AW.region ?_
                  refine AWo.pure (PureOp.move rfl) rfl rfl ?_
                  refine AWo.pure (PureOp.move rfl) rfl rfl ?_
                  first | refine AWo.pure (PureOp.arr1 tbok rfl rfl rfl rfl (by first | decide | omega)) rfl rfl ?_ | refine AWo.pure (PureOp.arr tbok rfl rfl rfl rfl (by first | decide | omega)) rfl rfl ?_
                  refine AWo.load tbok rfl rfl rfl rfl rfl rfl ?_
                  refine AWo.callX (subD_ctr (x := z) (y := N * 2 ^ 7) (hL _ (by omega)) (hL _ (by omega)) hge) bd71 [(77000, 0), (21007, 0)] [67000] rfl (.cons rfl (.cons rfl .nil)) rfl (.cons rfl rfl (.cons rfl rfl .nil)) (.flat rfl (by first | exact flatM flat_vi | exact flatM flat_bool | (simp [flatV, flat_vi]; done)) (by intro h; first | exact h | rfl) (.flat rfl (by first | exact flatM flat_vi | exact flatM flat_bool | (simp [flatV, flat_vi]; done)) (by intro h; first | exact h | rfl) .nil)) rfl (.keep rfl (.keep rfl (.new (flat_map_ren (by first | exact flatM flat_vi | exact flatM flat_bool | (simp [flatV, flat_vi]; done))) (OkL.flat (by first | exact flatM flat_vi | exact flatM flat_bool | (simp [flatV, flat_vi]; done))) .nil))) (frC rfl frN) (by decide) (.cons rfl rfl .nil) rfl rfl rfl rfl ?_
                  refine AWo.pure (PureOp.assign rfl) rfl rfl ?_
                  refine AWo.nil trivial ?_
                  refine inBlockA_normal ?_
                  refine thenA_normal ?_
                  refine AW.region ?_
                  refine AWo.pure (PureOp.move rfl) rfl rfl ?_
                  first | refine AWo.pure (PureOp.subI (b := 1) rfl rfl (by first | decide | omega) (by first | decide | omega)) rfl rfl ?_ | refine AWo.pure (PureOp.subP rfl rfl (by first | decide | omega)) rfl rfl ?_ | refine AWo.pure (PureOp.bin rfl rfl rfl) rfl rfl ?_
                  refine AWo.pure (PureOp.assign rfl) rfl rfl ?_
                  refine AWo.nil trivial ?_
                  refine thenA_normal ?_
                  refine ⟨1 * 7, [(77000, 67000)], _, by omega, ?_, z - N * 2 ^ 7, 7, ⟨by decide, mod_hi hz hge⟩, rfl, rfl⟩
                  refine Wk.of [0, 1, 6000, 21000, 21001, 21002, 21003, 21004, 21005, 21006, 21007, 21008, 77000] ?_ ?_ ?_ (by decide) rfl
                  ·
                    refine WkE.upd rfl (by first | exact VR.flat _ rfl | exact VR.eqv (vp_succ _) rfl | exact VR.eqv (vp_succ _).symm rfl | exact VR.eqv (by first | rfl | (congr 1; omega) | (simp; done) | (simp; omega)) rfl) ?_
                    refine WkE.upd rfl (by first | exact VR.flat _ rfl | exact VR.eqv (vp_succ _) rfl | exact VR.eqv (vp_succ _).symm rfl | exact VR.eqv (by first | rfl | (congr 1; omega) | (simp; done) | (simp; omega)) rfl) ?_
                    refine WkE.upd rfl (.slice (77000) 0 _ 0 ⟨_, rfl⟩ (by simp) (by simp)) ?_
                    refine WkE.upd rfl (.ptr (6000) 0 ⟨_, rfl⟩) ?_
                    refine WkE.upd rfl (.slice (0) 0 _ 0 ⟨_, rfl⟩ (by simp) (by simp)) ?_
                    exact WkE.emp
                  ·
                    refine WkM.flatM rfl (by first | rfl | assumption | simp) (fun _ => rfl) (fun h => h) ?_
                    refine WkM.flatM rfl (by first | rfl | assumption | simp) (fun _ => rfl) (fun h => h) ?_
                    refine WkM.flatM rfl (by first | rfl | assumption | simp) (fun _ => rfl) (fun h => h) ?_
                    refine WkM.flatM rfl (by first | rfl | assumption | simp) (fun _ => rfl) (fun h => h) ?_
                    refine WkM.flatM rfl (by first | rfl | assumption | simp) (fun _ => rfl) (fun h => h) ?_
                    refine WkM.flatM rfl (by first | rfl | assumption | simp) (fun _ => rfl) (fun h => h) ?_
                    refine WkM.flatM rfl (by first | rfl | assumption | simp) (fun _ => rfl) (fun h => h) ?_
                    refine WkM.flatM rfl (by first | rfl | assumption | simp) (fun _ => rfl) (fun h => h) ?_
                    refine WkM.flatM rfl (by first | rfl | assumption | simp) (fun _ => rfl) (fun h => h) ?_
                    refine WkM.flatM rfl (by first | rfl | assumption | simp) (fun _ => rfl) (fun h => h) ?_
                    refine WkM.ren [21000, 21001, 21002, 21003, 21004, 21005, 21006, 21007, 21008] rfl rfl rfl (dom_all rfl) (fun h => h) ?_
                    refine WkM.flatM rfl (by first | rfl | assumption | simp) (fun _ => rfl) (fun h => h) ?_
                    refine WkM.flatM rfl (by first | rfl | assumption | simp) (fun _ => rfl) (fun h => h) ?_
                    exact WkM.emp
                  ·
                    repeat (refine dom_upd_mem (by decide) ?_)
                    exact dom_emp
                ·
                  have hlt : z < N * 2 ^ 7 := lt_of_cmp (by simpa using hb10)
                  refine AW.skip ?_
                  refine inBlockA_normal ?_
                  refine thenA_normal ?_
                  refine AW.region ?_
                  refine AWo.pure (PureOp.move rfl) rfl rfl ?_
                  first | refine AWo.pure (PureOp.subI (b := 1) rfl rfl (by first | decide | omega) (by first | decide | omega)) rfl rfl ?_ | refine AWo.pure (PureOp.subP rfl rfl (by first | decide | omega)) rfl rfl ?_ | refine AWo.pure (PureOp.bin rfl rfl rfl) rfl rfl ?_
                  refine AWo.pure (PureOp.assign rfl) rfl rfl ?_
                  refine AWo.nil trivial ?_
                  refine thenA_normal ?_
                  refine ⟨1 * 7, [(77000, 77000)], _, by omega, ?_, z, 7, ⟨by decide, mod_lo hz hlt⟩, rfl, rfl⟩
                  refine Wk.of [0, 1, 6000, 21000, 21001, 21002, 21003, 21004, 21005, 21006, 21007, 21008, 77000] ?_ ?_ ?_ (by decide) rfl
                  ·
                    refine WkE.upd rfl (by first | exact VR.flat _ rfl | exact VR.eqv (vp_succ _) rfl | exact VR.eqv (vp_succ _).symm rfl | exact VR.eqv (by first | rfl | (congr 1; omega) | (simp; done) | (simp; omega)) rfl) ?_
                    refine WkE.upd rfl (by first | exact VR.flat _ rfl | exact VR.eqv (vp_succ _) rfl | exact VR.eqv (vp_succ _).symm rfl | exact VR.eqv (by first | rfl | (congr 1; omega) | (simp; done) | (simp; omega)) rfl) ?_
                    refine WkE.upd rfl (.slice (77000) 0 _ 0 ⟨_, rfl⟩ (by simp) (by simp)) ?_
                    refine WkE.upd rfl (.ptr (6000) 0 ⟨_, rfl⟩) ?_
                    refine WkE.upd rfl (.slice (0) 0 _ 0 ⟨_, rfl⟩ (by simp) (by simp)) ?_
                    exact WkE.emp
                  ·
                    refine WkM.flatM rfl (by first | rfl | assumption | simp) (fun _ => rfl) (fun h => h) ?_
                    refine WkM.flatM rfl (by first | rfl | assumption | simp) (fun _ => rfl) (fun h => h) ?_
                    refine WkM.flatM rfl (by first | rfl | assumption | simp) (fun _ => rfl) (fun h => h) ?_
                    refine WkM.flatM rfl (by first | rfl | assumption | simp) (fun _ => rfl) (fun h => h) ?_
                    refine WkM.flatM rfl (by first | rfl | assumption | simp) (fun _ => rfl) (fun h => h) ?_
                    refine WkM.flatM rfl (by first | rfl | assumption | simp) (fun _ => rfl) (fun h => h) ?_
                    refine WkM.flatM rfl (by first | rfl | assumption | simp) (fun _ => rfl) (fun h => h) ?_
                    refine WkM.flatM rfl (by first | rfl | assumption | simp) (fun _ => rfl) (fun h => h) ?_
                    refine WkM.flatM rfl (by first | rfl | assumption | simp) (fun _ => rfl) (fun h => h) ?_
                    refine WkM.flatM rfl (by first | rfl | assumption | simp) (fun _ => rfl) (fun h => h) ?_
                    refine WkM.ren [21000, 21001, 21002, 21003, 21004, 21005, 21006, 21007, 21008] rfl rfl rfl (dom_all rfl) (fun h => h) ?_
                    refine WkM.flatM rfl (by first | rfl | assumption | simp) (fun _ => rfl) (fun h => h) ?_
                    refine WkM.flatM rfl (by first | rfl | assumption | simp) (fun _ => rfl) (fun h => h) ?_
                    exact WkM.emp
                  ·
                    repeat (refine dom_upd_mem (by decide) ?_)
                    exact dom_emp
              ·
                rw [show vp 9 = vi .i64 8 from rfl]
                have hzl : z < N * 2 ^ 9 := by rw [hz]; exact Nat.mod_lt _ (Nat.mul_pos hN (by decide))
                refine AW.skip ?_
                refine thenA_normal ?_
                refine AW.seq ?_
                refine AW.block ?_
                refine AW.seqR ?_
                refine AWo.pure (PureOp.move rfl) rfl rfl ?_
                refine AWo.pure (PureOp.move rfl) rfl rfl ?_
                first | refine AWo.pure (PureOp.arr1 tbok rfl rfl rfl rfl (by first | decide | omega)) rfl rfl ?_ | refine AWo.pure (PureOp.arr tbok rfl rfl rfl rfl (by first | decide | omega)) rfl rfl ?_
                refine AWo.load tbok rfl rfl rfl rfl rfl rfl ?_
                refine AWo.callX (cmpD_ctr (x := z) (y := N * 2 ^ 8) (hL _ (by omega)) (hL _ (by omega))) bd34 [(77000, 0), (21008, 0)] [] rfl (.cons rfl (.cons rfl .nil)) rfl (.cons rfl rfl (.cons rfl rfl .nil)) (.flat rfl (by first | exact flatM flat_vi | exact flatM flat_bool | (simp [flatV, flat_vi]; done)) (by intro h; first | exact h | rfl) (.flat rfl (by first | exact flatM flat_vi | exact flatM flat_bool | (simp [flatV, flat_vi]; done)) (by intro h; first | exact h | rfl) .nil)) rfl (.keep rfl (.keep rfl .nil)) frN (by decide) (.cons rfl rfl .nil) rfl rfl rfl rfl ?_
                first | refine AWo.pure (PureOp.geP rfl rfl) rfl rfl ?_ | refine AWo.pure (PureOp.geN (b := 0) rfl rfl) rfl rfl ?_ | refine AWo.pure (PureOp.bin rfl rfl rfl) rfl rfl ?_
                refine AWo.nil trivial ?_
                refine AW.cond rfl (fun hb11 => ?_) (fun hb11 => ?_)
                ·
                  have hge : N * 2 ^ 8 ≤ z := ge_of_cmp (by simpa using hb11)
                  refine AW.region ?_
                  refine AWo.pure (PureOp.move rfl) rfl rfl ?_
                  refine AWo.pure (PureOp.move rfl) rfl rfl ?_
                  first | refine AWo.pure (PureOp.arr1 tbok rfl rfl rfl rfl (by first | decide | omega)) rfl rfl ?_ | refine AWo.pure (PureOp.arr tbok rfl rfl rfl rfl (by first | decide | omega)) rfl rfl ?_
                  refine AWo.load tbok rfl rfl rfl rfl rfl rfl ?_
                  refine AWo.callX (subD_ctr (x := z) (y := N * 2 ^ 8) (hL _ (by omega)) (hL _ (by omega)) hge) bd71 [(77000, 0), (21008, 0)] [67000] rfl (.cons rfl (.cons rfl .nil)) rfl (.cons rfl rfl (.cons rfl rfl .nil)) (.flat rfl (by first | exact flatM flat_vi | exact flatM flat_bool | (simp [flatV, flat_vi]; done)) (by intro h; first | exact h | rfl) (.flat rfl (by first | exact flatM flat_vi | exact flatM flat_bool | (simp [flatV, flat_vi]; done)) (by intro h; first | exact h | rfl) .nil)) rfl (.keep rfl (.keep rfl (.new (flat_map_ren (by first | exact flatM flat_vi | exact flatM flat_bool | (simp [flatV, flat_vi]; done))) (OkL.flat (by first | exact flatM flat_vi | exact flatM flat_bool | (simp [flatV, flat_vi]; done))) .nil))) (frC rfl frN) (by decide) (.cons rfl rfl .nil) rfl rfl rfl rfl ?_
                  refine AWo.pure (PureOp.assign rfl) rfl rfl ?_
                  refine AWo.nil trivial ?_
                  refine inBlockA_normal ?_
                  refine thenA_normal ?_
                  refine AW.region ?_
                  refine AWo.pure (PureOp.move rfl) rfl rfl ?_
                  first | refine AWo.pure (PureOp.subI (b := 1) rfl rfl (by first | decide | omega) (by first | decide | omega)) rfl rfl ?_ | refine AWo.pure (PureOp.subP rfl rfl (by first | decide | omega)) rfl rfl ?_ | refine AWo.pure (PureOp.bin rfl rfl rfl) rfl rfl ?_
                  refine AWo.pure (PureOp.assign rfl) rfl rfl ?_
                  refine AWo.nil trivial ?_
                  refine thenA_normal ?_
                  refine ⟨1 * 8, [(77000, 67000)], _, by omega, ?_, z - N * 2 ^ 8, 8, ⟨by decide, mod_hi hz hge⟩, rfl, rfl⟩
                  refine Wk.of [0, 1, 6000, 21000, 21001, 21002, 21003, 21004, 21005, 21006, 21007, 21008, 77000] ?_ ?_ ?_ (by decide) rfl
                  ·
                    refine WkE.upd rfl (by first | exact VR.flat _ rfl | exact VR.eqv (vp_succ _) rfl | exact VR.eqv (vp_succ _).symm rfl | exact VR.eqv (by first | rfl | (congr 1; omega) | (simp; done) | (simp; omega)) rfl) ?_
                    refine WkE.upd rfl (by first | exact VR.flat _ rfl | exact VR.eqv (vp_succ _) rfl | exact VR.eqv (vp_succ _).symm rfl | exact VR.eqv (by first | rfl | (congr 1; omega) | (simp; done) | (simp; omega)) rfl) ?_
                    refine WkE.upd rfl (.slice (77000) 0 _ 0 ⟨_, rfl⟩ (by simp) (by simp)) ?_
                    refine WkE.upd rfl (.ptr (6000) 0 ⟨_, rfl⟩) ?_
                    refine WkE.upd rfl (.slice (0) 0 _ 0 ⟨_, rfl⟩ (by simp) (by simp)) ?_
                    exact WkE.emp
                  ·
                    refine WkM.flatM rfl (by first | rfl | assumption | simp) (fun _ => rfl) (fun h => h) ?_
                    refine WkM.flatM rfl (by first | rfl | assumption | simp) (fun _ => rfl) (fun h => h) ?_
                    refine WkM.flatM rfl (by first | rfl | assumption | simp) (fun _ => rfl) (fun h => h) ?_
                    refine WkM.flatM rfl (by first | rfl | assumption | simp) (fun _ => rfl) (fun h => h) ?_
                    refine WkM.flatM rfl (by first | rfl | assumption | simp) (fun _ => rfl) (fun h => h) ?_
                    refine WkM.flatM rfl (by first | rfl | assumption | simp) (fun _ => rfl) (fun h => h) ?_
                    refine WkM.flatM rfl (by first | rfl | assumption | simp) (fun _ => rfl) (fun h => h) ?_
                    refine WkM.flatM rfl (by first | rfl | assumption | simp) (fun _ => rfl) (fun h => h) ?_
                    refine WkM.flatM rfl (by first | rfl | assumption | simp) (fun _ => rfl) (fun h => h) ?_
                    refine WkM.flatM rfl (by first | rfl | assumption | simp) (fun _ => rfl) (fun h => h) ?_
                    refine WkM.ren [21000, 21001, 21002, 21003, 21004, 21005, 21006, 21007, 21008] rfl rfl rfl (dom_all rfl) (fun h => h) ?_
                    refine WkM.flatM rfl (by first | rfl | assumption | simp) (fun _ => rfl) (fun h => h) ?_
                    refine WkM.flatM rfl (by first | rfl | assumption | simp) (fun _ => rfl) (fun h => h) ?_
                    exact WkM.emp
                  ·
                    repeat (refine dom_upd_mem (by decide) ?_)
                    exact dom_emp
                ·
                  have hlt : z < N * 2 ^ 8 := lt_of_cmp (by simpa using hb11)
                  refine AW.skip ?_
                  refine inBlockA_normal ?_
                  refine thenA_normal ?_
                  refine AW.region ?_
                  refine AWo.pure (PureOp.move rfl) rfl rfl ?_
                  first | refine AWo.pure (PureOp.subI (b := 1) rfl rfl (by first | decide | omega) (by first | decide | omega)) rfl rfl ?_ | refine AWo.pure (PureOp.subP rfl rfl (by first | decide | omega)) rfl rfl ?_ | refine AWo.pure (PureOp.bin rfl rfl rfl) rfl rfl ?_
                  refine AWo.pure (PureOp.assign rfl) rfl rfl ?_
                  refine AWo.nil trivial ?_
                  refine thenA_normal ?_
                  refine ⟨1 * 8, [(77000, 77000)], _, by omega, ?_, z, 8, ⟨by decide, mod_lo hz hlt⟩, rfl, rfl⟩
                  refine Wk.of [0, 1, 6000, 21000, 21001, 21002, 21003, 21004, 21005, 21006, 21007, 21008, 77000] ?_ ?_ ?_ (by decide) rfl
                  ·
                    refine WkE.upd rfl (by first | exact VR.flat _ rfl | exact VR.eqv (vp_succ _) rfl | exact VR.eqv (vp_succ _).symm rfl | exact VR.eqv (by first | rfl | (congr 1; omega) | (simp; done) | (simp; omega)) rfl) ?_
                    refine WkE.upd rfl (by first | exact VR.flat _ rfl | exact VR.eqv (vp_succ _) rfl | exact VR.eqv (vp_succ _).symm rfl | exact VR.eqv (by first | rfl | (congr 1; omega) | (simp; done) | (simp; omega)) rfl) ?_
                    refine WkE.upd rfl (.slice (77000) 0 _ 0 ⟨_, rfl⟩ (by simp) (by simp)) ?_
                    refine WkE.upd rfl (.ptr (6000) 0 ⟨_, rfl⟩) ?_
                    refine WkE.upd rfl (.slice (0) 0 _ 0 ⟨_, rfl⟩ (by simp) (by simp)) ?_
                    exact WkE.emp
                  ·
                    refine WkM.flatM rfl (by first | rfl | assumption | simp) (fun _ => rfl) (fun h => h) ?_
                    refine WkM.flatM rfl (by first | rfl | assumption | simp) (fun _ => rfl) (fun h => h) ?_
                    refine WkM.flatM rfl (by first | rfl | assumption | simp) (fun _ => rfl) (fun h => h) ?_
                    refine WkM.flatM rfl (by first | rfl | assumption | simp) (fun _ => rfl) (fun h => h) ?_
                    refine WkM.flatM rfl (by first | rfl | assumption | simp) (fun _ => rfl) (fun h => h) ?_
                    refine WkM.flatM rfl (by first | rfl | assumption | simp) (fun _ => rfl) (fun h => h) ?_
                    refine WkM.flatM rfl (by first | rfl | assumption | simp) (fun _ => rfl) (fun h => h) ?_
                    refine WkM.flatM rfl (by first | rfl | assumption | simp) (fun _ => rfl) (fun h => h) ?_
                    refine WkM.flatM rfl (by first | rfl | assumption | simp) (fun _ => rfl) (fun h => h) ?_
                    refine WkM.flatM rfl (by first | rfl | assumption | simp) (fun _ => rfl) (fun h => h) ?_
                    refine WkM.ren [21000, 21001, 21002, 21003, 21004, 21005, 21006, 21007, 21008] rfl rfl rfl (dom_all rfl) (fun h => h) ?_
                    refine WkM.flatM rfl (by first | rfl | assumption | simp) (fun _ => rfl) (fun h => h) ?_
                    refine WkM.flatM rfl (by first | rfl | assumption | simp) (fun _ => rfl) (fun h => h) ?_
                    exact WkM.emp
                  ·
                    repeat (refine dom_upd_mem (by decide) ?_)
                    exact dom_emp
            ·
              obtain rfl : k = 0 := by simpa using hb2
              have hzy : z = x / 256 ^ r % N := by rw [hz, hy, Nat.pow_zero, Nat.mul_one]; exact mod_byte
              refine AW.exit ?_
              refine thenA_exit ?_
              refine thenA_exit ?_
              refine inBlockA_hit ?_
              refine inBlockA_normal ?_
              refine thenA_normal ?_
              refine AW.region ?_
              refine AWo.pure (PureOp.move rfl) rfl rfl ?_
              first | refine AWo.pure (PureOp.subI (b := 1) rfl rfl (by first | decide | omega) (by first | decide | omega)) rfl rfl ?_ | refine AWo.pure (PureOp.subP rfl rfl (by first | decide | omega)) rfl rfl ?_ | refine AWo.pure (PureOp.bin rfl rfl rfl) rfl rfl ?_
              refine AWo.pure (PureOp.assign rfl) rfl rfl ?_
              refine AWo.nil trivial ?_
              refine thenA_normal ?_
              refine ⟨1 * r, [(77000, 77000)], _, by omega, ?_, z, r, ⟨by omega, hzy⟩, rfl, rfl⟩
              refine Wk.of [0, 1, 6000, 21000, 21001, 21002, 21003, 21004, 21005, 21006, 21007, 21008, 77000] ?_ ?_ ?_ (by decide) rfl
              ·
                refine WkE.upd rfl (by first | exact VR.flat _ rfl | exact VR.eqv (vp_succ _) rfl | exact VR.eqv (vp_succ _).symm rfl | exact VR.eqv (by first | rfl | (congr 1; omega) | (simp; done) | (simp; omega)) rfl) ?_
                refine WkE.upd rfl (.slice (77000) 0 _ 0 ⟨_, rfl⟩ (by simp) (by simp)) ?_
                refine WkE.upd rfl (.ptr (6000) 0 ⟨_, rfl⟩) ?_
                refine WkE.upd rfl (.slice (0) 0 _ 0 ⟨_, rfl⟩ (by simp) (by simp)) ?_
                exact WkE.emp
              ·
                refine WkM.flatM rfl rfl flat_vi (fun h => h) ?_
                refine WkM.flatM rfl (by first | rfl | assumption | simp) (fun _ => rfl) (fun h => h) ?_
                refine WkM.flatM rfl (by first | rfl | assumption | simp) (fun _ => rfl) (fun h => h) ?_
                refine WkM.flatM rfl (by first | rfl | assumption | simp) (fun _ => rfl) (fun h => h) ?_
                refine WkM.flatM rfl (by first | rfl | assumption | simp) (fun _ => rfl) (fun h => h) ?_
                refine WkM.flatM rfl (by first | rfl | assumption | simp) (fun _ => rfl) (fun h => h) ?_
                refine WkM.flatM rfl (by first | rfl | assumption | simp) (fun _ => rfl) (fun h => h) ?_
                refine WkM.flatM rfl (by first | rfl | assumption | simp) (fun _ => rfl) (fun h => h) ?_
                refine WkM.flatM rfl (by first | rfl | assumption | simp) (fun _ => rfl) (fun h => h) ?_
                refine WkM.flatM rfl (by first | rfl | assumption | simp) (fun _ => rfl) (fun h => h) ?_
                refine WkM.ren [21000, 21001, 21002, 21003, 21004, 21005, 21006, 21007, 21008] rfl rfl rfl (dom_all rfl) (fun h => h) ?_
                refine WkM.flatM rfl (by first | rfl | assumption | simp) (fun _ => rfl) (fun h => h) ?_
                refine WkM.flatM rfl (by first | rfl | assumption | simp) (fun _ => rfl) (fun h => h) ?_
                exact WkM.emp
              ·
                repeat (refine dom_upd_mem (by decide) ?_)
                exact dom_emp
    ·
      obtain rfl : r = 0 := by simpa using hb0
      rw [Nat.pow_zero, Nat.div_one] at hy
      subst hy
      refine AW.exit ?_
      refine thenA_exit ?_
      refine thenA_exit ?_
      refine inBlockA_hit ?_
      refine thenA_normal ?_
      refine AW.seqR ?_
      refine AWo.pure (PureOp.move rfl) rfl rfl ?_
      refine AWo.pure (PureOp.assign rfl) rfl rfl ?_
      refine AWo.nil trivial ?_
      refine AW.ret ?_
      refine RetQ.gc [_] [77000] [.tmp 4] (.inl rfl) rfl (.tmp rfl .nil) rfl (.cons rfl rfl .nil) (OutL.flat rfl (by first | exact flatM flat_vi | exact flatM flat_bool | (simp [flatV, flat_vi]; done)) (by intro h; first | rfl | exact h.elim id fun h => absurd h.1 (by simp)) (OutL.flat rfl (by first | exact flatM flat_vi | exact flatM flat_bool | (simp [flatV, flat_vi]; done)) (by intro h; first | rfl | exact h.elim id fun h => absurd h.1 (by simp)) (OutL.flat rfl (by first | exact flatM flat_vi | exact flatM flat_bool | (simp [flatV, flat_vi]; done)) (by intro h; first | rfl | exact h.elim id fun h => absurd h.1 (by simp)) trivial))) (by decide) rfl
end Go.Proofs.Ytiikffiembcboaa
