/- What the proof stands on, part 4: the walk of each function, and plain laws of numbers. -/
import Derived.Test.YtiikffiembcboaaK3
import Derived.Test.YtiikffiembcboaaRows
import Derived.ProofKit
namespace Go.Proofs.Ytiikffiembcboaa
open Go Sim
theorem addD_ctr {x y : Nat} (hlx : (D 4294967296 x).length < 100000000) (hly : (D 4294967296 y).length < 100000000) : GC Try.prog 70 [.slice (some ⟨0, 0, none⟩) (D 4294967296 x).length 0, .slice (some ⟨1, 0, none⟩) (D 4294967296 y).length 0] [⟨(D 4294967296 x).map (vi .u64), false, 1⟩, ⟨(D 4294967296 y).map (vi .u64), false, 1⟩] [.slice (some ⟨2, 0, none⟩) (D 4294967296 (x + y)).length 0] [⟨(D 4294967296 x).map (vi .u64), false, 1⟩, ⟨(D 4294967296 y).map (vi .u64), false, 1⟩, ⟨(D 4294967296 (x + y)).map (vi .u64), true, 1⟩] := by
 have h := radd_ctr (a := D 4294967296 x) (b := D 4294967296 y) (bd_D (by decide) _) (bd_D (by decide) _) hlx hly
 simp only [num_D (show 2 ≤ 4294967296 by decide)] at h
 exact h
theorem subD_ctr {x y : Nat} (hlx : (D 4294967296 x).length < 100000000) (hly : (D 4294967296 y).length < 100000000) (h : y ≤ x) : GC Try.prog 71 [.slice (some ⟨0, 0, none⟩) (D 4294967296 x).length 0, .slice (some ⟨1, 0, none⟩) (D 4294967296 y).length 0] [⟨(D 4294967296 x).map (vi .u64), false, 1⟩, ⟨(D 4294967296 y).map (vi .u64), false, 1⟩] [.slice (some ⟨2, 0, none⟩) (D 4294967296 (x - y)).length 0] [⟨(D 4294967296 x).map (vi .u64), false, 1⟩, ⟨(D 4294967296 y).map (vi .u64), false, 1⟩, ⟨(D 4294967296 (x - y)).map (vi .u64), true, 1⟩] := by
 have h := rsub_ctr (a := D 4294967296 x) (b := D 4294967296 y) (bd_D (by decide) _) (bd_D (by decide) _) hlx hly (by rw [num_D (by decide), num_D (by decide)]; exact h)
 simp only [num_D (show 2 ≤ 4294967296 by decide)] at h
 exact h
theorem cmpD_ctr {x y : Nat} (hlx : (D 4294967296 x).length < 100000000) (hly : (D 4294967296 y).length < 100000000) : GC Try.prog 34 [.slice (some ⟨0, 0, none⟩) (D 4294967296 x).length 0, .slice (some ⟨1, 0, none⟩) (D 4294967296 y).length 0] [⟨(D 4294967296 x).map (vi .u64), false, 1⟩, ⟨(D 4294967296 y).map (vi .u64), false, 1⟩] [.int .i64 (cmpI x y)] [⟨(D 4294967296 x).map (vi .u64), false, 1⟩, ⟨(D 4294967296 y).map (vi .u64), false, 1⟩] := by
 have h := rcmp_ctr (a := D 4294967296 x) (b := D 4294967296 y) (bd_D (by decide) _) (bd_D (by decide) _) (Nat.lt_trans hlx (by decide)) (Nat.lt_trans hly (by decide))
 simp only [num_D (show 2 ≤ 4294967296 by decide)] at h
 exact h
theorem shiftD_ctr {x k : Nat} (hlx : (D 4294967296 x).length < 100000000) (hk : k < 32) : GC Try.prog 131 [.slice (some ⟨0, 0, none⟩) (D 4294967296 x).length 0, vi .i64 (k)] [⟨(D 4294967296 x).map (vi .u64), false, 1⟩] [.slice (some ⟨1, 0, none⟩) (D 4294967296 (x * 2 ^ k)).length 0] [⟨(D 4294967296 x).map (vi .u64), false, 1⟩, ⟨(D 4294967296 (x * 2 ^ k)).map (vi .u64), true, 1⟩] := by
 have h := shift_ctr (a := D 4294967296 x) (k := k) (bd_D (by decide) _) hlx hk
 simp only [num_D (show 2 ≤ 4294967296 by decide)] at h
 exact h
theorem mul256_ctr {x : Nat} (hlx : (D 4294967296 x).length < 100000000) : GC Try.prog 72 [.slice (some ⟨0, 0, none⟩) (D 4294967296 x).length 0, .slice (some ⟨1, 0, none⟩) ([256]).length 0] [⟨(D 4294967296 x).map (vi .u64), false, 1⟩, ⟨([256]).map (vi .u64), false, 1⟩] [.slice (some ⟨2, 0, none⟩) (D 4294967296 (x * 256)).length 0] [⟨(D 4294967296 x).map (vi .u64), false, 1⟩, ⟨([256]).map (vi .u64), false, 1⟩, ⟨(D 4294967296 (x * 256)).map (vi .u64), true, 1⟩] := by
 have h := rmul_ctr (a := D 4294967296 x) (b := [256]) (bd_D (by decide) _) (fun y hy => by simp at hy; rw [hy]; decide) hlx (by decide)
 rw [num_D (by decide), show num 4294967296 [256] = 256 from rfl] at h
 exact h
theorem num_one {B : Nat} (x : Nat) : num B [x] = x := by simp [num]
theorem bd_byte (v : Nat) : bd 4294967296 [v % 256] := fun y hy => by simp at hy; rw [hy]; exact Nat.lt_trans (Nat.mod_lt _ (by decide)) (by decide)
theorem num_byte (v : Nat) : num 4294967296 [v % 256] = v % 256 := @num_one 4294967296 (v % 256)
theorem byteD (x r : Nat) : (D 4294967296 x).getD (r / 4) 0 / 256 ^ (r % 4) % 256 = x / 256 ^ r % 256 := by
 rw [D_getD (by decide)]
 have hd : x / 256 ^ r = x / 4294967296 ^ (r / 4) / 256 ^ (r % 4) := by
  rw [Nat.div_div_eq_div_mul, show (4294967296 : Nat) = 256 ^ 4 from by decide, ← Nat.pow_mul, ← Nat.pow_add, Nat.div_add_mod]
 rw [hd]
 generalize x / 4294967296 ^ (r / 4) = z
 have hj : r % 4 < 4 := Nat.mod_lt _ (by decide)
 generalize r % 4 = j at hj
 have e : 4294967296 = 256 ^ j * (256 * 256 ^ (3 - j)) := by
  rw [← Nat.mul_assoc, Nat.mul_right_comm, ← Nat.pow_add, show j + (3 - j) = 3 by omega]
 rw [e, Nat.mod_mul_right_div_self, Nat.mod_mul_right_mod]
theorem mod_room {N : Nat} (h : (D 4294967296 N).length < 1000000) : ∀ z, z < N * 512 → (D 4294967296 z).length < 100000000 := fun z hz => by
 have h1 : N < 4294967296 ^ (D 4294967296 N).length := (D_len_le (B := 4294967296) (by decide) N _).1 (Nat.le_refl _)
 have h2 : z < 4294967296 ^ ((D 4294967296 N).length + 1) := Nat.lt_of_lt_of_le hz (by rw [Nat.pow_succ]; exact Nat.mul_le_mul (Nat.le_of_lt h1) (by decide))
 have := (D_len_le (B := 4294967296) (by decide) z _).2 h2
 omega
theorem mod_top {N : Nat} (x : Nat) : x / 256 ^ (4 * (D 4294967296 x).length) % N = 0 := by
 have h1 : x < 4294967296 ^ (D 4294967296 x).length := (D_len_le (B := 4294967296) (by decide) x _).1 (Nat.le_refl _)
 rw [Nat.pow_mul, show (256 : Nat) ^ 4 = 4294967296 from by decide, Nat.div_eq_of_lt h1, Nat.zero_mod]
theorem mod_small {x y r N : Nat} (h : y < N) : y * 256 + x / 256 ^ r % 256 < N * 2 ^ 9 := by
 have h2 := Nat.mod_lt (x / 256 ^ r) (show 0 < 256 by decide)
 omega
theorem mod_two (v M : Nat) : v % (M * 2) = v % M + M * (v / M % 2) := Nat.mod_mul
theorem mod_lo {v N k z : Nat} (hz : z = v % (N * 2 ^ (k + 1))) (h : z < N * 2 ^ k) : z = v % (N * 2 ^ k) := by
 have h1 := mod_two v (N * 2 ^ k)
 rw [Nat.mul_assoc, ← Nat.pow_succ] at h1
 rw [h1] at hz
 rcases Nat.mod_two_eq_zero_or_one (v / (N * 2 ^ k)) with h2 | h2
 · rw [hz, h2]; rfl
 · rw [h2] at hz; omega
theorem mod_hi {v N k z : Nat} (hz : z = v % (N * 2 ^ (k + 1))) (h : N * 2 ^ k ≤ z) : z - N * 2 ^ k = v % (N * 2 ^ k) := by
  have h1 := mod_two v (N * 2 ^ k)
  rw [Nat.mul_assoc, ← Nat.pow_succ] at h1
  rw [h1] at hz
  rcases Nat.mod_two_eq_zero_or_one (v / (N * 2 ^ k)) with h2 | h2
  · rcases Nat.eq_zero_or_pos (N * 2 ^ k) with h3 | h3
    · rw [h3] at hz ⊢; rw [hz]; simp
    · have := Nat.mod_lt v h3
      rw [h2] at hz; omega
  · rw [h2] at hz; omega
theorem mod_byte {x r N : Nat} : (x / 256 ^ (r + 1) % N * 256 + x / 256 ^ r % 256) % N = x / 256 ^ r % N := by
 have e : x / 256 ^ r = x / 256 ^ (r + 1) * 256 + x / 256 ^ r % 256 := by
  rw [Nat.pow_succ, ← Nat.div_div_eq_div_mul]
  omega
 generalize x / 256 ^ r % 256 = b at *
 generalize x / 256 ^ (r + 1) = y at *
 rw [e, Nat.add_mod, Nat.mod_mul_mod, ← Nat.add_mod]
set_option maxRecDepth 10000 in
theorem modD_ctr {x N : Nat} (hN : 0 < N) (hlx : (D 4294967296 x).length < 1000000) (hlN : (D 4294967296 N).length < 1000000) : GC Try.prog 67 [.slice (some ⟨0, 0, none⟩) (D 4294967296 x).length 0, .slice (some ⟨1, 0, none⟩) (D 4294967296 N).length 0] [⟨(D 4294967296 x).map (vi .u64), false, 1⟩, ⟨(D 4294967296 N).map (vi .u64), false, 1⟩] [.slice (some ⟨2, 0, none⟩) (D 4294967296 (x % N)).length 0] [⟨(D 4294967296 x).map (vi .u64), false, 1⟩, ⟨(D 4294967296 N).map (vi .u64), false, 1⟩, ⟨(D 4294967296 (x % N)).map (vi .u64), true, 1⟩] := by
 refine gi Try.func67 ?_
 have hL := mod_room hlN
 refine zS ?_
 refine yA ?_
 refine zN (zS ?_)
 refine yP (PureOp.buildArr tbok [] rfl rfl rfl (by decide) rfl rfl) ?_
 refine yN 6000 1 _ ?_
 refine ySA ?_
 refine zN (zQ (zS ?_))
 refine yA ?_
 refine zN (zB ?_)
 refine AW.rounds 10 ?_
 refine roundsA_succ ?_
 refine zQ (zS ?_)
 refine yM ?_
 refine yP (pLt (b := 9)) ?_
 refine zN (zC (zK (zT (zQ (zB (zR ?_))))))
 refine yM ?_
 refine yM ?_
 refine yM ?_
 refine yC (shiftD_ctr (x := N) (k := 0) (Nat.lt_trans hlN (by decide)) (by decide)) bd131 [(1, 0)] [21000] ?_
 refine yP pA ?_
 refine AWo.store1 tbok rfl rfl rfl rfl rfl (by simp [Value.cells]) rfl rfl ?_
 refine zN (zL (zT (zR ?_)))
 refine yM ?_
 refine yP (pAdd (b := 1)) ?_
 refine yA ?_
 refine zN (zT ?_)
 refine roundsA_succ ?_
 refine zQ (zS ?_)
 refine yM ?_
 refine yP (pLt (b := 9)) ?_
 refine zN (zC (zK (zT (zQ (zB (zR ?_))))))
 refine yM ?_
 refine yM ?_
 refine yM ?_
 refine yC (shiftD_ctr (x := N) (k := 1) (Nat.lt_trans hlN (by decide)) (by decide)) bd131 [(1, 0)] [21001] ?_
 refine yP pA ?_
 refine AWo.store1 tbok rfl rfl rfl rfl rfl (by simp [Value.cells]) rfl rfl ?_
 refine zN (zL (zT (zR ?_)))
 refine yM ?_
 refine yP (pAdd (b := 1)) ?_
 refine yA ?_
 refine zN (zT ?_)
 refine roundsA_succ ?_
 refine zQ (zS ?_)
 refine yM ?_
 refine yP (pLt (b := 9)) ?_
 refine zN (zC (zK (zT (zQ (zB (zR ?_))))))
 refine yM ?_
 refine yM ?_
 refine yM ?_
 refine yC (shiftD_ctr (x := N) (k := 2) (Nat.lt_trans hlN (by decide)) (by decide)) bd131 [(1, 0)] [21002] ?_
 refine yP pA ?_
 refine AWo.store1 tbok rfl rfl rfl rfl rfl (by simp [Value.cells]) rfl rfl ?_
 refine zN (zL (zT (zR ?_)))
 refine yM ?_
 refine yP (pAdd (b := 1)) ?_
 refine yA ?_
 refine zN (zT ?_)
 refine roundsA_succ ?_
 refine zQ (zS ?_)
 refine yM ?_
 refine yP (pLt (b := 9)) ?_
 refine zN (zC (zK (zT (zQ (zB (zR ?_))))))
 refine yM ?_
 refine yM ?_
 refine yM ?_
 refine yC (shiftD_ctr (x := N) (k := 3) (Nat.lt_trans hlN (by decide)) (by decide)) bd131 [(1, 0)] [21003] ?_
 refine yP pA ?_
 refine AWo.store1 tbok rfl rfl rfl rfl rfl (by simp [Value.cells]) rfl rfl ?_
 refine zN (zL (zT (zR ?_)))
 refine yM ?_
 refine yP (pAdd (b := 1)) ?_
 refine yA ?_
 refine zN (zT ?_)
 refine roundsA_succ ?_
 refine zQ (zS ?_)
 refine yM ?_
 refine yP (pLt (b := 9)) ?_
 refine zN (zC (zK (zT (zQ (zB (zR ?_))))))
 refine yM ?_
 refine yM ?_
 refine yM ?_
 refine yC (shiftD_ctr (x := N) (k := 4) (Nat.lt_trans hlN (by decide)) (by decide)) bd131 [(1, 0)] [21004] ?_
 refine yP pA ?_
 refine AWo.store1 tbok rfl rfl rfl rfl rfl (by simp [Value.cells]) rfl rfl ?_
 refine zN (zL (zT (zR ?_)))
 refine yM ?_
 refine yP (pAdd (b := 1)) ?_
 refine yA ?_
 refine zN (zT ?_)
 refine roundsA_succ ?_
 refine zQ (zS ?_)
 refine yM ?_
 refine yP (pLt (b := 9)) ?_
 refine zN (zC (zK (zT (zQ (zB (zR ?_))))))
 refine yM ?_
 refine yM ?_
 refine yM ?_
 refine yC (shiftD_ctr (x := N) (k := 5) (Nat.lt_trans hlN (by decide)) (by decide)) bd131 [(1, 0)] [21005] ?_
 refine yP pA ?_
 refine AWo.store1 tbok rfl rfl rfl rfl rfl (by simp [Value.cells]) rfl rfl ?_
 refine zN (zL (zT (zR ?_)))
 refine yM ?_
 refine yP (pAdd (b := 1)) ?_
 refine yA ?_
 refine zN (zT ?_)
 refine roundsA_succ ?_
 refine zQ (zS ?_)
 refine yM ?_
 refine yP (pLt (b := 9)) ?_
 refine zN (zC (zK (zT (zQ (zB (zR ?_))))))
 refine yM ?_
 refine yM ?_
 refine yM ?_
 refine yC (shiftD_ctr (x := N) (k := 6) (Nat.lt_trans hlN (by decide)) (by decide)) bd131 [(1, 0)] [21006] ?_
 refine yP pA ?_
 refine AWo.store1 tbok rfl rfl rfl rfl rfl (by simp [Value.cells]) rfl rfl ?_
 refine zN (zL (zT (zR ?_)))
 refine yM ?_
 refine yP (pAdd (b := 1)) ?_
 refine yA ?_
 refine zN (zT ?_)
 refine roundsA_succ ?_
 refine zQ (zS ?_)
 refine yM ?_
 refine yP (pLt (b := 9)) ?_
 refine zN (zC (zK (zT (zQ (zB (zR ?_))))))
 refine yM ?_
 refine yM ?_
 refine yM ?_
 refine yC (shiftD_ctr (x := N) (k := 7) (Nat.lt_trans hlN (by decide)) (by decide)) bd131 [(1, 0)] [21007] ?_
 refine yP pA ?_
 refine AWo.store1 tbok rfl rfl rfl rfl rfl (by simp [Value.cells]) rfl rfl ?_
 refine zN (zL (zT (zR ?_)))
 refine yM ?_
 refine yP (pAdd (b := 1)) ?_
 refine yA ?_
 refine zN (zT ?_)
 refine roundsA_succ ?_
 refine zQ (zS ?_)
 refine yM ?_
 refine yP (pLt (b := 9)) ?_
 refine zN (zC (zK (zT (zQ (zB (zR ?_))))))
 refine yM ?_
 refine yM ?_
 refine yM ?_
 refine yC (shiftD_ctr (x := N) (k := 8) (Nat.lt_trans hlN (by decide)) (by decide)) bd131 [(1, 0)] [21008] ?_
 refine yP pA ?_
 refine AWo.store1 tbok rfl rfl rfl rfl rfl (by simp [Value.cells]) rfl rfl ?_
 refine zN (zL (zT (zR ?_)))
 refine yM ?_
 refine yP (pAdd (b := 1)) ?_
 refine yA ?_
 refine zN (zT ?_)
 refine roundsA_succ ?_
 refine zQ (zS ?_)
 refine yM ?_
 refine yP (pLt (b := 9)) ?_
 refine zN (zF (zX (zV (zV (zH (zT (zS ?_)))))))
 refine AWo.buildSlice tbok 23000 [] (out := []) rfl rfl (by decide) rfl rfl rfl (by decide) rfl rfl rfl rfl rfl ?_
 refine yA ?_
 refine zN (zQ (zS ?_))
 refine yM ?_
 refine yP pL ?_
 refine yP (PureOp.mulI (b := 4) rfl rfl (by omega)) ?_
 refine yP ((PureOp.subP rfl rfl (by omega)).mono (v' := vp (4 * (D 4294967296 x).length)) (by (simp only [vp]; congr 1; omega))) ?_
 refine yA ?_
 refine zN (zB ?_)
 refine AW.loopw (fun mm σ => ∃ y, ∃ r, (r ≤ 4 * (D 4294967296 x).length ∧ y = x / 256 ^ r % N) ∧ mm = 1 * r ∧ σ = ⟨(upd (upd (upd (upd emp 0 (.slice (some ⟨0, 0, none⟩) (D 4294967296 x).length 0)) 5 (.pointer (some ⟨6000, 0, none⟩))) 7 (.slice (some ⟨77000, 0, none⟩) (D 4294967296 (y)).length 0)) 8 (vp r)), (upd (upd (upd (upd (upd (upd (upd (upd (upd (upd (upd (upd (upd emp 0 ⟨(D 4294967296 x).map (vi .u64), false, 1⟩) 1 ⟨(D 4294967296 N).map (vi .u64), false, 1⟩) 6000 ⟨[.slice (some ⟨21000, 0, none⟩) (D 4294967296 (N * 2 ^ 0)).length 0, .slice (some ⟨21001, 0, none⟩) (D 4294967296 (N * 2 ^ 1)).length 0, .slice (some ⟨21002, 0, none⟩) (D 4294967296 (N * 2 ^ 2)).length 0, .slice (some ⟨21003, 0, none⟩) (D 4294967296 (N * 2 ^ 3)).length 0, .slice (some ⟨21004, 0, none⟩) (D 4294967296 (N * 2 ^ 4)).length 0, .slice (some ⟨21005, 0, none⟩) (D 4294967296 (N * 2 ^ 5)).length 0, .slice (some ⟨21006, 0, none⟩) (D 4294967296 (N * 2 ^ 6)).length 0, .slice (some ⟨21007, 0, none⟩) (D 4294967296 (N * 2 ^ 7)).length 0, .slice (some ⟨21008, 0, none⟩) (D 4294967296 (N * 2 ^ 8)).length 0], true, 1⟩) 21000 ⟨(D 4294967296 (N * 2 ^ 0)).map (vi .u64), true, 1⟩) 21001 ⟨(D 4294967296 (N * 2 ^ 1)).map (vi .u64), true, 1⟩) 21002 ⟨(D 4294967296 (N * 2 ^ 2)).map (vi .u64), true, 1⟩) 21003 ⟨(D 4294967296 (N * 2 ^ 3)).map (vi .u64), true, 1⟩) 21004 ⟨(D 4294967296 (N * 2 ^ 4)).map (vi .u64), true, 1⟩) 21005 ⟨(D 4294967296 (N * 2 ^ 5)).map (vi .u64), true, 1⟩) 21006 ⟨(D 4294967296 (N * 2 ^ 6)).map (vi .u64), true, 1⟩) 21007 ⟨(D 4294967296 (N * 2 ^ 7)).map (vi .u64), true, 1⟩) 21008 ⟨(D 4294967296 (N * 2 ^ 8)).map (vi .u64), true, 1⟩) 77000 ⟨(D 4294967296 (y)).map (vi .u64), true, 1⟩)⟩) (fm := [(77000, 23000)]) (wk [0, 1, 6000, 21000, 21001, 21002, 21003, 21004, 21005, 21006, 21007, 21008, 77000]) ⟨0, 4 * (D 4294967296 x).length, ⟨Nat.le_refl _, (mod_top x).symm⟩, rfl, rfl⟩ ?_
 rintro mm σ ⟨y, r, ⟨hr0, hy⟩, rfl, rfl⟩
 refine zQ (zS ?_)
 refine yM ?_
 refine yP (PureOp.geP rfl rfl) ?_
 refine zN ?_
 refine zA (fun hb0 => ?_) (fun hb0 => ?_)
 ·
  have hp0 : 0 < r := by simpa using hb0
  obtain ⟨r, rfl⟩ : ∃ q, r = q + 1 := ⟨r - 1, by omega⟩
  rw [vp_succ]
  have hr4 : r / 4 < (D 4294967296 x).length := by omega
  have hx := bd_getD (bd_D (B := 4294967296) (by decide) x) (by decide) (r / 4)
  have hyN : y < N := by rw [hy]; exact Nat.mod_lt _ hN
  have hv := mod_small (x := x) (r := r) hyN
  refine zK (zT (zQ (zB (zS ?_))))
  refine yM ?_
  refine yM ?_
  refine yP (PureOp.quoN (b := 4) 9223372036854775808 rfl rfl (by decide) (by decide) (by decide) (by omega)) ?_
  refine yP (PureOp.idxN tbok (j := r / 4) rfl rfl rfl rfl hr4) ?_
  refine yL 0 ?_
  refine yA ?_
  refine zN (zQ (zS ?_))
  refine yA ?_
  refine zN (zB ?_)
  refine AW.loopw (fun mm σ => ∃ j, (j ≤ r % 4) ∧ mm = r % 4 - j ∧ σ = ⟨(upd (upd (upd (upd (upd (upd emp 0 (.slice (some ⟨0, 0, none⟩) (D 4294967296 x).length 0)) 5 (.pointer (some ⟨6000, 0, none⟩))) 7 (.slice (some ⟨77000, 0, none⟩) (D 4294967296 (y)).length 0)) 8 (vi .i64 r)) 9 (vi .u64 ((D 4294967296 x).getD (r / 4) 0 / 256 ^ j))) 10 (vi .i64 j)), (upd (upd (upd (upd (upd (upd (upd (upd (upd (upd (upd (upd (upd emp 0 ⟨(D 4294967296 x).map (vi .u64), false, 1⟩) 1 ⟨(D 4294967296 N).map (vi .u64), false, 1⟩) 6000 ⟨[.slice (some ⟨21000, 0, none⟩) (D 4294967296 (N * 2 ^ 0)).length 0, .slice (some ⟨21001, 0, none⟩) (D 4294967296 (N * 2 ^ 1)).length 0, .slice (some ⟨21002, 0, none⟩) (D 4294967296 (N * 2 ^ 2)).length 0, .slice (some ⟨21003, 0, none⟩) (D 4294967296 (N * 2 ^ 3)).length 0, .slice (some ⟨21004, 0, none⟩) (D 4294967296 (N * 2 ^ 4)).length 0, .slice (some ⟨21005, 0, none⟩) (D 4294967296 (N * 2 ^ 5)).length 0, .slice (some ⟨21006, 0, none⟩) (D 4294967296 (N * 2 ^ 6)).length 0, .slice (some ⟨21007, 0, none⟩) (D 4294967296 (N * 2 ^ 7)).length 0, .slice (some ⟨21008, 0, none⟩) (D 4294967296 (N * 2 ^ 8)).length 0], true, 1⟩) 21000 ⟨(D 4294967296 (N * 2 ^ 0)).map (vi .u64), true, 1⟩) 21001 ⟨(D 4294967296 (N * 2 ^ 1)).map (vi .u64), true, 1⟩) 21002 ⟨(D 4294967296 (N * 2 ^ 2)).map (vi .u64), true, 1⟩) 21003 ⟨(D 4294967296 (N * 2 ^ 3)).map (vi .u64), true, 1⟩) 21004 ⟨(D 4294967296 (N * 2 ^ 4)).map (vi .u64), true, 1⟩) 21005 ⟨(D 4294967296 (N * 2 ^ 5)).map (vi .u64), true, 1⟩) 21006 ⟨(D 4294967296 (N * 2 ^ 6)).map (vi .u64), true, 1⟩) 21007 ⟨(D 4294967296 (N * 2 ^ 7)).map (vi .u64), true, 1⟩) 21008 ⟨(D 4294967296 (N * 2 ^ 8)).map (vi .u64), true, 1⟩) 77000 ⟨(D 4294967296 (y)).map (vi .u64), true, 1⟩)⟩) (fm := []) (wk [0, 1, 6000, 21000, 21001, 21002, 21003, 21004, 21005, 21006, 21007, 21008, 77000]) ⟨0, Nat.zero_le _, rfl, rfl⟩ ?_
  rintro mm σ ⟨j, hinv, rfl, rfl⟩
  refine zQ (zS ?_)
  refine yM ?_
  refine yM ?_
  refine yP ((PureOp.remN (b := 4) rfl rfl (by decide)).mono (v' := vi .i64 (r % 4)) rfl) ?_
  refine yP pLt ?_
  refine zN ?_
  refine zA (fun hb1 => ?_) (fun hb1 => ?_)
  ·
   have hj : j < r % 4 := by simpa using hb1
   refine zK (zT (zQ (zB (zR ?_))))
   refine yM ?_
   refine yP ((PureOp.quoN (b := 256) 18446744073709551616 rfl rfl (by decide) (by decide) (by decide) (Nat.lt_of_le_of_lt (Nat.div_le_self _ _) (Nat.lt_trans hx (by decide)))).mono (v' := vi .u64 ((D 4294967296 x).getD (r / 4) 0 / 256 ^ (j + 1))) (congrArg (vi .u64) (by rw [Nat.div_div_eq_div_mul, ← Nat.pow_succ]))) ?_
   refine yA ?_
   refine zN (zL (zT (zR ?_)))
   refine yM ?_
   refine yP (pAdd (b := 1)) ?_
   refine yA ?_
   refine zN (zT ?_)
   exact ⟨r % 4 - (j + 1), [], _, by omega, wk [0, 1, 6000, 21000, 21001, 21002, 21003, 21004, 21005, 21006, 21007, 21008, 77000], j + 1, by omega, rfl, rfl⟩
  ·
   obtain rfl : j = r % 4 := by simp at hb1; omega
   refine zX (zV (zV (zH (zT (zS ?_)))))
   refine yM ?_
   refine AWo.buildSlice tbok 46000 [(0, vi .u64 256)] (out := [vi .u64 256]) rfl rfl (by decide) rfl rfl rfl (by decide) rfl rfl rfl rfl rfl ?_
   refine yC (mul256_ctr (x := y) (hL _ (by omega))) bd72 [(77000, 0), (46000, 0)] [47000] ?_
   refine yM ?_
   refine yP ((PureOp.remN (b := 256) rfl rfl (by decide)).mono (v' := vi .u64 (x / 256 ^ r % 256)) (congrArg (vi .u64) (byteD x r))) ?_
   refine AWo.buildSlice tbok 50000 [(0, vi .u64 (x / 256 ^ r % 256))] (out := [vi .u64 (x / 256 ^ r % 256)]) rfl rfl (by decide) rfl rfl rfl (by decide) rfl rfl rfl rfl rfl ?_
   refine yC (trim_ctr (a := [x / 256 ^ r % 256]) (v := x / 256 ^ r % 256) (n := 1) (bd_byte _) (num_byte _) rfl (by simp)) bd118 [(50000, 0)] [] ?_
   refine yC (addD_ctr (x := y * 256) (y := x / 256 ^ r % 256) (hL _ (by omega)) (hL _ (by have := Nat.mod_lt (x / 256 ^ r) (show 0 < 256 by decide); omega))) bd70 [(47000, 0), (50000, 0)] [52000] ?_ (hfit := (.flat rfl (by exact flatM flat_vi) (by intro h; rfl) (.part rfl (dpart (by decide) (bd_byte _) (num_byte _)) (flatM flat_vi) (by rw [Nat.zero_add]; exact dpart_len (by decide) (bd_byte (x / 256 ^ r)) (num_byte _)) .nil)))
   refine yA ?_
   refine zN (zS ?_)
   refine yA ?_
   refine zN (zB ?_)
   refine AW.loopw (fun mm σ => ∃ z, ∃ k, (k ≤ 9 ∧ z = (y * 256 + x / 256 ^ r % 256) % (N * 2 ^ k)) ∧ mm = 1 * k ∧ σ = ⟨(upd (upd (upd (upd (upd emp 0 (.slice (some ⟨0, 0, none⟩) (D 4294967296 x).length 0)) 5 (.pointer (some ⟨6000, 0, none⟩))) 7 (.slice (some ⟨77000, 0, none⟩) (D 4294967296 (z)).length 0)) 8 (vi .i64 r)) 11 (vp k)), (upd (upd (upd (upd (upd (upd (upd (upd (upd (upd (upd (upd (upd emp 0 ⟨(D 4294967296 x).map (vi .u64), false, 1⟩) 1 ⟨(D 4294967296 N).map (vi .u64), false, 1⟩) 6000 ⟨[.slice (some ⟨21000, 0, none⟩) (D 4294967296 (N * 2 ^ 0)).length 0, .slice (some ⟨21001, 0, none⟩) (D 4294967296 (N * 2 ^ 1)).length 0, .slice (some ⟨21002, 0, none⟩) (D 4294967296 (N * 2 ^ 2)).length 0, .slice (some ⟨21003, 0, none⟩) (D 4294967296 (N * 2 ^ 3)).length 0, .slice (some ⟨21004, 0, none⟩) (D 4294967296 (N * 2 ^ 4)).length 0, .slice (some ⟨21005, 0, none⟩) (D 4294967296 (N * 2 ^ 5)).length 0, .slice (some ⟨21006, 0, none⟩) (D 4294967296 (N * 2 ^ 6)).length 0, .slice (some ⟨21007, 0, none⟩) (D 4294967296 (N * 2 ^ 7)).length 0, .slice (some ⟨21008, 0, none⟩) (D 4294967296 (N * 2 ^ 8)).length 0], true, 1⟩) 21000 ⟨(D 4294967296 (N * 2 ^ 0)).map (vi .u64), true, 1⟩) 21001 ⟨(D 4294967296 (N * 2 ^ 1)).map (vi .u64), true, 1⟩) 21002 ⟨(D 4294967296 (N * 2 ^ 2)).map (vi .u64), true, 1⟩) 21003 ⟨(D 4294967296 (N * 2 ^ 3)).map (vi .u64), true, 1⟩) 21004 ⟨(D 4294967296 (N * 2 ^ 4)).map (vi .u64), true, 1⟩) 21005 ⟨(D 4294967296 (N * 2 ^ 5)).map (vi .u64), true, 1⟩) 21006 ⟨(D 4294967296 (N * 2 ^ 6)).map (vi .u64), true, 1⟩) 21007 ⟨(D 4294967296 (N * 2 ^ 7)).map (vi .u64), true, 1⟩) 21008 ⟨(D 4294967296 (N * 2 ^ 8)).map (vi .u64), true, 1⟩) 77000 ⟨(D 4294967296 (z)).map (vi .u64), true, 1⟩)⟩) (fm := [(77000, 52000)]) (wk [0, 1, 6000, 21000, 21001, 21002, 21003, 21004, 21005, 21006, 21007, 21008, 77000]) ⟨y * 256 + x / 256 ^ r % 256, 9, ⟨by decide, (Nat.mod_eq_of_lt hv).symm⟩, rfl, rfl⟩ ?_
   rintro mm σ ⟨z, k, ⟨hk9, hz⟩, rfl, rfl⟩
   refine zQ (zS ?_)
   refine yM ?_
   refine yP (PureOp.geP rfl rfl) ?_
   refine zN ?_
   refine zA (fun hb2 => ?_) (fun hb2 => ?_)
   ·
    have hp0 : 0 < k := by simpa using hb2
    have hkc : k = 1 ∨ k = 2 ∨ k = 3 ∨ k = 4 ∨ k = 5 ∨ k = 6 ∨ k = 7 ∨ k = 8 ∨ k = 9 := by omega
    rcases hkc with rfl | rfl | rfl | rfl | rfl | rfl | rfl | rfl | rfl
    ·
     rw [show vp 1 = vi .i64 0 from rfl]
     have hzl : z < N * 2 ^ 1 := by rw [hz]; exact Nat.mod_lt _ (Nat.mul_pos hN (by decide))
     refine zK (zT (zQ (zB (zS ?_))))
     refine yM ?_
     refine yM ?_
     refine yP pA ?_
     refine yL1 ?_
     refine yC (cmpD_ctr (x := z) (y := N * 2 ^ 0) (hL _ (by omega)) (hL _ (by omega))) bd34 [(77000, 0), (21000, 0)] [] ?_
     refine yP (PureOp.bin rfl rfl rfl) ?_
     refine zN ?_
     refine zA (fun hb3 => ?_) (fun hb3 => ?_)
     ·
      have hge : N * 2 ^ 0 ≤ z := ge_of_cmp (by simpa using hb3)
      refine zR ?_
      refine yM ?_
      refine yM ?_
      refine yP pA ?_
      refine yL1 ?_
      refine yC (subD_ctr (x := z) (y := N * 2 ^ 0) (hL _ (by omega)) (hL _ (by omega)) hge) bd71 [(77000, 0), (21000, 0)] [67000] ?_
      refine yA ?_
      refine zN (zL (zT (zR ?_)))
      refine yM ?_
      refine yP (PureOp.subP rfl rfl (by decide)) ?_
      refine yA ?_
      refine zN (zT ?_)
      exact ⟨1 * 0, [(77000, 67000)], _, by omega, wk [0, 1, 6000, 21000, 21001, 21002, 21003, 21004, 21005, 21006, 21007, 21008, 77000], z - N * 2 ^ 0, 0, ⟨by decide, mod_hi hz hge⟩, rfl, rfl⟩
     ·
      have hlt : z < N * 2 ^ 0 := lt_of_cmp (by simpa using hb3)
      refine zK (zL (zT (zR ?_)))
      refine yM ?_
      refine yP (PureOp.subP rfl rfl (by decide)) ?_
      refine yA ?_
      refine zN (zT ?_)
      exact ⟨1 * 0, [(77000, 77000)], _, by omega, wk [0, 1, 6000, 21000, 21001, 21002, 21003, 21004, 21005, 21006, 21007, 21008, 77000], z, 0, ⟨by decide, mod_lo hz hlt⟩, rfl, rfl⟩
    ·
     rw [show vp 2 = vi .i64 1 from rfl]
     have hzl : z < N * 2 ^ 2 := by rw [hz]; exact Nat.mod_lt _ (Nat.mul_pos hN (by decide))
     refine zK (zT (zQ (zB (zS ?_))))
     refine yM ?_
     refine yM ?_
     refine yP pA ?_
     refine yL1 ?_
     refine yC (cmpD_ctr (x := z) (y := N * 2 ^ 1) (hL _ (by omega)) (hL _ (by omega))) bd34 [(77000, 0), (21001, 0)] [] ?_
     refine yP (PureOp.bin rfl rfl rfl) ?_
     refine zN ?_
     refine zA (fun hb4 => ?_) (fun hb4 => ?_)
     ·
      have hge : N * 2 ^ 1 ≤ z := ge_of_cmp (by simpa using hb4)
      refine zR ?_
      refine yM ?_
      refine yM ?_
      refine yP pA ?_
      refine yL1 ?_
      refine yC (subD_ctr (x := z) (y := N * 2 ^ 1) (hL _ (by omega)) (hL _ (by omega)) hge) bd71 [(77000, 0), (21001, 0)] [67000] ?_
      refine yA ?_
      refine zN (zL (zT (zR ?_)))
      refine yM ?_
      refine yP (pSub (b := 1)) ?_
      refine yA ?_
      refine zN (zT ?_)
      exact ⟨1 * 1, [(77000, 67000)], _, by omega, wk [0, 1, 6000, 21000, 21001, 21002, 21003, 21004, 21005, 21006, 21007, 21008, 77000], z - N * 2 ^ 1, 1, ⟨by decide, mod_hi hz hge⟩, rfl, rfl⟩
     ·
      have hlt : z < N * 2 ^ 1 := lt_of_cmp (by simpa using hb4)
      refine zK (zL (zT (zR ?_)))
      refine yM ?_
      refine yP (pSub (b := 1)) ?_
      refine yA ?_
      refine zN (zT ?_)
      exact ⟨1 * 1, [(77000, 77000)], _, by omega, wk [0, 1, 6000, 21000, 21001, 21002, 21003, 21004, 21005, 21006, 21007, 21008, 77000], z, 1, ⟨by decide, mod_lo hz hlt⟩, rfl, rfl⟩
    ·
     rw [show vp 3 = vi .i64 2 from rfl]
     have hzl : z < N * 2 ^ 3 := by rw [hz]; exact Nat.mod_lt _ (Nat.mul_pos hN (by decide))
     refine zK (zT (zQ (zB (zS ?_))))
     refine yM ?_
     refine yM ?_
     refine yP pA ?_
     refine yL1 ?_
     refine yC (cmpD_ctr (x := z) (y := N * 2 ^ 2) (hL _ (by omega)) (hL _ (by omega))) bd34 [(77000, 0), (21002, 0)] [] ?_
     refine yP (PureOp.bin rfl rfl rfl) ?_
     refine zN ?_
     refine zA (fun hb5 => ?_) (fun hb5 => ?_)
     ·
      have hge : N * 2 ^ 2 ≤ z := ge_of_cmp (by simpa using hb5)
      refine zR ?_
      refine yM ?_
      refine yM ?_
      refine yP pA ?_
      refine yL1 ?_
      refine yC (subD_ctr (x := z) (y := N * 2 ^ 2) (hL _ (by omega)) (hL _ (by omega)) hge) bd71 [(77000, 0), (21002, 0)] [67000] ?_
      refine yA ?_
      refine zN (zL (zT (zR ?_)))
      refine yM ?_
      refine yP (pSub (b := 1)) ?_
      refine yA ?_
      refine zN (zT ?_)
      exact ⟨1 * 2, [(77000, 67000)], _, by omega, wk [0, 1, 6000, 21000, 21001, 21002, 21003, 21004, 21005, 21006, 21007, 21008, 77000], z - N * 2 ^ 2, 2, ⟨by decide, mod_hi hz hge⟩, rfl, rfl⟩
     ·
      have hlt : z < N * 2 ^ 2 := lt_of_cmp (by simpa using hb5)
      refine zK (zL (zT (zR ?_)))
      refine yM ?_
      refine yP (pSub (b := 1)) ?_
      refine yA ?_
      refine zN (zT ?_)
      exact ⟨1 * 2, [(77000, 77000)], _, by omega, wk [0, 1, 6000, 21000, 21001, 21002, 21003, 21004, 21005, 21006, 21007, 21008, 77000], z, 2, ⟨by decide, mod_lo hz hlt⟩, rfl, rfl⟩
    ·
     rw [show vp 4 = vi .i64 3 from rfl]
     have hzl : z < N * 2 ^ 4 := by rw [hz]; exact Nat.mod_lt _ (Nat.mul_pos hN (by decide))
     refine zK (zT (zQ (zB (zS ?_))))
     refine yM ?_
     refine yM ?_
     refine yP pA ?_
     refine yL1 ?_
     refine yC (cmpD_ctr (x := z) (y := N * 2 ^ 3) (hL _ (by omega)) (hL _ (by omega))) bd34 [(77000, 0), (21003, 0)] [] ?_
     refine yP (PureOp.bin rfl rfl rfl) ?_
     refine zN ?_
     refine zA (fun hb6 => ?_) (fun hb6 => ?_)
     ·
      have hge : N * 2 ^ 3 ≤ z := ge_of_cmp (by simpa using hb6)
      refine zR ?_
      refine yM ?_
      refine yM ?_
      refine yP pA ?_
      refine yL1 ?_
      refine yC (subD_ctr (x := z) (y := N * 2 ^ 3) (hL _ (by omega)) (hL _ (by omega)) hge) bd71 [(77000, 0), (21003, 0)] [67000] ?_
      refine yA ?_
      refine zN (zL (zT (zR ?_)))
      refine yM ?_
      refine yP (pSub (b := 1)) ?_
      refine yA ?_
      refine zN (zT ?_)
      exact ⟨1 * 3, [(77000, 67000)], _, by omega, wk [0, 1, 6000, 21000, 21001, 21002, 21003, 21004, 21005, 21006, 21007, 21008, 77000], z - N * 2 ^ 3, 3, ⟨by decide, mod_hi hz hge⟩, rfl, rfl⟩
     ·
      have hlt : z < N * 2 ^ 3 := lt_of_cmp (by simpa using hb6)
      refine zK (zL (zT (zR ?_)))
      refine yM ?_
      refine yP (pSub (b := 1)) ?_
      refine yA ?_
      refine zN (zT ?_)
      exact ⟨1 * 3, [(77000, 77000)], _, by omega, wk [0, 1, 6000, 21000, 21001, 21002, 21003, 21004, 21005, 21006, 21007, 21008, 77000], z, 3, ⟨by decide, mod_lo hz hlt⟩, rfl, rfl⟩
    ·
     rw [show vp 5 = vi .i64 4 from rfl]
     have hzl : z < N * 2 ^ 5 := by rw [hz]; exact Nat.mod_lt _ (Nat.mul_pos hN (by decide))
     refine zK (zT (zQ (zB (zS ?_))))
     refine yM ?_
     refine yM ?_
     refine yP pA ?_
     refine yL1 ?_
     refine yC (cmpD_ctr (x := z) (y := N * 2 ^ 4) (hL _ (by omega)) (hL _ (by omega))) bd34 [(77000, 0), (21004, 0)] [] ?_
     refine yP (PureOp.bin rfl rfl rfl) ?_
     refine zN ?_
     refine zA (fun hb7 => ?_) (fun hb7 => ?_)
     ·
      have hge : N * 2 ^ 4 ≤ z := ge_of_cmp (by simpa using hb7)
      refine zR ?_
      refine yM ?_
      refine yM ?_
      refine yP pA ?_
      refine yL1 ?_
      refine yC (subD_ctr (x := z) (y := N * 2 ^ 4) (hL _ (by omega)) (hL _ (by omega)) hge) bd71 [(77000, 0), (21004, 0)] [67000] ?_
      refine yA ?_
      refine zN (zL (zT (zR ?_)))
      refine yM ?_
      refine yP (pSub (b := 1)) ?_
      refine yA ?_
      refine zN (zT ?_)
      exact ⟨1 * 4, [(77000, 67000)], _, by omega, wk [0, 1, 6000, 21000, 21001, 21002, 21003, 21004, 21005, 21006, 21007, 21008, 77000], z - N * 2 ^ 4, 4, ⟨by decide, mod_hi hz hge⟩, rfl, rfl⟩
     ·
      have hlt : z < N * 2 ^ 4 := lt_of_cmp (by simpa using hb7)
      refine zK (zL (zT (zR ?_)))
      refine yM ?_
      refine yP (pSub (b := 1)) ?_
      refine yA ?_
      refine zN (zT ?_)
      exact ⟨1 * 4, [(77000, 77000)], _, by omega, wk [0, 1, 6000, 21000, 21001, 21002, 21003, 21004, 21005, 21006, 21007, 21008, 77000], z, 4, ⟨by decide, mod_lo hz hlt⟩, rfl, rfl⟩
    ·
     rw [show vp 6 = vi .i64 5 from rfl]
     have hzl : z < N * 2 ^ 6 := by rw [hz]; exact Nat.mod_lt _ (Nat.mul_pos hN (by decide))
     refine zK (zT (zQ (zB (zS ?_))))
     refine yM ?_
     refine yM ?_
     refine yP pA ?_
     refine yL1 ?_
     refine yC (cmpD_ctr (x := z) (y := N * 2 ^ 5) (hL _ (by omega)) (hL _ (by omega))) bd34 [(77000, 0), (21005, 0)] [] ?_
     refine yP (PureOp.bin rfl rfl rfl) ?_
     refine zN ?_
     refine zA (fun hb8 => ?_) (fun hb8 => ?_)
     ·
      have hge : N * 2 ^ 5 ≤ z := ge_of_cmp (by simpa using hb8)
      refine zR ?_
      refine yM ?_
      refine yM ?_
      refine yP pA ?_
      refine yL1 ?_
      refine yC (subD_ctr (x := z) (y := N * 2 ^ 5) (hL _ (by omega)) (hL _ (by omega)) hge) bd71 [(77000, 0), (21005, 0)] [67000] ?_
      refine yA ?_
      refine zN (zL (zT (zR ?_)))
      refine yM ?_
      refine yP (pSub (b := 1)) ?_
      refine yA ?_
      refine zN (zT ?_)
      exact ⟨1 * 5, [(77000, 67000)], _, by omega, wk [0, 1, 6000, 21000, 21001, 21002, 21003, 21004, 21005, 21006, 21007, 21008, 77000], z - N * 2 ^ 5, 5, ⟨by decide, mod_hi hz hge⟩, rfl, rfl⟩
     ·
      have hlt : z < N * 2 ^ 5 := lt_of_cmp (by simpa using hb8)
      refine zK (zL (zT (zR ?_)))
      refine yM ?_
      refine yP (pSub (b := 1)) ?_
      refine yA ?_
      refine zN (zT ?_)
      exact ⟨1 * 5, [(77000, 77000)], _, by omega, wk [0, 1, 6000, 21000, 21001, 21002, 21003, 21004, 21005, 21006, 21007, 21008, 77000], z, 5, ⟨by decide, mod_lo hz hlt⟩, rfl, rfl⟩
    ·
     rw [show vp 7 = vi .i64 6 from rfl]
     have hzl : z < N * 2 ^ 7 := by rw [hz]; exact Nat.mod_lt _ (Nat.mul_pos hN (by decide))
     refine zK (zT (zQ (zB (zS ?_))))
     refine yM ?_
     refine yM ?_
     refine yP pA ?_
     refine yL1 ?_
     refine yC (cmpD_ctr (x := z) (y := N * 2 ^ 6) (hL _ (by omega)) (hL _ (by omega))) bd34 [(77000, 0), (21006, 0)] [] ?_
     refine yP (PureOp.bin rfl rfl rfl) ?_
     refine zN ?_
     refine zA (fun hb9 => ?_) (fun hb9 => ?_)
     ·
      have hge : N * 2 ^ 6 ≤ z := ge_of_cmp (by simpa using hb9)
      refine zR ?_
      refine yM ?_
      refine yM ?_
      refine yP pA ?_
      refine yL1 ?_
      refine yC (subD_ctr (x := z) (y := N * 2 ^ 6) (hL _ (by omega)) (hL _ (by omega)) hge) bd71 [(77000, 0), (21006, 0)] [67000] ?_
      refine yA ?_
      refine zN (zL (zT (zR ?_)))
      refine yM ?_
      refine yP (pSub (b := 1)) ?_
      refine yA ?_
      refine zN (zT ?_)
      exact ⟨1 * 6, [(77000, 67000)], _, by omega, wk [0, 1, 6000, 21000, 21001, 21002, 21003, 21004, 21005, 21006, 21007, 21008, 77000], z - N * 2 ^ 6, 6, ⟨by decide, mod_hi hz hge⟩, rfl, rfl⟩
     ·
      have hlt : z < N * 2 ^ 6 := lt_of_cmp (by simpa using hb9)
      refine zK (zL (zT (zR ?_)))
      refine yM ?_
      refine yP (pSub (b := 1)) ?_
      refine yA ?_
      refine zN (zT ?_)
      exact ⟨1 * 6, [(77000, 77000)], _, by omega, wk [0, 1, 6000, 21000, 21001, 21002, 21003, 21004, 21005, 21006, 21007, 21008, 77000], z, 6, ⟨by decide, mod_lo hz hlt⟩, rfl, rfl⟩
    ·
     rw [show vp 8 = vi .i64 7 from rfl]
     have hzl : z < N * 2 ^ 8 := by rw [hz]; exact Nat.mod_lt _ (Nat.mul_pos hN (by decide))
     refine zK (zT (zQ (zB (zS ?_))))
     refine yM ?_
     refine yM ?_
     refine yP pA ?_
     refine yL1 ?_
     refine yC (cmpD_ctr (x := z) (y := N * 2 ^ 7) (hL _ (by omega)) (hL _ (by omega))) bd34 [(77000, 0), (21007, 0)] [] ?_
     refine yP (PureOp.bin rfl rfl rfl) ?_
     refine zN ?_
     refine zA (fun hb10 => ?_) (fun hb10 => ?_)
     ·
      have hge : N * 2 ^ 7 ≤ z := ge_of_cmp (by simpa using hb10)
      refine zR ?_
      refine yM ?_
      refine yM ?_
      refine yP pA ?_
      refine yL1 ?_
      refine yC (subD_ctr (x := z) (y := N * 2 ^ 7) (hL _ (by omega)) (hL _ (by omega)) hge) bd71 [(77000, 0), (21007, 0)] [67000] ?_
      refine yA ?_
      refine zN (zL (zT (zR ?_)))
      refine yM ?_
      refine yP (pSub (b := 1)) ?_
      refine yA ?_
      refine zN (zT ?_)
      exact ⟨1 * 7, [(77000, 67000)], _, by omega, wk [0, 1, 6000, 21000, 21001, 21002, 21003, 21004, 21005, 21006, 21007, 21008, 77000], z - N * 2 ^ 7, 7, ⟨by decide, mod_hi hz hge⟩, rfl, rfl⟩
     ·
      have hlt : z < N * 2 ^ 7 := lt_of_cmp (by simpa using hb10)
      refine zK (zL (zT (zR ?_)))
      refine yM ?_
      refine yP (pSub (b := 1)) ?_
      refine yA ?_
      refine zN (zT ?_)
      exact ⟨1 * 7, [(77000, 77000)], _, by omega, wk [0, 1, 6000, 21000, 21001, 21002, 21003, 21004, 21005, 21006, 21007, 21008, 77000], z, 7, ⟨by decide, mod_lo hz hlt⟩, rfl, rfl⟩
    ·
     rw [show vp 9 = vi .i64 8 from rfl]
     have hzl : z < N * 2 ^ 9 := by rw [hz]; exact Nat.mod_lt _ (Nat.mul_pos hN (by decide))
     refine zK (zT (zQ (zB (zS ?_))))
     refine yM ?_
     refine yM ?_
     refine yP pA ?_
     refine yL1 ?_
     refine yC (cmpD_ctr (x := z) (y := N * 2 ^ 8) (hL _ (by omega)) (hL _ (by omega))) bd34 [(77000, 0), (21008, 0)] [] ?_
     refine yP (PureOp.bin rfl rfl rfl) ?_
     refine zN ?_
     refine zA (fun hb11 => ?_) (fun hb11 => ?_)
     ·
      have hge : N * 2 ^ 8 ≤ z := ge_of_cmp (by simpa using hb11)
      refine zR ?_
      refine yM ?_
      refine yM ?_
      refine yP pA ?_
      refine yL1 ?_
      refine yC (subD_ctr (x := z) (y := N * 2 ^ 8) (hL _ (by omega)) (hL _ (by omega)) hge) bd71 [(77000, 0), (21008, 0)] [67000] ?_
      refine yA ?_
      refine zN (zL (zT (zR ?_)))
      refine yM ?_
      refine yP (pSub (b := 1)) ?_
      refine yA ?_
      refine zN (zT ?_)
      exact ⟨1 * 8, [(77000, 67000)], _, by omega, wk [0, 1, 6000, 21000, 21001, 21002, 21003, 21004, 21005, 21006, 21007, 21008, 77000], z - N * 2 ^ 8, 8, ⟨by decide, mod_hi hz hge⟩, rfl, rfl⟩
     ·
      have hlt : z < N * 2 ^ 8 := lt_of_cmp (by simpa using hb11)
      refine zK (zL (zT (zR ?_)))
      refine yM ?_
      refine yP (pSub (b := 1)) ?_
      refine yA ?_
      refine zN (zT ?_)
      exact ⟨1 * 8, [(77000, 77000)], _, by omega, wk [0, 1, 6000, 21000, 21001, 21002, 21003, 21004, 21005, 21006, 21007, 21008, 77000], z, 8, ⟨by decide, mod_lo hz hlt⟩, rfl, rfl⟩
   ·
    obtain rfl : k = 0 := by simpa using hb2
    have hzy : z = x / 256 ^ r % N := by rw [hz, hy, Nat.pow_zero, Nat.mul_one]; exact mod_byte
    refine zX (zV (zV (zH (zL (zT (zR ?_))))))
    refine yM ?_
    refine yP (PureOp.subP rfl rfl (by omega)) ?_
    refine yA ?_
    refine zN (zT ?_)
    exact ⟨1 * r, [(77000, 77000)], _, by omega, wk [0, 1, 6000, 21000, 21001, 21002, 21003, 21004, 21005, 21006, 21007, 21008, 77000], z, r, ⟨by omega, hzy⟩, rfl, rfl⟩
 ·
  obtain rfl : r = 0 := by simpa using hb0
  rw [Nat.pow_zero, Nat.div_one] at hy
  subst hy
  refine zX (zV (zV (zH (zT (zS ?_)))))
  refine yM ?_
  refine yA ?_
  refine zN (zE ?_)
  exact rq [77000] [.tmp 4]
end Go.Proofs.Ytiikffiembcboaa
namespace Go.Proofs.Ytiikffiembcboaa
open Go Sim
theorem wordsD_ctr {x n : Nat} (hn : n < 100000000) : GC Try.prog 55 [.slice (some ⟨0, 0, none⟩) (D 4294967296 x).length 0, vi .i64 (n)] [⟨(D 4294967296 x).map (vi .u64), false, 1⟩] [.slice (some ⟨1, 0, none⟩) n 0] [⟨(D 4294967296 x).map (vi .u64), false, 1⟩, ⟨(digs 18446744073709551616 n x).map (vi .u64), true, 1⟩] := by
 have h := words_ctr (a := D 4294967296 x) (n := n) (bd_D (by decide) _) hn
 simp only [num_D (show 2 ≤ 4294967296 by decide), digs_len] at h
 exact h
theorem exp_odd {x y z r N : Nat} (hz : z = x ^ (y / 2 ^ (r + 1)) % N) (hb : y / 2 ^ r % 2 = 1) : z * z % N * (x % N) % N = x ^ (y / 2 ^ r) % N := by
 rw [pow_odd hb, hz]
 generalize x ^ (y / 2 ^ (r + 1)) = p
 rw [← Nat.mul_mod p p N, ← Nat.mul_mod]
theorem exp_even {x y z r N : Nat} (hz : z = x ^ (y / 2 ^ (r + 1)) % N) (hb : ¬ y / 2 ^ r % 2 = 1) : z * z % N = x ^ (y / 2 ^ r) % N := by
 rw [pow_even hb, hz, ← Nat.mul_mod]
end Go.Proofs.Ytiikffiembcboaa
namespace Go.Proofs.Ytiikffiembcboaa
open Go Sim
theorem p02_digs : D 4294967296 21888242871839275222246405745257275088548364400416034343698204186575808495617 = [4026531841, 1138881939, 2042196113, 674490440, 2172737629, 3092268470, 3778125865, 811880050] := by kernel_rfl
section
variable {P : Program} {T : Tab} (H : TabOk P T) {E : Env} {M : Mem} {n' i' : Nat} {ty : TypeId} {ps : String} {af : Array Edge} {g : Option (Nat × Bool)} {ops : Array Oper} {os : List Oper} {D : List Eff → Prop} {K : ASt → Prop}
include H
end
theorem lenP : (D 4294967296 21888242871839275222246405745257275088548364400416034343698204186575808495617).length < 100000000 := by rw [p02_digs]; decide
set_option maxRecDepth 10000 in
theorem p02D_ctr : GC Try.prog 36 [] [] [.slice (some ⟨0, 0, none⟩) (D 4294967296 (21888242871839275222246405745257275088548364400416034343698204186575808495617)).length 0] [⟨(D 4294967296 (21888242871839275222246405745257275088548364400416034343698204186575808495617)).map (vi .u64), true, 1⟩] := by
 refine gi Try.func36 ?_
 refine zS ?_
 refine yA ?_
 refine zN (zS ?_)
 refine AWo.buildSlice tbok 2000 [(0, vi .u64 4026531841), (1, vi .u64 1138881939), (2, vi .u64 2042196113), (3, vi .u64 674490440), (4, vi .u64 2172737629), (5, vi .u64 3092268470), (6, vi .u64 3778125865), (7, vi .u64 811880050)] (out := [vi .u64 4026531841, vi .u64 1138881939, vi .u64 2042196113, vi .u64 674490440, vi .u64 2172737629, vi .u64 3092268470, vi .u64 3778125865, vi .u64 811880050]) rfl rfl (by decide) rfl rfl rfl (by decide) rfl rfl rfl rfl rfl ?_
 refine yA ?_
 refine zN (zE ?_)
 rw [p02_digs]
 exact rq [2000] [.tmp 0]
theorem rb4_ctr {x : Nat} (hx : x < 18446744073709551616 ^ 4) : GC Try.prog 77 [.slice (some ⟨0, 0, none⟩) 4 0] [⟨(digs 18446744073709551616 4 x).map (vi .u64), false, 1⟩] [.slice (some ⟨1, 0, none⟩) 32 0] [⟨(digs 18446744073709551616 4 x).map (vi .u64), false, 1⟩, ⟨(digs 256 32 x).map (vi .u8), true, 1⟩] := by
 have h := rbytes_ctr (a := digs 18446744073709551616 4 x) (digs_bd (by decide) _ _) (by rw [digs_len]; decide)
 rw [digs_len, num_digs_lt hx] at h
 exact h
set_option maxRecDepth 10000 in
theorem mod02_ctr {x : Nat} (hlx : (D 4294967296 x).length < 1000000) : GC Try.prog 86 [.slice (some ⟨0, 0, none⟩) (D 4294967296 x).length 0] [⟨(D 4294967296 x).map (vi .u64), false, 1⟩] [.slice (some ⟨1, 0, none⟩) (D 4294967296 (x % 21888242871839275222246405745257275088548364400416034343698204186575808495617)).length 0] [⟨(D 4294967296 x).map (vi .u64), false, 1⟩, ⟨(D 4294967296 (x % 21888242871839275222246405745257275088548364400416034343698204186575808495617)).map (vi .u64), true, 1⟩] := by
 refine gi Try.func86 ?_
 refine zS ?_
 refine yA ?_
 refine zN (zS ?_)
 refine yM ?_
 refine yC (p02D_ctr) bd36 [] [5000] ?_
 refine yC (modD_ctr (x := x) (N := 21888242871839275222246405745257275088548364400416034343698204186575808495617) (by decide) hlx (by rw [p02_digs]; decide)) bd67 [(0, 0), (5000, 0)] [6000] ?_
 refine yA ?_
 refine zN (zE ?_)
 exact rq [6000] [.tmp 2]
set_option maxRecDepth 10000 in
theorem bytes02_ctr {x : Nat} (hx : x < 18446744073709551616 ^ 4) : GC Try.prog 99 [.slice (some ⟨0, 0, none⟩) (D 4294967296 x).length 0] [⟨(D 4294967296 x).map (vi .u64), false, 1⟩] [.slice (some ⟨1, 0, none⟩) 32 0] [⟨(D 4294967296 x).map (vi .u64), false, 1⟩, ⟨(digs 256 32 x).map (vi .u8), true, 1⟩] := by
 refine gi Try.func99 ?_
 refine zS ?_
 refine yA ?_
 refine zN (zS ?_)
 refine yM ?_
 refine yC (wordsD_ctr (x := x) (n := 4) (by decide)) bd55 [(0, 0)] [5000] ?_
 refine yC (rb4_ctr hx) bd77 [(5000, 0)] [6000] ?_
 refine yA ?_
 refine zN (zE ?_)
 exact rq [6000] [.tmp 2]
set_option maxRecDepth 10000 in
theorem of02_ctr {v : Nat} (hv : v < 18446744073709551616) : GC Try.prog 100 [vi .u64 (v)] [] [.slice (some ⟨0, 0, none⟩) (D 4294967296 (v)).length 0] [⟨(D 4294967296 (v)).map (vi .u64), true, 1⟩] := by
 refine gi Try.func100 ?_
 refine zS ?_
 refine yA ?_
 refine zN (zS ?_)
 refine yM ?_
 refine AWo.buildSlice tbok 5000 [(0, vi .u64 v)] (out := [vi .u64 v]) rfl rfl (by decide) rfl rfl rfl (by decide) rfl rfl rfl rfl rfl ?_
 refine yC (digits_ctr (a := [v]) (fun y hy => by simp at hy; rw [hy]; exact hv) (Nat.lt_trans (Nat.lt_succ_self 1) (by decide))) bd57 [(5000, 0)] [6000] ?_
 refine yA ?_
 refine zN (zE ?_)
 rw [show num 18446744073709551616 [v] = v from num_one v]
 exact rq [6000] [.tmp 2]
end Go.Proofs.Ytiikffiembcboaa
namespace Go.Proofs.Ytiikffiembcboaa
open Go Sim
def pw : List Nat := digs 18446744073709551616 4 21888242871839275222246405745257275088548364400416034343698204186575808495617
theorem pw_len : pw.length = 4 := digs_len _ _
theorem pw_num : num 18446744073709551616 pw = 21888242871839275222246405745257275088548364400416034343698204186575808495617 := num_digs_lt (by decide)
theorem pw_bd : bd 18446744073709551616 pw := digs_bd (by decide) _ _
theorem pwOk : MwOk pw := ⟨pw_bd, by rw [pw_len]; decide, by rw [pw_len]; decide, by rw [pw_num]; decide⟩
theorem pw_0 : pw.getD 0 0 = 4891460686036598785 := by kernel_rfl
theorem pw_3 : pw.getD (pw.length - 1) 0 = 3486998266802970665 := by rw [pw_len]; kernel_rfl
theorem newP_ctr : GC Try.prog 52 [.slice (some ⟨0, 0, none⟩) pw.length 0] [⟨pw.map (vi .u64), false, 1⟩] [.pointer (some ⟨1, 0, none⟩), .int .i64 0] [⟨pw.map (vi .u64), false, 1⟩, ⟨[.slice (some ⟨2, 0, none⟩) pw.length 0, vi .u64 (ninvR (pw.getD 0 0)), .slice (some ⟨3, 0, none⟩) pw.length 0], true, 1⟩, ⟨(pw).map (vi .u64), true, 1⟩, ⟨(digs 18446744073709551616 pw.length (18446744073709551616 ^ pw.length * 18446744073709551616 ^ pw.length % num 18446744073709551616 pw)).map (vi .u64), true, 1⟩] := lnew_ctr pw_bd (by rw [pw_len]; decide) (by rw [pw_len]; decide) (by rw [pw_0]) (by rw [pw_3]; decide) (by rw [pw_len]; decide)
theorem redP_ctr {a : List Nat} {sq : List Nat} {iv ns na xa : Nat} (hna : a.length = na) (hxa : num 18446744073709551616 a = xa) (ha : bd 18446744073709551616 a) (hla : na ≤ 1000) : GC Try.prog 61 [.pointer (some ⟨0, 0, none⟩), .slice (some ⟨3, 0, none⟩) na 0] [⟨[.slice (some ⟨1, 0, none⟩) pw.length 0, vi .u64 iv, .slice (some ⟨2, 0, none⟩) ns 0], false, 1⟩, ⟨(pw).map (vi .u64), false, 1⟩, ⟨(sq).map (vi .u64), false, 1⟩, ⟨a.map (vi .u64), false, 1⟩] [.slice (some ⟨4, 0, none⟩) 4 0] [⟨[.slice (some ⟨1, 0, none⟩) pw.length 0, vi .u64 iv, .slice (some ⟨2, 0, none⟩) ns 0], false, 1⟩, ⟨(pw).map (vi .u64), false, 1⟩, ⟨(sq).map (vi .u64), false, 1⟩, ⟨a.map (vi .u64), false, 1⟩, ⟨(digs 18446744073709551616 4 (xa % 21888242871839275222246405745257275088548364400416034343698204186575808495617)).map (vi .u64), true, 1⟩] := by
 have h := reduce_ctr (mw := pw) (iv := iv) (sq := sq) (ns := ns) pwOk ha (by omega)
 rw [pw_len, pw_num, hna, hxa] at h
 rw [pw_len]
 exact h
theorem rest4 {x : Nat} : num 18446744073709551616 (digs 18446744073709551616 4 (x % 21888242871839275222246405745257275088548364400416034343698204186575808495617)) = x % 21888242871839275222246405745257275088548364400416034343698204186575808495617 := num_digs_lt (Nat.lt_trans (Nat.mod_lt _ (by decide)) (by decide))
theorem inv_words {e : Nat} (he : e = 21888242871839275222246405745257275088548364400416034343698204186575808495617 - 2) : (digs 18446744073709551616 4 21888242871839275222246405745257275088548364400416034343698204186575808495617).set 0 4891460686036598783 = digs 18446744073709551616 4 e := by subst he; kernel_rfl
def pmod (m b : Nat) : Nat → Nat → Nat
  | 0, _ => 1 % m
  | k + 1, e => (fun h => if e % 2 = 1 then h * h % m * (b % m) % m else h * h % m) (pmod m b k (e / 2))
theorem pmod_eq (m b : Nat) : ∀ k e, e < 2 ^ k → pmod m b k e = b ^ e % m := by
  intro k
  induction k with
  | zero => intro e h; obtain rfl : e = 0 := by omega
            rfl
  | succ k ih =>
    intro e h
    rw [Nat.pow_succ] at h
    simp only [pmod]
    rw [ih (e / 2) (by omega)]
    have e1 : e = e / 2 + e / 2 + e % 2 := by omega
    split
    · rename_i h1
      conv => rhs; rw [e1, h1, Nat.pow_add, Nat.pow_add, Nat.pow_one]
      generalize b ^ (e / 2) = p
      rw [← Nat.mul_mod p p m, ← Nat.mul_mod]
    · conv => rhs; rw [e1, show e % 2 = 0 by omega, Nat.add_zero, Nat.pow_add]
      rw [← Nat.mul_mod]
theorem inv_two {e : Nat} (he : e = 21888242871839275222246405745257275088548364400416034343698204186575808495617 - 2) : 2 ^ e % 21888242871839275222246405745257275088548364400416034343698204186575808495617 = 10944121435919637611123202872628637544274182200208017171849102093287904247809 := by
  rw [← pmod_eq 21888242871839275222246405745257275088548364400416034343698204186575808495617 2 254 e (by rw [he]; decide), he]
  decide +kernel
theorem emulP_ctr {u v : Nat} : GC Try.prog 91 [.agg ((fel u).map (vi .u64)).toArray, .agg ((fel v).map (vi .u64)).toArray] [] [.agg ((fel (u * v % 21888242871839275222246405745257275088548364400416034343698204186575808495617)).map (vi .u64)).toArray] [] := by
 have h := emul_ctr (u := u) (v := v)
 rw [← fel_mod (u * v)] at h
 exact h
theorem one_word {x : Nat} (hx : x < 18446744073709551616) : digs 18446744073709551616 4 x = [x, 0, 0, 0] := by
 simp only [digs, Nat.mod_eq_of_lt hx, Nat.div_eq_of_lt hx]
set_option maxRecDepth 10000 in
theorem esqP_ctr {v : Nat} : GC Try.prog 107 [.agg ((fel v).map (vi .u64)).toArray] [] [.agg ((fel (v * v % 21888242871839275222246405745257275088548364400416034343698204186575808495617)).map (vi .u64)).toArray] [] := by
 refine gi Try.func107 ?_
 have hd1 := fel_len v
 have hd2 := fel_len (v * v % 21888242871839275222246405745257275088548364400416034343698204186575808495617)
 refine zS ?_
 refine yO 2000 1 ((fel v).map (vi .u64)) ?_
 refine yN 3000 1 _ ?_
 refine zN (zS ?_)
 refine AWo.loadAgg tbok (vs := (fel v).map (vi .u64)) rfl rfl rfl rfl (by simp [fel_len]) (ld4 (fel_len _)) rfl rfl ?_
 refine AWo.loadAgg tbok (vs := (fel v).map (vi .u64)) rfl rfl rfl rfl (by simp [fel_len]) (ld4 (fel_len _)) rfl rfl ?_
 refine yC (emulP_ctr (u := v) (v := v)) bd91 [] [] ?_
 refine ySA ?_
 refine zN (zE ?_)
 exact rq [] [.cell 2 50]
set_option maxRecDepth 10000 in
theorem fromuP_ctr {x : Nat} (hx : x < 18446744073709551616) : GC Try.prog 82 [vi .u64 (x)] [] [.agg ((fel x).map (vi .u64)).toArray] [] := by
 refine gi Try.func82 ?_
 have hd1 := fel_len (num 18446744073709551616 (digs 18446744073709551616 4 x))
 have hd2 := fel_len x
 have h4 : x < 18446744073709551616 ^ 4 := Nat.lt_of_lt_of_le hx (by decide)
 refine zS ?_
 refine yN 3000 1 _ ?_
 refine zN (zS ?_)
 refine yM ?_
 refine yP ((PureOp.buildArr tbok [(0, vi .u64 x)] rfl rfl rfl (by decide) rfl rfl).mono (v' := .agg ((digs 18446744073709551616 4 x).map (vi .u64)).toArray) (by rw [one_word hx]; rfl)) ?_
 refine yC (enter_ctr (a := digs 18446744073709551616 4 x) (digs_bd (by decide) _ _) (digs_len _ _) (by rw [num_digs_lt h4]; exact Nat.lt_trans hx (by decide))) bd134 [] [] ?_
 rw [num_digs_lt h4]
 refine ySA ?_
 refine zN (zE ?_)
 exact rq [] [.cell 2 50]
theorem lb4_ctr {x : Nat} (hx : x < 18446744073709551616 ^ 4) : GC Try.prog 74 [.slice (some ⟨0, 0, none⟩) 4 0] [⟨(digs 18446744073709551616 4 x).map (vi .u64), false, 1⟩] [.slice (some ⟨1, 0, none⟩) 32 0] [⟨(digs 18446744073709551616 4 x).map (vi .u64), false, 1⟩, ⟨(digs 256 32 x).map (vi .u8), true, 1⟩] := by
 have h := lbytes_ctr (a := digs 18446744073709551616 4 x) (digs_bd (by decide) _ _) (by rw [digs_len]; decide)
 rw [digs_len, num_digs_lt hx] at h
 exact h
set_option maxRecDepth 10000 in
theorem fromwide_ctr {b : List Nat} (hb : bd 256 b) (hlb : b.length ≤ 1000) : GC Try.prog 85 [.slice (some ⟨0, 0, none⟩) b.length 0] [⟨b.map (vi .u8), false, 1⟩] [.agg ((fel (num 256 b % 21888242871839275222246405745257275088548364400416034343698204186575808495617)).map (vi .u64)).toArray] [⟨b.map (vi .u8), false, 1⟩] := by
 refine gi Try.func85 ?_
 have h8 := reads_num hb
 have hd4 := fel_len (num 18446744073709551616 (digs 18446744073709551616 4 (num 256 b % 21888242871839275222246405745257275088548364400416034343698204186575808495617)))
 have hl4 := digs_len (B := 18446744073709551616) 4 21888242871839275222246405745257275088548364400416034343698204186575808495617
 refine zS ?_
 refine yN 3000 1 _ ?_
 refine zN (zS ?_)
 refine yC (prime_ctr) bd136 [] [] ?_
 refine yN 4000 1 ((List.replicate 4 0).map (vi .u64)) ?_
 refine ySA ?_
 refine zN (zS ?_)
 refine AWo.sliceA tbok (h := 4) rfl .none .none rfl rfl rfl rfl (by decide) (by decide) (.inl rfl) (by simp [digs_len]) rfl rfl rfl ?_
 refine yC (newP_ctr) bd52 [(4000, 0)] [10000, 10001, 10002] ?_
 refine yM ?_
 refine yP pX ?_
 refine yP pX ?_
 refine yA ?_
 refine yA ?_
 refine zN (zS ?_)
 refine yM ?_
 refine yM ?_
 refine yC (lwords_ctr hb (by omega)) bd73 [(0, 0)] [15000] ?_
 refine yC (redP_ctr (a := digs 18446744073709551616 ((b.length + 7) / 8) (num 256 b)) (na := (b.length + 7) / 8) (xa := num 256 b) (digs_len _ _) h8 (digs_bd (by decide) _ _) (by omega)) bd61 [(10000, 0), (10001, 0), (10002, 0), (15000, 0)] [16000] ?_
 refine yP (PureOp.toArrT tbok rfl rfl (by decide) (by decide)) ?_
 refine AWo.loadAgg tbok (vs := (digs 18446744073709551616 4 (num 256 b % 21888242871839275222246405745257275088548364400416034343698204186575808495617)).map (vi .u64)) rfl rfl rfl rfl (by show 0 + 4 ≤ _; simp [digs_len]) (ld4 (digs_len _ _)) rfl rfl ?_
 refine yC (enter_ctr (a := digs 18446744073709551616 4 (num 256 b % 21888242871839275222246405745257275088548364400416034343698204186575808495617)) (digs_bd (by decide) _ _) (digs_len _ _) (by rw [rest4]; exact Nat.mod_lt _ (by decide))) bd134 [] [] ?_
 refine ySA ?_
 refine zN (zE ?_)
 rw [rest4]
 exact rq [] [.cell 2 50]
set_option maxRecDepth 10000 in
theorem eexp_ctr {v : Nat} {e : List Nat} (hv : v < 21888242871839275222246405745257275088548364400416034343698204186575808495617) (he : bd 18446744073709551616 e) (hle : e.length ≤ 1000) : GC Try.prog 87 [.agg ((fel v).map (vi .u64)).toArray, .slice (some ⟨0, 0, none⟩) e.length 0] [⟨e.map (vi .u64), false, 1⟩] [.agg ((fel (v ^ num 18446744073709551616 e % 21888242871839275222246405745257275088548364400416034343698204186575808495617)).map (vi .u64)).toArray] [⟨e.map (vi .u64), false, 1⟩] := by
 refine gi Try.func87 ?_
 have hbw := blen_words he
 have hle2 : e.length ≤ 1000 := hle
 have hd4 := fel_len v
 refine zS ?_
 refine yO 3000 1 ((fel v).map (vi .u64)) ?_
 refine yN 5000 1 _ ?_
 refine zN (zS ?_)
 refine yC (fromuP_ctr (x := 1) (by decide)) bd82 [] [] ?_
 refine yN 6000 1 _ ?_
 refine ySA ?_
 refine zN (zQ (zS ?_))
 refine yM ?_
 refine yC (lbits_ctr he (by omega)) bd66 [(0, 0)] [] ?_
 refine yP ((PureOp.subP rfl rfl (by omega)).mono (v' := vp (blen (num 18446744073709551616 e))) (by rfl)) ?_
 refine yA ?_
 refine zN (zB ?_)
 refine AW.loopw (fun mm σ => ∃ z, ∃ r, (r ≤ blen (num 18446744073709551616 e) ∧ z = v ^ (num 18446744073709551616 e / 2 ^ r) % 21888242871839275222246405745257275088548364400416034343698204186575808495617) ∧ mm = 1 * r ∧ σ = ⟨(upd (upd (upd (upd (upd emp 1 (.slice (some ⟨0, 0, none⟩) e.length 0)) 2 (.pointer (some ⟨3000, 0, none⟩))) 4 (.pointer (some ⟨5000, 0, none⟩))) 5 (.pointer (some ⟨6000, 0, none⟩))) 6 (vp r)), (upd (upd (upd (upd emp 0 ⟨(e).map (vi .u64), false, 1⟩) 3000 ⟨(fel v).map (vi .u64), true, 1⟩) 5000 ⟨(List.replicate 4 0).map (vi .u64), true, 1⟩) 6000 ⟨(fel z).map (vi .u64), true, 1⟩)⟩) (fm := []) (wk [0, 3000, 5000, 6000]) ⟨1, blen (num 18446744073709551616 e), ⟨Nat.le_refl _, by rw [num_lt_blen]; rfl⟩, rfl, rfl⟩ ?_
 rintro mm σ ⟨z, r, ⟨hr0, hz⟩, rfl, rfl⟩
 have hdz := fel_len z
 have hdz2 := fel_len (z * z % 21888242871839275222246405745257275088548364400416034343698204186575808495617)
 have hdz3 := fel_len (z * z % 21888242871839275222246405745257275088548364400416034343698204186575808495617 * v % 21888242871839275222246405745257275088548364400416034343698204186575808495617)
 refine zQ (zS ?_)
 refine yM ?_
 refine yP (PureOp.geP rfl rfl) ?_
 refine zN ?_
 refine zA (fun hb0 => ?_) (fun hb0 => ?_)
 ·
  have hp0 : 0 < r := by simpa using hb0
  obtain ⟨r, rfl⟩ : ∃ q, r = q + 1 := ⟨r - 1, by omega⟩
  rw [vp_succ]
  have hal := bit_len he (show r < blen (num 18446744073709551616 e) by omega)
  refine zK (zT (zQ (zB (zS ?_))))
  refine AWo.loadAgg tbok (vs := (fel z).map (vi .u64)) rfl rfl rfl rfl (by simp [fel_len]) (ld4 (fel_len _)) rfl rfl ?_
  refine yC (esqP_ctr (v := z)) bd107 [] [] ?_
  refine ySA ?_
  refine zN (zS ?_)
  refine yM ?_
  refine yM ?_
  refine yP ((PureOp.quoN (b := 64) 9223372036854775808 rfl rfl (by decide) (by decide) (by decide) (by omega)).mono (v' := vi .i64 (r / 64)) rfl) ?_
  refine yP pJ ?_
  refine yL 0 ?_
  refine yM ?_
  refine yP ((PureOp.remN (b := 64) rfl rfl (by decide)).mono (v' := vi .i64 (r % 64)) rfl) ?_
  refine yP (PureOp.shrN (b := r % 64) 64 rfl rfl rfl (by omega)) ?_
  refine yP ((PureOp.andN 18446744073709551616 rfl rfl (by decide) (by decide) (Nat.lt_of_le_of_lt (Nat.div_le_self _ _) (bd_getD he (by decide) _)) (by decide)).mono (v' := vi .u64 (num 18446744073709551616 e / 2 ^ r % 2)) (congrArg (vi .u64) ((Nat.and_one_is_mod _).trans (bit64_at he r)))) ?_
  refine yP (pEq (b := 1)) ?_
  refine zN ?_
  refine zA (fun hb1 => ?_) (fun hb1 => ?_)
  ·
   have hb2 : num 18446744073709551616 e / 2 ^ r % 2 = 1 := by simpa using hb1
   refine zR ?_
   refine AWo.loadAgg tbok (vs := (fel (z * z % 21888242871839275222246405745257275088548364400416034343698204186575808495617)).map (vi .u64)) rfl rfl rfl rfl (by simp [fel_len]) (ld4 (fel_len _)) rfl rfl ?_
   refine AWo.loadAgg tbok (vs := (fel v).map (vi .u64)) rfl rfl rfl rfl (by simp [fel_len]) (ld4 (fel_len _)) rfl rfl ?_
   refine yC (emulP_ctr (u := z * z % 21888242871839275222246405745257275088548364400416034343698204186575808495617) (v := v)) bd91 [] [] ?_
   refine ySA ?_
   refine zN (zL (zT (zR ?_)))
   refine yM ?_
   refine yP (PureOp.subP rfl rfl (by omega)) ?_
   refine yA ?_
   refine zN (zT ?_)
   exact ⟨1 * r, [], _, by omega, wk [0, 3000, 5000, 6000], z * z % 21888242871839275222246405745257275088548364400416034343698204186575808495617 * v % 21888242871839275222246405745257275088548364400416034343698204186575808495617, r, ⟨by omega, by rw [← exp_odd hz hb2, Nat.mod_eq_of_lt hv]⟩, rfl, rfl⟩
  ·
   have hb2 : ¬ num 18446744073709551616 e / 2 ^ r % 2 = 1 := by simpa using hb1
   refine zK (zL (zT (zR ?_)))
   refine yM ?_
   refine yP (PureOp.subP rfl rfl (by omega)) ?_
   refine yA ?_
   refine zN (zT ?_)
   exact ⟨1 * r, [], _, by omega, wk [0, 3000, 5000, 6000], z * z % 21888242871839275222246405745257275088548364400416034343698204186575808495617, r, ⟨by omega, exp_even hz hb2⟩, rfl, rfl⟩
 ·
  obtain rfl : r = 0 := by simpa using hb0
  rw [Nat.pow_zero, Nat.div_one] at hz
  rw [← hz]
  refine zX (zV (zV (zH (zT (zS ?_)))))
  refine AWo.loadAgg tbok (vs := (fel z).map (vi .u64)) rfl rfl rfl rfl (by simp [fel_len]) (ld4 (fel_len _)) rfl rfl ?_
  refine ySA ?_
  refine zN (zE ?_)
  exact rq [] [.cell 4 50]
theorem eexp_ctrN {e : List Nat} {ne xe : Nat} (hne : e.length = ne) (hxe : num 18446744073709551616 e = xe) {v : Nat} (hv : v < 21888242871839275222246405745257275088548364400416034343698204186575808495617) (he : bd 18446744073709551616 e) (hle : e.length ≤ 1000) : GC Try.prog 87 [.agg ((fel v).map (vi .u64)).toArray, .slice (some ⟨0, 0, none⟩) ne 0] [⟨e.map (vi .u64), false, 1⟩] [.agg ((fel (v ^ xe % 21888242871839275222246405745257275088548364400416034343698204186575808495617)).map (vi .u64)).toArray] [⟨e.map (vi .u64), false, 1⟩] := by
 subst hne hxe
 exact eexp_ctr hv he hle
set_option maxRecDepth 10000 in
theorem einv_ctr {v e : Nat} (he : e = 21888242871839275222246405745257275088548364400416034343698204186575808495617 - 2) (hv : v < 21888242871839275222246405745257275088548364400416034343698204186575808495617) : GC Try.prog 89 [.agg ((fel v).map (vi .u64)).toArray] [] [.agg ((fel (v ^ e % 21888242871839275222246405745257275088548364400416034343698204186575808495617)).map (vi .u64)).toArray] [] := by
 refine gi Try.func89 ?_
 have hd4 := fel_len v
 refine zS ?_
 refine yO 2000 1 ((fel v).map (vi .u64)) ?_
 refine yN 3000 1 _ ?_
 refine zN (zS ?_)
 refine yC (prime_ctr) bd136 [] [] ?_
 refine yN 4000 1 ((List.replicate 4 0).map (vi .u64)) ?_
 refine ySA ?_
 refine zN (zS ?_)
 refine yP (pA (j := 0)) ?_
 refine AWo.load tbok (v := vi .u64 4891460686036598785) rfl rfl rfl (by kernel_rfl) rfl rfl ?_
 refine yP ((PureOp.subU (b := 2) 18446744073709551616 rfl rfl rfl rfl (by decide)).mono (v' := vi .u64 4891460686036598783) (congrArg (vi .u64) (by decide))) ?_
 refine yP (pA (j := 0)) ?_
 refine AWo.storeM (f := (vi .u64)) (y := 4891460686036598783) tbok rfl rfl rfl rfl (by rw [digs_len]; decide) rfl rfl ?_
 rw [inv_words he]
 refine zN ?_
 refine AW.seqD mixed ?_
 refine AWo.loadAgg tbok (vs := (fel v).map (vi .u64)) rfl rfl rfl rfl (by simp [fel_len]) (ld4 (fel_len _)) rfl rfl ?_
 refine AWo.sliceA tbok (h := 4) rfl .none .none rfl rfl rfl rfl (by decide) (by decide) (.inl rfl) (by simp [digs_len]) rfl rfl rfl ?_
 refine yC (eexp_ctrN (v := v) (e := digs 18446744073709551616 4 e) (ne := 4) (xe := e) (digs_len _ _) (num_digs_lt (by rw [he]; decide)) hv (digs_bd (by decide) _ _) (by rw [digs_len]; decide)) bd87 [(4000, 0)] [] ?_
 refine ySA ?_
 refine zD (zE ?_)
 exact rq [] [.cell 2 50]
set_option maxRecDepth 10000 in
theorem fprime_ctr : GC Try.prog 98 [] [] [.agg ((digs 256 32 21888242871839275222246405745257275088548364400416034343698204186575808495617).map (vi .u8)).toArray] [] := by
 refine gi Try.func98 ?_
 have hd7 := digs_len (B := 256) 32 21888242871839275222246405745257275088548364400416034343698204186575808495617
 have hl4 := digs_len (B := 18446744073709551616) 4 21888242871839275222246405745257275088548364400416034343698204186575808495617
 refine zS ?_
 refine yN 1000 1 ((List.replicate 32 0).map (vi .u8)) ?_
 refine zN (zS ?_)
 refine yC (prime_ctr) bd136 [] [] ?_
 refine yN 2000 1 ((List.replicate 4 0).map (vi .u64)) ?_
 refine ySA ?_
 refine zN (zS ?_)
 refine AWo.sliceA tbok (h := 4) rfl .none .none rfl rfl rfl rfl (by decide) (by decide) (.inl rfl) (by simp [digs_len]) rfl rfl rfl ?_
 refine yC (lb4_ctr (x := 21888242871839275222246405745257275088548364400416034343698204186575808495617) (by decide)) bd74 [(2000, 0)] [5000] ?_
 refine yP (PureOp.toArrT tbok rfl rfl (by decide) (by decide)) ?_
 refine AWo.loadAgg tbok (vs := (digs 256 32 21888242871839275222246405745257275088548364400416034343698204186575808495617).map (vi .u8)) rfl rfl rfl rfl (by show 0 + 32 ≤ _; simp [digs_len]) (List.take_of_length_le (by simp [digs_len])) rfl rfl ?_
 refine ySA ?_
 refine zN (zE ?_)
 exact rq [] [.cell 0 40]
set_option maxRecDepth 10000 in
theorem isT_ctr {v : Nat} (hv : v < 21888242871839275222246405745257275088548364400416034343698204186575808495617) : GC Try.prog 46 [.agg ((fel v).map (vi .u64)).toArray, .slice (some ⟨0, 0, none⟩) (D 4294967296 v).length 0] [⟨(D 4294967296 v).map (vi .u64), false, 1⟩] [.bool true] [⟨(D 4294967296 v).map (vi .u64), false, 1⟩] := by
 refine gi Try.func46 ?_
 have hd4 := fel_len v
 have hd7 := digs_len (B := 256) 32 v
 refine zS ?_
 refine yO 3000 1 ((fel v).map (vi .u64)) ?_
 refine yA ?_
 refine zN (zS ?_)
 refine AWo.loadAgg tbok (vs := (fel v).map (vi .u64)) rfl rfl rfl rfl (by simp [fel_len]) (ld4 (fel_len _)) rfl rfl ?_
 refine yC (ebytes_ctr hv) bd43 [] [] ?_
 refine yN 6000 1 ((List.replicate 32 0).map (vi .u8)) ?_
 refine ySA ?_
 refine zN ?_
 refine AW.seqD mixed ?_
 refine AWo.sliceA tbok (h := 32) rfl .none .none rfl rfl rfl rfl (by decide) (by decide) (.inl rfl) (by simp [digs_len]) rfl rfl rfl ?_
 refine AWo.bytesStr tbok (digs 256 32 v) rfl rfl (List.take_of_length_le (by simp [digs_len])) (digs_len _ _) rfl Try.underlying5 Try.underlying9 rfl rfl ?_
 refine yM ?_
 refine yC (bytes02_ctr (Nat.lt_trans hv (by decide))) bd99 [(0, 0)] [12000] ?_
 refine AWo.bytesStr tbok (digs 256 32 v) rfl rfl (List.take_of_length_le (by simp [digs_len])) (digs_len _ _) rfl Try.underlying5 Try.underlying9 rfl rfl ?_
 refine yP (PureOp.sameStr rfl rfl) ?_
 refine yA ?_
 refine zD (zE ?_)
 exact rq [] [.tmp 4]
set_option maxRecDepth 10000 in
theorem speaks2_ctr : GC Try.prog 84 [] [] [.bool true] [] := by
 refine gi Try.func84 ?_
 obtain ⟨e, he⟩ : ∃ e, e = 21888242871839275222246405745257275088548364400416034343698204186575808495617 - 2 := ⟨_, rfl⟩
 have hinv := inv_two he
 have hd7 := digs_len (B := 256) 32 10944121435919637611123202872628637544274182200208017171849102093287904247809
 refine zS ?_
 refine yA ?_
 refine zN (zS ?_)
 refine yC (fromuP_ctr (x := 2) (by decide)) bd82 [] [] ?_
 refine yC (einv_ctr (v := 2) he (by decide)) bd89 [] [] ?_
 rw [hinv]
 refine yC (ebytes_ctr (v := 10944121435919637611123202872628637544274182200208017171849102093287904247809) (by decide)) bd43 [] [] ?_
 refine yN 2000 1 ((List.replicate 32 0).map (vi .u8)) ?_
 refine ySA ?_
 refine zN (zS ?_)
 refine AWo.sliceA tbok (h := 32) rfl .none .none rfl rfl rfl rfl (by decide) (by decide) (.inl rfl) (by simp [digs_len]) rfl rfl rfl ?_
 refine yC (ofb_ctr (a := digs 256 32 10944121435919637611123202872628637544274182200208017171849102093287904247809) (digs_bd (by decide) _ _) (by rw [digs_len]; decide)) bd75 [(2000, 0)] [7000] ?_
 refine yC (words_ctr (a := D 4294967296 (num 256 (digs 256 32 10944121435919637611123202872628637544274182200208017171849102093287904247809))) (n := 1) (bd_D (by decide) _) (by decide)) bd55 [(7000, 0)] [8000] ?_
 refine yP (pI (j := 0) (hi := (by rw [digs_len]; decide))) ?_
 refine AWo.load tbok (v := vi .u64 11669102379873075201) rfl rfl rfl (by kernel_rfl) rfl rfl ?_
 refine yP (pEq (b := 11669102379873075201)) ?_
 refine yA ?_
 refine zN (zE ?_)
 exact rq [] [.tmp 0]
end Go.Proofs.Ytiikffiembcboaa
namespace Go.Proofs.Ytiikffiembcboaa
open Go Sim
theorem bytes_room {b : List Nat} (hb : bd 256 b) (hl : b.length ≤ 1000) : (D 4294967296 (num 256 b)).length < 1000000 := by
 have h : num 256 b < 4294967296 ^ b.length := Nat.lt_of_lt_of_le (num_lt hb) (Nat.pow_le_pow_left (by decide) _)
 have := (D_len_le (B := 4294967296) (by decide) _ _).2 h
 omega
theorem fromwideX_ctr {b : List Nat} {x : Nat} (hb : bd 256 b) (hlb : b.length ≤ 1000) (hx : x = num 256 b % 21888242871839275222246405745257275088548364400416034343698204186575808495617) : GC Try.prog 85 [.slice (some ⟨0, 0, none⟩) b.length 0] [⟨b.map (vi .u8), false, 1⟩] [.agg ((fel x).map (vi .u64)).toArray] [⟨b.map (vi .u8), false, 1⟩] := by
 subst hx; exact fromwide_ctr hb hlb
theorem mod02X_ctr {v x : Nat} (hlv : (D 4294967296 v).length < 1000000) (hx : x = v % 21888242871839275222246405745257275088548364400416034343698204186575808495617) : GC Try.prog 86 [.slice (some ⟨0, 0, none⟩) (D 4294967296 v).length 0] [⟨(D 4294967296 v).map (vi .u64), false, 1⟩] [.slice (some ⟨1, 0, none⟩) (D 4294967296 (x)).length 0] [⟨(D 4294967296 v).map (vi .u64), false, 1⟩, ⟨(D 4294967296 (x)).map (vi .u64), true, 1⟩] := by
 subst hx; exact mod02_ctr hlv
def rdV (b : List Nat) : Nat := if b.length = 32 ∧ num 256 b < 21888242871839275222246405745257275088548364400416034343698204186575808495617 then num 256 b else 0
def rdC (b : List Nat) : Int := if b.length = 32 then (if num 256 b < 21888242871839275222246405745257275088548364400416034343698204186575808495617 then 0 else 4) else 1
theorem rd_len {b : List Nat} (h : b.length ≠ 32) : rdV b = 0 ∧ rdC b = 1 := ⟨if_neg fun h1 => h h1.1, if_neg h⟩
theorem rd_ge {b : List Nat} (h : b.length = 32) (h2 : 21888242871839275222246405745257275088548364400416034343698204186575808495617 ≤ num 256 b) : rdV b = 0 ∧ rdC b = 4 := ⟨if_neg fun h1 => by have := h1.2; omega, by rw [rdC, if_pos h, if_neg (by omega)]⟩
theorem rd_ok {b : List Nat} (h : b.length = 32) (h2 : num 256 b < 21888242871839275222246405745257275088548364400416034343698204186575808495617) : rdV b = num 256 b ∧ rdC b = 0 := ⟨if_pos ⟨h, h2⟩, by rw [rdC, if_pos h, if_pos h2]⟩
theorem rdV_lt (b : List Nat) : rdV b < 21888242871839275222246405745257275088548364400416034343698204186575808495617 := by
  simp only [rdV]
  split
  · rename_i h; exact h.2
  · decide
theorem rd_back {b : List Nat} (hb : bd 256 b) (h : rdC b = 0) : digs 256 32 (rdV b) = b := by
  by_cases h1 : b.length = 32
  · by_cases h2 : num 256 b < 21888242871839275222246405745257275088548364400416034343698204186575808495617
    · rw [(rd_ok h1 h2).1, ← h1, digs_num hb]
    · rw [(rd_ge h1 (by omega)).2] at h; cases h
  · rw [(rd_len h1).2] at h; cases h
theorem fbX_ctr {b : List Nat} (hb : bd 256 b) : GC Try.prog 96 [.slice (some ⟨0, 0, none⟩) b.length 0] [⟨b.map (vi .u8), false, 1⟩] [.agg ((fel (rdV b)).map (vi .u64)).toArray, .int .i64 (rdC b)] [⟨b.map (vi .u8), false, 1⟩] := by
  by_cases h1 : b.length = 32
  · by_cases h2 : num 256 b < 21888242871839275222246405745257275088548364400416034343698204186575808495617
    · rw [(rd_ok h1 h2).1, (rd_ok h1 h2).2]; exact fbok_ctr hb h1 h2
    · rw [(rd_ge h1 (by omega)).1, (rd_ge h1 (by omega)).2, fel_zero]; exact fbcanon_ctr hb h1 (by omega)
  · rw [(rd_len h1).1, (rd_len h1).2, fel_zero]; exact fbarg_ctr h1
theorem PureOp.sameNe {P : Program} {E : Env} {t t' : TypeId} {x y : Operand} {a b : ByteArray} (h1 : aev E x = some (.string a)) (h2 : aev E y = some (.string b)) (hab : a = b) : PureOp P (.binOp .neq t x y t') E (.bool false) := fun D ρ e hx => by
  subst hab
  have e1 := flat_inv (hx x (by simp [Op.operands]) _ h1) rfl
  have e2 := flat_inv (hx y (by simp [Op.operands]) _ h2) rfl
  exact ⟨_, .flat _ rfl, fun _ _ _ _ _ w => by simp [execOp, e1, e2, eqGuard, binOp, Op.stringOp]⟩
set_option maxRecDepth 10000 in
theorem read02_ctr {b : List Nat} (hb : bd 256 b) : GC Try.prog 97 [.slice (some ⟨0, 0, none⟩) b.length 0] [⟨b.map (vi .u8), false, 1⟩] [.slice (some ⟨1, 0, none⟩) (D 4294967296 (rdV b)).length 0, .int .i64 (rdC b)] [⟨b.map (vi .u8), false, 1⟩, ⟨(D 4294967296 (rdV b)).map (vi .u64), true, 1⟩] := by
 refine gi Try.func97 ?_
 refine AW.ghost 99000 1 rfl ?_
 refine zS ?_
 refine yA ?_
 refine yA ?_
 refine zN (zQ (zS ?_))
 refine yM ?_
 refine yP pL ?_
 refine yP (pNe (b := 32)) ?_
 refine zN ?_
 refine zA (fun hb0 => ?_) (fun hb0 => ?_)
 ·
  have hl : b.length ≠ 32 := by simpa using hb0
  rw [(rd_len hl).1, (rd_len hl).2]
  refine zS ?_
  refine yA ?_
  refine yA ?_
  refine zN (zE (zU ?_))
  exact rq [99000] [.tmp 2, .tmp 3]
 ·
  have hl : b.length = 32 := by simpa using hb0
  have hnb := num_lt hb
  rw [hl] at hnb
  have hlx : (D 4294967296 (num 256 b)).length ≤ 9 := (D_len_le (by decide) _ _).2 (Nat.lt_of_lt_of_le hnb (by decide))
  refine zK (zT (zS ?_))
  refine yM ?_
  refine yC (ofb_ctr hb (by omega)) bd75 [(0, 0)] [10000] ?_
  refine yA ?_
  refine zN (zQ (zS ?_))
  refine yM ?_
  refine yC (p02D_ctr) bd36 [] [12000] ?_
  refine yC (cmpD_ctr (x := num 256 b) (y := 21888242871839275222246405745257275088548364400416034343698204186575808495617) (by omega) lenP) bd34 [(10000, 0), (12000, 0)] [] ?_
  refine yP (PureOp.bin rfl rfl rfl) ?_
  refine zN ?_
  refine zA (fun hb1 => ?_) (fun hb1 => ?_)
  ·
   have hge : 21888242871839275222246405745257275088548364400416034343698204186575808495617 ≤ num 256 b := ge_of_cmp (by simpa using hb1)
   rw [(rd_ge hl hge).1, (rd_ge hl hge).2]
   refine zS ?_
   refine yA ?_
   refine yA ?_
   refine zN (zE (zU ?_))
   exact rq [99000] [.tmp 2, .tmp 3]
  ·
   have hlt : num 256 b < 21888242871839275222246405745257275088548364400416034343698204186575808495617 := lt_of_cmp (by simpa using hb1)
   rw [(rd_ok hl hlt).1, (rd_ok hl hlt).2]
   refine zK (zT (zS ?_))
   refine yM ?_
   refine yA ?_
   refine yA ?_
   refine zN (zE ?_)
   exact rq [10000] [.tmp 2, .tmp 3]
set_option maxRecDepth 10000 in
theorem freads_ctr {b : List Nat} {v : Nat} (hb : bd 256 b) (hv : v < 18446744073709551616) : GC Try.prog 24 [.slice (some ⟨0, 0, none⟩) b.length 0, vi .u64 (v)] [⟨b.map (vi .u8), false, 1⟩] [.bool true] [⟨b.map (vi .u8), false, 1⟩] := by
 refine gi Try.func24 ?_
 refine zS ?_
 refine yA ?_
 refine zN (zQ (zS ?_))
 refine yC (speaks2_ctr) bd84 [] [] ?_
 first | refine AWo.pure ((PureOp.not rfl).mono (v' := .bool false) (congrArg Value.bool (by rfl))) rfl rfl ?_
 refine yM ?_
 refine yM ?_
 refine yP pL ?_
 refine yB (pGt (b := 100)) (fun hb0 => ?_) (fun hb0 => ?_)
 ·
  refine yP pE ?_
  refine zN (zC (zS ?_))
  refine yC (speaks2_ctr) bd84 [] [] ?_
  refine yA ?_
  refine zN (zE (zU ?_))
  exact rq [] [.tmp 4]
 ·
  have hlb : b.length ≤ 100 := by simpa using hb0
  obtain ⟨x, ex⟩ : ∃ x, x = num 256 b % 21888242871839275222246405745257275088548364400416034343698204186575808495617 := ⟨_, rfl⟩
  have hx : x < 21888242871839275222246405745257275088548364400416034343698204186575808495617 := by rw [ex]; exact Nat.mod_lt _ (by decide)
  have hdx := fel_len (rdV b)
  have hdp := digs_len (B := 256) 32 21888242871839275222246405745257275088548364400416034343698204186575808495617
  have hdr := digs_len (B := 256) 32 (rdV b)
  have hrd := rdV_lt b
  refine yP pE ?_
  refine zN (zF (zK (zT (zS ?_))))
  refine yM ?_
  refine yC (fbX_ctr hb) bd96 [(0, 0)] [] ?_
  refine yM ?_
  refine yP pX ?_
  refine yP pX ?_
  refine yN 6000 1 _ ?_
  refine ySA ?_
  refine yA ?_
  refine zN (zS ?_)
  refine yM ?_
  refine yC (read02_ctr hb) bd97 [(0, 0)] [27000] ?_
  refine yM ?_
  refine yP pX ?_
  refine yP pX ?_
  refine yA ?_
  refine yA ?_
  refine zN (zS ?_)
  refine yC (fprime_ctr) bd98 [] [] ?_
  refine yN 10000 1 ((List.replicate 32 0).map (vi .u8)) ?_
  refine ySA ?_
  refine zN (zQ ?_)
  refine AW.seqD mixed ?_
  refine yM ?_
  refine yM ?_
  refine yP ((PureOp.bin rfl rfl rfl).mono (v' := .bool false) (congrArg Value.bool (by simp))) ?_
  refine yM ?_
  refine AWo.loadAgg tbok (vs := (fel ((rdV b))).map (vi .u64)) rfl rfl rfl rfl (by simp [fel_len]) (ld4 (fel_len _)) rfl rfl ?_
  refine yM ?_
  refine yC (isT_ctr (v := rdV b) hrd) bd46 [(27000, 0)] [] ?_
  refine yP (PureOp.not rfl) ?_
  refine yP pE ?_
  refine yM ?_
  refine AWo.sliceA tbok (h := 32) rfl .none .none rfl rfl rfl rfl (by decide) (by decide) (.inl rfl) (by simp [digs_len]) rfl rfl rfl ?_
  refine AWo.bytesStr tbok (digs 256 32 21888242871839275222246405745257275088548364400416034343698204186575808495617) rfl rfl (List.take_of_length_le (by simp [digs_len])) (digs_len _ _) rfl Try.underlying5 Try.underlying9 rfl rfl ?_
  refine yC (p02D_ctr) bd36 [] [43000] ?_
  refine yC (bytes02_ctr (x := 21888242871839275222246405745257275088548364400416034343698204186575808495617) (by decide)) bd99 [(43000, 0)] [44000] ?_
  refine AWo.bytesStr tbok (digs 256 32 21888242871839275222246405745257275088548364400416034343698204186575808495617) rfl rfl (List.take_of_length_le (by simp [digs_len])) (digs_len _ _) rfl Try.underlying5 Try.underlying9 rfl rfl ?_
  refine yP (PureOp.sameNe rfl rfl rfl) ?_
  refine yP pE ?_
  refine zD (zF (zK (zT (zQ (zS ?_)))))
  refine yM ?_
  refine yP (PureOp.bin rfl rfl rfl) ?_
  refine zN ?_
  refine zA (fun hb1 => ?_) (fun hb1 => ?_)
  ·
   have h0 : rdC b = 0 := by simpa using hb1
   refine zS ?_
   refine AWo.loadAgg tbok (vs := (fel ((rdV b))).map (vi .u64)) rfl rfl rfl rfl (by simp [fel_len]) (ld4 (fel_len _)) rfl rfl ?_
   refine yC (ebytes_ctr (v := rdV b) hrd) bd43 [] [] ?_
   refine yN 11000 1 ((List.replicate 32 0).map (vi .u8)) ?_
   refine ySA ?_
   refine zN ?_
   refine AW.seqD mixed ?_
   refine AWo.sliceA tbok (h := 32) rfl .none .none rfl rfl rfl rfl (by decide) (by decide) (.inl rfl) (by simp [digs_len]) rfl rfl rfl ?_
   refine AWo.bytesStr tbok (digs 256 32 (rdV b)) rfl rfl (List.take_of_length_le (by simp [digs_len])) (digs_len _ _) rfl Try.underlying5 Try.underlying9 rfl rfl ?_
   refine yM ?_
   refine AWo.bytesStr tbok b rfl rfl (List.take_of_length_le (by simp)) rfl rfl Try.underlying5 Try.underlying9 rfl rfl ?_
   refine yP (PureOp.sameNe rfl rfl (by rw [rd_back hb h0])) ?_
   refine zD (zF (zK (zT (zS ?_))))
   refine yM ?_
   refine yC (fromwideX_ctr (x := x) hb (by omega) ex) bd85 [(0, 0)] [] ?_
   refine yM ?_
   refine yC (ofb_ctr hb (by omega)) bd75 [(0, 0)] [60000] ?_
   refine yC (mod02X_ctr (v := num 256 b) (x := x) (bytes_room hb (by omega)) ex) bd86 [(60000, 0)] [61000] ?_
   refine yC (isT_ctr (v := x) hx) bd46 [(61000, 0)] [] ?_
   refine yM ?_
   refine yM ?_
   refine yC (fromuP_ctr (x := v) hv) bd82 [] [] ?_
   refine yM ?_
   refine yC (of02_ctr (v := v) hv) bd100 [] [67000] ?_
   refine yC (isT_ctr (v := v) (Nat.lt_trans hv (by decide))) bd46 [(67000, 0)] [] ?_
   refine yP pT ?_
   refine yA ?_
   refine zN (zE ?_)
   exact rq [] [.tmp 4]
  ·
   refine zK (zT (zS ?_))
   refine yM ?_
   refine yC (fromwideX_ctr (x := x) hb (by omega) ex) bd85 [(0, 0)] [] ?_
   refine yM ?_
   refine yC (ofb_ctr hb (by omega)) bd75 [(0, 0)] [60000] ?_
   refine yC (mod02X_ctr (v := num 256 b) (x := x) (bytes_room hb (by omega)) ex) bd86 [(60000, 0)] [61000] ?_
   refine yC (isT_ctr (v := x) hx) bd46 [(61000, 0)] [] ?_
   refine yM ?_
   refine yM ?_
   refine yC (fromuP_ctr (x := v) hv) bd82 [] [] ?_
   refine yM ?_
   refine yC (of02_ctr (v := v) hv) bd100 [] [67000] ?_
   refine yC (isT_ctr (v := v) (Nat.lt_trans hv (by decide))) bd46 [(67000, 0)] [] ?_
   refine yP pT ?_
   refine yA ?_
   refine zN (zE ?_)
   exact rq [] [.tmp 4]
end Go.Proofs.Ytiikffiembcboaa
namespace Go.Proofs.Ytiikffiembcboaa
open Go
namespace Head
set_option maxRecDepth 100000 in
theorem words : ∃ l, Try.prog.initOrder = String.ofList l ∧ (behindMainWord (wordsSigns l)).head? = some "cut".toList := ⟨_, rfl, by kernel_rfl⟩
theorem head_of {P : Program} (h : ∃ l, P.initOrder = String.ofList l ∧ (behindMainWord (wordsSigns l)).head? = some "cut".toList) :
    ∃ rest, behindMainWord (wordsSigns P.initOrder.toList) = "cut".toList :: rest := by
  obtain ⟨l, h, hh⟩ := h
  rw [h, String.toList_ofList]
  cases hb : behindMainWord (wordsSigns l) with
  | nil => rw [hb] at hh; cases hh
  | cons c r => rw [hb] at hh; simp only [List.head?_cons, Option.some.injEq] at hh; exact ⟨r, by rw [hh]⟩
theorem cut_words : (liftWords.all fun s => !("cut".toList == s.toList)) = true := by decide +kernel
theorem strip_cut (rest : List (List Char)) : stripLifts liftWords ("cut".toList :: rest) = ([], "cut".toList :: rest) := by
  have key : ∀ o : List String, (o.all fun s => !("cut".toList == s.toList)) = true → stripLifts o ("cut".toList :: rest) = ([], "cut".toList :: rest) := by
    intro o
    induction o with
    | nil => intro _; rfl
    | cons s o ih =>
      intro h
      simp only [List.all_cons, Bool.and_eq_true, Bool.not_eq_true'] at h
      rw [stripLifts, if_neg (by rw [h.1]; exact Bool.false_ne_true)]
      exact ih h.2
  exact key liftWords cut_words
theorem mayEnter_of {P : Program} {rest : List (List Char)} (hr : behindMainWord (wordsSigns P.initOrder.toList) = "cut".toList :: rest) (e1 : P.laysLater = false) (e2 : P.bearsReflect = false) (e3 : P.doorFits [] = true) : P.mayEnter = true := by
  unfold Program.mayEnter
  rw [hr]
  simp only [strip_cut, e1, e2, e3]
  simp
theorem headLifts_of {P : Program} {rest : List (List Char)} (hr : behindMainWord (wordsSigns P.initOrder.toList) = "cut".toList :: rest) : P.headLifts = [] := by
  unfold Program.headLifts
  rw [hr, strip_cut]
  simp
theorem cut_ne : ("cut".toList == "carried".toList) = false ∧ ("cut".toList == "gc".toList) = false ∧ ("cut".toList == "spec".toList) = false := by decide +kernel
theorem liftsFinal_of {P : Program} {rest : List (List Char)} (hr : behindMainWord (wordsSigns P.initOrder.toList) = "cut".toList :: rest) : P.liftsFinal = false := by
  unfold Program.liftsFinal
  rw [hr, headLifts_of hr]
  simp
theorem make_of {P : Program} {rest : List (List Char)} (hr : behindMainWord (wordsSigns P.initOrder.toList) = "cut".toList :: rest) : P.make = some .cut := by
  unfold Program.make
  rw [hr]
  simp only [cut_ne.2.1, cut_ne.2.2, beq_self_eq_true]
  simp
theorem laysLater : Try.prog.laysLater = false := by kernel_rfl
theorem bearsReflect : Try.prog.bearsReflect = false := by kernel_rfl
theorem doorFits : Try.prog.doorFits [] = true := by kernel_rfl
theorem mayEnter : Try.prog.mayEnter = true := let ⟨_, hr⟩ := head_of words; mayEnter_of hr laysLater bearsReflect doorFits
theorem liftsFinal : Try.prog.liftsFinal = false := let ⟨_, hr⟩ := head_of words; liftsFinal_of hr
theorem make_cut : Try.prog.make = some .cut := let ⟨_, hr⟩ := head_of words; make_of hr
theorem band {a b : Bool} (ha : a = true) (hb : b = true) : (a && b) = true := by rw [ha, hb]; rfl
end Head
end Go.Proofs.Ytiikffiembcboaa
