/- What the proof stands on, part 4: the walk of each function, and plain laws of numbers. -/
import Derived.Test.YtiikffiembcboaaK3
import Derived.Test.YtiikffiembcboaaRows
import Derived.ProofKit
namespace Go.Proofs.Ytiikffiembcboaa
open Go Sim
theorem addD_ctr {x y : Nat} (hlx : (D 4294967296 x).length < 100000000) (hly : (D 4294967296 y).length < 100000000) : GC Try.prog 70 [.slice (some ⟨0, 0, none⟩) (D 4294967296 x).length 0, .slice (some ⟨1, 0, none⟩) (D 4294967296 y).length 0] [⟨(D 4294967296 x).map (vi .u64), false, 1⟩, ⟨(D 4294967296 y).map (vi .u64), false, 1⟩] [.slice (some ⟨2, 0, none⟩) (D 4294967296 (x + y)).length 0] [⟨(D 4294967296 x).map (vi .u64), false, 1⟩, ⟨(D 4294967296 y).map (vi .u64), false, 1⟩, ⟨(D 4294967296 (x + y)).map (vi .u64), true, 1⟩] := by
 have h := radd_ctr (a := D 4294967296 x) (b := D 4294967296 y) (bd_D (by decide) _) (bd_D (by decide) _) hlx hly
 simp only [num_D (show 2 ≤ 4294967296 by decide)] at h
 exact h
theorem subD_ctr {x y : Nat} (hlx : (D 4294967296 x).length < 100000000) (hly : (D 4294967296 y).length < 100000000) (h : y ≤ x) : GC Try.prog 71 [.slice (some ⟨0, 0, none⟩) (D 4294967296 x).length 0, .slice (some ⟨1, 0, none⟩) (D 4294967296 y).length 0] [⟨(D 4294967296 x).map (vi .u64), false, 1⟩, ⟨(D 4294967296 y).map (vi .u64), false, 1⟩] [.slice (some ⟨2, 0, none⟩) (D 4294967296 (x - y)).length 0] [⟨(D 4294967296 x).map (vi .u64), false, 1⟩, ⟨(D 4294967296 y).map (vi .u64), false, 1⟩, ⟨(D 4294967296 (x - y)).map (vi .u64), true, 1⟩] := by
 have h := rsub_ctr (a := D 4294967296 x) (b := D 4294967296 y) (bd_D (by decide) _) (bd_D (by decide) _) hlx hly (by rw [num_D (by decide), num_D (by decide)]; exact h)
 simp only [num_D (show 2 ≤ 4294967296 by decide)] at h
 exact h
theorem cmpD_ctr {x y : Nat} (hlx : (D 4294967296 x).length < 100000000) (hly : (D 4294967296 y).length < 100000000) : GC Try.prog 34 [.slice (some ⟨0, 0, none⟩) (D 4294967296 x).length 0, .slice (some ⟨1, 0, none⟩) (D 4294967296 y).length 0] [⟨(D 4294967296 x).map (vi .u64), false, 1⟩, ⟨(D 4294967296 y).map (vi .u64), false, 1⟩] [.int .i64 (cmpI x y)] [⟨(D 4294967296 x).map (vi .u64), false, 1⟩, ⟨(D 4294967296 y).map (vi .u64), false, 1⟩] := by
 have h := rcmp_ctr (a := D 4294967296 x) (b := D 4294967296 y) (bd_D (by decide) _) (bd_D (by decide) _) (Nat.lt_trans hlx (by decide)) (Nat.lt_trans hly (by decide))
 simp only [num_D (show 2 ≤ 4294967296 by decide)] at h
 exact h
theorem shiftD_ctr {x k : Nat} (hlx : (D 4294967296 x).length < 100000000) (hk : k < 32) : GC Try.prog 131 [.slice (some ⟨0, 0, none⟩) (D 4294967296 x).length 0, vi .i64 (k)] [⟨(D 4294967296 x).map (vi .u64), false, 1⟩] [.slice (some ⟨1, 0, none⟩) (D 4294967296 (x * 2 ^ k)).length 0] [⟨(D 4294967296 x).map (vi .u64), false, 1⟩, ⟨(D 4294967296 (x * 2 ^ k)).map (vi .u64), true, 1⟩] := by
 have h := shift_ctr (a := D 4294967296 x) (k := k) (bd_D (by decide) _) hlx hk
 simp only [num_D (show 2 ≤ 4294967296 by decide)] at h
 exact h
theorem mul256_ctr {x : Nat} (hlx : (D 4294967296 x).length < 100000000) : GC Try.prog 72 [.slice (some ⟨0, 0, none⟩) (D 4294967296 x).length 0, .slice (some ⟨1, 0, none⟩) ([256]).length 0] [⟨(D 4294967296 x).map (vi .u64), false, 1⟩, ⟨([256]).map (vi .u64), false, 1⟩] [.slice (some ⟨2, 0, none⟩) (D 4294967296 (x * 256)).length 0] [⟨(D 4294967296 x).map (vi .u64), false, 1⟩, ⟨([256]).map (vi .u64), false, 1⟩, ⟨(D 4294967296 (x * 256)).map (vi .u64), true, 1⟩] := by
 have h := rmul_ctr (a := D 4294967296 x) (b := [256]) (bd_D (by decide) _) (fun y hy => by simp at hy; rw [hy]; decide) hlx (by decide)
 rw [num_D (by decide), show num 4294967296 [256] = 256 from rfl] at h
 exact h
theorem num_one {B : Nat} (x : Nat) : num B [x] = x := by simp [num]
theorem bd_byte (v : Nat) : bd 4294967296 [v % 256] := fun y hy => by simp at hy; rw [hy]; exact Nat.lt_trans (Nat.mod_lt _ (by decide)) (by decide)
theorem num_byte (v : Nat) : num 4294967296 [v % 256] = v % 256 := @num_one 4294967296 (v % 256)
theorem byteD (x r : Nat) : (D 4294967296 x).getD (r / 4) 0 / 256 ^ (r % 4) % 256 = x / 256 ^ r % 256 := by
 rw [D_getD (by decide)]
 have hd : x / 256 ^ r = x / 4294967296 ^ (r / 4) / 256 ^ (r % 4) := by
  rw [Nat.div_div_eq_div_mul, show (4294967296 : Nat) = 256 ^ 4 from by decide, ← Nat.pow_mul, ← Nat.pow_add, Nat.div_add_mod]
 rw [hd]
 generalize x / 4294967296 ^ (r / 4) = z
 have hj : r % 4 < 4 := Nat.mod_lt _ (by decide)
 generalize r % 4 = j at hj
 have e : 4294967296 = 256 ^ j * (256 * 256 ^ (3 - j)) := by
  rw [← Nat.mul_assoc, Nat.mul_right_comm, ← Nat.pow_add, show j + (3 - j) = 3 by omega]
 rw [e, Nat.mod_mul_right_div_self, Nat.mod_mul_right_mod]
theorem mod_room {N : Nat} (h : (D 4294967296 N).length < 1000000) : ∀ z, z < N * 512 → (D 4294967296 z).length < 100000000 := fun z hz => by
 have h1 : N < 4294967296 ^ (D 4294967296 N).length := (D_len_le (B := 4294967296) (by decide) N _).1 (Nat.le_refl _)
 have h2 : z < 4294967296 ^ ((D 4294967296 N).length + 1) := Nat.lt_of_lt_of_le hz (by rw [Nat.pow_succ]; exact Nat.mul_le_mul (Nat.le_of_lt h1) (by decide))
 have := (D_len_le (B := 4294967296) (by decide) z _).2 h2
 omega
theorem mod_top {N : Nat} (x : Nat) : x / 256 ^ (4 * (D 4294967296 x).length) % N = 0 := by
 have h1 : x < 4294967296 ^ (D 4294967296 x).length := (D_len_le (B := 4294967296) (by decide) x _).1 (Nat.le_refl _)
 rw [Nat.pow_mul, show (256 : Nat) ^ 4 = 4294967296 from by decide, Nat.div_eq_of_lt h1, Nat.zero_mod]
theorem mod_small {x y r N : Nat} (h : y < N) : y * 256 + x / 256 ^ r % 256 < N * 2 ^ 9 := by
 have h2 := Nat.mod_lt (x / 256 ^ r) (show 0 < 256 by decide)
 omega
theorem mod_two (v M : Nat) : v % (M * 2) = v % M + M * (v / M % 2) := Nat.mod_mul
theorem mod_lo {v N k z : Nat} (hz : z = v % (N * 2 ^ (k + 1))) (h : z < N * 2 ^ k) : z = v % (N * 2 ^ k) := by
 have h1 := mod_two v (N * 2 ^ k)
 rw [Nat.mul_assoc, ← Nat.pow_succ] at h1
 rw [h1] at hz
 rcases Nat.mod_two_eq_zero_or_one (v / (N * 2 ^ k)) with h2 | h2
 · rw [hz, h2]; rfl
 · rw [h2] at hz; omega
theorem mod_hi {v N k z : Nat} (hz : z = v % (N * 2 ^ (k + 1))) (h : N * 2 ^ k ≤ z) : z - N * 2 ^ k = v % (N * 2 ^ k) := by
  have h1 := mod_two v (N * 2 ^ k)
  rw [Nat.mul_assoc, ← Nat.pow_succ] at h1
  rw [h1] at hz
  rcases Nat.mod_two_eq_zero_or_one (v / (N * 2 ^ k)) with h2 | h2
  · rcases Nat.eq_zero_or_pos (N * 2 ^ k) with h3 | h3
    · rw [h3] at hz ⊢; rw [hz]; simp
    · have := Nat.mod_lt v h3
      rw [h2] at hz; omega
  · rw [h2] at hz; omega
theorem mod_byte {x r N : Nat} : (x / 256 ^ (r + 1) % N * 256 + x / 256 ^ r % 256) % N = x / 256 ^ r % N := by
 have e : x / 256 ^ r = x / 256 ^ (r + 1) * 256 + x / 256 ^ r % 256 := by
  rw [Nat.pow_succ, ← Nat.div_div_eq_div_mul]
  omega
 generalize x / 256 ^ r % 256 = b at *
 generalize x / 256 ^ (r + 1) = y at *
 rw [e, Nat.add_mod, Nat.mod_mul_mod, ← Nat.add_mod]
set_option maxRecDepth 10000 in
theorem modD_ctr {x N : Nat} (hN : 0 < N) (hlx : (D 4294967296 x).length < 1000000) (hlN : (D 4294967296 N).length < 1000000) : GC Try.prog 67 [.slice (some ⟨0, 0, none⟩) (D 4294967296 x).length 0, .slice (some ⟨1, 0, none⟩) (D 4294967296 N).length 0] [⟨(D 4294967296 x).map (vi .u64), false, 1⟩, ⟨(D 4294967296 N).map (vi .u64), false, 1⟩] [.slice (some ⟨2, 0, none⟩) (D 4294967296 (x % N)).length 0] [⟨(D 4294967296 x).map (vi .u64), false, 1⟩, ⟨(D 4294967296 N).map (vi .u64), false, 1⟩, ⟨(D 4294967296 (x % N)).map (vi .u64), true, 1⟩] := by
 refine gi Try.func67 ?_
 have hL := mod_room hlN
 refine zS ?_
 refine yA ?_
 refine zN (zS ?_)
 refine yP (PureOp.buildArr tbok [] rfl rfl rfl (by decide) rfl rfl) ?_
 refine yN 6000 1 _ ?_
 refine ySA ?_
 refine zN (zQ (zS ?_))
 refine yA ?_
 refine zN (zB ?_)
 refine AW.rounds 10 ?_
 refine roundsA_succ ?_
 refine zQ (zS ?_)
 refine yM ?_
 refine yP (pLt (b := 9)) ?_
 refine zN (zC (zK (zT (zQ (zB (zR ?_))))))
 refine yM ?_
 refine yM ?_
 refine yM ?_
 refine yC (shiftD_ctr (x := N) (k := 0) (Nat.lt_trans hlN (by decide)) (by decide)) bd131 [(1, 0)] [21000] ?_
 refine yP pA ?_
 refine AWo.store1 tbok rfl rfl rfl rfl rfl (by simp [Value.cells]) rfl rfl ?_
 refine zN (zL (zT (zR ?_)))
 refine yM ?_
 refine yP (pAdd (b := 1)) ?_
 refine yA ?_
 refine zN (zT ?_)
 refine roundsA_succ ?_
 refine zQ (zS ?_)
 refine yM ?_
 refine yP (pLt (b := 9)) ?_
 refine zN (zC (zK (zT (zQ (zB (zR ?_))))))
 refine yM ?_
 refine yM ?_
 refine yM ?_
 refine yC (shiftD_ctr (x := N) (k := 1) (Nat.lt_trans hlN (by decide)) (by decide)) bd131 [(1, 0)] [21001] ?_
 refine yP pA ?_
 refine AWo.store1 tbok rfl rfl rfl rfl rfl (by simp [Value.cells]) rfl rfl ?_
 refine zN (zL (zT (zR ?_)))
 refine yM ?_
 refine yP (pAdd (b := 1)) ?_
 refine yA ?_
 refine zN (zT ?_)
 refine roundsA_succ ?_
 refine zQ (zS ?_)
 refine yM ?_
 refine yP (pLt (b := 9)) ?_
 refine zN (zC (zK (zT (zQ (zB (zR ?_))))))
 refine yM ?_
 refine yM ?_
 refine yM ?_
 refine yC (shiftD_ctr (x := N) (k := 2) (Nat.lt_trans hlN (by decide)) (by decide)) bd131 [(1, 0)] [21002] ?_
 refine yP pA ?_
 refine AWo.store1 tbok rfl rfl rfl rfl rfl (by simp [Value.cells]) rfl rfl ?_
 refine zN (zL (zT (zR ?_)))
 refine yM ?_
 refine yP (pAdd (b := 1)) ?_
 refine yA ?_
 refine zN (zT ?_)
 refine roundsA_succ ?_
 refine zQ (zS ?_)
 refine yM ?_
 refine yP (pLt (b := 9)) ?_
 refine zN (zC (zK (zT (zQ (zB (zR ?_))))))
 refine yM ?_
 refine yM ?_
 refine yM ?_
 refine yC (shiftD_ctr (x := N) (k := 3) (Nat.lt_trans hlN (by decide)) (by decide)) bd131 [(1, 0)] [21003] ?_
 refine yP pA ?_
 refine AWo.store1 tbok rfl rfl rfl rfl rfl (by simp [Value.cells]) rfl rfl ?_
 refine zN (zL (zT (zR ?_)))
 refine yM ?_
 refine yP (pAdd (b := 1)) ?_
 refine yA ?_
 refine zN (zT ?_)
 refine roundsA_succ ?_
 refine zQ (zS ?_)
 refine yM ?_
 refine yP (pLt (b := 9)) ?_
 refine zN (zC (zK (zT (zQ (zB (zR ?_))))))
 refine yM ?_
 refine yM ?_
 refine yM ?_
 refine yC (shiftD_ctr (x := N) (k := 4) (Nat.lt_trans hlN (by decide)) (by decide)) bd131 [(1, 0)] [21004] ?_
 refine yP pA ?_
 refine AWo.store1 tbok rfl rfl rfl rfl rfl (by simp [Value.cells]) rfl rfl ?_
 refine zN (zL (zT (zR ?_)))
 refine yM ?_
 refine yP (pAdd (b := 1)) ?_
 refine yA ?_
 refine zN (zT ?_)
 refine roundsA_succ ?_
 refine zQ (zS ?_)
 refine yM ?_
 refine yP (pLt (b := 9)) ?_
 refine zN (zC (zK (zT (zQ (zB (zR ?_))))))
 refine yM ?_
 refine yM ?_
 refine yM ?_
 refine yC (shiftD_ctr (x := N) (k := 5) (Nat.lt_trans hlN (by decide)) (by decide)) bd131 [(1, 0)] [21005] ?_
 refine yP pA ?_
 refine AWo.store1 tbok rfl rfl rfl rfl rfl (by simp [Value.cells]) rfl rfl ?_
 refine zN (zL (zT (zR ?_)))
 refine yM ?_
 refine yP (pAdd (b := 1)) ?_
 refine yA ?_
 refine zN (zT ?_)
 refine roundsA_succ ?_
 refine zQ (zS ?_)
 refine yM ?_
 refine yP (pLt (b := 9)) ?_
 refine zN (zC (zK (zT (zQ (zB (zR ?_))))))
 refine yM ?_
 refine yM ?_
 refine yM ?_
 refine yC (shiftD_ctr (x := N) (k := 6) (Nat.lt_trans hlN (by decide)) (by decide)) bd131 [(1, 0)] [21006] ?_
 refine yP pA ?_
 refine AWo.store1 tbok rfl rfl rfl rfl rfl (by simp [Value.cells]) rfl rfl ?_
 refine zN (zL (zT (zR ?_)))
 refine yM ?_
 refine yP (pAdd (b := 1)) ?_
 refine yA ?_
 refine zN (zT ?_)
 refine roundsA_succ ?_
 refine zQ (zS ?_)
 refine yM ?_
 refine yP (pLt (b := 9)) ?_
 refine zN (zC (zK (zT (zQ (zB (zR ?_))))))
 refine yM ?_
 refine yM ?_
 refine yM ?_
 refine yC (shiftD_ctr (x := N) (k := 7) (Nat.lt_trans hlN (by decide)) (by decide)) bd131 [(1, 0)] [21007] ?_
 refine yP pA ?_
 refine AWo.store1 tbok rfl rfl rfl rfl rfl (by simp [Value.cells]) rfl rfl ?_
 refine zN (zL (zT (zR ?_)))
 refine yM ?_
 refine yP (pAdd (b := 1)) ?_
 refine yA ?_
 refine zN (zT ?_)
 refine roundsA_succ ?_
 refine zQ (zS ?_)
 refine yM ?_
 refine yP (pLt (b := 9)) ?_
 refine zN (zC (zK (zT (zQ (zB (zR ?_))))))
 refine yM ?_
 refine yM ?_
 refine yM ?_
 refine yC (shiftD_ctr (x := N) (k := 8) (Nat.lt_trans hlN (by decide)) (by decide)) bd131 [(1, 0)] [21008] ?_
 refine yP pA ?_
 refine AWo.store1 tbok rfl rfl rfl rfl rfl (by simp [Value.cells]) rfl rfl ?_
 refine zN (zL (zT (zR ?_)))
 refine yM ?_
 refine yP (pAdd (b := 1)) ?_
 refine yA ?_
 refine zN (zT ?_)
 refine roundsA_succ ?_
 refine zQ (zS ?_)
 refine yM ?_
 refine yP (pLt (b := 9)) ?_
 refine zN (zF (zX (zV (zV (zH (zT (zS ?_)))))))
 refine AWo.buildSlice tbok 23000 [] (out := []) rfl rfl (by decide) rfl rfl rfl (by decide) rfl rfl rfl rfl rfl ?_
 refine yA ?_
 refine zN (zQ (zS ?_))
 refine yM ?_
 refine yP pL ?_
 refine yP (PureOp.mulI (b := 4) rfl rfl (by omega)) ?_
 refine yP ((PureOp.subP rfl rfl (by omega)).mono (v' := vp (4 * (D 4294967296 x).length)) (by (simp only [vp]; congr 1; omega))) ?_
 refine yA ?_
 refine zN (zB ?_)
 refine AW.loopw (fun mm σ => ∃ y, ∃ r, (r ≤ 4 * (D 4294967296 x).length ∧ y = x / 256 ^ r % N) ∧ mm = 1 * r ∧ σ = ⟨(upd (upd (upd (upd emp 0 (.slice (some ⟨0, 0, none⟩) (D 4294967296 x).length 0)) 5 (.pointer (some ⟨6000, 0, none⟩))) 7 (.slice (some ⟨77000, 0, none⟩) (D 4294967296 (y)).length 0)) 8 (vp r)), (upd (upd (upd (upd (upd (upd (upd (upd (upd (upd (upd (upd (upd emp 0 ⟨(D 4294967296 x).map (vi .u64), false, 1⟩) 1 ⟨(D 4294967296 N).map (vi .u64), false, 1⟩) 6000 ⟨[.slice (some ⟨21000, 0, none⟩) (D 4294967296 (N * 2 ^ 0)).length 0, .slice (some ⟨21001, 0, none⟩) (D 4294967296 (N * 2 ^ 1)).length 0, .slice (some ⟨21002, 0, none⟩) (D 4294967296 (N * 2 ^ 2)).length 0, .slice (some ⟨21003, 0, none⟩) (D 4294967296 (N * 2 ^ 3)).length 0, .slice (some ⟨21004, 0, none⟩) (D 4294967296 (N * 2 ^ 4)).length 0, .slice (some ⟨21005, 0, none⟩) (D 4294967296 (N * 2 ^ 5)).length 0, .slice (some ⟨21006, 0, none⟩) (D 4294967296 (N * 2 ^ 6)).length 0, .slice (some ⟨21007, 0, none⟩) (D 4294967296 (N * 2 ^ 7)).length 0, .slice (some ⟨21008, 0, none⟩) (D 4294967296 (N * 2 ^ 8)).length 0], true, 1⟩) 21000 ⟨(D 4294967296 (N * 2 ^ 0)).map (vi .u64), true, 1⟩) 21001 ⟨(D 4294967296 (N * 2 ^ 1)).map (vi .u64), true, 1⟩) 21002 ⟨(D 4294967296 (N * 2 ^ 2)).map (vi .u64), true, 1⟩) 21003 ⟨(D 4294967296 (N * 2 ^ 3)).map (vi .u64), true, 1⟩) 21004 ⟨(D 4294967296 (N * 2 ^ 4)).map (vi .u64), true, 1⟩) 21005 ⟨(D 4294967296 (N * 2 ^ 5)).map (vi .u64), true, 1⟩) 21006 ⟨(D 4294967296 (N * 2 ^ 6)).map (vi .u64), true, 1⟩) 21007 ⟨(D 4294967296 (N * 2 ^ 7)).map (vi .u64), true, 1⟩) 21008 ⟨(D 4294967296 (N * 2 ^ 8)).map (vi .u64), true, 1⟩) 77000 ⟨(D 4294967296 (y)).map (vi .u64), true, 1⟩)⟩) (fm := [(77000, 23000)]) (wk [0, 1, 6000, 21000, 21001, 21002, 21003, 21004, 21005, 21006, 21007, 21008, 77000]) ⟨0, 4 * (D 4294967296 x).length, ⟨Nat.le_refl _, (mod_top x).symm⟩, rfl, rfl⟩ ?_
 rintro mm σ ⟨y, r, ⟨hr0, hy⟩, rfl, rfl⟩
 refine zQ (zS ?_)
 refine yM ?_
 refine yP (PureOp.geP rfl rfl) ?_
 refine zN ?_
 refine zA (fun hb0 => ?_) (fun hb0 => ?_)
 ·
  have hp0 : 0 < r := by simpa using hb0
  obtain ⟨r, rfl⟩ : ∃ q, r = q + 1 := ⟨r - 1, by omega⟩
  rw [vp_succ]
  have hr4 : r / 4 < (D 4294967296 x).length := by omega
  have hx := bd_getD (bd_D (B := 4294967296) (by decide) x) (by decide) (r / 4)
  have hyN : y < N := by rw [hy]; exact Nat.mod_lt _ hN
  have hv := mod_small (x := x) (r := r) hyN
  refine zK (zT (zQ (zB (zS ?_))))
  refine yM ?_
  refine yM ?_
  refine yP (PureOp.quoN (b := 4) 9223372036854775808 rfl rfl (by decide) (by decide) (by decide) (by omega)) ?_
  refine yP (PureOp.idxN tbok (j := r / 4) rfl rfl rfl rfl hr4) ?_
  refine yL 0 ?_
  refine yA ?_
  refine zN (zQ (zS ?_))
  refine yA ?_
  refine zN (zB ?_)
  refine AW.loopw (fun mm σ => ∃ j, (j ≤ r % 4) ∧ mm = r % 4 - j ∧ σ = ⟨(upd (upd (upd (upd (upd (upd emp 0 (.slice (some ⟨0, 0, none⟩) (D 4294967296 x).length 0)) 5 (.pointer (some ⟨6000, 0, none⟩))) 7 (.slice (some ⟨77000, 0, none⟩) (D 4294967296 (y)).length 0)) 8 (vi .i64 r)) 9 (vi .u64 ((D 4294967296 x).getD (r / 4) 0 / 256 ^ j))) 10 (vi .i64 j)), (upd (upd (upd (upd (upd (upd (upd (upd (upd (upd (upd (upd (upd emp 0 ⟨(D 4294967296 x).map (vi .u64), false, 1⟩) 1 ⟨(D 4294967296 N).map (vi .u64), false, 1⟩) 6000 ⟨[.slice (some ⟨21000, 0, none⟩) (D 4294967296 (N * 2 ^ 0)).length 0, .slice (some ⟨21001, 0, none⟩) (D 4294967296 (N * 2 ^ 1)).length 0, .slice (some ⟨21002, 0, none⟩) (D 4294967296 (N * 2 ^ 2)).length 0, .slice (some ⟨21003, 0, none⟩) (D 4294967296 (N * 2 ^ 3)).length 0, .slice (some ⟨21004, 0, none⟩) (D 4294967296 (N * 2 ^ 4)).length 0, .slice (some ⟨21005, 0, none⟩) (D 4294967296 (N * 2 ^ 5)).length 0, .slice (some ⟨21006, 0, none⟩) (D 4294967296 (N * 2 ^ 6)).length 0, .slice (some ⟨21007, 0, none⟩) (D 4294967296 (N * 2 ^ 7)).length 0, .slice (some ⟨21008, 0, none⟩) (D 4294967296 (N * 2 ^ 8)).length 0], true, 1⟩) 21000 ⟨(D 4294967296 (N * 2 ^ 0)).map (vi .u64), true, 1⟩) 21001 ⟨(D 4294967296 (N * 2 ^ 1)).map (vi .u64), true, 1⟩) 21002 ⟨(D 4294967296 (N * 2 ^ 2)).map (vi .u64), true, 1⟩) 21003 ⟨(D 4294967296 (N * 2 ^ 3)).map (vi .u64), true, 1⟩) 21004 ⟨(D 4294967296 (N * 2 ^ 4)).map (vi .u64), true, 1⟩) 21005 ⟨(D 4294967296 (N * 2 ^ 5)).map (vi .u64), true, 1⟩) 21006 ⟨(D 4294967296 (N * 2 ^ 6)).map (vi .u64), true, 1⟩) 21007 ⟨(D 4294967296 (N * 2 ^ 7)).map (vi .u64), true, 1⟩) 21008 ⟨(D 4294967296 (N * 2 ^ 8)).map (vi .u64), true, 1⟩) 77000 ⟨(D 4294967296 (y)).map (vi .u64), true, 1⟩)⟩) (fm := []) (wk [0, 1, 6000, 21000, 21001, 21002, 21003, 21004, 21005, 21006, 21007, 21008, 77000]) ⟨0, Nat.zero_le _, rfl, rfl⟩ ?_
  rintro mm σ ⟨j, hinv, rfl, rfl⟩
  refine zQ (zS ?_)
  refine yM ?_
  refine yM ?_
  refine yP ((PureOp.remN (b := 4) rfl rfl (by decide)).mono (v' := vi .i64 (r % 4)) rfl) ?_
  refine yP pLt ?_
  refine zN ?_
  refine zA (fun hb1 => ?_) (fun hb1 => ?_)
  ·
   have hj : j < r % 4 := by simpa using hb1
   refine zK (zT (zQ (zB (zR ?_))))
   refine yM ?_
   refine yP ((PureOp.quoN (b := 256) 18446744073709551616 rfl rfl (by decide) (by decide) (by decide) (Nat.lt_of_le_of_lt (Nat.div_le_self _ _) (Nat.lt_trans hx (by decide)))).mono (v' := vi .u64 ((D 4294967296 x).getD (r / 4) 0 / 256 ^ (j + 1))) (congrArg (vi .u64) (by rw [Nat.div_div_eq_div_mul, ← Nat.pow_succ]))) ?_
   refine yA ?_
   refine zN (zL (zT (zR ?_)))
   refine yM ?_
   refine yP (pAdd (b := 1)) ?_
   refine yA ?_
   refine zN (zT ?_)
   exact ⟨r % 4 - (j + 1), [], _, by omega, wk [0, 1, 6000, 21000, 21001, 21002, 21003, 21004, 21005, 21006, 21007, 21008, 77000], j + 1, by omega, rfl, rfl⟩
  ·
   obtain rfl : j = r % 4 := by simp at hb1; omega
   refine zX (zV (zV (zH (zT (zS ?_)))))
   refine yM ?_
   refine AWo.buildSlice tbok 46000 [(0, vi .u64 256)] (out := [vi .u64 256]) rfl rfl (by decide) rfl rfl rfl (by decide) rfl rfl rfl rfl rfl ?_
   refine yC (mul256_ctr (x := y) (hL _ (by omega))) bd72 [(77000, 0), (46000, 0)] [47000] ?_
   refine yM ?_
   refine yP ((PureOp.remN (b := 256) rfl rfl (by decide)).mono (v' := vi .u64 (x / 256 ^ r % 256)) (congrArg (vi .u64) (byteD x r))) ?_
   refine AWo.buildSlice tbok 50000 [(0, vi .u64 (x / 256 ^ r % 256))] (out := [vi .u64 (x / 256 ^ r % 256)]) rfl rfl (by decide) rfl rfl rfl (by decide) rfl rfl rfl rfl rfl ?_
   refine yC (trim_ctr (a := [x / 256 ^ r % 256]) (v := x / 256 ^ r % 256) (n := 1) (bd_byte _) (num_byte _) rfl (by simp)) bd118 [(50000, 0)] [] ?_
   refine yC (addD_ctr (x := y * 256) (y := x / 256 ^ r % 256) (hL _ (by omega)) (hL _ (by have := Nat.mod_lt (x / 256 ^ r) (show 0 < 256 by decide); omega))) bd70 [(47000, 0), (50000, 0)] [52000] ?_ (hfit := (.flat rfl (by exact flatM flat_vi) (by intro h; rfl) (.part rfl (dpart (by decide) (bd_byte _) (num_byte _)) (flatM flat_vi) (by rw [Nat.zero_add]; exact dpart_len (by decide) (bd_byte (x / 256 ^ r)) (num_byte _)) .nil)))
   refine yA ?_
   refine zN (zS ?_)
   refine yA ?_
   refine zN (zB ?_)
   refine AW.loopw (fun mm σ => ∃ z, ∃ k, (k ≤ 9 ∧ z = (y * 256 + x / 256 ^ r % 256) % (N * 2 ^ k)) ∧ mm = 1 * k ∧ σ = ⟨(upd (upd (upd (upd (upd emp 0 (.slice (some ⟨0, 0, none⟩) (D 4294967296 x).length 0)) 5 (.pointer (some ⟨6000, 0, none⟩))) 7 (.slice (some ⟨77000, 0, none⟩) (D 4294967296 (z)).length 0)) 8 (vi .i64 r)) 11 (vp k)), (upd (upd (upd (upd (upd (upd (upd (upd (upd (upd (upd (upd (upd emp 0 ⟨(D 4294967296 x).map (vi .u64), false, 1⟩) 1 ⟨(D 4294967296 N).map (vi .u64), false, 1⟩) 6000 ⟨[.slice (some ⟨21000, 0, none⟩) (D 4294967296 (N * 2 ^ 0)).length 0, .slice (some ⟨21001, 0, none⟩) (D 4294967296 (N * 2 ^ 1)).length 0, .slice (some ⟨21002, 0, none⟩) (D 4294967296 (N * 2 ^ 2)).length 0, .slice (some ⟨21003, 0, none⟩) (D 4294967296 (N * 2 ^ 3)).length 0, .slice (some ⟨21004, 0, none⟩) (D 4294967296 (N * 2 ^ 4)).length 0, .slice (some ⟨21005, 0, none⟩) (D 4294967296 (N * 2 ^ 5)).length 0, .slice (some ⟨21006, 0, none⟩) (D 4294967296 (N * 2 ^ 6)).length 0, .slice (some ⟨21007, 0, none⟩) (D 4294967296 (N * 2 ^ 7)).length 0, .slice (some ⟨21008, 0, none⟩) (D 4294967296 (N * 2 ^ 8)).length 0], true, 1⟩) 21000 ⟨(D 4294967296 (N * 2 ^ 0)).map (vi .u64), true, 1⟩) 21001 ⟨(D 4294967296 (N * 2 ^ 1)).map (vi .u64), true, 1⟩) 21002 ⟨(D 4294967296 (N * 2 ^ 2)).map (vi .u64), true, 1⟩) 21003 ⟨(D 4294967296 (N * 2 ^ 3)).map (vi .u64), true, 1⟩) 21004 ⟨(D 4294967296 (N * 2 ^ 4)).map (vi .u64), true, 1⟩) 21005 ⟨(D 4294967296 (N * 2 ^ 5)).map (vi .u64), true, 1⟩) 21006 ⟨(D 4294967296 (N * 2 ^ 6)).map (vi .u64), true, 1⟩) 21007 ⟨(D 4294967296 (N * 2 ^ 7)).map (vi .u64), true, 1⟩) 21008 ⟨(D 4294967296 (N * 2 ^ 8)).map (vi .u64), true, 1⟩) 77000 ⟨(D 4294967296 (z)).map (vi .u64), true, 1⟩)⟩) (fm := [(77000, 52000)]) (wk [0, 1, 6000, 21000, 21001, 21002, 21003, 21004, 21005, 21006, 21007, 21008, 77000]) ⟨y * 256 + x / 256 ^ r % 256, 9, ⟨by decide, (Nat.mod_eq_of_lt hv).symm⟩, rfl, rfl⟩ ?_
   rintro mm σ ⟨z, k, ⟨hk9, hz⟩, rfl, rfl⟩
   refine zQ (zS ?_)
   refine yM ?_
   refine yP (PureOp.geP rfl rfl) ?_
   refine zN ?_
   refine zA (fun hb2 => ?_) (fun hb2 => ?_)
   ·
    have hp0 : 0 < k := by simpa using hb2
    have hkc : k = 1 ∨ k = 2 ∨ k = 3 ∨ k = 4 ∨ k = 5 ∨ k = 6 ∨ k = 7 ∨ k = 8 ∨ k = 9 := by omega
    rcases hkc with rfl | rfl | rfl | rfl | rfl | rfl | rfl | rfl | rfl
    ·
     rw [show vp 1 = vi .i64 0 from rfl]
     have hzl : z < N * 2 ^ 1 := by rw [hz]; exact Nat.mod_lt _ (Nat.mul_pos hN (by decide))
     refine zK (zT (zQ (zB (zS ?_))))
     refine yM ?_
     refine yM ?_
     refine yP pA ?_
     refine yL1 ?_
     refine yC (cmpD_ctr (x := z) (y := N * 2 ^ 0) (hL _ (by omega)) (hL _ (by omega))) bd34 [(77000, 0), (21000, 0)] [] ?_
     refine yP (PureOp.bin rfl rfl rfl) ?_
     refine zN ?_
     refine zA (fun hb3 => ?_) (fun hb3 => ?_)
     ·
      have hge : N * 2 ^ 0 ≤ z := ge_of_cmp (by simpa using hb3)
      refine zR ?_
      refine yM ?_
      refine yM ?_
      refine yP pA ?_
      refine yL1 ?_
      refine yC (subD_ctr (x := z) (y := N * 2 ^ 0) (hL _ (by omega)) (hL _ (by omega)) hge) bd71 [(77000, 0), (21000, 0)] [67000] ?_
      refine yA ?_
      refine zN (zL (zT (zR ?_)))
      refine yM ?_
      refine yP (PureOp.subP rfl rfl (by decide)) ?_
      refine yA ?_
      refine zN (zT ?_)
      exact ⟨1 * 0, [(77000, 67000)], _, by omega, wk [0, 1, 6000, 21000, 21001, 21002, 21003, 21004, 21005, 21006, 21007, 21008, 77000], z - N * 2 ^ 0, 0, ⟨by decide, mod_hi hz hge⟩, rfl, rfl⟩
     ·
      have hlt : z < N * 2 ^ 0 := lt_of_cmp (by simpa using hb3)
      refine zK (zL (zT (zR ?_)))
      refine yM ?_
      refine yP (PureOp.subP rfl rfl (by decide)) ?_
      refine yA ?_
      refine zN (zT ?_)
      exact ⟨1 * 0, [(77000, 77000)], _, by omega, wk [0, 1, 6000, 21000, 21001, 21002, 21003, 21004, 21005, 21006, 21007, 21008, 77000], z, 0, ⟨by decide, mod_lo hz hlt⟩, rfl, rfl⟩
    ·
     rw [show vp 2 = vi .i64 1 from rfl]
     have hzl : z < N * 2 ^ 2 := by rw [hz]; exact Nat.mod_lt _ (Nat.mul_pos hN (by decide))
     refine zK (zT (zQ (zB (zS ?_))))
     refine yM ?_
     refine yM ?_
     refine yP pA ?_
     refine yL1 ?_
     refine yC (cmpD_ctr (x := z) (y := N * 2 ^ 1) (hL _ (by omega)) (hL _ (by omega))) bd34 [(77000, 0), (21001, 0)] [] ?_
     refine yP (PureOp.bin rfl rfl rfl) ?_
     refine zN ?_
     refine zA (fun hb4 => ?_) (fun hb4 => ?_)
     ·
      have hge : N * 2 ^ 1 ≤ z := ge_of_cmp (by simpa using hb4)
      refine zR ?_
      refine yM ?_
      refine yM ?_
      refine yP pA ?_
      refine yL1 ?_
      refine yC (subD_ctr (x := z) (y := N * 2 ^ 1) (hL _ (by omega)) (hL _ (by omega)) hge) bd71 [(77000, 0), (21001, 0)] [67000] ?_
      refine yA ?_
      refine zN (zL (zT (zR ?_)))
      refine yM ?_
      refine yP (pSub (b := 1)) ?_
      refine yA ?_
      refine zN (zT ?_)
      exact ⟨1 * 1, [(77000, 67000)], _, by omega, wk [0, 1, 6000, 21000, 21001, 21002, 21003, 21004, 21005, 21006, 21007, 21008, 77000], z - N * 2 ^ 1, 1, ⟨by decide, mod_hi hz hge⟩, rfl, rfl⟩
     ·
      have hlt : z < N * 2 ^ 1 := lt_of_cmp (by simpa using hb4)
      refine zK (zL (zT (zR ?_)))
      refine yM ?_
      refine yP (pSub (b := 1)) ?_
      refine yA ?_
      refine zN (zT ?_)
      exact ⟨1 * 1, [(77000, 77000)], _, by omega, wk [0, 1, 6000, 21000, 21001, 21002, 21003, 21004, 21005, 21006, 21007, 21008, 77000], z, 1, ⟨by decide, mod_lo hz hlt⟩, rfl, rfl⟩
    ·
     rw [show vp 3 = vi .i64 2 from rfl]
     have hzl : z < N * 2 ^ 3 := by rw [hz]; exact Nat.mod_lt _ (Nat.mul_pos hN (by decide))
     refine zK (zT (zQ (zB (zS ?_))))
     refine yM ?_
     refine yM ?_
     refine yP pA ?_
     refine yL1 ?_
     refine yC (cmpD_ctr (x := z) (y := N * 2 ^ 2) (hL _ (by omega)) (hL _ (by omega))) bd34 [(77000, 0), (21002, 0)] [] ?_
     refine yP (PureOp.bin rfl rfl rfl) ?_
     refine zN ?_
     refine zA (fun hb5 => ?_) (fun hb5 => ?_)
     ·
      have hge : N * 2 ^ 2 ≤ z := ge_of_cmp (by simpa using hb5)
      refine zR ?_
      refine yM ?_
      refine yM ?_
      refine yP pA ?_
      refine yL1 ?_
      refine yC (subD_ctr (x := z) (y := N * 2 ^ 2) (hL _ (by omega)) (hL _ (by omega)) hge) bd71 [(77000, 0), (21002, 0)] [67000] ?_
      refine yA ?_
      refine zN (zL (zT (zR ?_)))
      refine yM ?_
      refine yP (pSub (b := 1)) ?_
      refine yA ?_
      refine zN (zT ?_)
      exact ⟨1 * 2, [(77000, 67000)], _, by omega, wk [0, 1, 6000, 21000, 21001, 21002, 21003, 21004, 21005, 21006, 21007, 21008, 77000], z - N * 2 ^ 2, 2, ⟨by decide, mod_hi hz hge⟩, rfl, rfl⟩
     ·
      have hlt : z < N * 2 ^ 2 := lt_of_cmp (by simpa using hb5)
      refine zK (zL (zT (zR ?_)))
      refine yM ?_
      refine yP (pSub (b := 1)) ?_
      refine yA ?_
      refine zN (zT ?_)
      exact ⟨1 * 2, [(77000, 77000)], _, by omega, wk [0, 1, 6000, 21000, 21001, 21002, 21003, 21004, 21005, 21006, 21007, 21008, 77000], z, 2, ⟨by decide, mod_lo hz hlt⟩, rfl, rfl⟩
    ·
     rw [show vp 4 = vi .i64 3 from rfl]
     have hzl : z < N * 2 ^ 4 := by rw [hz]; exact Nat.mod_lt _ (Nat.mul_pos hN (by decide))
     refine zK (zT (zQ (zB (zS ?_))))
     refine yM ?_
     refine yM ?_
     refine yP pA ?_
     refine yL1 ?_
     refine yC (cmpD_ctr (x := z) (y := N * 2 ^ 3) (hL _ (by omega)) (hL _ (by omega))) bd34 [(77000, 0), (21003, 0)] [] ?_
     refine yP (PureOp.bin rfl rfl rfl) ?_
     refine zN ?_
     refine zA (fun hb6 => ?_) (fun hb6 => ?_)
     ·
      have hge : N * 2 ^ 3 ≤ z := ge_of_cmp (by simpa using hb6)
      refine zR ?_
      refine yM ?_
      refine yM ?_
      refine yP pA ?_
      refine yL1 ?_
      refine yC (subD_ctr (x := z) (y := N * 2 ^ 3) (hL _ (by omega)) (hL _ (by omega)) hge) bd71 [(77000, 0), (21003, 0)] [67000] ?_
      refine yA ?_
      refine zN (zL (zT (zR ?_)))
      refine yM ?_
      refine yP (pSub (b := 1)) ?_
      refine yA ?_
      refine zN (zT ?_)
      exact ⟨1 * 3, [(77000, 67000)], _, by omega, wk [0, 1, 6000, 21000, 21001, 21002, 21003, 21004, 21005, 21006, 21007, 21008, 77000], z - N * 2 ^ 3, 3, ⟨by decide, mod_hi hz hge⟩, rfl, rfl⟩
     ·
      have hlt : z < N * 2 ^ 3 := lt_of_cmp (by simpa using hb6)
      refine zK (zL (zT (zR ?_)))
      refine yM ?_
      refine yP (pSub (b := 1)) ?_
      refine yA ?_
      refine zN (zT ?_)
      exact ⟨1 * 3, [(77000, 77000)], _, by omega, wk [0, 1, 6000, 21000, 21001, 21002, 21003, 21004, 21005, 21006, 21007, 21008, 77000], z, 3, ⟨by decide, mod_lo hz hlt⟩, rfl, rfl⟩
    ·
     rw [show vp 5 = vi .i64 4 from rfl]
     have hzl : z < N * 2 ^ 5 := by rw [hz]; exact Nat.mod_lt _ (Nat.mul_pos hN (by decide))
     refine zK (zT (zQ (zB (zS ?_))))
     refine yM ?_
     refine yM ?_
     refine yP pA ?_
     refine yL1 ?_
     refine yC (cmpD_ctr (x := z) (y := N * 2 ^ 4) (hL _ (by omega)) (hL _ (by omega))) bd34 [(77000, 0), (21004, 0)] [] ?_
     refine yP (PureOp.bin rfl rfl rfl) ?_
     refine zN ?_
     refine zA (fun hb7 => ?_) (fun hb7 => ?_)
     ·
      have hge : N * 2 ^ 4 ≤ z := ge_of_cmp (by simpa using hb7)
      refine zR ?_
      refine yM ?_
      refine yM ?_
      refine yP pA ?_
      refine yL1 ?_
      refine yC (subD_ctr (x := z) (y := N * 2 ^ 4) (hL _ (by omega)) (hL _ (by omega)) hge) bd71 [(77000, 0), (21004, 0)] [67000] ?_
      refine yA ?_
      refine zN (zL (zT (zR ?_)))
      refine yM ?_
      refine yP (pSub (b := 1)) ?_
      refine yA ?_
      refine zN (zT ?_)
      exact ⟨1 * 4, [(77000, 67000)], _, by omega, wk [0, 1, 6000, 21000, 21001, 21002, 21003, 21004, 21005, 21006, 21007, 21008, 77000], z - N * 2 ^ 4, 4, ⟨by decide, mod_hi hz hge⟩, rfl, rfl⟩
     ·
      have hlt : z < N * 2 ^ 4 := lt_of_cmp (by simpa using hb7)
      refine zK (zL (zT (zR ?_)))
      refine yM ?_
      refine yP (pSub (b := 1)) ?_
      refine yA ?_
      refine zN (zT ?_)
      exact ⟨1 * 4, [(77000, 77000)], _, by omega, wk [0, 1, 6000, 21000, 21001, 21002, 21003, 21004, 21005, 21006, 21007, 21008, 77000], z, 4, ⟨by decide, mod_lo hz hlt⟩, rfl, rfl⟩
    ·
     rw [show vp 6 = vi .i64 5 from rfl]
     have hzl : z < N * 2 ^ 6 := by rw [hz]; exact Nat.mod_lt _ (Nat.mul_pos hN (by decide))
     refine zK (zT (zQ (zB (zS ?_))))
     refine yM ?_
     refine yM ?_
     refine yP pA ?_
     refine yL1 ?_
     refine yC (cmpD_ctr (x := z) (y := N * 2 ^ 5) (hL _ (by omega)) (hL _ (by omega))) bd34 [(77000, 0), (21005, 0)] [] ?_
     refine yP (PureOp.bin rfl rfl rfl) ?_
     refine zN ?_
     refine zA (fun hb8 => ?_) (fun hb8 => ?_)
     ·
      have hge : N * 2 ^ 5 ≤ z := ge_of_cmp (by simpa using hb8)
      refine zR ?_
      refine yM ?_
      refine yM ?_
      refine yP pA ?_
      refine yL1 ?_
      refine yC (subD_ctr (x := z) (y := N * 2 ^ 5) (hL _ (by omega)) (hL _ (by omega)) hge) bd71 [(77000, 0), (21005, 0)] [67000] ?_
      refine yA ?_
      refine zN (zL (zT (zR ?_)))
      refine yM ?_
      refine yP (pSub (b := 1)) ?_
      refine yA ?_
      refine zN (zT ?_)
      exact ⟨1 * 5, [(77000, 67000)], _, by omega, wk [0, 1, 6000, 21000, 21001, 21002, 21003, 21004, 21005, 21006, 21007, 21008, 77000], z - N * 2 ^ 5, 5, ⟨by decide, mod_hi hz hge⟩, rfl, rfl⟩
     ·
      have hlt : z < N * 2 ^ 5 := lt_of_cmp (by simpa using hb8)
      refine zK (zL (zT (zR ?_)))
      refine yM ?_
      refine yP (pSub (b := 1)) ?_
      refine yA ?_
      refine zN (zT ?_)
      exact ⟨1 * 5, [(77000, 77000)], _, by omega, wk [0, 1, 6000, 21000, 21001, 21002, 21003, 21004, 21005, 21006, 21007, 21008, 77000], z, 5, ⟨by decide, mod_lo hz hlt⟩, rfl, rfl⟩
    ·
     rw [show vp 7 = vi .i64 6 from rfl]
     have hzl : z < N * 2 ^ 7 := by rw [hz]; exact Nat.mod_lt _ (Nat.mul_pos hN (by decide))
     refine zK (zT (zQ (zB (zS ?_))))
     refine yM ?_
     refine yM ?_
     refine yP pA ?_
     refine yL1 ?_
     refine yC (cmpD_ctr (x := z) (y := N * 2 ^ 6) (hL _ (by omega)) (hL _ (by omega))) bd34 [(77000, 0), (21006, 0)] [] ?_
     refine yP (PureOp.bin rfl rfl rfl) ?_
     refine zN ?_
     refine zA (fun hb9 => ?_) (fun hb9 => ?_)
     ·
      have hge : N * 2 ^ 6 ≤ z := ge_of_cmp (by simpa using hb9)
      refine zR ?_
      refine yM ?_
      refine yM ?_
      refine yP pA ?_
      refine yL1 ?_
      refine yC (subD_ctr (x := z) (y := N * 2 ^ 6) (hL _ (by omega)) (hL _ (by omega)) hge) bd71 [(77000, 0), (21006, 0)] [67000] ?_
      refine yA ?_
      refine zN (zL (zT (zR ?_)))
      refine yM ?_
      refine yP (pSub (b := 1)) ?_
      refine yA ?_
      refine zN (zT ?_)
      exact ⟨1 * 6, [(77000, 67000)], _, by omega, wk [0, 1, 6000, 21000, 21001, 21002, 21003, 21004, 21005, 21006, 21007, 21008, 77000], z - N * 2 ^ 6, 6, ⟨by decide, mod_hi hz hge⟩, rfl, rfl⟩
     ·
      have hlt : z < N * 2 ^ 6 := lt_of_cmp (by simpa using hb9)
      refine zK (zL (zT (zR ?_)))
      refine yM ?_
      refine yP (pSub (b := 1)) ?_
      refine yA ?_
      refine zN (zT ?_)
      exact ⟨1 * 6, [(77000, 77000)], _, by omega, wk [0, 1, 6000, 21000, 21001, 21002, 21003, 21004, 21005, 21006, 21007, 21008, 77000], z, 6, ⟨by decide, mod_lo hz hlt⟩, rfl, rfl⟩
    ·
     rw [show vp 8 = vi .i64 7 from rfl]
     have hzl : z < N * 2 ^ 8 := by rw [hz]; exact Nat.mod_lt _ (Nat.mul_pos hN (by decide))
     refine zK (zT (zQ (zB (zS ?_))))
     refine yM ?_
     refine yM ?_
     refine yP pA ?_
     refine yL1 ?_
     refine yC (cmpD_ctr (x := z) (y := N * 2 ^ 7) (hL _ (by omega)) (hL _ (by omega))) bd34 [(77000, 0), (21007, 0)] [] ?_
     refine yP (PureOp.bin rfl rfl rfl) ?_
     refine zN ?_
     refine zA (fun hb10 => ?_) (fun hb10 => ?_)
     ·
      have hge : N * 2 ^ 7 ≤ z := ge_of_cmp (by simpa using hb10)
      refine zR ?_
      refine yM ?_
      refine yM ?_
      refine yP pA ?_
      refine yL1 ?_
      refine yC (subD_ctr (x := z) (y := N * 2 ^ 7) (hL _ (by omega)) (hL _ (by omega)) hge) bd71 [(77000, 0), (21007, 0)] [67000] ?_
      refine yA ?_
      refine zN (zL (zT (zR ?_)))
      refine yM ?_
      refine yP (pSub (b := 1)) ?_
      refine yA ?_
      refine zN (zT ?_)
      exact ⟨1 * 7, [(77000, 67000)], _, by omega, wk [0, 1, 6000, 21000, 21001, 21002, 21003, 21004, 21005, 21006, 21007, 21008, 77000], z - N * 2 ^ 7, 7, ⟨by decide, mod_hi hz hge⟩, rfl, rfl⟩
     ·
      have hlt : z < N * 2 ^ 7 := lt_of_cmp (by simpa using hb10)
      refine zK (zL (zT (zR ?_)))
      refine yM ?_
      refine yP (pSub (b := 1)) ?_
      refine yA ?_
      refine zN (zT ?_)
      exact ⟨1 * 7, [(77000, 77000)], _, by omega, wk [0, 1, 6000, 21000, 21001, 21002, 21003, 21004, 21005, 21006, 21007, 21008, 77000], z, 7, ⟨by decide, mod_lo hz hlt⟩, rfl, rfl⟩
    ·
     rw [show vp 9 = vi .i64 8 from rfl]
     have hzl : z < N * 2 ^ 9 := by rw [hz]; exact Nat.mod_lt _ (Nat.mul_pos hN (by decide))
     refine zK (zT (zQ (zB (zS ?_))))
     refine yM ?_
     refine yM ?_
     refine yP pA ?_
     refine yL1 ?_
     refine yC (cmpD_ctr (x := z) (y := N * 2 ^ 8) (hL _ (by omega)) (hL _ (by omega))) bd34 [(77000, 0), (21008, 0)] [] ?_
     refine yP (PureOp.bin rfl rfl rfl) ?_
     refine zN ?_
     refine zA (fun hb11 => ?_) (fun hb11 => ?_)
     ·
      have hge : N * 2 ^ 8 ≤ z := ge_of_cmp (by simpa using hb11)
      refine zR ?_
      refine yM ?_
      refine yM ?_
      refine yP pA ?_
      refine yL1 ?_
      refine yC (subD_ctr (x := z) (y := N * 2 ^ 8) (hL _ (by omega)) (hL _ (by omega)) hge) bd71 [(77000, 0), (21008, 0)] [67000] ?_
      refine yA ?_
      refine zN (zL (zT (zR ?_)))
      refine yM ?_
      refine yP (pSub (b := 1)) ?_
      refine yA ?_
      refine zN (zT ?_)
      exact ⟨1 * 8, [(77000, 67000)], _, by omega, wk [0, 1, 6000, 21000, 21001, 21002, 21003, 21004, 21005, 21006, 21007, 21008, 77000], z - N * 2 ^ 8, 8, ⟨by decide, mod_hi hz hge⟩, rfl, rfl⟩
     ·
      have hlt : z < N * 2 ^ 8 := lt_of_cmp (by simpa using hb11)
      refine zK (zL (zT (zR ?_)))
      refine yM ?_
      refine yP (pSub (b := 1)) ?_
      refine yA ?_
      refine zN (zT ?_)
      exact ⟨1 * 8, [(77000, 77000)], _, by omega, wk [0, 1, 6000, 21000, 21001, 21002, 21003, 21004, 21005, 21006, 21007, 21008, 77000], z, 8, ⟨by decide, mod_lo hz hlt⟩, rfl, rfl⟩
   ·
    obtain rfl : k = 0 := by simpa using hb2
    have hzy : z = x / 256 ^ r % N := by rw [hz, hy, Nat.pow_zero, Nat.mul_one]; exact mod_byte
    refine zX (zV (zV (zH (zL (zT (zR ?_))))))
    refine yM ?_
    refine yP (PureOp.subP rfl rfl (by omega)) ?_
    refine yA ?_
    refine zN (zT ?_)
    exact ⟨1 * r, [(77000, 77000)], _, by omega, wk [0, 1, 6000, 21000, 21001, 21002, 21003, 21004, 21005, 21006, 21007, 21008, 77000], z, r, ⟨by omega, hzy⟩, rfl, rfl⟩
 ·
  obtain rfl : r = 0 := by simpa using hb0
  rw [Nat.pow_zero, Nat.div_one] at hy
  subst hy
  refine zX (zV (zV (zH (zT (zS ?_)))))
  refine yM ?_
  refine yA ?_
  refine zN (zE ?_)
  exact rq [77000] [.tmp 4]
end Go.Proofs.Ytiikffiembcboaa
namespace Go.Proofs.Ytiikffiembcboaa
open Go Sim
theorem wordsD_ctr {x n : Nat} (hn : n < 100000000) : GC Try.prog 55 [.slice (some ⟨0, 0, none⟩) (D 4294967296 x).length 0, vi .i64 (n)] [⟨(D 4294967296 x).map (vi .u64), false, 1⟩] [.slice (some ⟨1, 0, none⟩) n 0] [⟨(D 4294967296 x).map (vi .u64), false, 1⟩, ⟨(digs 18446744073709551616 n x).map (vi .u64), true, 1⟩] := by
 have h := words_ctr (a := D 4294967296 x) (n := n) (bd_D (by decide) _) hn
 simp only [num_D (show 2 ≤ 4294967296 by decide), digs_len] at h
 exact h
end Go.Proofs.Ytiikffiembcboaa
namespace Go.Proofs.Ytiikffiembcboaa
open Go Sim
theorem p02_digs : D 4294967296 21888242871839275222246405745257275088548364400416034343698204186575808495617 = [4026531841, 1138881939, 2042196113, 674490440, 2172737629, 3092268470, 3778125865, 811880050] := by kernel_rfl
section
variable {P : Program} {T : Tab} (H : TabOk P T) {E : Env} {M : Mem} {n' i' : Nat} {ty : TypeId} {ps : String} {af : Array Edge} {g : Option (Nat × Bool)} {ops : Array Oper} {os : List Oper} {D : List Eff → Prop} {K : ASt → Prop}
include H
end
set_option maxRecDepth 10000 in
theorem p02D_ctr : GC Try.prog 36 [] [] [.slice (some ⟨0, 0, none⟩) (D 4294967296 (21888242871839275222246405745257275088548364400416034343698204186575808495617)).length 0] [⟨(D 4294967296 (21888242871839275222246405745257275088548364400416034343698204186575808495617)).map (vi .u64), true, 1⟩] := by
 refine gi Try.func36 ?_
 refine zS ?_
 refine yA ?_
 refine zN (zS ?_)
 refine AWo.buildSlice tbok 2000 [(0, vi .u64 4026531841), (1, vi .u64 1138881939), (2, vi .u64 2042196113), (3, vi .u64 674490440), (4, vi .u64 2172737629), (5, vi .u64 3092268470), (6, vi .u64 3778125865), (7, vi .u64 811880050)] (out := [vi .u64 4026531841, vi .u64 1138881939, vi .u64 2042196113, vi .u64 674490440, vi .u64 2172737629, vi .u64 3092268470, vi .u64 3778125865, vi .u64 811880050]) rfl rfl (by decide) rfl rfl rfl (by decide) rfl rfl rfl rfl rfl ?_
 refine yA ?_
 refine zN (zE ?_)
 rw [p02_digs]
 exact rq [2000] [.tmp 0]
theorem rb4_ctr {x : Nat} (hx : x < 18446744073709551616 ^ 4) : GC Try.prog 77 [.slice (some ⟨0, 0, none⟩) 4 0] [⟨(digs 18446744073709551616 4 x).map (vi .u64), false, 1⟩] [.slice (some ⟨1, 0, none⟩) 32 0] [⟨(digs 18446744073709551616 4 x).map (vi .u64), false, 1⟩, ⟨(digs 256 32 x).map (vi .u8), true, 1⟩] := by
 have h := rbytes_ctr (a := digs 18446744073709551616 4 x) (digs_bd (by decide) _ _) (by rw [digs_len]; decide)
 rw [digs_len, num_digs_lt hx] at h
 exact h
set_option maxRecDepth 10000 in
theorem mod02_ctr {x : Nat} (hlx : (D 4294967296 x).length < 1000000) : GC Try.prog 86 [.slice (some ⟨0, 0, none⟩) (D 4294967296 x).length 0] [⟨(D 4294967296 x).map (vi .u64), false, 1⟩] [.slice (some ⟨1, 0, none⟩) (D 4294967296 (x % 21888242871839275222246405745257275088548364400416034343698204186575808495617)).length 0] [⟨(D 4294967296 x).map (vi .u64), false, 1⟩, ⟨(D 4294967296 (x % 21888242871839275222246405745257275088548364400416034343698204186575808495617)).map (vi .u64), true, 1⟩] := by
 refine gi Try.func86 ?_
 refine zS ?_
 refine yA ?_
 refine zN (zS ?_)
 refine yM ?_
 refine yC (p02D_ctr) bd36 [] [5000] ?_
 refine yC (modD_ctr (x := x) (N := 21888242871839275222246405745257275088548364400416034343698204186575808495617) (by decide) hlx (by rw [p02_digs]; decide)) bd67 [(0, 0), (5000, 0)] [6000] ?_
 refine yA ?_
 refine zN (zE ?_)
 exact rq [6000] [.tmp 2]
set_option maxRecDepth 10000 in
theorem bytes02_ctr {x : Nat} (hx : x < 18446744073709551616 ^ 4) : GC Try.prog 99 [.slice (some ⟨0, 0, none⟩) (D 4294967296 x).length 0] [⟨(D 4294967296 x).map (vi .u64), false, 1⟩] [.slice (some ⟨1, 0, none⟩) 32 0] [⟨(D 4294967296 x).map (vi .u64), false, 1⟩, ⟨(digs 256 32 x).map (vi .u8), true, 1⟩] := by
 refine gi Try.func99 ?_
 refine zS ?_
 refine yA ?_
 refine zN (zS ?_)
 refine yM ?_
 refine yC (wordsD_ctr (x := x) (n := 4) (by decide)) bd55 [(0, 0)] [5000] ?_
 refine yC (rb4_ctr hx) bd77 [(5000, 0)] [6000] ?_
 refine yA ?_
 refine zN (zE ?_)
 exact rq [6000] [.tmp 2]
end Go.Proofs.Ytiikffiembcboaa
namespace Go.Proofs.Ytiikffiembcboaa
open Go Sim
def pw : List Nat := digs 18446744073709551616 4 21888242871839275222246405745257275088548364400416034343698204186575808495617
theorem pw_len : pw.length = 4 := digs_len _ _
theorem pw_num : num 18446744073709551616 pw = 21888242871839275222246405745257275088548364400416034343698204186575808495617 := num_digs_lt (by decide)
theorem pw_bd : bd 18446744073709551616 pw := digs_bd (by decide) _ _
theorem pwOk : MwOk pw := ⟨pw_bd, by rw [pw_len]; decide, by rw [pw_len]; decide, by rw [pw_num]; decide⟩
theorem pw_0 : pw.getD 0 0 = 4891460686036598785 := by kernel_rfl
theorem pw_3 : pw.getD (pw.length - 1) 0 = 3486998266802970665 := by rw [pw_len]; kernel_rfl
theorem newP_ctr : GC Try.prog 52 [.slice (some ⟨0, 0, none⟩) pw.length 0] [⟨pw.map (vi .u64), false, 1⟩] [.pointer (some ⟨1, 0, none⟩), .int .i64 0] [⟨pw.map (vi .u64), false, 1⟩, ⟨[.slice (some ⟨2, 0, none⟩) pw.length 0, vi .u64 (ninvR (pw.getD 0 0)), .slice (some ⟨3, 0, none⟩) pw.length 0], true, 1⟩, ⟨(pw).map (vi .u64), true, 1⟩, ⟨(digs 18446744073709551616 pw.length (18446744073709551616 ^ pw.length * 18446744073709551616 ^ pw.length % num 18446744073709551616 pw)).map (vi .u64), true, 1⟩] := lnew_ctr pw_bd (by rw [pw_len]; decide) (by rw [pw_len]; decide) (by rw [pw_0]) (by rw [pw_3]; decide) (by rw [pw_len]; decide)
theorem redP_ctr {a : List Nat} {sq : List Nat} {iv ns na xa : Nat} (hna : a.length = na) (hxa : num 18446744073709551616 a = xa) (ha : bd 18446744073709551616 a) (hla : na ≤ 1000) : GC Try.prog 61 [.pointer (some ⟨0, 0, none⟩), .slice (some ⟨3, 0, none⟩) na 0] [⟨[.slice (some ⟨1, 0, none⟩) pw.length 0, vi .u64 iv, .slice (some ⟨2, 0, none⟩) ns 0], false, 1⟩, ⟨(pw).map (vi .u64), false, 1⟩, ⟨(sq).map (vi .u64), false, 1⟩, ⟨a.map (vi .u64), false, 1⟩] [.slice (some ⟨4, 0, none⟩) 4 0] [⟨[.slice (some ⟨1, 0, none⟩) pw.length 0, vi .u64 iv, .slice (some ⟨2, 0, none⟩) ns 0], false, 1⟩, ⟨(pw).map (vi .u64), false, 1⟩, ⟨(sq).map (vi .u64), false, 1⟩, ⟨a.map (vi .u64), false, 1⟩, ⟨(digs 18446744073709551616 4 (xa % 21888242871839275222246405745257275088548364400416034343698204186575808495617)).map (vi .u64), true, 1⟩] := by
 have h := reduce_ctr (mw := pw) (iv := iv) (sq := sq) (ns := ns) pwOk ha (by omega)
 rw [pw_len, pw_num, hna, hxa] at h
 rw [pw_len]
 exact h
theorem rest4 {x : Nat} : num 18446744073709551616 (digs 18446744073709551616 4 (x % 21888242871839275222246405745257275088548364400416034343698204186575808495617)) = x % 21888242871839275222246405745257275088548364400416034343698204186575808495617 := num_digs_lt (Nat.lt_trans (Nat.mod_lt _ (by decide)) (by decide))
set_option maxRecDepth 10000 in
theorem fromwide_ctr {b : List Nat} (hb : bd 256 b) (hlb : b.length ≤ 1000) : GC Try.prog 85 [.slice (some ⟨0, 0, none⟩) b.length 0] [⟨b.map (vi .u8), false, 1⟩] [.agg ((fel (num 256 b % 21888242871839275222246405745257275088548364400416034343698204186575808495617)).map (vi .u64)).toArray] [⟨b.map (vi .u8), false, 1⟩] := by
 refine gi Try.func85 ?_
 have h8 := reads_num hb
 have hd4 := fel_len (num 18446744073709551616 (digs 18446744073709551616 4 (num 256 b % 21888242871839275222246405745257275088548364400416034343698204186575808495617)))
 have hl4 := digs_len (B := 18446744073709551616) 4 21888242871839275222246405745257275088548364400416034343698204186575808495617
 refine zS ?_
 refine yN 3000 1 _ ?_
 refine zN (zS ?_)
 refine yC (prime_ctr) bd136 [] [] ?_
 refine yN 4000 1 ((List.replicate 4 0).map (vi .u64)) ?_
 refine ySA ?_
 refine zN (zS ?_)
 refine AWo.sliceA tbok (h := 4) rfl .none .none rfl rfl rfl rfl (by decide) (by decide) (.inl rfl) (by simp [digs_len]) rfl rfl rfl ?_
 refine yC (newP_ctr) bd52 [(4000, 0)] [10000, 10001, 10002] ?_
 refine yM ?_
 refine yP pX ?_
 refine yP pX ?_
 refine yA ?_
 refine yA ?_
 refine zN (zS ?_)
 refine yM ?_
 refine yM ?_
 refine yC (lwords_ctr hb (by omega)) bd73 [(0, 0)] [15000] ?_
 refine yC (redP_ctr (a := digs 18446744073709551616 ((b.length + 7) / 8) (num 256 b)) (na := (b.length + 7) / 8) (xa := num 256 b) (digs_len _ _) h8 (digs_bd (by decide) _ _) (by omega)) bd61 [(10000, 0), (10001, 0), (10002, 0), (15000, 0)] [16000] ?_
 refine yP (PureOp.toArrT tbok rfl rfl (by decide) (by decide)) ?_
 refine AWo.loadAgg tbok (vs := (digs 18446744073709551616 4 (num 256 b % 21888242871839275222246405745257275088548364400416034343698204186575808495617)).map (vi .u64)) rfl rfl rfl rfl (by show 0 + 4 ≤ _; simp [digs_len]) (ld4 (digs_len _ _)) rfl rfl ?_
 refine yC (enter_ctr (a := digs 18446744073709551616 4 (num 256 b % 21888242871839275222246405745257275088548364400416034343698204186575808495617)) (digs_bd (by decide) _ _) (digs_len _ _) (by rw [rest4]; exact Nat.mod_lt _ (by decide))) bd134 [] [] ?_
 refine ySA ?_
 refine zN (zE ?_)
 rw [rest4]
 exact rq [] [.cell 2 50]
end Go.Proofs.Ytiikffiembcboaa
namespace Go.Proofs.Ytiikffiembcboaa
open Go Sim
theorem bytes_room {b : List Nat} (hb : bd 256 b) (hl : b.length ≤ 1000) : (D 4294967296 (num 256 b)).length < 1000000 := by
 have h : num 256 b < 4294967296 ^ b.length := Nat.lt_of_lt_of_le (num_lt hb) (Nat.pow_le_pow_left (by decide) _)
 have := (D_len_le (B := 4294967296) (by decide) _ _).2 h
 omega
end Go.Proofs.Ytiikffiembcboaa
namespace Go.Proofs.Ytiikffiembcboaa.Rg
variable {n : Nat} [NeZero n] {x y z u v w : Fin n}
theorem add_comm (x y : Fin n) : x + y = y + x := by grind
theorem mul_comm (x y : Fin n) : x * y = y * x := by grind
theorem mul_assoc (x y z : Fin n) : x * (y * z) = x * y * z := by grind
theorem mul_add (x y z : Fin n) : x * (y + z) = x * y + x * z := by grind
theorem mul_one (x : Fin n) : x * 1 = x := by grind
theorem one_mul (x : Fin n) : 1 * x = x := by grind
theorem sub_self (x : Fin n) : x - x = 0 := by grind
theorem zero_mul (x : Fin n) : 0 * x = 0 := by grind
theorem mul_zero (x : Fin n) : x * 0 = 0 := by grind
theorem add_zero (x : Fin n) : x + 0 = x := by grind
theorem zero_add (x : Fin n) : 0 + x = x := by grind
theorem add_assoc (x y z : Fin n) : x + y + z = x + (y + z) := by grind
end Go.Proofs.Ytiikffiembcboaa.Rg
namespace Go.Proofs.Ytiikffiembcboaa
open Go Sim
abbrev Fp := Fin 21888242871839275222246405745257275088548364400416034343698204186575808495617
def fe (x : Fp) : List Nat := fel x.val
def fp (v : Nat) : Fp := ⟨v % 21888242871839275222246405745257275088548364400416034343698204186575808495617, Nat.mod_lt _ (by decide)⟩
@[simp] theorem fe_len (x : Fp) : (fe x).length = 4 := fel_len _
theorem bytesF_ctr {x : Fp} : GC Try.prog 43 [.agg ((fe x).map (vi .u64)).toArray] [] [.agg ((digs 256 32 x.val).map (vi .u8)).toArray] [] := ebytes_ctr x.isLt
theorem fromwideF_ctr {b : List Nat} (hb : bd 256 b) (hlb : b.length ≤ 1000) : GC Try.prog 85 [.slice (some ⟨0, 0, none⟩) b.length 0] [⟨b.map (vi .u8), false, 1⟩] [.agg ((fe (fp (num 256 b))).map (vi .u64)).toArray] [⟨b.map (vi .u8), false, 1⟩] := fromwide_ctr hb hlb
theorem modR_ctr {v : Nat} (hl : (D 4294967296 v).length < 1000000) : GC Try.prog 86 [.slice (some ⟨0, 0, none⟩) (D 4294967296 v).length 0] [⟨(D 4294967296 v).map (vi .u64), false, 1⟩] [.slice (some ⟨1, 0, none⟩) (D 4294967296 ((fp v).val)).length 0] [⟨(D 4294967296 v).map (vi .u64), false, 1⟩, ⟨(D 4294967296 ((fp v).val)).map (vi .u64), true, 1⟩] := mod02_ctr hl
section
variable {ops : Array Oper} {n i : Nat} {os : List Oper} {E : Env} {M : Mem} {D : List Eff → Prop} {K : ASt → Prop}
  {d : Tmp} {ty : TypeId} {ps : String} {af : Array Edge} {g : Option (Nat × Bool)} {t : TypeId} {a : Operand}
theorem yLEi {xs : List Fp} {id j sz : Nat} {rw : Bool} {es : Nat} (hr : AWo Try.prog ops n (i + 1) os ⟨upd E d (.agg ((fe (xs.getD j 0)).map (vi .u64)).toArray), M⟩ (fun es => D (⟨[id], []⟩ :: es)) K)
    (ha : aev E a = some (.pointer (some ⟨id, 0 + j * 4, none⟩)) := by exact rfl) (hb : M id = some ⟨((xs.map fe).flatten).map (vi .u64), rw, es⟩ := by exact rfl) (hj : j < xs.length := by first | decide | omega)
    (ht : Tb.agg.lookup t = some true := by exact rfl) (hs : Tb.sz.lookup t = some sz := by exact rfl) (hl : 4 = sz := by exact rfl) (hw : wantA ops E ⟨some d, .load t a, ty, ps, af, g⟩ = some true := by exact rfl) (hd : Nat.blt d n = true := by exact rfl) :
    AWo Try.prog ops n i (⟨some d, .load t a, ty, ps, af, g⟩ :: os) ⟨E, M⟩ D K := by
  subst hl
  have hlen : ∀ x ∈ xs.map fe, x.length = 4 := fun x hx => by obtain ⟨y, _, rfl⟩ := List.mem_map.1 hx; exact fe_len y
  refine AWo.loadAgg tbok (vs := (fe (xs.getD j 0)).map (vi .u64)) ha hb ht hs ?_ ?_ hw hd hr
  · rw [List.length_map, flat_len hlen, List.length_map]; omega
  · rw [Nat.zero_add, flat_take_map hlen (by rw [List.length_map]; exact hj)]
    congr 1
    rw [List.getD_eq_getElem?_getD, List.getElem?_map, List.getElem?_eq_getElem hj, List.getD_eq_getElem?_getD, List.getElem?_eq_getElem hj]
    rfl
end
end Go.Proofs.Ytiikffiembcboaa
namespace Go.Proofs.Ytiikffiembcboaa
open Go Sim
abbrev dd (v : Nat) : Value := deep (D 4294967296 v).length 1 ((D 4294967296 v).map (vi .u64))
abbrev dv (x : Fp) : Value := dd x.val
abbrev db (b : List Nat) : Value := deep b.length 1 (b.map (vi .u8))
theorem modRd {v : Nat} (hl : (D 4294967296 v).length < 1000000) : GC Try.prog 86 [dd v] [] [dv (fp v)] [] := GC.deepen (modR_ctr hl) (.deep .nil) (.new (Nat.le_refl _) rfl (by simp) (cloM fun _ => rfl) .nil)
theorem bytesRd {x : Nat} (hx : x < 18446744073709551616 ^ 4) : GC Try.prog 99 [dd x] [] [deep 32 1 ((digs 256 32 x).map (vi .u8))] [] := GC.deepen (bytes02_ctr (x := x) hx) (.deep .nil) (.new (Nat.le_refl _) rfl (by simp [digs_len]) (cloM fun _ => rfl) .nil)
theorem ofbN {a : List Nat} (ha : bd 256 a) (hl : a.length < 100000000) : GC Try.prog 75 [.slice (some ⟨0, 0, none⟩) a.length 0] [⟨a.map (vi .u8), false, 1⟩] [dd (num 256 a)] [⟨a.map (vi .u8), false, 1⟩] :=
  GC.deepRes (ofb_ctr ha hl) (.new (Nat.le_refl _) rfl (by simp) (cloM fun _ => rfl) .nil) rfl (fun b hb => by simp at hb; subst hb; exact cloM fun _ => rfl)
end Go.Proofs.Ytiikffiembcboaa
namespace Go.Proofs.Ytiikffiembcboaa
open Go Sim
def maskL (b : List Nat) : List Nat := b.set 31 (b.getD 31 0 % 64)
theorem maskL_bd {b : List Nat} (h : bd 256 b) : bd 256 (maskL b) := bd_set h (by omega)
theorem and63 (x : Nat) : x &&& 63 = x % 64 := Nat.and_two_pow_sub_one_eq_mod x 6
def blk (L : List (List Nat)) (c : Nat) : List Nat := L.getD (c % L.length) []
def okL (L : List (List Nat)) : Prop := ∀ x ∈ L, x.length = 32 ∧ bd 256 x
def fbE (v : Nat) : List Nat := if v < 21888242871839275222246405745257275088548364400416034343698204186575808495617 then fel v else List.replicate 4 0
def fbC (v : Nat) : Int := if v < 21888242871839275222246405745257275088548364400416034343698204186575808495617 then 0 else 4
theorem fbE_len (v : Nat) : (fbE v).length = 4 := by
 simp only [fbE]; split
 · exact fel_len v
 · rfl
theorem fb32_ctr {b : List Nat} (hb : bd 256 b) (hlb : b.length = 32) : GC Try.prog 96 [.slice (some ⟨0, 0, none⟩) 32 0] [⟨b.map (vi .u8), false, 1⟩] [.agg ((fbE (num 256 b)).map (vi .u64)).toArray, .int .i64 (fbC (num 256 b))] [⟨b.map (vi .u8), false, 1⟩] := by
  rcases Nat.lt_or_ge (num 256 b) 21888242871839275222246405745257275088548364400416034343698204186575808495617 with h | h
  · have := fbok_ctr hb hlb h
    rw [hlb] at this
    simp only [fbE, fbC, if_pos h]
    exact this
  · have := fbcanon_ctr hb hlb h
    rw [hlb] at this
    simp only [fbE, fbC, if_neg (Nat.not_lt.2 h)]
    exact this
theorem sp_zero : fbE (num 256 (maskL (List.replicate 32 0))) = List.replicate 4 0 := by kernel_rfl
set_option maxRecDepth 10000 in
theorem mask_ctr {b : List Nat} (hb : bd 256 b) (hlb : b.length = 32) : GC Try.prog 42 [.agg (b.map (vi .u8)).toArray] [] [.agg ((maskL b).map (vi .u8)).toArray] [] := by
 refine gi Try.func42 ?_
 have hlm : (maskL b).length = 32 := by simp [maskL, hlb]
 refine zS ?_
 refine yO 2000 1 (b.map (vi .u8)) ?_
 refine yN 3000 1 ((List.replicate 32 0).map (vi .u8)) ?_
 refine zN (zS ?_)
 refine yP (pA (j := 31)) ?_
 refine yL 0 ?_
 refine yP ((PureOp.andN 256 rfl rfl (by decide) (by decide) (bd_getD hb (by decide) 31) (by decide)).mono (v' := vi .u8 (b.getD 31 0 % 64)) (congrArg (vi .u8) (and63 _))) ?_
 refine yP (pA (j := 31)) ?_
 refine AWo.storeM (f := (vi .u8)) (y := b.getD 31 0 % 64) tbok rfl rfl rfl rfl (by omega) rfl rfl ?_
 refine zN (zS ?_)
 refine yLA ?_
 refine ySA ?_
 refine zN (zE ?_)
 exact rq [] [.cell 2 40]
set_option maxRecDepth 10000 in
theorem sp1_ctr : GC Try.prog 114 [.pointer (some ⟨0, 0, none⟩)] [⟨[vi .i64 0], true, 1⟩] [.agg ((List.replicate 32 0).map (vi .u8)).toArray] [⟨[vi .i64 1], true, 1⟩] := by
 refine gi Try.func114 ?_
 refine zS ?_
 refine yN 2000 1 ((List.replicate 32 0).map (vi .u8)) ?_
 refine zN (zS ?_)
 refine yL1 ?_
 refine yP ((PureOp.addI (a := 0) (b := 1) rfl rfl (by decide)).mono (v' := vi .i64 1) rfl) ?_
 refine AWo.store1 tbok rfl rfl rfl rfl rfl Nat.zero_lt_one rfl rfl ?_
 refine zN (zS ?_)
 refine yL1 ?_
 refine yP ((PureOp.subI (a := 1) (b := 1) rfl rfl (by decide) (by decide)).mono (v' := vi .i64 0) rfl) ?_
 refine yP ((PureOp.cvtU (a := 0) tbok 256 rfl rfl rfl rfl rfl).mono (v' := vi .u8 0) rfl) ?_
 refine yP ((PureOp.buildArr tbok [(0, vi .u8 0)] rfl rfl rfl (by decide) rfl rfl).mono (v' := .agg ((List.replicate 32 0).map (vi .u8)).toArray) (by rfl)) ?_
 refine ySA ?_
 refine zN (zE ?_)
 refine RetQ.gc [_] [] [.cell 1 40] (.inl rfl) rfl (.val (RVal.cellAll tbok rfl rfl rfl rfl (by (simp [*]; done))) .nil) rfl (.pure (pure_aggM flat_vi) .nil) (OutL.flat rfl (flat1 rfl) (fun _ => rfl) trivial) (by decide) rfl
set_option maxRecDepth 10000 in
theorem fsp_ctr : GC Try.prog 37 [.func (.func 114) #[] #[.pointer (some ⟨0, 0, none⟩)]] [⟨[vi .i64 0], true, 1⟩] [.agg ((List.replicate 4 0).map (vi .u64)).toArray, vi .i64 1, .int .i64 0] [⟨[vi .i64 1], true, 1⟩] := by
 refine gi Try.func37 ?_
 have hfl := fbE_len
 refine zS ?_
 refine yN 3000 1 _ ?_
 refine yA ?_
 refine yA ?_
 refine zN (zQ (zS ?_))
 refine yM ?_
 refine zN (zB ?_)
 refine AW.rounds 2 ?_
 refine roundsA_succ ?_
 refine zS ?_
 refine yP ((PureOp.ltN (b := 64) rfl rfl).mono (v' := .bool true) (by rfl)) ?_
 refine zN (zQ (zC (zK (zT (zQ (zB (zS ?_)))))))
 refine yM ?_
 refine yA ?_
 refine zN (zS ?_)
 refine yM ?_
 refine AWo.callX (sp1_ctr) bd114 [(0, 0)] [] rfl .nil rfl (.cons rfl rfl .nil) (.flat rfl (flat1 rfl) (fun h => h) .nil) rfl (.chg rfl rfl (flat_map_ren (flat1 rfl)) (OkL.flat (flat1 rfl)) .nil) frN (by decide) (.pure (pure_aggM flat_vi) .nil) rfl rfl rfl rfl ?_
 refine yC (mask_ctr (b := List.replicate 32 0) (bd_replicate (by decide) _) rfl) bd42 [] [] ?_
 refine yN 7000 1 ((List.replicate 32 0).map (vi .u8)) ?_
 refine ySA ?_
 refine zN (zS ?_)
 refine AWo.sliceA tbok (h := 32) rfl .none .none rfl rfl rfl rfl (by decide) (by decide) (.inl rfl) (by simp [maskL]) rfl rfl rfl ?_
 refine yC (fb32_ctr (b := maskL (List.replicate 32 0)) (maskL_bd (bd_replicate (by decide) _)) rfl) bd96 [(7000, 0)] [] ?_
 refine yM ?_
 refine yP pX ?_
 refine yP pX ?_
 refine yN 8000 1 _ ?_
 refine ySA ?_
 refine yA ?_
 refine zN (zS ?_)
 refine yM ?_
 refine yP ((PureOp.eqN (b := 0) rfl rfl).mono (v' := .bool true) (by rfl)) ?_
 refine zN (zC (zS ?_))
 refine yLA ?_
 refine yM ?_
 refine yP ((PureOp.addI (b := 1) rfl rfl (by decide)).mono (v' := vi .i64 1) (by rfl)) ?_
 refine ySA ?_
 refine yA ?_
 refine yA ?_
 refine zN (zE (zI (zU (zU (zI (zU ?_))))))
 rw [sp_zero]
 refine RetQ.gc [_, _, _] [] [.cell 2 50, .tmp 3, .tmp 4] (.inl rfl) rfl (.val (RVal.cellAll tbok rfl rfl rfl rfl (by (simp [*]; done))) (.tmp rfl (.tmp rfl .nil))) rfl (.pure (pure_aggM flat_vi) (.cons rfl rfl (.cons rfl rfl .nil))) (OutL.flat rfl (flat1 rfl) (fun _ => rfl) trivial) (by decide) rfl
set_option maxRecDepth 10000 in
theorem sspeaks_ctr : GC Try.prog 33 [] [] [.bool true] [] := by
 refine gi Try.func33 ?_
 refine zS ?_
 refine yA ?_
 refine zN (zS ?_)
 refine yN 2000 1 _ ?_
 refine AWo.store1 tbok rfl rfl rfl rfl rfl Nat.zero_lt_one rfl rfl ?_
 refine zN (zS ?_)
 refine yP (PureOp.fn (.cons rfl .nil)) ?_
 refine AWo.callX (fsp_ctr) bd37 [(2000, 0)] [] rfl (.cons rfl .nil) rfl (.cons rfl rfl .nil) (.flat rfl (flat1 rfl) (fun h => h) .nil) rfl (.chg rfl rfl (flat_map_ren (flat1 rfl)) (OkL.flat (flat1 rfl)) .nil) frN (by decide) (.pure (pure_aggM flat_vi) (.cons rfl rfl (.cons rfl rfl .nil))) rfl rfl rfl rfl ?_
 refine yM ?_
 refine yP pX ?_
 refine yP pX ?_
 refine yP pX ?_
 refine yN 3000 1 _ ?_
 refine ySA ?_
 refine yA ?_
 refine yA ?_
 refine zN (zS ?_)
 refine yM ?_
 refine yP ((PureOp.eqN (b := 0) rfl rfl).mono (v' := .bool true) (by rfl)) ?_
 refine yM ?_
 refine yM ?_
 refine yP ((PureOp.eqN (b := 1) rfl rfl).mono (v' := .bool true) (by rfl)) ?_
 refine yP pT ?_
 refine yM ?_
 refine yL1 ?_
 refine yP ((PureOp.eqN (b := 1) rfl rfl).mono (v' := .bool true) (by rfl)) ?_
 refine yP pT ?_
 refine yM ?_
 refine yLA ?_
 refine yC (iszero_ctr (a := List.replicate 4 0) rfl) bd39 [] [] ?_
 refine yP pT ?_
 refine yA ?_
 refine zN (zE ?_)
 exact rq [] [.tmp 0] (hres := (.cons rfl (by rfl) .nil))
end Go.Proofs.Ytiikffiembcboaa
namespace Go.Proofs.Ytiikffiembcboaa
open Go Sim
theorem setL_eq : ∀ (vs cells : List Value) (o : Nat), o + vs.length ≤ cells.length → setL cells o vs = cells.take o ++ vs ++ cells.drop (o + vs.length) := by
 intro vs
 induction vs with
 | nil => intro cells o _; simp [setL]
 | cons v vs ih =>
  intro cells o h
  simp only [List.length_cons] at h
  simp only [setL]
  rw [ih (cells.set o v) (o + 1) (by simp; omega), List.drop_set_of_lt (by omega)]
  have h1 : (cells.set o v).take (o + 1) = cells.take o ++ [v] := by
   rw [List.take_add_one, List.take_set_of_le (by omega), List.getElem?_set_self (by omega)]
   rfl
  rw [h1]
  simp [Nat.add_assoc, Nat.add_comm 1]
theorem fillB1 {b : List Nat} {c : Value} {k : IntKind} {n : Nat} (h : b.length = n) : fillL (fun i => some (i * n, n)) (List.replicate (1 * n) c) [(0, .agg (b.map (vi k)).toArray)] = some ([b].flatten.map (vi k)) := by
 simp only [fillL]
 rw [if_neg (by simp [Value.cells, h])]
 simp only [Value.cells]
 rw [setL_eq _ _ _ (by simp [h])]
 simp [h]
end Go.Proofs.Ytiikffiembcboaa
namespace Go.Proofs.Ytiikffiembcboaa
open Go Sim
attribute [local simp] digs_len
def bstr (xs : List Fp) (i : Nat) : Nat := (digs 256 32 (xs.getD (i / 31 % xs.length) 0).val).getD (i % 31) 0
def bts (xs : List Fp) (n : Nat) : List Nat := (List.range n).map (bstr xs)
@[simp] theorem bts_len (xs : List Fp) (n : Nat) : (bts xs n).length = n := by simp [bts]
theorem bts_step {xs : List Fp} {k n : Nat} (h : 31 * k < n) : bts xs (min (31 * k) n) ++ (digs 256 32 (xs.getD (k % xs.length) 0).val).take (min 31 (n - min (31 * k) n)) = bts xs (min (31 * (k + 1)) n) := by
  have h1 : min (31 * k) n = 31 * k := by omega
  rw [h1]
  obtain ⟨m, hm⟩ : ∃ m, m = min 31 (n - 31 * k) := ⟨_, rfl⟩
  rw [← hm, show min (31 * (k + 1)) n = 31 * k + m by omega]
  apply List.ext_getElem?
  intro i
  have hl : ((digs 256 32 (xs.getD (k % xs.length) 0).val).take m).length = m := by rw [List.length_take, digs_len]; omega
  rcases Nat.lt_or_ge i (31 * k) with hi | hi
  · rw [List.getElem?_append_left (by simpa using hi)]
    simp only [bts, List.getElem?_map, List.getElem?_range hi, List.getElem?_range (show i < 31 * k + m by omega)]
  · rw [List.getElem?_append_right (by simpa using hi), bts_len]
    rcases Nat.lt_or_ge i (31 * k + m) with hj | hj
    · simp only [bts, List.getElem?_map, List.getElem?_range hj, Option.map_some, bstr]
      rw [List.getElem?_take, if_pos (by omega), List.getElem?_eq_getElem (by rw [digs_len]; omega), show i / 31 = k by omega, show i % 31 = i - 31 * k by omega, List.getD_eq_getElem?_getD (i := i - 31 * k), List.getElem?_eq_getElem (by rw [digs_len]; omega)]
      rfl
    · rw [List.getElem?_eq_none (by omega), List.getElem?_eq_none (by simpa using hj)]
theorem bts_snoc {xs : List Fp} {k i n : Nat} (h : 31 * k + i < n) (hi : i < 31) : bts xs (min (31 * k + i) n) ++ [(digs 256 32 (xs.getD (k % xs.length) 0).val).getD i 0] = bts xs (min (31 * k + (i + 1)) n) := by
 rw [show min (31 * k + i) n = 31 * k + i by omega, show min (31 * k + (i + 1)) n = 31 * k + i + 1 by omega]
 simp only [bts, List.range_succ, List.map_append, List.map_cons, List.map_nil, bstr]
 rw [show (31 * k + i) / 31 = k by omega, show (31 * k + i) % 31 = i by omega]
set_option maxRecDepth 10000 in
theorem sbc_ctr {xs : List Fp} {c : Nat} (h0 : 0 < xs.length) (hc : c < 4611686018427387000) :
  GC Try.prog 102 [.pointer (some ⟨0, 0, none⟩), .pointer (some ⟨1, 0, none⟩)] [⟨[vi .i64 (c)], true, 1⟩, ⟨[.slice (some ⟨2, 0, none⟩) xs.length 0], false, 1⟩, ⟨((xs.map fe).flatten).map (vi .u64), false, 4⟩] [.agg ((fe (xs.getD (c % xs.length) 0)).map (vi .u64)).toArray] [⟨[vi .i64 (c + 1)], true, 1⟩, ⟨[.slice (some ⟨2, 0, none⟩) xs.length 0], false, 1⟩, ⟨((xs.map fe).flatten).map (vi .u64), false, 4⟩] := by
 refine gi Try.func102 ?_
 have hin : c % xs.length < xs.length := Nat.mod_lt _ h0
 refine zS ?_
 refine yN 3000 1 _ ?_
 refine zN (zS ?_)
 refine yL1 ?_
 refine yP (pAdd (b := 1)) ?_
 refine AWo.store1 tbok rfl rfl rfl rfl rfl Nat.zero_lt_one rfl rfl ?_
 refine zN ?_
 refine AW.seqD mixed ?_
 refine yL1 ?_
 refine yL1 ?_
 refine yP ((PureOp.subI (b := 1) rfl rfl (by omega) (by omega)).mono (v' := vi .i64 c) (congrArg (vi .i64) (Nat.add_sub_cancel ..))) ?_
 refine yL1 ?_
 refine yP pL ?_
 refine yP (PureOp.remN (a := c) (b := xs.length) rfl rfl (by omega)) ?_
 refine yP (PureOp.idxN tbok (j := c % xs.length) rfl rfl rfl rfl hin) ?_
 refine yLEi ?_
 refine ySA ?_
 refine zD (zE ?_)
 refine RetQ.gc [_] [] [.cell 2 50] (.inl rfl) rfl (.val (RVal.cellAll tbok rfl rfl rfl rfl (by (simp [*]; done))) .nil) rfl (.pure (pure_aggM flat_vi) .nil) (OutL.flat rfl (flat1 rfl) (fun _ => rfl) (OutL.whole rfl rfl (OkL.all rfl) (by intro h; exact h.elim id fun h => absurd h.1 (by simp)) (OutL.flat rfl (flatM flat_vi) (by intro h; exact h.elim id fun h => absurd h.1 (by simp)) trivial))) (by decide) rfl
set_option maxRecDepth 10000 in
theorem sbytes_ctr {xs : List Fp} {z : Int} {n : Nat} (hz : z.toNat = n) (hn : n ≤ 2000) (h0 : 0 < xs.length) :
  GC Try.prog 101 [.int .i64 z, .func (.func 102) #[] #[.pointer (some ⟨0, 0, none⟩), .pointer (some ⟨1, 0, none⟩)]] [⟨[vi .i64 (0)], true, 1⟩, ⟨[.slice (some ⟨2, 0, none⟩) xs.length 0], false, 1⟩, ⟨((xs.map fe).flatten).map (vi .u64), false, 4⟩] [.slice (some ⟨3, 0, none⟩) n 0] [⟨[vi .i64 ((n + 30) / 31)], true, 1⟩, ⟨[.slice (some ⟨2, 0, none⟩) xs.length 0], false, 1⟩, ⟨((xs.map fe).flatten).map (vi .u64), false, 4⟩, ⟨(bts xs n).map (vi .u8), true, 1⟩] := by
 refine gi Try.func101 ?_
 refine zS ?_
 refine yA ?_
 refine zN (zS ?_)
 refine yA ?_
 refine zN (zQ (zB ?_))
 refine AW.ghost 77000 1 rfl ?_
 refine AW.loopw (fun mm σ => ∃ k, (31 * k < n + 31) ∧ mm = n + 31 - 31 * k ∧ σ = ⟨(upd (upd (upd emp 0 (.int .i64 z)) 1 (.func (.func 102) #[] #[.pointer (some ⟨0, 0, none⟩), .pointer (some ⟨1, 0, none⟩)])) 5 (.slice (some ⟨77000, 0, none⟩) (min (31 * k) n) 0)), (upd (upd (upd (upd emp 0 ⟨[vi .i64 k], true, 1⟩) 1 ⟨[.slice (some ⟨2, 0, none⟩) xs.length 0], false, 1⟩) 2 ⟨((xs.map fe).flatten).map (vi .u64), false, 4⟩) 77000 ⟨(bts xs (min (31 * k) n)).map (vi .u8), true, 1⟩)⟩) (fm := []) ?_ ⟨0, by omega, rfl, rfl⟩ ?_
 ·
  refine Wk.of [0, 1, 2, 77000] ?_ ?_ ?_ (by decide) rfl
  ·
   refine WkE.upd rfl (by exact .nilS _ (by simp)) ?_
   refine WkE.upd rfl (okVI_rel (ids := [0, 1]) (by simp) rfl (dom_all rfl) rfl) ?_
   refine WkE.upd rfl (by exact VR.flat _ rfl) ?_
   exact WkE.emp
  ·
   refine WkM.flatM rfl (by rfl) (fun _ => rfl) (fun h => h) ?_
   refine WkM.flatM rfl (by rfl) (fun _ => rfl) (fun h => h) ?_
   refine WkM.ren [2] rfl rfl rfl (dom_all rfl) (fun h => h) ?_
   refine WkM.refl rfl (flat1 rfl) (fun h => h) ?_
   exact WkM.emp
  ·
   repeat (refine dom_upd_mem (by decide) ?_)
   exact dom_emp
 ·
  rintro mm σ ⟨k, hinv, rfl, rfl⟩
  refine zQ (zS ?_)
  refine yM ?_
  refine yP pL ?_
  refine yM ?_
  refine yP ((PureOp.bin rfl rfl rfl).mono (v' := .bool (decide (min (31 * k) n < n))) (congrArg Value.bool (decide_eq_decide.2 (by omega)))) ?_
  refine zN ?_
  refine zA (fun hb0 => ?_) (fun hb0 => ?_)
  ·
   have hlt : 31 * k < n := by have := of_decide_eq_true hb0; omega
   obtain rfl : z = (n : Int) := by omega
   refine zK (zT (zB ?_))
   have hbl := digs_len (B := 256) 32 (xs.getD (k % xs.length) 0).val
   refine zS ?_
   refine yM ?_
   refine AWo.callX (sbc_ctr (c := k) h0 (by omega)) bd102 [(0, 0), (1, 0), (2, 0)] [] rfl .nil rfl (.cons rfl rfl (.cons rfl rfl .nil)) (.flat rfl (flat1 rfl) (fun h => h) (.whole rfl rfl (OkL.all rfl) (by intro h; exact h) (.flat rfl (flatM flat_vi) (by intro h; exact h) .nil))) rfl (.chg rfl rfl (flat_map_ren (flat1 rfl)) (OkL.flat (flat1 rfl)) (.keep rfl (.keep rfl .nil))) frN (by decide) (.pure (pure_aggM flat_vi) .nil) rfl rfl rfl rfl ?_
   refine yC (bytesF_ctr) bd43 [] [] ?_
   refine yN 7000 1 ((List.replicate 32 0).map (vi .u8)) ?_
   refine ySA ?_
   refine zN (zR ?_)
   refine yM ?_
   refine yM ?_
   refine yM ?_
   refine yP pL ?_
   refine yP ((PureOp.subI rfl rfl (by omega) (by omega)).mono (v' := vi .i64 (n - min (31 * k) n)) rfl) ?_
   refine yP ((PureOp.minN (a := 31) rfl rfl).mono (v' := vi .i64 (min 31 (n - min (31 * k) n))) rfl) ?_
   refine AWo.sliceA tbok (h := min 31 (n - min (31 * k) n)) rfl .none (.some rfl) rfl rfl rfl rfl (by omega) (by omega) (.inl rfl) (by simp) rfl rfl rfl ?_
   refine AWo.append tbok (all := (bts xs (min (31 * (k + 1)) n)).map (vi .u8)) (news := ((digs 256 32 (xs.getD (k % xs.length) 0).val).take (min 31 (n - min (31 * k) n))).map (vi .u8)) 22000 rfl rfl rfl rfl (by simp [bts]) (by simp only [Nat.zero_mul, Nat.add_zero, List.drop_zero, Nat.sub_zero, Nat.mul_one, List.map_take]) (by (simp; omega)) (by decide) rfl rfl rfl (by decide) rfl rfl rfl (by omega) (by omega) (by exact oneM (fun _ => rfl) _) (by rw [← List.map_append, bts_step hlt]) rfl rfl ?_
   refine yA ?_
   refine zN (zL (zT ?_))
   rw [show min (31 * k) n + (min 31 (n - min (31 * k) n) - 0) = min (31 * (k + 1)) n by omega]
   refine ⟨n + 31 - 31 * (k + 1), [(77000, 22000)], _, by omega, ?_, k + 1, by omega, rfl, rfl⟩
   refine Wk.of [0, 1, 2, 77000] ?_ ?_ ?_ (by decide) rfl
   ·
    refine WkE.upd rfl (by exact .slice (77000) 0 _ 0 ⟨_, rfl⟩ (by simp) (by simp)) ?_
    refine WkE.upd rfl (okVI_rel (ids := [0, 1]) (by simp) rfl (dom_all rfl) rfl) ?_
    refine WkE.upd rfl (by exact VR.flat _ rfl) ?_
    exact WkE.emp
   ·
    refine WkM.flatM rfl (by rfl) (fun _ => rfl) (fun h => h) ?_
    refine WkM.flatM rfl (by rfl) (fun _ => rfl) (fun h => h) ?_
    refine WkM.ren [2] rfl rfl rfl (dom_all rfl) (fun h => h) ?_
    refine WkM.refl rfl (flat1 rfl) (fun h => h) ?_
    exact WkM.emp
   ·
    repeat (refine dom_upd_mem (by decide) ?_)
    exact dom_emp
  ·
   have hge : n ≤ 31 * k := by have := of_decide_eq_false hb0; omega
   obtain rfl : k = (n + 30) / 31 := by omega
   rw [Nat.min_eq_right hge]
   refine zX (zV (zV (zH (zT (zS ?_)))))
   refine yM ?_
   refine yA ?_
   refine zN (zE ?_)
   refine RetQ.gc [_] [77000] [.tmp 4] (.inl rfl) rfl (.tmp rfl .nil) rfl (.cons rfl rfl .nil) (OutL.flat rfl (flat1 rfl) (fun _ => rfl) (OutL.whole rfl rfl (OkL.all rfl) (by intro h; exact h.elim id fun h => absurd h.1 (by simp)) (OutL.flat rfl (flatM flat_vi) (by intro h; exact h.elim id fun h => absurd h.1 (by simp)) (OutL.flat rfl (flatM flat_vi) (fun _ => rfl) trivial)))) (by decide) rfl
set_option maxRecDepth 10000 in
theorem rbytes16_ctr {xs : List Fp} {z : Int} {n : Nat} (hz : z.toNat = n) (hn : n ≤ 2000) (h0 : 0 < xs.length) (hl : xs.length ≤ 1000) : GC Try.prog 103 [.slice (some ⟨0, 0, none⟩) xs.length 0, .int .i64 z] [⟨xs.map (dv), false, 1⟩] [.slice (some ⟨1, 0, none⟩) n 0, vi .i64 ((n + 30) / 31)] [⟨xs.map (dv), false, 1⟩, ⟨(bts xs n).map (vi .u8), true, 1⟩] := by
 refine gi Try.func103 ?_
 refine zS ?_
 refine yA ?_
 refine yA ?_
 refine zN (zS ?_)
 refine AWo.buildSlice tbok 11000 [] (out := []) rfl rfl (by decide) rfl rfl rfl (by decide) rfl rfl rfl rfl rfl ?_
 refine yA ?_
 refine zN (zS ?_)
 refine yA ?_
 refine zN (zQ (zB ?_))
 refine AW.loopw (fun mm σ => ∃ k, (31 * k < n + 31) ∧ mm = n + 31 - 31 * k ∧ σ = ⟨(upd (upd (upd (upd emp 0 (.slice (some ⟨0, 0, none⟩) xs.length 0)) 1 (.int .i64 z)) 6 (.slice (some ⟨77000, 0, none⟩) (min (31 * k) n) 0)) 7 (vi .i64 k)), (upd (upd emp 0 ⟨xs.map dv, false, 1⟩) 77000 ⟨(bts xs (min (31 * k) n)).map (vi .u8), true, 1⟩)⟩) (fm := [(77000, 11000)]) (wk [0, 77000]) ⟨0, by omega, rfl, rfl⟩ ?_
 rintro mm σ ⟨k, hinv, rfl, rfl⟩
 refine zQ (zS ?_)
 refine yM ?_
 refine yP pL ?_
 refine yM ?_
 refine yP ((PureOp.bin rfl rfl rfl).mono (v' := .bool (decide (min (31 * k) n < n))) (congrArg Value.bool (decide_eq_decide.2 (by omega)))) ?_
 refine zN ?_
 refine zA (fun hb0 => ?_) (fun hb0 => ?_)
 ·
  have hk : 31 * k < n := by have := of_decide_eq_true hb0; omega
  obtain rfl : z = (n : Int) := by omega
  have hin : k % xs.length < xs.length := Nat.mod_lt _ h0
  have hbl := digs_len (B := 256) 32 (xs.getD (k % xs.length) 0).val
  refine zK (zT (zB (zS ?_)))
  refine yM ?_
  refine yM ?_
  refine yM ?_
  refine yP pL ?_
  refine yP (PureOp.remN (a := k) (b := xs.length) rfl rfl (by omega)) ?_
  refine yP (PureOp.idx1 tbok (j := k % xs.length) rfl rfl rfl rfl hin) ?_
  refine AWo.loadM tbok (f := dv) 0 rfl rfl rfl hin rfl rfl ?_
  refine yC (bytesRd (x := (xs.getD (k % xs.length) 0).val) (Nat.lt_trans (xs.getD (k % xs.length) 0).isLt (by decide))) bd99 [] [] ?_
  refine yA ?_
  refine zN (zS ?_)
  refine yM ?_
  refine yP (pAdd (b := 1)) ?_
  refine yA ?_
  refine zN (zS ?_)
  refine yA ?_
  refine zN (zB ?_)
  refine AW.expose 8 88000 ?_
  refine AW.loopw (fun mm σ => ∃ i, (i ≤ 31) ∧ mm = 31 - i ∧ σ = ⟨(upd (upd (upd (upd (upd (upd emp 0 (.slice (some ⟨0, 0, none⟩) xs.length 0)) 1 (.int .i64 ↑n)) 6 (.slice (some ⟨88001, 0, none⟩) (min (31 * k + i) n) 0)) 7 (vi .i64 (k + 1))) 8 (.slice (some ⟨88000, 0, none⟩) 32 0)) 9 (vi .i64 i)), (upd (upd (upd emp 0 ⟨xs.map dv, false, 1⟩) 88000 ⟨(digs 256 32 (xs.getD (k % xs.length) 0).val).map (vi .u8), false, 1⟩) 88001 ⟨(bts xs (min (31 * k + i) n)).map (vi .u8), true, 1⟩)⟩) (fm := [(88001, 77000)]) (wk [0, 88000, 88001]) ⟨0, by omega, rfl, rfl⟩ ?_
  rintro mm σ ⟨i, hinv, rfl, rfl⟩
  refine zQ (zS ?_)
  refine yM ?_
  refine yP (pLt (b := 31)) ?_
  first | refine AWo.pureB (PureOp.move rfl) rfl rfl (fun hb1 => ?_) (fun hb1 => ?_)
  ·
   have hi : i < 31 := of_decide_eq_true hb1
   refine yM ?_
   refine yP pL ?_
   refine yM ?_
   refine yP ((PureOp.ltN rfl rfl).mono (v' := .bool (decide (min (31 * k + i) n < n))) (congrArg Value.bool (decide_eq_decide.2 (by omega)))) ?_
   refine yP pT ?_
   refine zN ?_
   refine zA (fun hb2 => ?_) (fun hb2 => ?_)
   ·
    have hlt : 31 * k + i < n := by have := of_decide_eq_true hb2; omega
    refine zK (zT (zQ (zB (zR ?_))))
    refine yM ?_
    refine yM ?_
    refine yM ?_
    refine yP pJ ?_
    refine yL 0 ?_
    refine AWo.buildSlice tbok 41000 [(0, vi .u8 ((digs 256 32 (xs.getD (k % xs.length) 0).val).getD i 0))] (out := [vi .u8 ((digs 256 32 (xs.getD (k % xs.length) 0).val).getD i 0)]) rfl rfl (by decide) rfl rfl rfl (by decide) rfl rfl rfl rfl rfl ?_
    refine AWo.append tbok (all := (bts xs (min (31 * k + (i + 1)) n)).map (vi .u8)) (news := [(digs 256 32 (xs.getD (k % xs.length) 0).val).getD i 0].map (vi .u8)) 42000 rfl rfl rfl rfl (by simp) rfl (by (simp; done)) (by decide) rfl rfl rfl (by decide) rfl rfl rfl (by omega) (by omega) (by exact oneM (fun _ => rfl) _) (by rw [← List.map_append, bts_snoc hlt hi]) rfl rfl ?_
    refine yA ?_
    refine zN (zL (zT (zR ?_)))
    refine yM ?_
    refine yP (pAdd (b := 1)) ?_
    refine yA ?_
    refine zN (zT ?_)
    rw [show min (31 * k + i) n + 1 = min (31 * k + (i + 1)) n by omega]
    exact ⟨31 - (i + 1), [(88001, 42000)], _, by omega, wk [0, 88000, 88001], i + 1, by omega, rfl, rfl⟩
   ·
    have hge : n ≤ 31 * k + i := by have := of_decide_eq_false hb2; omega
    rw [show min (31 * k + i) n = min (31 * (k + 1)) n by omega]
    refine zX (zV (zV (zH (zL (zT ?_)))))
    exact ⟨n + 31 - 31 * (k + 1), [(77000, 88001)], _, by omega, wk [0, 77000], k + 1, by omega, rfl, rfl⟩
  ·
   have hi : 31 ≤ i := by have := of_decide_eq_false hb1; omega
   rw [show min (31 * k + i) n = min (31 * (k + 1)) n by omega]
   refine yK ?_
   refine yK ?_
   refine yK ?_
   refine yK ?_
   refine yP pE ?_
   refine zN (zF (zX (zV (zV (zH (zL (zT ?_)))))))
   exact ⟨n + 31 - 31 * (k + 1), [(77000, 88001)], _, by omega, wk [0, 77000], k + 1, by omega, rfl, rfl⟩
 ·
  have hge : n ≤ 31 * k := by have := of_decide_eq_false hb0; omega
  obtain rfl : k = (n + 30) / 31 := by omega
  rw [Nat.min_eq_right hge]
  refine zX (zV (zV (zH (zT (zS ?_)))))
  refine yM ?_
  refine yM ?_
  refine yA ?_
  refine yA ?_
  refine zN (zE ?_)
  exact rq [77000] [.tmp 4, .tmp 5] (hb := (OutL.clo rfl (cloM fun _ => rfl) (by intro h; exact h.elim id fun h => absurd h.1 (by simp)) (OutL.flat rfl (by exact flatM flat_vi) (by intro h; rfl) trivial)))
end Go.Proofs.Ytiikffiembcboaa
namespace Go.Proofs.Ytiikffiembcboaa
open Go Sim
theorem WkM.nilc {Dm : Nat → Prop} {fm : List (Nat × Nat)} {M N : Mem} {i j : Nat} {rw rw' : Bool} {es : Nat} (_hj : Dm j) (h1 : M ((fm.lookup i).getD i) = some ⟨[.slice none 0 0], rw', es⟩)
  (h3 : rw = true → rw' = true) (h : WkM Dm fm M N) : WkM Dm fm M (Sim.upd N i ⟨[.slice (some ⟨j, 0, none⟩) 0 0], rw, es⟩) :=
 WkM.upd h1 (fun c x hx => by
  cases c with
  | zero => simp at hx; subst hx; exact ⟨_, rfl, .nilS _ (by simp)⟩
  | succ c => simp at hx) h3 rfl (by simp) h
theorem fe_flat (xs : List Fp) : ((xs.map fe).flatten).length = xs.length * 4 := by
 have := flat_len (L := xs.map fe) (n := 4) (fun x hx => by obtain ⟨y, _, rfl⟩ := List.mem_map.1 hx; exact fe_len y)
 rwa [List.length_map] at this
theorem fw32 {b : List Nat} (hb : bd 256 b) (hl : b.length = 32) : GC Try.prog 85 [.slice (some ⟨0, 0, none⟩) 32 0] [⟨b.map (vi .u8), false, 1⟩] [.agg ((fe (fp (num 256 b))).map (vi .u64)).toArray] [⟨b.map (vi .u8), false, 1⟩] := by
 have h := fromwideF_ctr hb (by omega)
 rwa [hl] at h
theorem ofb32 {a : List Nat} (ha : bd 256 a) (hl : a.length = 32) : GC Try.prog 75 [.slice (some ⟨0, 0, none⟩) 32 0] [⟨a.map (vi .u8), false, 1⟩] [dd (num 256 a)] [⟨a.map (vi .u8), false, 1⟩] := by
 have h := ofbN ha (by omega)
 rwa [hl] at h
set_option maxRecDepth 10000 in
theorem sampb_ctr {L : List (List Nat)} {z : Int} (hL : okL L) : GC Try.prog 25 [.slice (some ⟨0, 0, none⟩) L.length 0, .int .i64 z] [⟨(L.flatten).map (vi .u8), false, 32⟩] [.bool true] [⟨(L.flatten).map (vi .u8), false, 32⟩] := by
 refine gi Try.func25 ?_
 refine zS ?_
 refine yA ?_
 refine zN (zQ (zS ?_))
 refine yC (sspeaks_ctr) bd33 [] [] ?_
 first | refine AWo.pure ((PureOp.not rfl).mono (v' := .bool false) (congrArg Value.bool (by rfl))) rfl rfl ?_
 refine yM ?_
 refine yM ?_
 refine yP pL ?_
 refine yB (pEq (b := 0)) (fun hb0 => ?_) (fun hb0 => ?_)
 ·
  refine yP pE ?_
  refine yM ?_
  refine yK ?_
  refine yK ?_
  refine yK ?_
  refine yP pT ?_
  refine yM ?_
  refine yK ?_
  refine yK ?_
  refine yP pT ?_
  refine zN (zC (zS ?_))
  refine yC (sspeaks_ctr) bd33 [] [] ?_
  refine yA ?_
  refine zN (zE (zU ?_))
  exact rq [] [.tmp 4]
 ·
  have h0 : 0 < L.length := by have := beq_eq_false_iff_ne.1 hb0; omega
  refine yP pE ?_
  refine yM ?_
  refine yM ?_
  refine yP pL ?_
  refine yB (pGt (b := 20)) (fun hb1 => ?_) (fun hb1 => ?_)
  ·
   refine yP pE ?_
   refine yM ?_
   refine yK ?_
   refine yK ?_
   refine yP pT ?_
   refine zN (zC (zS ?_))
   refine yC (sspeaks_ctr) bd33 [] [] ?_
   refine yA ?_
   refine zN (zE (zU ?_))
   exact rq [] [.tmp 4]
  ·
   have hl20 : L.length ≤ 20 := by simp at hb1; omega
   refine yP pE ?_
   refine yM ?_
   refine yM ?_
   refine yB (PureOp.bin rfl rfl rfl) (fun hb2 => ?_) (fun hb2 => ?_)
   ·
    refine yP pE ?_
    refine zN (zC (zS ?_))
    refine yC (sspeaks_ctr) bd33 [] [] ?_
    refine yA ?_
    refine zN (zE (zU ?_))
    exact rq [] [.tmp 4]
   ·
    have hz2 : z ≤ 2000 := by simp at hb2; omega
    obtain ⟨n, hz⟩ : ∃ n, z.toNat = n := ⟨_, rfl⟩
    obtain ⟨XS, hXS⟩ : ∃ X : List Fp, X = (L.map fun b => fp (num 256 b)) := ⟨_, rfl⟩
    have hXl : XS.length = L.length := by rw [hXS, List.length_map]
    refine yP pE ?_
    refine zN (zF (zK (zT (zS ?_))))
    refine yN 6000 1 _ ?_
    refine zN (zS ?_)
    refine AWo.buildSlice tbok 31000 [] (out := []) rfl rfl (by decide) rfl rfl rfl (by decide) rfl rfl rfl rfl rfl ?_
    refine yA ?_
    refine zN (zQ (zS ?_))
    refine yM ?_
    refine yP pL ?_
    refine yM ?_
    refine zN (zB ?_)
    refine AW.ghost 77000 4 rfl ?_
    refine AW.loopw (fun mm σ => ∃ i, (i ≤ L.length) ∧ mm = L.length - i ∧ σ = ⟨(upd (upd (upd (upd (upd (upd emp 1 (.int .i64 z)) 5 (.pointer (some ⟨6000, 0, none⟩))) 6 (.slice (some ⟨77001, 0, none⟩) i 0)) 31 (.slice (some ⟨0, 0, none⟩) L.length 0)) 32 (vi .i64 L.length)) 33 (vi .i64 i)), (upd (upd (upd (upd emp 0 ⟨L.flatten.map (vi .u8), false, 32⟩) 6000 ⟨[.slice (some ⟨77000, 0, none⟩) i 0], true, 1⟩) 77000 ⟨(((XS.take i).map fe).flatten).map (vi .u64), true, 4⟩) 77001 ⟨(XS.take i).map dv, true, 1⟩)⟩) (fm := [(77001, 31000)]) ?_ ⟨0, Nat.zero_le _, rfl, rfl⟩ ?_
    ·
     refine Wk.of [0, 6000, 77000, 77001] ?_ ?_ ?_ (by decide) rfl
     ·
      refine WkE.upd rfl (by exact VR.flat _ rfl) ?_
      refine WkE.upd rfl (by exact VR.flat _ rfl) ?_
      refine WkE.upd rfl (.slice (0) 0 _ 0 ⟨_, rfl⟩ (by simp) (by simp)) ?_
      refine WkE.upd rfl (.slice (77001) 0 _ 0 ⟨_, rfl⟩ (by simp) (by simp)) ?_
      refine WkE.upd rfl (.ptr (6000) 0 ⟨_, rfl⟩) ?_
      refine WkE.upd rfl (by exact VR.flat _ rfl) ?_
      exact WkE.emp
     ·
      refine WkM.cloM rfl rfl (fun _ => rfl) (fun h => h) ?_
      refine WkM.flatM rfl (by rfl) (fun _ => rfl) (fun h => h) ?_
      refine WkM.nilc ⟨_, rfl⟩ rfl (fun h => h) ?_
      refine WkM.flat rfl (flatM flat_vi) (fun h => h) ?_
      exact WkM.emp
     ·
      repeat (refine dom_upd_mem (by decide) ?_)
      exact dom_emp
    ·
     rintro mm σ ⟨i, hinv, rfl, rfl⟩
     refine zS ?_
     refine yP pLt ?_
     refine zN (zQ ?_)
     refine zA (fun hb3 => ?_) (fun hb3 => ?_)
     ·
      have hi : i < L.length := by simpa using hb3
      obtain ⟨b, hbd⟩ : ∃ b, L.getD i [] = b := ⟨_, rfl⟩
      have hbm : b ∈ L := by rw [← hbd, List.getD_eq_getElem?_getD, List.getElem?_eq_getElem hi]; exact List.getElem_mem _
      have hbl := (hL b hbm).1
      have hbb := (hL b hbm).2
      have hnx : XS.take (i + 1) = XS.take i ++ [fp (num 256 b)] := by
       rw [List.take_add_one, hXS, List.getElem?_map, List.getElem?_eq_getElem hi, ← hbd, List.getD_eq_getElem?_getD, List.getElem?_eq_getElem hi]
       rfl
      refine zK (zT (zQ (zB (zS ?_))))
      refine yP (PureOp.idxN tbok (j := i) rfl rfl rfl rfl hi) ?_
      refine AWo.loadAgg tbok (vs := b.map (vi .u8)) rfl rfl rfl rfl (by rw [List.length_map, flat_len (fun x hx => (hL x hx).1)]; omega) (by rw [Nat.zero_add, flat_take_map (fun x hx => (hL x hx).1) hi, hbd]) rfl rfl ?_
      refine yN 9000 1 ((List.replicate 32 0).map (vi .u8)) ?_
      refine ySA ?_
      refine zN ?_
      refine AW.seqD mixed ?_
      refine yL1 ?_
      refine AWo.sliceA tbok (h := 32) rfl .none .none rfl rfl rfl rfl (by decide) (by decide) (.inl rfl) (by simp [hbl]) rfl rfl rfl ?_
      refine yC (fw32 hbb hbl) bd85 [(9000, 0)] [] ?_
      refine AWo.buildSlice tbok 41000 [(0, .agg ((fe (fp (num 256 b))).map (vi .u64)).toArray)] (out := [fe (fp (num 256 b))].flatten.map (vi .u64)) rfl rfl (by decide) rfl rfl rfl (by decide) rfl (fillB1 (fe_len _)) rfl rfl rfl ?_
      refine AWo.append tbok (all := (((XS.take (i + 1)).map fe).flatten).map (vi .u64)) (news := [fe (fp (num 256 b))].flatten.map (vi .u64)) 42000 rfl rfl rfl rfl (by rw [List.length_map, fe_flat, List.length_take, Nat.min_eq_left (by omega)]) (by show List.take _ (List.drop 0 _) = _; rw [List.drop_zero]; exact List.take_of_length_le (by simp)) (by (simp; done)) (by decide) rfl rfl rfl (by decide) rfl rfl rfl (by omega) (by omega) (by exact oneM (fun _ => rfl) _) (by rw [← List.map_append, ← List.flatten_append, hnx]; simp) rfl rfl ?_
      refine AWo.store1 tbok rfl rfl rfl rfl rfl Nat.zero_lt_one rfl rfl ?_
      refine zD (zR ?_)
      refine yM ?_
      refine AWo.sliceA tbok (h := 32) rfl .none .none rfl rfl rfl rfl (by decide) (by decide) (.inl rfl) (by simp [hbl]) rfl rfl rfl ?_
      refine yC (ofb32 hbb hbl) bd75 [(9000, 0)] [] ?_
      refine yC (modRd (v := num 256 b) (bytes_room hbb (by omega))) bd86 [] [] ?_
      refine AWo.buildSlice tbok 47000 [(0, dv (fp (num 256 b)))] (out := [dv (fp (num 256 b))]) rfl rfl (by decide) rfl rfl rfl (by decide) rfl rfl rfl rfl rfl ?_
      refine AWo.append tbok (all := (XS.take (i + 1)).map dv) (news := [fp (num 256 b)].map dv) 48000 rfl rfl rfl rfl (by rw [List.length_map, List.length_take, Nat.min_eq_left (by omega)]; omega) rfl (by (simp; done)) (by decide) rfl rfl rfl (by decide) rfl rfl rfl (by omega) (by omega) (by exact oneM (fun _ => rfl) _) (by rw [hnx, List.map_append]) rfl rfl ?_
      refine yA ?_
      refine zN (zL (zT (zR ?_)))
      refine yP (pAdd (b := 1)) ?_
      refine yM ?_
      refine zN (zT ?_)
      exact ⟨L.length - (i + 1), [(77000, 42000), (77001, 48000)], _, by omega, wk [0, 6000, 77000, 77001], i + 1, by omega, rfl, rfl⟩
     ·
      obtain rfl : i = XS.length := by simp at hb3; omega
      rw [List.take_length]
      refine zX (zV (zV (zH (zT (zS ?_)))))
      refine yN 10000 1 _ ?_
      refine AWo.store1 tbok rfl rfl rfl rfl rfl Nat.zero_lt_one rfl rfl ?_
      refine zN (zS ?_)
      refine yM ?_
      refine yP (PureOp.fn (.cons rfl (.cons rfl .nil))) ?_
      refine AWo.callX (sbytes_ctr (xs := XS) hz (by omega) (by omega)) bd101 [(10000, 0), (6000, 0), (77000, 0)] [52000] rfl (.cons rfl (.cons rfl .nil)) rfl (.cons rfl rfl (.cons rfl rfl .nil)) (.flat rfl (flat1 rfl) (fun h => h) (.whole rfl rfl (OkL.all rfl) (by intro h; rfl) (.flat rfl (flatM flat_vi) (by intro h; rfl) .nil))) rfl (.chg rfl rfl (flat_map_ren (flat1 rfl)) (OkL.flat (flat1 rfl)) (.keep rfl (.keep rfl (.new (flat_map_ren (flatM flat_vi)) (OkL.flat (flatM flat_vi)) .nil)))) (frC rfl frN) (by decide) (.cons rfl rfl .nil) rfl rfl rfl rfl ?_
      refine yA ?_
      refine zN (zS ?_)
      refine yM ?_
      refine yM ?_
      refine yC (rbytes16_ctr (xs := XS) hz (by omega) (by omega) (by omega)) bd103 [(77001, 0)] [56000] ?_ (hfit := (.clo rfl (cloM fun _ => rfl) (by intro h; rfl) .nil))
      refine yM ?_
      refine yP pX ?_
      refine yP pX ?_
      refine yA ?_
      refine yA ?_
      refine zN (zS ?_)
      refine yM ?_
      refine AWo.bytesStr tbok (bts XS n) rfl rfl (List.take_of_length_le (by simp)) (bts_len _ _) rfl Try.underlying5 Try.underlying9 rfl rfl ?_
      refine yM ?_
      refine AWo.bytesStr tbok (bts XS n) rfl rfl (List.take_of_length_le (by simp)) (bts_len _ _) rfl Try.underlying5 Try.underlying9 rfl rfl ?_
      refine yP (PureOp.sameStr rfl rfl) ?_
      refine yM ?_
      refine yL1 ?_
      refine yM ?_
      refine yP ((PureOp.eqN rfl rfl).mono (v' := .bool true) (by (simp; done))) ?_
      refine yP pT ?_
      refine yM ?_
      refine yM ?_
      refine yP pL ?_
      refine yM ?_
      refine yP ((PureOp.max rfl rfl).mono (v' := vi .i64 n) (congrArg (Value.int .i64) (by split <;> omega))) ?_
      refine yP ((PureOp.eqN rfl rfl).mono (v' := .bool true) (by (simp; done))) ?_
      refine yP pT ?_
      refine yA ?_
      refine zN (zE ?_)
      exact rq [] [.tmp 4]
end Go.Proofs.Ytiikffiembcboaa
namespace Go.Proofs.Ytiikffiembcboaa
open Go
namespace Head
set_option maxRecDepth 100000 in
theorem words : ∃ l, Try.prog.initOrder = String.ofList l ∧ (behindMainWord (wordsSigns l)).head? = some "cut".toList := ⟨_, rfl, by kernel_rfl⟩
theorem head_of {P : Program} (h : ∃ l, P.initOrder = String.ofList l ∧ (behindMainWord (wordsSigns l)).head? = some "cut".toList) :
    ∃ rest, behindMainWord (wordsSigns P.initOrder.toList) = "cut".toList :: rest := by
  obtain ⟨l, h, hh⟩ := h
  rw [h, String.toList_ofList]
  cases hb : behindMainWord (wordsSigns l) with
  | nil => rw [hb] at hh; cases hh
  | cons c r => rw [hb] at hh; simp only [List.head?_cons, Option.some.injEq] at hh; exact ⟨r, by rw [hh]⟩
theorem cut_words : (liftWords.all fun s => !("cut".toList == s.toList)) = true := by decide +kernel
theorem strip_cut (rest : List (List Char)) : stripLifts liftWords ("cut".toList :: rest) = ([], "cut".toList :: rest) := by
  have key : ∀ o : List String, (o.all fun s => !("cut".toList == s.toList)) = true → stripLifts o ("cut".toList :: rest) = ([], "cut".toList :: rest) := by
    intro o
    induction o with
    | nil => intro _; rfl
    | cons s o ih =>
      intro h
      simp only [List.all_cons, Bool.and_eq_true, Bool.not_eq_true'] at h
      rw [stripLifts, if_neg (by rw [h.1]; exact Bool.false_ne_true)]
      exact ih h.2
  exact key liftWords cut_words
theorem mayEnter_of {P : Program} {rest : List (List Char)} (hr : behindMainWord (wordsSigns P.initOrder.toList) = "cut".toList :: rest) (e1 : P.laysLater = false) (e2 : P.bearsReflect = false) (e3 : P.doorFits [] = true) : P.mayEnter = true := by
  unfold Program.mayEnter
  rw [hr]
  simp only [strip_cut, e1, e2, e3]
  simp
theorem headLifts_of {P : Program} {rest : List (List Char)} (hr : behindMainWord (wordsSigns P.initOrder.toList) = "cut".toList :: rest) : P.headLifts = [] := by
  unfold Program.headLifts
  rw [hr, strip_cut]
  simp
theorem cut_ne : ("cut".toList == "carried".toList) = false ∧ ("cut".toList == "gc".toList) = false ∧ ("cut".toList == "spec".toList) = false := by decide +kernel
theorem liftsFinal_of {P : Program} {rest : List (List Char)} (hr : behindMainWord (wordsSigns P.initOrder.toList) = "cut".toList :: rest) : P.liftsFinal = false := by
  unfold Program.liftsFinal
  rw [hr, headLifts_of hr]
  simp
theorem make_of {P : Program} {rest : List (List Char)} (hr : behindMainWord (wordsSigns P.initOrder.toList) = "cut".toList :: rest) : P.make = some .cut := by
  unfold Program.make
  rw [hr]
  simp only [cut_ne.2.1, cut_ne.2.2, beq_self_eq_true]
  simp
theorem laysLater : Try.prog.laysLater = false := by kernel_rfl
theorem bearsReflect : Try.prog.bearsReflect = false := by kernel_rfl
theorem doorFits : Try.prog.doorFits [] = true := by kernel_rfl
theorem mayEnter : Try.prog.mayEnter = true := let ⟨_, hr⟩ := head_of words; mayEnter_of hr laysLater bearsReflect doorFits
theorem liftsFinal : Try.prog.liftsFinal = false := let ⟨_, hr⟩ := head_of words; liftsFinal_of hr
theorem make_cut : Try.prog.make = some .cut := let ⟨_, hr⟩ := head_of words; make_of hr
theorem band {a b : Bool} (ha : a = true) (hb : b = true) : (a && b) = true := by rw [ha, hb]; rfl
end Head
end Go.Proofs.Ytiikffiembcboaa
