/- What the proof stands on, part 4: the walk of each function, and plain laws of numbers. -/
import Derived.Test.YteeifahhejangaaGreatDoorK3
import Derived.KernelRfl
namespace Go.Proofs.YteeifahhejangaaGreatDoor
open Go Sim
theorem addD_ctr {x y : Nat} (hlx : (D 4294967296 x).length < 100000000) (hly : (D 4294967296 y).length < 100000000) : GC Tryz.prog 45 [.slice (some ⟨0, 0, none⟩) (D 4294967296 x).length 0, .slice (some ⟨1, 0, none⟩) (D 4294967296 y).length 0] [⟨(D 4294967296 x).map (vi .u64), false, 1⟩, ⟨(D 4294967296 y).map (vi .u64), false, 1⟩] [.slice (some ⟨2, 0, none⟩) (D 4294967296 (x + y)).length 0] [⟨(D 4294967296 x).map (vi .u64), false, 1⟩, ⟨(D 4294967296 y).map (vi .u64), false, 1⟩, ⟨(D 4294967296 (x + y)).map (vi .u64), true, 1⟩] := by
 have h := radd_ctr (a := D 4294967296 x) (b := D 4294967296 y) (bd_D (by decide) _) (bd_D (by decide) _) hlx hly
 simp only [num_D (show 2 ≤ 4294967296 by decide)] at h
 exact h
theorem subD_ctr {x y : Nat} (hlx : (D 4294967296 x).length < 100000000) (hly : (D 4294967296 y).length < 100000000) (h : y ≤ x) : GC Tryz.prog 47 [.slice (some ⟨0, 0, none⟩) (D 4294967296 x).length 0, .slice (some ⟨1, 0, none⟩) (D 4294967296 y).length 0] [⟨(D 4294967296 x).map (vi .u64), false, 1⟩, ⟨(D 4294967296 y).map (vi .u64), false, 1⟩] [.slice (some ⟨2, 0, none⟩) (D 4294967296 (x - y)).length 0] [⟨(D 4294967296 x).map (vi .u64), false, 1⟩, ⟨(D 4294967296 y).map (vi .u64), false, 1⟩, ⟨(D 4294967296 (x - y)).map (vi .u64), true, 1⟩] := by
 have h := rsub_ctr (a := D 4294967296 x) (b := D 4294967296 y) (bd_D (by decide) _) (bd_D (by decide) _) hlx hly (by rw [num_D (by decide), num_D (by decide)]; exact h)
 simp only [num_D (show 2 ≤ 4294967296 by decide)] at h
 exact h
theorem cmpD_ctr {x y : Nat} (hlx : (D 4294967296 x).length < 100000000) (hly : (D 4294967296 y).length < 100000000) : GC Tryz.prog 46 [.slice (some ⟨0, 0, none⟩) (D 4294967296 x).length 0, .slice (some ⟨1, 0, none⟩) (D 4294967296 y).length 0] [⟨(D 4294967296 x).map (vi .u64), false, 1⟩, ⟨(D 4294967296 y).map (vi .u64), false, 1⟩] [.int .i64 (cmpI x y)] [⟨(D 4294967296 x).map (vi .u64), false, 1⟩, ⟨(D 4294967296 y).map (vi .u64), false, 1⟩] := by
 have h := rcmp_ctr (a := D 4294967296 x) (b := D 4294967296 y) (bd_D (by decide) _) (bd_D (by decide) _) (Nat.lt_trans hlx (by decide)) (Nat.lt_trans hly (by decide))
 simp only [num_D (show 2 ≤ 4294967296 by decide)] at h
 exact h
theorem shiftD_ctr {x k : Nat} (hlx : (D 4294967296 x).length < 100000000) (hk : k < 32) : GC Tryz.prog 92 [.slice (some ⟨0, 0, none⟩) (D 4294967296 x).length 0, vi .i64 (k)] [⟨(D 4294967296 x).map (vi .u64), false, 1⟩] [.slice (some ⟨1, 0, none⟩) (D 4294967296 (x * 2 ^ k)).length 0] [⟨(D 4294967296 x).map (vi .u64), false, 1⟩, ⟨(D 4294967296 (x * 2 ^ k)).map (vi .u64), true, 1⟩] := by
 have h := shift_ctr (a := D 4294967296 x) (k := k) (bd_D (by decide) _) hlx hk
 simp only [num_D (show 2 ≤ 4294967296 by decide)] at h
 exact h
theorem mul256_ctr {x : Nat} (hlx : (D 4294967296 x).length < 100000000) : GC Tryz.prog 93 [.slice (some ⟨0, 0, none⟩) (D 4294967296 x).length 0, .slice (some ⟨1, 0, none⟩) ([256]).length 0] [⟨(D 4294967296 x).map (vi .u64), false, 1⟩, ⟨([256]).map (vi .u64), false, 1⟩] [.slice (some ⟨2, 0, none⟩) (D 4294967296 (x * 256)).length 0] [⟨(D 4294967296 x).map (vi .u64), false, 1⟩, ⟨([256]).map (vi .u64), false, 1⟩, ⟨(D 4294967296 (x * 256)).map (vi .u64), true, 1⟩] := by
 have h := rmul_ctr (a := D 4294967296 x) (b := [256]) (bd_D (by decide) _) (fun y hy => by simp at hy; rw [hy]; decide) hlx (by decide)
 rw [num_D (by decide), show num 4294967296 [256] = 256 from rfl] at h
 exact h
theorem num_one {B : Nat} (x : Nat) : num B [x] = x := by simp [num]
theorem bd_byte (v : Nat) : bd 4294967296 [v % 256] := fun y hy => by simp at hy; rw [hy]; exact Nat.lt_trans (Nat.mod_lt _ (by decide)) (by decide)
theorem num_byte (v : Nat) : num 4294967296 [v % 256] = v % 256 := @num_one 4294967296 (v % 256)
theorem byteD (x r : Nat) : (D 4294967296 x).getD (r / 4) 0 / 256 ^ (r % 4) % 256 = x / 256 ^ r % 256 := by
 rw [D_getD (by decide)]
 have hd : x / 256 ^ r = x / 4294967296 ^ (r / 4) / 256 ^ (r % 4) := by
  rw [Nat.div_div_eq_div_mul, show (4294967296 : Nat) = 256 ^ 4 from by decide, ← Nat.pow_mul, ← Nat.pow_add, Nat.div_add_mod]
 rw [hd]
 generalize x / 4294967296 ^ (r / 4) = z
 have hj : r % 4 < 4 := Nat.mod_lt _ (by decide)
 generalize r % 4 = j at hj
 have e : 4294967296 = 256 ^ j * (256 * 256 ^ (3 - j)) := by
  rw [← Nat.mul_assoc, Nat.mul_right_comm, ← Nat.pow_add, show j + (3 - j) = 3 by omega]
 rw [e, Nat.mod_mul_right_div_self, Nat.mod_mul_right_mod]
theorem mod_room {N : Nat} (h : (D 4294967296 N).length < 1000000) : ∀ z, z < N * 512 → (D 4294967296 z).length < 100000000 := fun z hz => by
 have h1 : N < 4294967296 ^ (D 4294967296 N).length := (D_len_le (B := 4294967296) (by decide) N _).1 (Nat.le_refl _)
 have h2 : z < 4294967296 ^ ((D 4294967296 N).length + 1) := Nat.lt_of_lt_of_le hz (by rw [Nat.pow_succ]; exact Nat.mul_le_mul (Nat.le_of_lt h1) (by decide))
 have := (D_len_le (B := 4294967296) (by decide) z _).2 h2
 omega
theorem mod_top {N : Nat} (x : Nat) : x / 256 ^ (4 * (D 4294967296 x).length) % N = 0 := by
 have h1 : x < 4294967296 ^ (D 4294967296 x).length := (D_len_le (B := 4294967296) (by decide) x _).1 (Nat.le_refl _)
 rw [Nat.pow_mul, show (256 : Nat) ^ 4 = 4294967296 from by decide, Nat.div_eq_of_lt h1, Nat.zero_mod]
theorem mod_small {x y r N : Nat} (h : y < N) : y * 256 + x / 256 ^ r % 256 < N * 2 ^ 9 := by
 have h2 := Nat.mod_lt (x / 256 ^ r) (show 0 < 256 by decide)
 omega
theorem mod_two (v M : Nat) : v % (M * 2) = v % M + M * (v / M % 2) := Nat.mod_mul
theorem mod_lo {v N k z : Nat} (hz : z = v % (N * 2 ^ (k + 1))) (h : z < N * 2 ^ k) : z = v % (N * 2 ^ k) := by
 have h1 := mod_two v (N * 2 ^ k)
 rw [Nat.mul_assoc, ← Nat.pow_succ] at h1
 rw [h1] at hz
 rcases Nat.mod_two_eq_zero_or_one (v / (N * 2 ^ k)) with h2 | h2
 · rw [hz, h2]; rfl
 · rw [h2] at hz; omega
theorem mod_hi {v N k z : Nat} (hz : z = v % (N * 2 ^ (k + 1))) (h : N * 2 ^ k ≤ z) : z - N * 2 ^ k = v % (N * 2 ^ k) := by
  have h1 := mod_two v (N * 2 ^ k)
  rw [Nat.mul_assoc, ← Nat.pow_succ] at h1
  rw [h1] at hz
  rcases Nat.mod_two_eq_zero_or_one (v / (N * 2 ^ k)) with h2 | h2
  · rcases Nat.eq_zero_or_pos (N * 2 ^ k) with h3 | h3
    · rw [h3] at hz ⊢; rw [hz]; simp
    · have := Nat.mod_lt v h3
      rw [h2] at hz; omega
  · rw [h2] at hz; omega
theorem mod_byte {x r N : Nat} : (x / 256 ^ (r + 1) % N * 256 + x / 256 ^ r % 256) % N = x / 256 ^ r % N := by
 have e : x / 256 ^ r = x / 256 ^ (r + 1) * 256 + x / 256 ^ r % 256 := by
  rw [Nat.pow_succ, ← Nat.div_div_eq_div_mul]
  omega
 generalize x / 256 ^ r % 256 = b at *
 generalize x / 256 ^ (r + 1) = y at *
 rw [e, Nat.add_mod, Nat.mod_mul_mod, ← Nat.add_mod]
set_option maxRecDepth 10000 in
theorem modD_ctr {x N : Nat} (hN : 0 < N) (hlx : (D 4294967296 x).length < 1000000) (hlN : (D 4294967296 N).length < 1000000) : GC Tryz.prog 84 [.slice (some ⟨0, 0, none⟩) (D 4294967296 x).length 0, .slice (some ⟨1, 0, none⟩) (D 4294967296 N).length 0] [⟨(D 4294967296 x).map (vi .u64), false, 1⟩, ⟨(D 4294967296 N).map (vi .u64), false, 1⟩] [.slice (some ⟨2, 0, none⟩) (D 4294967296 (x % N)).length 0] [⟨(D 4294967296 x).map (vi .u64), false, 1⟩, ⟨(D 4294967296 N).map (vi .u64), false, 1⟩, ⟨(D 4294967296 (x % N)).map (vi .u64), true, 1⟩] := by
 refine gi Tryz.func84 ?_
 have hL := mod_room hlN
 refine zS ?_
 refine yA ?_
 refine zN (zS ?_)
 refine yP (PureOp.buildArr tbok [] rfl rfl rfl (by decide) rfl rfl) ?_
 refine yN 6000 1 _ ?_
 refine ySA ?_
 refine zN (zQ (zS ?_))
 refine yA ?_
 refine zN (zB ?_)
 refine AW.rounds 10 ?_
 refine roundsA_succ ?_
 refine zQ (zS ?_)
 refine yM ?_
 refine yP (pLt (b := 9)) ?_
 refine zN (zC (zK (zT (zQ (zB (zR ?_))))))
 refine yM ?_
 refine yM ?_
 refine yM ?_
 refine yC (shiftD_ctr (x := N) (k := 0) (Nat.lt_trans hlN (by decide)) (by decide)) bd92 [(1, 0)] [21000] ?_
 refine yP pA ?_
 refine AWo.store1 tbok rfl rfl rfl rfl rfl (by simp [Value.cells]) rfl rfl ?_
 refine zN (zL (zT (zR ?_)))
 refine yM ?_
 refine yP (pAdd (b := 1)) ?_
 refine yA ?_
 refine zN (zT ?_)
 refine roundsA_succ ?_
 refine zQ (zS ?_)
 refine yM ?_
 refine yP (pLt (b := 9)) ?_
 refine zN (zC (zK (zT (zQ (zB (zR ?_))))))
 refine yM ?_
 refine yM ?_
 refine yM ?_
 refine yC (shiftD_ctr (x := N) (k := 1) (Nat.lt_trans hlN (by decide)) (by decide)) bd92 [(1, 0)] [21001] ?_
 refine yP pA ?_
 refine AWo.store1 tbok rfl rfl rfl rfl rfl (by simp [Value.cells]) rfl rfl ?_
 refine zN (zL (zT (zR ?_)))
 refine yM ?_
 refine yP (pAdd (b := 1)) ?_
 refine yA ?_
 refine zN (zT ?_)
 refine roundsA_succ ?_
 refine zQ (zS ?_)
 refine yM ?_
 refine yP (pLt (b := 9)) ?_
 refine zN (zC (zK (zT (zQ (zB (zR ?_))))))
 refine yM ?_
 refine yM ?_
 refine yM ?_
 refine yC (shiftD_ctr (x := N) (k := 2) (Nat.lt_trans hlN (by decide)) (by decide)) bd92 [(1, 0)] [21002] ?_
 refine yP pA ?_
 refine AWo.store1 tbok rfl rfl rfl rfl rfl (by simp [Value.cells]) rfl rfl ?_
 refine zN (zL (zT (zR ?_)))
 refine yM ?_
 refine yP (pAdd (b := 1)) ?_
 refine yA ?_
 refine zN (zT ?_)
 refine roundsA_succ ?_
 refine zQ (zS ?_)
 refine yM ?_
 refine yP (pLt (b := 9)) ?_
 refine zN (zC (zK (zT (zQ (zB (zR ?_))))))
 refine yM ?_
 refine yM ?_
 refine yM ?_
 refine yC (shiftD_ctr (x := N) (k := 3) (Nat.lt_trans hlN (by decide)) (by decide)) bd92 [(1, 0)] [21003] ?_
 refine yP pA ?_
 refine AWo.store1 tbok rfl rfl rfl rfl rfl (by simp [Value.cells]) rfl rfl ?_
 refine zN (zL (zT (zR ?_)))
 refine yM ?_
 refine yP (pAdd (b := 1)) ?_
 refine yA ?_
 refine zN (zT ?_)
 refine roundsA_succ ?_
 refine zQ (zS ?_)
 refine yM ?_
 refine yP (pLt (b := 9)) ?_
 refine zN (zC (zK (zT (zQ (zB (zR ?_))))))
 refine yM ?_
 refine yM ?_
 refine yM ?_
 refine yC (shiftD_ctr (x := N) (k := 4) (Nat.lt_trans hlN (by decide)) (by decide)) bd92 [(1, 0)] [21004] ?_
 refine yP pA ?_
 refine AWo.store1 tbok rfl rfl rfl rfl rfl (by simp [Value.cells]) rfl rfl ?_
 refine zN (zL (zT (zR ?_)))
 refine yM ?_
 refine yP (pAdd (b := 1)) ?_
 refine yA ?_
 refine zN (zT ?_)
 refine roundsA_succ ?_
 refine zQ (zS ?_)
 refine yM ?_
 refine yP (pLt (b := 9)) ?_
 refine zN (zC (zK (zT (zQ (zB (zR ?_))))))
 refine yM ?_
 refine yM ?_
 refine yM ?_
 refine yC (shiftD_ctr (x := N) (k := 5) (Nat.lt_trans hlN (by decide)) (by decide)) bd92 [(1, 0)] [21005] ?_
 refine yP pA ?_
 refine AWo.store1 tbok rfl rfl rfl rfl rfl (by simp [Value.cells]) rfl rfl ?_
 refine zN (zL (zT (zR ?_)))
 refine yM ?_
 refine yP (pAdd (b := 1)) ?_
 refine yA ?_
 refine zN (zT ?_)
 refine roundsA_succ ?_
 refine zQ (zS ?_)
 refine yM ?_
 refine yP (pLt (b := 9)) ?_
 refine zN (zC (zK (zT (zQ (zB (zR ?_))))))
 refine yM ?_
 refine yM ?_
 refine yM ?_
 refine yC (shiftD_ctr (x := N) (k := 6) (Nat.lt_trans hlN (by decide)) (by decide)) bd92 [(1, 0)] [21006] ?_
 refine yP pA ?_
 refine AWo.store1 tbok rfl rfl rfl rfl rfl (by simp [Value.cells]) rfl rfl ?_
 refine zN (zL (zT (zR ?_)))
 refine yM ?_
 refine yP (pAdd (b := 1)) ?_
 refine yA ?_
 refine zN (zT ?_)
 refine roundsA_succ ?_
 refine zQ (zS ?_)
 refine yM ?_
 refine yP (pLt (b := 9)) ?_
 refine zN (zC (zK (zT (zQ (zB (zR ?_))))))
 refine yM ?_
 refine yM ?_
 refine yM ?_
 refine yC (shiftD_ctr (x := N) (k := 7) (Nat.lt_trans hlN (by decide)) (by decide)) bd92 [(1, 0)] [21007] ?_
 refine yP pA ?_
 refine AWo.store1 tbok rfl rfl rfl rfl rfl (by simp [Value.cells]) rfl rfl ?_
 refine zN (zL (zT (zR ?_)))
 refine yM ?_
 refine yP (pAdd (b := 1)) ?_
 refine yA ?_
 refine zN (zT ?_)
 refine roundsA_succ ?_
 refine zQ (zS ?_)
 refine yM ?_
 refine yP (pLt (b := 9)) ?_
 refine zN (zC (zK (zT (zQ (zB (zR ?_))))))
 refine yM ?_
 refine yM ?_
 refine yM ?_
 refine yC (shiftD_ctr (x := N) (k := 8) (Nat.lt_trans hlN (by decide)) (by decide)) bd92 [(1, 0)] [21008] ?_
 refine yP pA ?_
 refine AWo.store1 tbok rfl rfl rfl rfl rfl (by simp [Value.cells]) rfl rfl ?_
 refine zN (zL (zT (zR ?_)))
 refine yM ?_
 refine yP (pAdd (b := 1)) ?_
 refine yA ?_
 refine zN (zT ?_)
 refine roundsA_succ ?_
 refine zQ (zS ?_)
 refine yM ?_
 refine yP (pLt (b := 9)) ?_
 refine zN (zF (zX (zV (zV (zH (zT (zS ?_)))))))
 refine AWo.buildSlice tbok 23000 [] (out := []) rfl rfl (by decide) rfl rfl rfl (by decide) rfl rfl rfl rfl rfl ?_
 refine yA ?_
 refine zN (zQ (zS ?_))
 refine yM ?_
 refine yP pL ?_
 refine yP (PureOp.mulI (b := 4) rfl rfl (by omega)) ?_
 refine yP ((PureOp.subP rfl rfl (by omega)).mono (v' := vp (4 * (D 4294967296 x).length)) (by (simp only [vp]; congr 1; omega))) ?_
 refine yA ?_
 refine zN (zB ?_)
 refine AW.loopw (fun mm σ => ∃ y, ∃ r, (r ≤ 4 * (D 4294967296 x).length ∧ y = x / 256 ^ r % N) ∧ mm = 1 * r ∧ σ = ⟨(upd (upd (upd (upd emp 0 (.slice (some ⟨0, 0, none⟩) (D 4294967296 x).length 0)) 5 (.pointer (some ⟨6000, 0, none⟩))) 7 (.slice (some ⟨77000, 0, none⟩) (D 4294967296 (y)).length 0)) 8 (vp r)), (upd (upd (upd (upd (upd (upd (upd (upd (upd (upd (upd (upd (upd emp 0 ⟨(D 4294967296 x).map (vi .u64), false, 1⟩) 1 ⟨(D 4294967296 N).map (vi .u64), false, 1⟩) 6000 ⟨[.slice (some ⟨21000, 0, none⟩) (D 4294967296 (N * 2 ^ 0)).length 0, .slice (some ⟨21001, 0, none⟩) (D 4294967296 (N * 2 ^ 1)).length 0, .slice (some ⟨21002, 0, none⟩) (D 4294967296 (N * 2 ^ 2)).length 0, .slice (some ⟨21003, 0, none⟩) (D 4294967296 (N * 2 ^ 3)).length 0, .slice (some ⟨21004, 0, none⟩) (D 4294967296 (N * 2 ^ 4)).length 0, .slice (some ⟨21005, 0, none⟩) (D 4294967296 (N * 2 ^ 5)).length 0, .slice (some ⟨21006, 0, none⟩) (D 4294967296 (N * 2 ^ 6)).length 0, .slice (some ⟨21007, 0, none⟩) (D 4294967296 (N * 2 ^ 7)).length 0, .slice (some ⟨21008, 0, none⟩) (D 4294967296 (N * 2 ^ 8)).length 0], true, 1⟩) 21000 ⟨(D 4294967296 (N * 2 ^ 0)).map (vi .u64), true, 1⟩) 21001 ⟨(D 4294967296 (N * 2 ^ 1)).map (vi .u64), true, 1⟩) 21002 ⟨(D 4294967296 (N * 2 ^ 2)).map (vi .u64), true, 1⟩) 21003 ⟨(D 4294967296 (N * 2 ^ 3)).map (vi .u64), true, 1⟩) 21004 ⟨(D 4294967296 (N * 2 ^ 4)).map (vi .u64), true, 1⟩) 21005 ⟨(D 4294967296 (N * 2 ^ 5)).map (vi .u64), true, 1⟩) 21006 ⟨(D 4294967296 (N * 2 ^ 6)).map (vi .u64), true, 1⟩) 21007 ⟨(D 4294967296 (N * 2 ^ 7)).map (vi .u64), true, 1⟩) 21008 ⟨(D 4294967296 (N * 2 ^ 8)).map (vi .u64), true, 1⟩) 77000 ⟨(D 4294967296 (y)).map (vi .u64), true, 1⟩)⟩) (fm := [(77000, 23000)]) (wk [0, 1, 6000, 21000, 21001, 21002, 21003, 21004, 21005, 21006, 21007, 21008, 77000]) ⟨0, 4 * (D 4294967296 x).length, ⟨Nat.le_refl _, (mod_top x).symm⟩, rfl, rfl⟩ ?_
 rintro mm σ ⟨y, r, ⟨hr0, hy⟩, rfl, rfl⟩
 refine zQ (zS ?_)
 refine yM ?_
 refine yP (PureOp.geP rfl rfl) ?_
 refine zN ?_
 refine zA (fun hb0 => ?_) (fun hb0 => ?_)
 ·
  have hp0 : 0 < r := by simpa using hb0
  obtain ⟨r, rfl⟩ : ∃ q, r = q + 1 := ⟨r - 1, by omega⟩
  rw [vp_succ]
  have hr4 : r / 4 < (D 4294967296 x).length := by omega
  have hx := bd_getD (bd_D (B := 4294967296) (by decide) x) (by decide) (r / 4)
  have hyN : y < N := by rw [hy]; exact Nat.mod_lt _ hN
  have hv := mod_small (x := x) (r := r) hyN
  refine zK (zT (zQ (zB (zS ?_))))
  refine yM ?_
  refine yM ?_
  refine yP (PureOp.quoN (b := 4) 9223372036854775808 rfl rfl (by decide) (by decide) (by decide) (by omega)) ?_
  refine yP (PureOp.idxN tbok (j := r / 4) rfl rfl rfl rfl hr4) ?_
  refine yL 0 ?_
  refine yA ?_
  refine zN (zQ (zS ?_))
  refine yA ?_
  refine zN (zB ?_)
  refine AW.loopw (fun mm σ => ∃ j, (j ≤ r % 4) ∧ mm = r % 4 - j ∧ σ = ⟨(upd (upd (upd (upd (upd (upd emp 0 (.slice (some ⟨0, 0, none⟩) (D 4294967296 x).length 0)) 5 (.pointer (some ⟨6000, 0, none⟩))) 7 (.slice (some ⟨77000, 0, none⟩) (D 4294967296 (y)).length 0)) 8 (vi .i64 r)) 9 (vi .u64 ((D 4294967296 x).getD (r / 4) 0 / 256 ^ j))) 10 (vi .i64 j)), (upd (upd (upd (upd (upd (upd (upd (upd (upd (upd (upd (upd (upd emp 0 ⟨(D 4294967296 x).map (vi .u64), false, 1⟩) 1 ⟨(D 4294967296 N).map (vi .u64), false, 1⟩) 6000 ⟨[.slice (some ⟨21000, 0, none⟩) (D 4294967296 (N * 2 ^ 0)).length 0, .slice (some ⟨21001, 0, none⟩) (D 4294967296 (N * 2 ^ 1)).length 0, .slice (some ⟨21002, 0, none⟩) (D 4294967296 (N * 2 ^ 2)).length 0, .slice (some ⟨21003, 0, none⟩) (D 4294967296 (N * 2 ^ 3)).length 0, .slice (some ⟨21004, 0, none⟩) (D 4294967296 (N * 2 ^ 4)).length 0, .slice (some ⟨21005, 0, none⟩) (D 4294967296 (N * 2 ^ 5)).length 0, .slice (some ⟨21006, 0, none⟩) (D 4294967296 (N * 2 ^ 6)).length 0, .slice (some ⟨21007, 0, none⟩) (D 4294967296 (N * 2 ^ 7)).length 0, .slice (some ⟨21008, 0, none⟩) (D 4294967296 (N * 2 ^ 8)).length 0], true, 1⟩) 21000 ⟨(D 4294967296 (N * 2 ^ 0)).map (vi .u64), true, 1⟩) 21001 ⟨(D 4294967296 (N * 2 ^ 1)).map (vi .u64), true, 1⟩) 21002 ⟨(D 4294967296 (N * 2 ^ 2)).map (vi .u64), true, 1⟩) 21003 ⟨(D 4294967296 (N * 2 ^ 3)).map (vi .u64), true, 1⟩) 21004 ⟨(D 4294967296 (N * 2 ^ 4)).map (vi .u64), true, 1⟩) 21005 ⟨(D 4294967296 (N * 2 ^ 5)).map (vi .u64), true, 1⟩) 21006 ⟨(D 4294967296 (N * 2 ^ 6)).map (vi .u64), true, 1⟩) 21007 ⟨(D 4294967296 (N * 2 ^ 7)).map (vi .u64), true, 1⟩) 21008 ⟨(D 4294967296 (N * 2 ^ 8)).map (vi .u64), true, 1⟩) 77000 ⟨(D 4294967296 (y)).map (vi .u64), true, 1⟩)⟩) (fm := []) (wk [0, 1, 6000, 21000, 21001, 21002, 21003, 21004, 21005, 21006, 21007, 21008, 77000]) ⟨0, Nat.zero_le _, rfl, rfl⟩ ?_
  rintro mm σ ⟨j, hinv, rfl, rfl⟩
  refine zQ (zS ?_)
  refine yM ?_
  refine yM ?_
  refine yP ((PureOp.remN (b := 4) rfl rfl (by decide)).mono (v' := vi .i64 (r % 4)) rfl) ?_
  refine yP pLt ?_
  refine zN ?_
  refine zA (fun hb1 => ?_) (fun hb1 => ?_)
  ·
   have hj : j < r % 4 := by simpa using hb1
   refine zK (zT (zQ (zB (zR ?_))))
   refine yM ?_
   refine yP ((PureOp.quoN (b := 256) 18446744073709551616 rfl rfl (by decide) (by decide) (by decide) (Nat.lt_of_le_of_lt (Nat.div_le_self _ _) (Nat.lt_trans hx (by decide)))).mono (v' := vi .u64 ((D 4294967296 x).getD (r / 4) 0 / 256 ^ (j + 1))) (congrArg (vi .u64) (by rw [Nat.div_div_eq_div_mul, ← Nat.pow_succ]))) ?_
   refine yA ?_
   refine zN (zL (zT (zR ?_)))
   refine yM ?_
   refine yP (pAdd (b := 1)) ?_
   refine yA ?_
   refine zN (zT ?_)
   exact ⟨r % 4 - (j + 1), [], _, by omega, wk [0, 1, 6000, 21000, 21001, 21002, 21003, 21004, 21005, 21006, 21007, 21008, 77000], j + 1, by omega, rfl, rfl⟩
  ·
   obtain rfl : j = r % 4 := by simp at hb1; omega
   refine zX (zV (zV (zH (zT (zS ?_)))))
   refine yM ?_
   refine AWo.buildSlice tbok 46000 [(0, vi .u64 256)] (out := [vi .u64 256]) rfl rfl (by decide) rfl rfl rfl (by decide) rfl rfl rfl rfl rfl ?_
   refine yC (mul256_ctr (x := y) (hL _ (by omega))) bd93 [(77000, 0), (46000, 0)] [47000] ?_
   refine yM ?_
   refine yP ((PureOp.remN (b := 256) rfl rfl (by decide)).mono (v' := vi .u64 (x / 256 ^ r % 256)) (congrArg (vi .u64) (byteD x r))) ?_
   refine AWo.buildSlice tbok 50000 [(0, vi .u64 (x / 256 ^ r % 256))] (out := [vi .u64 (x / 256 ^ r % 256)]) rfl rfl (by decide) rfl rfl rfl (by decide) rfl rfl rfl rfl rfl ?_
   refine yC (trim_ctr (a := [x / 256 ^ r % 256]) (v := x / 256 ^ r % 256) (n := 1) (bd_byte _) (num_byte _) rfl (by simp)) bd44 [(50000, 0)] [] ?_
   refine yC (addD_ctr (x := y * 256) (y := x / 256 ^ r % 256) (hL _ (by omega)) (hL _ (by have := Nat.mod_lt (x / 256 ^ r) (show 0 < 256 by decide); omega))) bd45 [(47000, 0), (50000, 0)] [52000] ?_ (hfit := (.flat rfl (by exact flatM flat_vi) (by intro h; rfl) (.part rfl (dpart (by decide) (bd_byte _) (num_byte _)) (flatM flat_vi) (by rw [Nat.zero_add]; exact dpart_len (by decide) (bd_byte (x / 256 ^ r)) (num_byte _)) .nil)))
   refine yA ?_
   refine zN (zS ?_)
   refine yA ?_
   refine zN (zB ?_)
   refine AW.loopw (fun mm σ => ∃ z, ∃ k, (k ≤ 9 ∧ z = (y * 256 + x / 256 ^ r % 256) % (N * 2 ^ k)) ∧ mm = 1 * k ∧ σ = ⟨(upd (upd (upd (upd (upd emp 0 (.slice (some ⟨0, 0, none⟩) (D 4294967296 x).length 0)) 5 (.pointer (some ⟨6000, 0, none⟩))) 7 (.slice (some ⟨77000, 0, none⟩) (D 4294967296 (z)).length 0)) 8 (vi .i64 r)) 11 (vp k)), (upd (upd (upd (upd (upd (upd (upd (upd (upd (upd (upd (upd (upd emp 0 ⟨(D 4294967296 x).map (vi .u64), false, 1⟩) 1 ⟨(D 4294967296 N).map (vi .u64), false, 1⟩) 6000 ⟨[.slice (some ⟨21000, 0, none⟩) (D 4294967296 (N * 2 ^ 0)).length 0, .slice (some ⟨21001, 0, none⟩) (D 4294967296 (N * 2 ^ 1)).length 0, .slice (some ⟨21002, 0, none⟩) (D 4294967296 (N * 2 ^ 2)).length 0, .slice (some ⟨21003, 0, none⟩) (D 4294967296 (N * 2 ^ 3)).length 0, .slice (some ⟨21004, 0, none⟩) (D 4294967296 (N * 2 ^ 4)).length 0, .slice (some ⟨21005, 0, none⟩) (D 4294967296 (N * 2 ^ 5)).length 0, .slice (some ⟨21006, 0, none⟩) (D 4294967296 (N * 2 ^ 6)).length 0, .slice (some ⟨21007, 0, none⟩) (D 4294967296 (N * 2 ^ 7)).length 0, .slice (some ⟨21008, 0, none⟩) (D 4294967296 (N * 2 ^ 8)).length 0], true, 1⟩) 21000 ⟨(D 4294967296 (N * 2 ^ 0)).map (vi .u64), true, 1⟩) 21001 ⟨(D 4294967296 (N * 2 ^ 1)).map (vi .u64), true, 1⟩) 21002 ⟨(D 4294967296 (N * 2 ^ 2)).map (vi .u64), true, 1⟩) 21003 ⟨(D 4294967296 (N * 2 ^ 3)).map (vi .u64), true, 1⟩) 21004 ⟨(D 4294967296 (N * 2 ^ 4)).map (vi .u64), true, 1⟩) 21005 ⟨(D 4294967296 (N * 2 ^ 5)).map (vi .u64), true, 1⟩) 21006 ⟨(D 4294967296 (N * 2 ^ 6)).map (vi .u64), true, 1⟩) 21007 ⟨(D 4294967296 (N * 2 ^ 7)).map (vi .u64), true, 1⟩) 21008 ⟨(D 4294967296 (N * 2 ^ 8)).map (vi .u64), true, 1⟩) 77000 ⟨(D 4294967296 (z)).map (vi .u64), true, 1⟩)⟩) (fm := [(77000, 52000)]) (wk [0, 1, 6000, 21000, 21001, 21002, 21003, 21004, 21005, 21006, 21007, 21008, 77000]) ⟨y * 256 + x / 256 ^ r % 256, 9, ⟨by decide, (Nat.mod_eq_of_lt hv).symm⟩, rfl, rfl⟩ ?_
   rintro mm σ ⟨z, k, ⟨hk9, hz⟩, rfl, rfl⟩
   refine zQ (zS ?_)
   refine yM ?_
   refine yP (PureOp.geP rfl rfl) ?_
   refine zN ?_
   refine zA (fun hb2 => ?_) (fun hb2 => ?_)
   ·
    have hp0 : 0 < k := by simpa using hb2
    have hkc : k = 1 ∨ k = 2 ∨ k = 3 ∨ k = 4 ∨ k = 5 ∨ k = 6 ∨ k = 7 ∨ k = 8 ∨ k = 9 := by omega
    rcases hkc with rfl | rfl | rfl | rfl | rfl | rfl | rfl | rfl | rfl
    ·
     rw [show vp 1 = vi .i64 0 from rfl]
     have hzl : z < N * 2 ^ 1 := by rw [hz]; exact Nat.mod_lt _ (Nat.mul_pos hN (by decide))
     refine zK (zT (zQ (zB (zS ?_))))
     refine yM ?_
     refine yM ?_
     refine yP pA ?_
     refine yL1 ?_
     refine yC (cmpD_ctr (x := z) (y := N * 2 ^ 0) (hL _ (by omega)) (hL _ (by omega))) bd46 [(77000, 0), (21000, 0)] [] ?_
     refine yP (PureOp.bin rfl rfl rfl) ?_
     refine zN ?_
     refine zA (fun hb3 => ?_) (fun hb3 => ?_)
     ·
      have hge : N * 2 ^ 0 ≤ z := ge_of_cmp (by simpa using hb3)
      refine zR ?_
      refine yM ?_
      refine yM ?_
      refine yP pA ?_
      refine yL1 ?_
      refine yC (subD_ctr (x := z) (y := N * 2 ^ 0) (hL _ (by omega)) (hL _ (by omega)) hge) bd47 [(77000, 0), (21000, 0)] [67000] ?_
      refine yA ?_
      refine zN (zL (zT (zR ?_)))
      refine yM ?_
      refine yP (PureOp.subP rfl rfl (by decide)) ?_
      refine yA ?_
      refine zN (zT ?_)
      exact ⟨1 * 0, [(77000, 67000)], _, by omega, wk [0, 1, 6000, 21000, 21001, 21002, 21003, 21004, 21005, 21006, 21007, 21008, 77000], z - N * 2 ^ 0, 0, ⟨by decide, mod_hi hz hge⟩, rfl, rfl⟩
     ·
      have hlt : z < N * 2 ^ 0 := lt_of_cmp (by simpa using hb3)
      refine zK (zL (zT (zR ?_)))
      refine yM ?_
      refine yP (PureOp.subP rfl rfl (by decide)) ?_
      refine yA ?_
      refine zN (zT ?_)
      exact ⟨1 * 0, [(77000, 77000)], _, by omega, wk [0, 1, 6000, 21000, 21001, 21002, 21003, 21004, 21005, 21006, 21007, 21008, 77000], z, 0, ⟨by decide, mod_lo hz hlt⟩, rfl, rfl⟩
    ·
     rw [show vp 2 = vi .i64 1 from rfl]
     have hzl : z < N * 2 ^ 2 := by rw [hz]; exact Nat.mod_lt _ (Nat.mul_pos hN (by decide))
     refine zK (zT (zQ (zB (zS ?_))))
     refine yM ?_
     refine yM ?_
     refine yP pA ?_
     refine yL1 ?_
     refine yC (cmpD_ctr (x := z) (y := N * 2 ^ 1) (hL _ (by omega)) (hL _ (by omega))) bd46 [(77000, 0), (21001, 0)] [] ?_
     refine yP (PureOp.bin rfl rfl rfl) ?_
     refine zN ?_
     refine zA (fun hb4 => ?_) (fun hb4 => ?_)
     ·
      have hge : N * 2 ^ 1 ≤ z := ge_of_cmp (by simpa using hb4)
      refine zR ?_
      refine yM ?_
      refine yM ?_
      refine yP pA ?_
      refine yL1 ?_
      refine yC (subD_ctr (x := z) (y := N * 2 ^ 1) (hL _ (by omega)) (hL _ (by omega)) hge) bd47 [(77000, 0), (21001, 0)] [67000] ?_
      refine yA ?_
      refine zN (zL (zT (zR ?_)))
      refine yM ?_
      refine yP (pSub (b := 1)) ?_
      refine yA ?_
      refine zN (zT ?_)
      exact ⟨1 * 1, [(77000, 67000)], _, by omega, wk [0, 1, 6000, 21000, 21001, 21002, 21003, 21004, 21005, 21006, 21007, 21008, 77000], z - N * 2 ^ 1, 1, ⟨by decide, mod_hi hz hge⟩, rfl, rfl⟩
     ·
      have hlt : z < N * 2 ^ 1 := lt_of_cmp (by simpa using hb4)
      refine zK (zL (zT (zR ?_)))
      refine yM ?_
      refine yP (pSub (b := 1)) ?_
      refine yA ?_
      refine zN (zT ?_)
      exact ⟨1 * 1, [(77000, 77000)], _, by omega, wk [0, 1, 6000, 21000, 21001, 21002, 21003, 21004, 21005, 21006, 21007, 21008, 77000], z, 1, ⟨by decide, mod_lo hz hlt⟩, rfl, rfl⟩
    ·
     rw [show vp 3 = vi .i64 2 from rfl]
     have hzl : z < N * 2 ^ 3 := by rw [hz]; exact Nat.mod_lt _ (Nat.mul_pos hN (by decide))
     refine zK (zT (zQ (zB (zS ?_))))
     refine yM ?_
     refine yM ?_
     refine yP pA ?_
     refine yL1 ?_
     refine yC (cmpD_ctr (x := z) (y := N * 2 ^ 2) (hL _ (by omega)) (hL _ (by omega))) bd46 [(77000, 0), (21002, 0)] [] ?_
     refine yP (PureOp.bin rfl rfl rfl) ?_
     refine zN ?_
     refine zA (fun hb5 => ?_) (fun hb5 => ?_)
     ·
      have hge : N * 2 ^ 2 ≤ z := ge_of_cmp (by simpa using hb5)
      refine zR ?_
      refine yM ?_
      refine yM ?_
      refine yP pA ?_
      refine yL1 ?_
      refine yC (subD_ctr (x := z) (y := N * 2 ^ 2) (hL _ (by omega)) (hL _ (by omega)) hge) bd47 [(77000, 0), (21002, 0)] [67000] ?_
      refine yA ?_
      refine zN (zL (zT (zR ?_)))
      refine yM ?_
      refine yP (pSub (b := 1)) ?_
      refine yA ?_
      refine zN (zT ?_)
      exact ⟨1 * 2, [(77000, 67000)], _, by omega, wk [0, 1, 6000, 21000, 21001, 21002, 21003, 21004, 21005, 21006, 21007, 21008, 77000], z - N * 2 ^ 2, 2, ⟨by decide, mod_hi hz hge⟩, rfl, rfl⟩
     ·
      have hlt : z < N * 2 ^ 2 := lt_of_cmp (by simpa using hb5)
      refine zK (zL (zT (zR ?_)))
      refine yM ?_
      refine yP (pSub (b := 1)) ?_
      refine yA ?_
      refine zN (zT ?_)
      exact ⟨1 * 2, [(77000, 77000)], _, by omega, wk [0, 1, 6000, 21000, 21001, 21002, 21003, 21004, 21005, 21006, 21007, 21008, 77000], z, 2, ⟨by decide, mod_lo hz hlt⟩, rfl, rfl⟩
    ·
     rw [show vp 4 = vi .i64 3 from rfl]
     have hzl : z < N * 2 ^ 4 := by rw [hz]; exact Nat.mod_lt _ (Nat.mul_pos hN (by decide))
     refine zK (zT (zQ (zB (zS ?_))))
     refine yM ?_
     refine yM ?_
     refine yP pA ?_
     refine yL1 ?_
     refine yC (cmpD_ctr (x := z) (y := N * 2 ^ 3) (hL _ (by omega)) (hL _ (by omega))) bd46 [(77000, 0), (21003, 0)] [] ?_
     refine yP (PureOp.bin rfl rfl rfl) ?_
     refine zN ?_
     refine zA (fun hb6 => ?_) (fun hb6 => ?_)
     ·
      have hge : N * 2 ^ 3 ≤ z := ge_of_cmp (by simpa using hb6)
      refine zR ?_
      refine yM ?_
      refine yM ?_
      refine yP pA ?_
      refine yL1 ?_
      refine yC (subD_ctr (x := z) (y := N * 2 ^ 3) (hL _ (by omega)) (hL _ (by omega)) hge) bd47 [(77000, 0), (21003, 0)] [67000] ?_
      refine yA ?_
      refine zN (zL (zT (zR ?_)))
      refine yM ?_
      refine yP (pSub (b := 1)) ?_
      refine yA ?_
      refine zN (zT ?_)
      exact ⟨1 * 3, [(77000, 67000)], _, by omega, wk [0, 1, 6000, 21000, 21001, 21002, 21003, 21004, 21005, 21006, 21007, 21008, 77000], z - N * 2 ^ 3, 3, ⟨by decide, mod_hi hz hge⟩, rfl, rfl⟩
     ·
      have hlt : z < N * 2 ^ 3 := lt_of_cmp (by simpa using hb6)
      refine zK (zL (zT (zR ?_)))
      refine yM ?_
      refine yP (pSub (b := 1)) ?_
      refine yA ?_
      refine zN (zT ?_)
      exact ⟨1 * 3, [(77000, 77000)], _, by omega, wk [0, 1, 6000, 21000, 21001, 21002, 21003, 21004, 21005, 21006, 21007, 21008, 77000], z, 3, ⟨by decide, mod_lo hz hlt⟩, rfl, rfl⟩
    ·
     rw [show vp 5 = vi .i64 4 from rfl]
     have hzl : z < N * 2 ^ 5 := by rw [hz]; exact Nat.mod_lt _ (Nat.mul_pos hN (by decide))
     refine zK (zT (zQ (zB (zS ?_))))
     refine yM ?_
     refine yM ?_
     refine yP pA ?_
     refine yL1 ?_
     refine yC (cmpD_ctr (x := z) (y := N * 2 ^ 4) (hL _ (by omega)) (hL _ (by omega))) bd46 [(77000, 0), (21004, 0)] [] ?_
     refine yP (PureOp.bin rfl rfl rfl) ?_
     refine zN ?_
     refine zA (fun hb7 => ?_) (fun hb7 => ?_)
     ·
      have hge : N * 2 ^ 4 ≤ z := ge_of_cmp (by simpa using hb7)
      refine zR ?_
      refine yM ?_
      refine yM ?_
      refine yP pA ?_
      refine yL1 ?_
      refine yC (subD_ctr (x := z) (y := N * 2 ^ 4) (hL _ (by omega)) (hL _ (by omega)) hge) bd47 [(77000, 0), (21004, 0)] [67000] ?_
      refine yA ?_
      refine zN (zL (zT (zR ?_)))
      refine yM ?_
      refine yP (pSub (b := 1)) ?_
      refine yA ?_
      refine zN (zT ?_)
      exact ⟨1 * 4, [(77000, 67000)], _, by omega, wk [0, 1, 6000, 21000, 21001, 21002, 21003, 21004, 21005, 21006, 21007, 21008, 77000], z - N * 2 ^ 4, 4, ⟨by decide, mod_hi hz hge⟩, rfl, rfl⟩
     ·
      have hlt : z < N * 2 ^ 4 := lt_of_cmp (by simpa using hb7)
      refine zK (zL (zT (zR ?_)))
      refine yM ?_
      refine yP (pSub (b := 1)) ?_
      refine yA ?_
      refine zN (zT ?_)
      exact ⟨1 * 4, [(77000, 77000)], _, by omega, wk [0, 1, 6000, 21000, 21001, 21002, 21003, 21004, 21005, 21006, 21007, 21008, 77000], z, 4, ⟨by decide, mod_lo hz hlt⟩, rfl, rfl⟩
    ·
     rw [show vp 6 = vi .i64 5 from rfl]
     have hzl : z < N * 2 ^ 6 := by rw [hz]; exact Nat.mod_lt _ (Nat.mul_pos hN (by decide))
     refine zK (zT (zQ (zB (zS ?_))))
     refine yM ?_
     refine yM ?_
     refine yP pA ?_
     refine yL1 ?_
     refine yC (cmpD_ctr (x := z) (y := N * 2 ^ 5) (hL _ (by omega)) (hL _ (by omega))) bd46 [(77000, 0), (21005, 0)] [] ?_
     refine yP (PureOp.bin rfl rfl rfl) ?_
     refine zN ?_
     refine zA (fun hb8 => ?_) (fun hb8 => ?_)
     ·
      have hge : N * 2 ^ 5 ≤ z := ge_of_cmp (by simpa using hb8)
      refine zR ?_
      refine yM ?_
      refine yM ?_
      refine yP pA ?_
      refine yL1 ?_
      refine yC (subD_ctr (x := z) (y := N * 2 ^ 5) (hL _ (by omega)) (hL _ (by omega)) hge) bd47 [(77000, 0), (21005, 0)] [67000] ?_
      refine yA ?_
      refine zN (zL (zT (zR ?_)))
      refine yM ?_
      refine yP (pSub (b := 1)) ?_
      refine yA ?_
      refine zN (zT ?_)
      exact ⟨1 * 5, [(77000, 67000)], _, by omega, wk [0, 1, 6000, 21000, 21001, 21002, 21003, 21004, 21005, 21006, 21007, 21008, 77000], z - N * 2 ^ 5, 5, ⟨by decide, mod_hi hz hge⟩, rfl, rfl⟩
     ·
      have hlt : z < N * 2 ^ 5 := lt_of_cmp (by simpa using hb8)
      refine zK (zL (zT (zR ?_)))
      refine yM ?_
      refine yP (pSub (b := 1)) ?_
      refine yA ?_
      refine zN (zT ?_)
      exact ⟨1 * 5, [(77000, 77000)], _, by omega, wk [0, 1, 6000, 21000, 21001, 21002, 21003, 21004, 21005, 21006, 21007, 21008, 77000], z, 5, ⟨by decide, mod_lo hz hlt⟩, rfl, rfl⟩
    ·
     rw [show vp 7 = vi .i64 6 from rfl]
     have hzl : z < N * 2 ^ 7 := by rw [hz]; exact Nat.mod_lt _ (Nat.mul_pos hN (by decide))
     refine zK (zT (zQ (zB (zS ?_))))
     refine yM ?_
     refine yM ?_
     refine yP pA ?_
     refine yL1 ?_
     refine yC (cmpD_ctr (x := z) (y := N * 2 ^ 6) (hL _ (by omega)) (hL _ (by omega))) bd46 [(77000, 0), (21006, 0)] [] ?_
     refine yP (PureOp.bin rfl rfl rfl) ?_
     refine zN ?_
     refine zA (fun hb9 => ?_) (fun hb9 => ?_)
     ·
      have hge : N * 2 ^ 6 ≤ z := ge_of_cmp (by simpa using hb9)
      refine zR ?_
      refine yM ?_
      refine yM ?_
      refine yP pA ?_
      refine yL1 ?_
      refine yC (subD_ctr (x := z) (y := N * 2 ^ 6) (hL _ (by omega)) (hL _ (by omega)) hge) bd47 [(77000, 0), (21006, 0)] [67000] ?_
      refine yA ?_
      refine zN (zL (zT (zR ?_)))
      refine yM ?_
      refine yP (pSub (b := 1)) ?_
      refine yA ?_
      refine zN (zT ?_)
      exact ⟨1 * 6, [(77000, 67000)], _, by omega, wk [0, 1, 6000, 21000, 21001, 21002, 21003, 21004, 21005, 21006, 21007, 21008, 77000], z - N * 2 ^ 6, 6, ⟨by decide, mod_hi hz hge⟩, rfl, rfl⟩
     ·
      have hlt : z < N * 2 ^ 6 := lt_of_cmp (by simpa using hb9)
      refine zK (zL (zT (zR ?_)))
      refine yM ?_
      refine yP (pSub (b := 1)) ?_
      refine yA ?_
      refine zN (zT ?_)
      exact ⟨1 * 6, [(77000, 77000)], _, by omega, wk [0, 1, 6000, 21000, 21001, 21002, 21003, 21004, 21005, 21006, 21007, 21008, 77000], z, 6, ⟨by decide, mod_lo hz hlt⟩, rfl, rfl⟩
    ·
     rw [show vp 8 = vi .i64 7 from rfl]
     have hzl : z < N * 2 ^ 8 := by rw [hz]; exact Nat.mod_lt _ (Nat.mul_pos hN (by decide))
     refine zK (zT (zQ (zB (zS ?_))))
     refine yM ?_
     refine yM ?_
     refine yP pA ?_
     refine yL1 ?_
     refine yC (cmpD_ctr (x := z) (y := N * 2 ^ 7) (hL _ (by omega)) (hL _ (by omega))) bd46 [(77000, 0), (21007, 0)] [] ?_
     refine yP (PureOp.bin rfl rfl rfl) ?_
     refine zN ?_
     refine zA (fun hb10 => ?_) (fun hb10 => ?_)
     ·
      have hge : N * 2 ^ 7 ≤ z := ge_of_cmp (by simpa using hb10)
      refine zR ?_
      refine yM ?_
      refine yM ?_
      refine yP pA ?_
      refine yL1 ?_
      refine yC (subD_ctr (x := z) (y := N * 2 ^ 7) (hL _ (by omega)) (hL _ (by omega)) hge) bd47 [(77000, 0), (21007, 0)] [67000] ?_
      refine yA ?_
      refine zN (zL (zT (zR ?_)))
      refine yM ?_
      refine yP (pSub (b := 1)) ?_
      refine yA ?_
      refine zN (zT ?_)
      exact ⟨1 * 7, [(77000, 67000)], _, by omega, wk [0, 1, 6000, 21000, 21001, 21002, 21003, 21004, 21005, 21006, 21007, 21008, 77000], z - N * 2 ^ 7, 7, ⟨by decide, mod_hi hz hge⟩, rfl, rfl⟩
     ·
      have hlt : z < N * 2 ^ 7 := lt_of_cmp (by simpa using hb10)
      refine zK (zL (zT (zR ?_)))
      refine yM ?_
      refine yP (pSub (b := 1)) ?_
      refine yA ?_
      refine zN (zT ?_)
      exact ⟨1 * 7, [(77000, 77000)], _, by omega, wk [0, 1, 6000, 21000, 21001, 21002, 21003, 21004, 21005, 21006, 21007, 21008, 77000], z, 7, ⟨by decide, mod_lo hz hlt⟩, rfl, rfl⟩
    ·
     rw [show vp 9 = vi .i64 8 from rfl]
     have hzl : z < N * 2 ^ 9 := by rw [hz]; exact Nat.mod_lt _ (Nat.mul_pos hN (by decide))
     refine zK (zT (zQ (zB (zS ?_))))
     refine yM ?_
     refine yM ?_
     refine yP pA ?_
     refine yL1 ?_
     refine yC (cmpD_ctr (x := z) (y := N * 2 ^ 8) (hL _ (by omega)) (hL _ (by omega))) bd46 [(77000, 0), (21008, 0)] [] ?_
     refine yP (PureOp.bin rfl rfl rfl) ?_
     refine zN ?_
     refine zA (fun hb11 => ?_) (fun hb11 => ?_)
     ·
      have hge : N * 2 ^ 8 ≤ z := ge_of_cmp (by simpa using hb11)
      refine zR ?_
      refine yM ?_
      refine yM ?_
      refine yP pA ?_
      refine yL1 ?_
      refine yC (subD_ctr (x := z) (y := N * 2 ^ 8) (hL _ (by omega)) (hL _ (by omega)) hge) bd47 [(77000, 0), (21008, 0)] [67000] ?_
      refine yA ?_
      refine zN (zL (zT (zR ?_)))
      refine yM ?_
      refine yP (pSub (b := 1)) ?_
      refine yA ?_
      refine zN (zT ?_)
      exact ⟨1 * 8, [(77000, 67000)], _, by omega, wk [0, 1, 6000, 21000, 21001, 21002, 21003, 21004, 21005, 21006, 21007, 21008, 77000], z - N * 2 ^ 8, 8, ⟨by decide, mod_hi hz hge⟩, rfl, rfl⟩
     ·
      have hlt : z < N * 2 ^ 8 := lt_of_cmp (by simpa using hb11)
      refine zK (zL (zT (zR ?_)))
      refine yM ?_
      refine yP (pSub (b := 1)) ?_
      refine yA ?_
      refine zN (zT ?_)
      exact ⟨1 * 8, [(77000, 77000)], _, by omega, wk [0, 1, 6000, 21000, 21001, 21002, 21003, 21004, 21005, 21006, 21007, 21008, 77000], z, 8, ⟨by decide, mod_lo hz hlt⟩, rfl, rfl⟩
   ·
    obtain rfl : k = 0 := by simpa using hb2
    have hzy : z = x / 256 ^ r % N := by rw [hz, hy, Nat.pow_zero, Nat.mul_one]; exact mod_byte
    refine zX (zV (zV (zH (zL (zT (zR ?_))))))
    refine yM ?_
    refine yP (PureOp.subP rfl rfl (by omega)) ?_
    refine yA ?_
    refine zN (zT ?_)
    exact ⟨1 * r, [(77000, 77000)], _, by omega, wk [0, 1, 6000, 21000, 21001, 21002, 21003, 21004, 21005, 21006, 21007, 21008, 77000], z, r, ⟨by omega, hzy⟩, rfl, rfl⟩
 ·
  obtain rfl : r = 0 := by simpa using hb0
  rw [Nat.pow_zero, Nat.div_one] at hy
  subst hy
  refine zX (zV (zV (zH (zT (zS ?_)))))
  refine yM ?_
  refine yA ?_
  refine zN (zE ?_)
  exact rq [77000] [.tmp 4]
end Go.Proofs.YteeifahhejangaaGreatDoor
namespace Go.Proofs.YteeifahhejangaaGreatDoor
open Go Sim
theorem wordsD_ctr {x n : Nat} (hn : n < 100000000) : GC Tryz.prog 41 [.slice (some ⟨0, 0, none⟩) (D 4294967296 x).length 0, vi .i64 (n)] [⟨(D 4294967296 x).map (vi .u64), false, 1⟩] [.slice (some ⟨1, 0, none⟩) n 0] [⟨(D 4294967296 x).map (vi .u64), false, 1⟩, ⟨(digs 18446744073709551616 n x).map (vi .u64), true, 1⟩] := by
 have h := words_ctr (a := D 4294967296 x) (n := n) (bd_D (by decide) _) hn
 simp only [num_D (show 2 ≤ 4294967296 by decide), digs_len] at h
 exact h
theorem exp_odd {x y z r N : Nat} (hz : z = x ^ (y / 2 ^ (r + 1)) % N) (hb : y / 2 ^ r % 2 = 1) : z * z % N * (x % N) % N = x ^ (y / 2 ^ r) % N := by
 rw [pow_odd hb, hz]
 generalize x ^ (y / 2 ^ (r + 1)) = p
 rw [← Nat.mul_mod p p N, ← Nat.mul_mod]
theorem exp_even {x y z r N : Nat} (hz : z = x ^ (y / 2 ^ (r + 1)) % N) (hb : ¬ y / 2 ^ r % 2 = 1) : z * z % N = x ^ (y / 2 ^ r) % N := by
 rw [pow_even hb, hz, ← Nat.mul_mod]
end Go.Proofs.YteeifahhejangaaGreatDoor
namespace Go.Proofs.YteeifahhejangaaGreatDoor
open Go Sim
theorem row_step {x i : Nat} (hi : i < 9) : (digs 4294967296 9 (x % 4294967296 ^ i)).set i ((D 4294967296 x).getD i 0) = digs 4294967296 9 (x % 4294967296 ^ (i + 1)) := by
 have hp : 4294967296 ^ (i + 1) ≤ 4294967296 ^ 9 := Nat.pow_le_pow_right (by decide) (by omega)
 have hp2 : 4294967296 ^ i ≤ 4294967296 ^ 9 := Nat.pow_le_pow_right (by decide) (by omega)
 have h1 := Nat.mod_lt x (show 0 < 4294967296 ^ (i + 1) from Nat.pow_pos (by decide))
 have h2 := Nat.mod_lt x (show 0 < 4294967296 ^ i from Nat.pow_pos (by decide))
 refine num_inj (bd_set (digs_bd (by decide) _ _) (by rw [D_getD (by decide)]; exact Nat.mod_lt _ (by decide))) (digs_bd (by decide) _ _) (by simp [digs_len]) ?_
 have h3 := num_set (B := 4294967296) (l := digs 4294967296 9 (x % 4294967296 ^ i)) (k := i) (v := (D 4294967296 x).getD i 0) (by rw [digs_len]; exact hi)
 rw [digs_getD (by decide) hi, Nat.div_eq_of_lt h2, Nat.zero_mod, Nat.zero_mul, Nat.add_zero, num_digs_lt (Nat.lt_of_lt_of_le h2 hp2), D_getD (by decide)] at h3
 rw [D_getD (by decide), h3, num_digs_lt (Nat.lt_of_lt_of_le h1 hp), mod_succ, Nat.mul_comm]
theorem row_end {x : Nat} : digs 4294967296 9 (x % 4294967296 ^ (D 4294967296 x).length) = digs 4294967296 9 x := by
 rw [Nat.mod_eq_of_lt ((D_len_le (B := 4294967296) (by decide) x _).1 (Nat.le_refl _))]
theorem at_digs {v i : Nat} (hi : i < 9) : ((digs 4294967296 9 v).map (vi .u64))[i]? = some (vi .u64 (v / 4294967296 ^ i % 4294967296)) := by
 rw [List.getElem?_map, ← digs_getD (n := 9) (by decide) hi, List.getD_eq_getElem?_getD, List.getElem?_eq_getElem (by rw [digs_len]; exact hi)]
 rfl
theorem at_tail {l : List Nat} {i x : Nat} (hl : l.length = 9) (hi : i < 9) (h : l.getD i 0 = x) : (l.map (vi .u64))[i]? = some (vi .u64 x) := by
 rw [List.getElem?_map, ← h, List.getD_eq_getElem?_getD, List.getElem?_eq_getElem (by omega)]
 rfl
theorem more_step {l : List Nat} {i x y t c s : Nat} (hi : i < l.length) (h : num 4294967296 (l.take i) + 4294967296 ^ i * c = 256 * (x % 4294967296 ^ i) + t * (y % 4294967296 ^ i)) (hs : s = x / 4294967296 ^ i % 4294967296 * 256 + y / 4294967296 ^ i % 4294967296 * t + c) :
    num 4294967296 ((l.set i (s % 4294967296)).take (i + 1)) + 4294967296 ^ (i + 1) * (s / 4294967296) = 256 * (x % 4294967296 ^ (i + 1)) + t * (y % 4294967296 ^ (i + 1)) := by
  rw [take_set_succ hi, num_append, List.length_take, Nat.min_eq_left (by omega), num_one, mod_succ x, mod_succ y, Nat.pow_succ]
  have e : s = s % 4294967296 + 4294967296 * (s / 4294967296) := (Nat.mod_add_div _ _).symm
  generalize s % 4294967296 = r at *
  generalize s / 4294967296 = q at *
  generalize x / 4294967296 ^ i % 4294967296 = X at *
  generalize y / 4294967296 ^ i % 4294967296 = Y at *
  generalize 4294967296 ^ i = w at *
  generalize x % w = x' at *
  generalize y % w = y' at *
  rw [hs] at e
  grind
theorem more_end {l : List Nat} {x y t c : Nat} (hbl : bd 4294967296 l) (hl : l.length = 9) (hx : x < 4294967296 ^ 9) (hy : y < 4294967296 ^ 9) (h : num 4294967296 (l.take 9) + 4294967296 ^ 9 * c = 256 * (x % 4294967296 ^ 9) + t * (y % 4294967296 ^ 9)) : digs 4294967296 9 (256 * x + t * y) = l := by
  rw [List.take_of_length_le (by omega), Nat.mod_eq_of_lt hx, Nat.mod_eq_of_lt hy] at h
  refine num_inj (digs_bd (by decide) _ _) hbl (by rw [digs_len, hl]) ?_
  have h1 := num_lt hbl
  rw [hl] at h1
  rw [num_digs, ← h, Nat.add_mul_mod_self_left, Nat.mod_eq_of_lt h1]
theorem minus_end {l : List Nat} {x y c : Nat} (hbl : bd 4294967296 l) (hl : l.length = 9) (hx : x < 4294967296 ^ 9) (hle : y ≤ x) (h : num 4294967296 (l.take 9) + y % 4294967296 ^ 9 = x % 4294967296 ^ 9 + 4294967296 ^ 9 * c) : digs 4294967296 9 (x - y) = l := by
  rw [List.take_of_length_le (by omega)] at h
  have h2 := sub_end hbl hl h hx hle
  rw [← h2, ← hl, digs_num hbl]
theorem reach_dec {x y r : Nat} (he : x / 4294967296 ^ (r + 1) = y / 4294967296 ^ (r + 1)) (hne : x / 4294967296 ^ r % 4294967296 ≠ y / 4294967296 ^ r % 4294967296) : decide (y / 4294967296 ^ r % 4294967296 < x / 4294967296 ^ r % 4294967296) = decide (y ≤ x) := by
  rcases Nat.lt_or_ge (y / 4294967296 ^ r % 4294967296) (x / 4294967296 ^ r % 4294967296) with h | h
  · rw [decide_eq_true h, decide_eq_true (Nat.le_of_lt (top_lt he.symm h))]
  · have := top_lt he (show x / 4294967296 ^ r % 4294967296 < y / 4294967296 ^ r % 4294967296 by omega)
    rw [decide_eq_false (by omega), decide_eq_false (by omega)]
set_option maxRecDepth 10000 in
theorem rowOf_ctr {x : Nat} (hx : x < 4294967296 ^ 9) : GC Tryz.prog 37 [.slice (some ⟨0, 0, none⟩) (D 4294967296 x).length 0] [⟨(D 4294967296 x).map (vi .u64), false, 1⟩] [.agg ((digs 4294967296 9 x).map (vi .u64)).toArray] [⟨(D 4294967296 x).map (vi .u64), false, 1⟩] := by
 refine gi Tryz.func37 ?_
 have hlx : (D 4294967296 x).length ≤ 9 := (D_len_le (by decide) _ _).2 hx
 have hd9 := fun i => digs_len (B := 4294967296) 9 (x % 4294967296 ^ i)
 have hd0 := digs_len (B := 4294967296) 9 x
 refine zS ?_
 refine yN 3000 1 ((List.replicate 9 0).map (vi .u64)) ?_
 refine zN (zS ?_)
 refine yP ((PureOp.buildArr tbok [] rfl rfl rfl (by decide) rfl rfl).mono (v' := .agg ((List.replicate 9 0).map (vi .u64)).toArray) rfl) ?_
 refine yN 4000 1 ((List.replicate 9 0).map (vi .u64)) ?_
 refine ySA ?_
 refine zN (zQ (zS ?_))
 refine yA ?_
 refine zN (zB ?_)
 refine AW.loopw (fun mm σ => ∃ i, (i ≤ (D 4294967296 x).length) ∧ mm = (D 4294967296 x).length - i ∧ σ = ⟨(upd (upd (upd (upd emp 0 (.slice (some ⟨0, 0, none⟩) (D 4294967296 x).length 0)) 2 (.pointer (some ⟨3000, 0, none⟩))) 3 (.pointer (some ⟨4000, 0, none⟩))) 4 (vi .i64 i)), (upd (upd (upd emp 0 ⟨(D 4294967296 x).map (vi .u64), false, 1⟩) 3000 ⟨(List.replicate 9 0).map (vi .u64), true, 1⟩) 4000 ⟨(digs 4294967296 9 (x % 4294967296 ^ i)).map (vi .u64), true, 1⟩)⟩) (fm := []) ?_ ⟨0, Nat.zero_le _, rfl, rfl⟩ ?_
 ·
  refine Wk.of [0, 3000, 4000] ?_ ?_ ?_ (by decide) rfl
  ·
   refine WkE.upd rfl (by exact VR.flat _ rfl) ?_
   refine WkE.upd rfl (.ptr (4000) 0 ⟨_, rfl⟩) ?_
   refine WkE.upd rfl (.ptr (3000) 0 ⟨_, rfl⟩) ?_
   refine WkE.upd rfl (.slice (0) 0 _ 0 ⟨_, rfl⟩ (by simp) (by simp)) ?_
   exact WkE.emp
  ·
   refine WkM.flatM rfl (by (rw [Nat.pow_zero, Nat.mod_one]; rfl)) flat_vi (fun h => h) ?_
   refine WkM.flatM rfl (by rfl) (fun _ => rfl) (fun h => h) ?_
   refine WkM.flatM rfl (by rfl) (fun _ => rfl) (fun h => h) ?_
   exact WkM.emp
  ·
   repeat (refine dom_upd_mem (by decide) ?_)
   exact dom_emp
 ·
  rintro mm σ ⟨i, hinv, rfl, rfl⟩
  have hdi := hd9 i
  refine zQ (zS ?_)
  refine yM ?_
  refine yM ?_
  refine yP pL ?_
  refine yP pLt ?_
  first | refine AWo.pureB (PureOp.move rfl) rfl rfl (fun hb0 => ?_) (fun hb0 => ?_)
  ·
   have hi : i < (D 4294967296 x).length := by simpa using hb0
   refine yM ?_
   refine yP ((PureOp.ltN (b := 9) rfl rfl).mono (v' := .bool true) (congrArg Value.bool (decide_eq_true (by omega)))) ?_
   refine yP pT ?_
   refine zN (zC (zK (zT (zQ (zB (zR ?_))))))
   refine yM ?_
   refine yM ?_
   refine yM ?_
   refine yP pJ ?_
   refine yL 0 ?_
   refine yP pA ?_
   refine AWo.storeM (f := (vi .u64)) tbok rfl rfl rfl rfl (by rw [hdi]; omega) rfl rfl ?_
   refine zN (zL (zT (zR ?_)))
   refine yM ?_
   refine yP (pAdd (b := 1)) ?_
   refine yA ?_
   refine zN (zT ?_)
   refine ⟨(D 4294967296 x).length - (i + 1), [], _, by omega, ?_, i + 1, by omega, rfl, rfl⟩
   refine Wk.of [0, 3000, 4000] ?_ ?_ ?_ (by decide) rfl
   ·
    refine WkE.upd rfl (by exact VR.flat _ rfl) ?_
    refine WkE.upd rfl (.ptr (4000) 0 ⟨_, rfl⟩) ?_
    refine WkE.upd rfl (.ptr (3000) 0 ⟨_, rfl⟩) ?_
    refine WkE.upd rfl (.slice (0) 0 _ 0 ⟨_, rfl⟩ (by simp) (by simp)) ?_
    exact WkE.emp
   ·
    refine WkM.flatM rfl (by exact (row_step (by omega)).symm) flat_vi (fun h => h) ?_
    refine WkM.flatM rfl (by rfl) (fun _ => rfl) (fun h => h) ?_
    refine WkM.flatM rfl (by rfl) (fun _ => rfl) (fun h => h) ?_
    exact WkM.emp
   ·
    repeat (refine dom_upd_mem (by decide) ?_)
    exact dom_emp
  ·
   have hi : i = (D 4294967296 x).length := by simp at hb0; omega
   subst hi
   rw [row_end]
   refine yK ?_
   refine yK ?_
   refine yP pE ?_
   refine zN (zF (zX (zV (zV (zH (zT (zS ?_)))))))
   refine yLA ?_
   refine ySA ?_
   refine zN (zE ?_)
   exact rq [] [.cell 2 79]
set_option maxRecDepth 10000 in
theorem more_ctr {x y t : Nat} (hx : x < 4294967296 ^ 9) (hy : y < 4294967296 ^ 9) (ht : t ≤ 256) : GC Tryz.prog 39 [.agg ((digs 4294967296 9 x).map (vi .u64)).toArray, .agg ((digs 4294967296 9 y).map (vi .u64)).toArray, vi .u64 (t)] [] [.agg ((digs 4294967296 9 (256 * x + t * y)).map (vi .u64)).toArray] [] := by
 refine gi Tryz.func39 ?_
 have hd9 := digs_len (B := 4294967296) 9 x
 have he9 := digs_len (B := 4294967296) 9 y
 refine zS ?_
 refine yO 4000 1 ((digs 4294967296 9 x).map (vi .u64)) ?_
 refine yO 5000 1 ((digs 4294967296 9 y).map (vi .u64)) ?_
 refine yN 7000 1 ((List.replicate 9 0).map (vi .u64)) ?_
 refine zN (zS ?_)
 refine yA ?_
 refine zN (zQ (zS ?_))
 refine yA ?_
 refine zN (zB ?_)
 refine AW.loopw (fun mm σ => ∃ i, ∃ (l : List Nat), ∃ c, (i ≤ 9 ∧ l.length = 9 ∧ bd 4294967296 l ∧ c ≤ 1000 ∧ num 4294967296 (l.take i) + 4294967296 ^ i * c = 256 * (x % 4294967296 ^ i) + t * (y % 4294967296 ^ i) ∧ ∀ k, i ≤ k → k < 9 → l.getD k 0 = x / 4294967296 ^ k % 4294967296) ∧ mm = 9 - i ∧ σ = ⟨(upd (upd (upd (upd (upd (upd emp 2 (vi .u64 t)) 3 (.pointer (some ⟨4000, 0, none⟩))) 4 (.pointer (some ⟨5000, 0, none⟩))) 6 (.pointer (some ⟨7000, 0, none⟩))) 7 (vi .u64 c)) 8 (vi .i64 i)), (upd (upd (upd emp 4000 ⟨(l).map (vi .u64), true, 1⟩) 5000 ⟨(digs 4294967296 9 y).map (vi .u64), true, 1⟩) 7000 ⟨(List.replicate 9 0).map (vi .u64), true, 1⟩)⟩) (fm := []) (wk [4000, 5000, 7000]) ⟨0, digs 4294967296 9 x, 0, ⟨Nat.zero_le _, hd9, digs_bd (by decide) _ _, Nat.zero_le _, by simp [num, Nat.mod_one], fun k _ hk => digs_getD (by decide) hk⟩, rfl, rfl⟩ ?_
 rintro mm σ ⟨i, l, c, ⟨hi0, hl2, hbl, hc, hnl, hz0⟩, rfl, rfl⟩
 have hX := Nat.mod_lt (x / 4294967296 ^ i) (show 0 < 4294967296 by decide)
 have hY := Nat.mod_lt (y / 4294967296 ^ i) (show 0 < 4294967296 by decide)
 have hYt : (y / 4294967296 ^ i % 4294967296) * t ≤ 4294967296 * 256 := Nat.mul_le_mul (Nat.le_of_lt hY) ht
 refine zQ (zS ?_)
 refine yM ?_
 refine yP (pLt (b := 9)) ?_
 refine zN ?_
 refine zA (fun hb0 => ?_) (fun hb0 => ?_)
 ·
  have hi : i < 9 := by simpa using hb0
  refine zK (zT (zQ (zB ?_)))
  refine AW.seqD mixed ?_
  refine yM ?_
  refine yP pA ?_
  refine AWo.load tbok (v := vi .u64 (x / 4294967296 ^ i % 4294967296)) rfl rfl rfl (at_tail hl2 hi (hz0 i (Nat.le_refl i) hi)) rfl rfl ?_
  refine yP ((PureOp.mulU (b := 256) 18446744073709551616 rfl rfl rfl rfl).mono (v' := vi .u64 ((x / 4294967296 ^ i % 4294967296) * 256)) (congrArg (vi .u64) (Nat.mod_eq_of_lt (by omega)))) ?_
  refine yM ?_
  refine yP pA ?_
  refine AWo.load tbok (v := vi .u64 (y / 4294967296 ^ i % 4294967296)) rfl rfl rfl (at_digs hi) rfl rfl ?_
  refine yM ?_
  refine yP ((PureOp.mulU 18446744073709551616 rfl rfl rfl rfl).mono (v' := vi .u64 ((y / 4294967296 ^ i % 4294967296) * t)) (congrArg (vi .u64) (Nat.mod_eq_of_lt (by omega)))) ?_
  refine yP ((PureOp.addU 18446744073709551616 rfl rfl rfl rfl).mono (v' := vi .u64 ((x / 4294967296 ^ i % 4294967296) * 256 + (y / 4294967296 ^ i % 4294967296) * t)) (congrArg (vi .u64) (Nat.mod_eq_of_lt (by omega)))) ?_
  refine yM ?_
  refine yP ((PureOp.addU 18446744073709551616 rfl rfl rfl rfl).mono (v' := vi .u64 ((x / 4294967296 ^ i % 4294967296) * 256 + (y / 4294967296 ^ i % 4294967296) * t + c)) (congrArg (vi .u64) (Nat.mod_eq_of_lt (by omega)))) ?_
  refine yA ?_
  refine zD (zS ?_)
  refine yM ?_
  refine yM ?_
  refine yP ((PureOp.remN (b := 4294967296) rfl rfl (by decide)).mono (v' := vi .u64 (((x / 4294967296 ^ i % 4294967296) * 256 + (y / 4294967296 ^ i % 4294967296) * t + c) % 4294967296)) rfl) ?_
  refine yP pA ?_
  refine AWo.storeM (f := (vi .u64)) tbok rfl rfl rfl rfl (by rw [hl2]; omega) rfl rfl ?_
  refine zN (zR ?_)
  refine yM ?_
  refine yP ((PureOp.quoN (b := 4294967296) 18446744073709551616 rfl rfl (by decide) (by decide) (by decide) (by omega)).mono (v' := vi .u64 (((x / 4294967296 ^ i % 4294967296) * 256 + (y / 4294967296 ^ i % 4294967296) * t + c) / 4294967296)) rfl) ?_
  refine yA ?_
  refine zN (zL (zT (zR ?_)))
  refine yM ?_
  refine yP (pAdd (b := 1)) ?_
  refine yA ?_
  refine zN (zT ?_)
  exact ⟨9 - (i + 1), [], _, by omega, wk [4000, 5000, 7000], i + 1, l.set i (((x / 4294967296 ^ i % 4294967296) * 256 + (y / 4294967296 ^ i % 4294967296) * t + c) % 4294967296), ((x / 4294967296 ^ i % 4294967296) * 256 + (y / 4294967296 ^ i % 4294967296) * t + c) / 4294967296, ⟨by omega, by simp [hl2], bd_set hbl (Nat.mod_lt _ (by decide)), by omega, more_step (by omega) hnl rfl, fun k hk hk9 => by rw [getD_set (by omega)]; exact hz0 k (by omega) hk9⟩, rfl, rfl⟩
 ·
  obtain rfl : i = 9 := by simp at hb0; omega
  rw [show digs 4294967296 9 (256 * x + t * y) = l from more_end hbl hl2 hx hy hnl]
  refine zX (zV (zV (zH (zT (zS ?_)))))
  refine yLA ?_
  refine ySA ?_
  refine zN (zE ?_)
  exact rq [] [.cell 6 79]
set_option maxRecDepth 10000 in
theorem minus_ctr {x y : Nat} (hx : x < 4294967296 ^ 9) (hle : y ≤ x) : GC Tryz.prog 43 [.agg ((digs 4294967296 9 x).map (vi .u64)).toArray, .agg ((digs 4294967296 9 y).map (vi .u64)).toArray] [] [.agg ((digs 4294967296 9 (x - y)).map (vi .u64)).toArray] [] := by
 refine gi Tryz.func43 ?_
 have hd9 := digs_len (B := 4294967296) 9 x
 have he9 := digs_len (B := 4294967296) 9 y
 refine zS ?_
 refine yO 3000 1 ((digs 4294967296 9 x).map (vi .u64)) ?_
 refine yO 4000 1 ((digs 4294967296 9 y).map (vi .u64)) ?_
 refine yN 5000 1 ((List.replicate 9 0).map (vi .u64)) ?_
 refine zN (zS ?_)
 refine yA ?_
 refine zN (zQ (zS ?_))
 refine yA ?_
 refine zN (zB ?_)
 refine AW.loopw (fun mm σ => ∃ i, ∃ (l : List Nat), ∃ c, (i ≤ 9 ∧ l.length = 9 ∧ bd 4294967296 l ∧ c ≤ 1 ∧ num 4294967296 (l.take i) + y % 4294967296 ^ i = x % 4294967296 ^ i + 4294967296 ^ i * c ∧ ∀ k, i ≤ k → k < 9 → l.getD k 0 = x / 4294967296 ^ k % 4294967296) ∧ mm = 9 - i ∧ σ = ⟨(upd (upd (upd (upd (upd emp 2 (.pointer (some ⟨3000, 0, none⟩))) 3 (.pointer (some ⟨4000, 0, none⟩))) 4 (.pointer (some ⟨5000, 0, none⟩))) 5 (vi .u64 c)) 6 (vi .i64 i)), (upd (upd (upd emp 3000 ⟨(l).map (vi .u64), true, 1⟩) 4000 ⟨(digs 4294967296 9 y).map (vi .u64), true, 1⟩) 5000 ⟨(List.replicate 9 0).map (vi .u64), true, 1⟩)⟩) (fm := []) (wk [3000, 4000, 5000]) ⟨0, digs 4294967296 9 x, 0, ⟨Nat.zero_le _, hd9, digs_bd (by decide) _ _, Nat.zero_le _, by simp [num, Nat.mod_one], fun k _ hk => digs_getD (by decide) hk⟩, rfl, rfl⟩ ?_
 rintro mm σ ⟨i, l, c, ⟨hi0, hl2, hbl, hc, hnl, hz0⟩, rfl, rfl⟩
 have hX := Nat.mod_lt (x / 4294967296 ^ i) (show 0 < 4294967296 by decide)
 have hY := Nat.mod_lt (y / 4294967296 ^ i) (show 0 < 4294967296 by decide)
 refine zQ (zS ?_)
 refine yM ?_
 refine yP (pLt (b := 9)) ?_
 refine zN ?_
 refine zA (fun hb0 => ?_) (fun hb0 => ?_)
 ·
  have hi : i < 9 := by simpa using hb0
  refine zK (zT (zQ (zB ?_)))
  refine AW.seqD mixed ?_
  refine yM ?_
  refine yP pA ?_
  refine AWo.load tbok (v := vi .u64 (x / 4294967296 ^ i % 4294967296)) rfl rfl rfl (at_tail hl2 hi (hz0 i (Nat.le_refl i) hi)) rfl rfl ?_
  refine yP ((PureOp.addU (a := 4294967296) 18446744073709551616 rfl rfl rfl rfl).mono (v' := vi .u64 (4294967296 + (x / 4294967296 ^ i % 4294967296))) (congrArg (vi .u64) (Nat.mod_eq_of_lt (by omega)))) ?_
  refine yM ?_
  refine yP pA ?_
  refine AWo.load tbok (v := vi .u64 (y / 4294967296 ^ i % 4294967296)) rfl rfl rfl (at_digs hi) rfl rfl ?_
  refine yP ((PureOp.subU 18446744073709551616 rfl rfl rfl rfl (by omega)).mono (v' := vi .u64 (4294967296 + (x / 4294967296 ^ i % 4294967296) - (y / 4294967296 ^ i % 4294967296))) (by congr 1; omega)) ?_
  refine yM ?_
  refine yP ((PureOp.subU 18446744073709551616 rfl rfl rfl rfl (by omega)).mono (v' := vi .u64 (4294967296 + (x / 4294967296 ^ i % 4294967296) - (y / 4294967296 ^ i % 4294967296) - c)) (by congr 1; omega)) ?_
  refine yA ?_
  refine zD (zS ?_)
  refine yM ?_
  refine yM ?_
  refine yP ((PureOp.remN (b := 4294967296) rfl rfl (by decide)).mono (v' := vi .u64 ((4294967296 + (x / 4294967296 ^ i % 4294967296) - (y / 4294967296 ^ i % 4294967296) - c) % 4294967296)) rfl) ?_
  refine yP pA ?_
  refine AWo.storeM (f := (vi .u64)) tbok rfl rfl rfl rfl (by rw [hl2]; omega) rfl rfl ?_
  refine zN (zR ?_)
  refine yM ?_
  refine yP ((PureOp.quoN (b := 4294967296) 18446744073709551616 rfl rfl (by decide) (by decide) (by decide) (by omega)).mono (v' := vi .u64 ((4294967296 + (x / 4294967296 ^ i % 4294967296) - (y / 4294967296 ^ i % 4294967296) - c) / 4294967296)) rfl) ?_
  refine yP ((PureOp.subU (a := 1) 18446744073709551616 rfl rfl rfl rfl (by omega)).mono (v' := vi .u64 (1 - (4294967296 + (x / 4294967296 ^ i % 4294967296) - (y / 4294967296 ^ i % 4294967296) - c) / 4294967296)) (by congr 1; omega)) ?_
  refine yA ?_
  refine zN (zL (zT (zR ?_)))
  refine yM ?_
  refine yP (pAdd (b := 1)) ?_
  refine yA ?_
  refine zN (zT ?_)
  exact ⟨9 - (i + 1), [], _, by omega, wk [3000, 4000, 5000], i + 1, l.set i ((4294967296 + (x / 4294967296 ^ i % 4294967296) - (y / 4294967296 ^ i % 4294967296) - c) % 4294967296), 1 - (4294967296 + (x / 4294967296 ^ i % 4294967296) - (y / 4294967296 ^ i % 4294967296) - c) / 4294967296, ⟨by omega, by simp [hl2], bd_set hbl (Nat.mod_lt _ (by decide)), by omega, by rw [take_set_succ (by omega)]; exact sub_step (by simp [hl2]; omega) hnl rfl rfl hY hc, fun k hk hk9 => by rw [getD_set (by omega)]; exact hz0 k (by omega) hk9⟩, rfl, rfl⟩
 ·
  obtain rfl : i = 9 := by simp at hb0; omega
  rw [show digs 4294967296 9 (x - y) = l from minus_end hbl hl2 hx hle hnl]
  refine zX (zV (zV (zH (zT (zS ?_)))))
  refine yLA ?_
  refine ySA ?_
  refine zN (zE ?_)
  exact rq [] [.cell 4 79]
set_option maxRecDepth 10000 in
theorem reaches_ctr {x y : Nat} (hx : x < 4294967296 ^ 9) (hy : y < 4294967296 ^ 9) : GC Tryz.prog 42 [.agg ((digs 4294967296 9 x).map (vi .u64)).toArray, .agg ((digs 4294967296 9 y).map (vi .u64)).toArray] [] [.bool (decide (y ≤ x))] [] := by
 refine gi Tryz.func42 ?_
 have hd9 := digs_len (B := 4294967296) 9 x
 have he9 := digs_len (B := 4294967296) 9 y
 refine zS ?_
 refine yO 3000 1 ((digs 4294967296 9 x).map (vi .u64)) ?_
 refine yO 4000 1 ((digs 4294967296 9 y).map (vi .u64)) ?_
 refine yA ?_
 refine zN (zQ (zS ?_))
 refine yA ?_
 refine zN (zB ?_)
 refine AW.loopw (fun mm σ => ∃ r, (r ≤ 9 ∧ x / 4294967296 ^ r = y / 4294967296 ^ r) ∧ mm = 1 * r ∧ σ = ⟨(upd (upd (upd (upd emp 2 (.pointer (some ⟨3000, 0, none⟩))) 3 (.pointer (some ⟨4000, 0, none⟩))) 4 (.bool false)) 5 (vp r)), (upd (upd emp 3000 ⟨(digs 4294967296 9 x).map (vi .u64), true, 1⟩) 4000 ⟨(digs 4294967296 9 y).map (vi .u64), true, 1⟩)⟩) (fm := []) (wk [3000, 4000]) ⟨9, ⟨Nat.le_refl _, by rw [Nat.div_eq_of_lt hx, Nat.div_eq_of_lt hy]⟩, rfl, rfl⟩ ?_
 rintro mm σ ⟨r, ⟨hr0, he⟩, rfl, rfl⟩
 refine zQ (zS ?_)
 refine yM ?_
 refine yP (PureOp.geP rfl rfl) ?_
 refine zN ?_
 refine zA (fun hb0 => ?_) (fun hb0 => ?_)
 ·
  have hp0 : 0 < r := by simpa using hb0
  obtain ⟨r, rfl⟩ : ∃ q, r = q + 1 := ⟨r - 1, by omega⟩
  rw [vp_succ]
  have hi : r < 9 := by omega
  refine zK (zT (zQ (zB ?_)))
  refine AW.seqD mixed ?_
  refine yM ?_
  refine yP pA ?_
  refine AWo.load tbok (v := vi .u64 (x / 4294967296 ^ r % 4294967296)) rfl rfl rfl (at_digs hi) rfl rfl ?_
  refine yM ?_
  refine yP pA ?_
  refine AWo.load tbok (v := vi .u64 (y / 4294967296 ^ r % 4294967296)) rfl rfl rfl (at_digs hi) rfl rfl ?_
  refine yP pNe ?_
  refine zD ?_
  refine zA (fun hb1 => ?_) (fun hb1 => ?_)
  ·
   have hne : (x / 4294967296 ^ r % 4294967296) ≠ y / 4294967296 ^ r % 4294967296 := by simpa using hb1
   have hdec := reach_dec he hne
   refine AW.seqD mixed ?_
   refine yM ?_
   refine yP pA ?_
   refine AWo.load tbok (v := vi .u64 (x / 4294967296 ^ r % 4294967296)) rfl rfl rfl (at_digs hi) rfl rfl ?_
   refine yM ?_
   refine yP pA ?_
   refine AWo.load tbok (v := vi .u64 (y / 4294967296 ^ r % 4294967296)) rfl rfl rfl (at_digs hi) rfl rfl ?_
   refine yP ((PureOp.gtN rfl rfl).mono (v' := .bool (decide (y ≤ x))) (congrArg Value.bool hdec)) ?_
   refine yA ?_
   refine zD (zE (zI (zU (zU (zI (zU ?_))))))
   exact rq [] [.tmp 4]
  ·
   have heq : (x / 4294967296 ^ r % 4294967296) = y / 4294967296 ^ r % 4294967296 := by simpa using hb1
   refine zK (zL (zT (zR ?_)))
   refine yM ?_
   refine yP (PureOp.subP rfl rfl (by omega)) ?_
   refine yA ?_
   refine zN (zT ?_)
   exact ⟨1 * r, [], _, by omega, wk [3000, 4000], r, ⟨by omega, top_eq he heq⟩, rfl, rfl⟩
 ·
  obtain rfl : r = 0 := by simpa using hb0
  rw [Nat.pow_zero, Nat.div_one, Nat.div_one] at he
  rw [show decide (y ≤ x) = true from decide_eq_true (by omega)]
  refine zX (zV (zV (zH (zT (zS ?_)))))
  refine yA ?_
  refine zN (zE ?_)
  exact rq [] [.tmp 4]
end Go.Proofs.YteeifahhejangaaGreatDoor
namespace Go.Proofs.YteeifahhejangaaGreatDoor
open Go Sim
theorem p02_digs : D 4294967296 21888242871839275222246405745257275088548364400416034343698204186575808495617 = [4026531841, 1138881939, 2042196113, 674490440, 2172737629, 3092268470, 3778125865, 811880050] := by kernel_rfl
theorem setL_cut : ∀ (vs cells : List Value) (o : Nat), o + vs.length ≤ cells.length → setL cells o vs = cells.take o ++ vs ++ cells.drop (o + vs.length) := by
 intro vs
 induction vs with
 | nil => intro cells o _; simp [setL]
 | cons v vs ih =>
  intro cells o h
  simp only [List.length_cons] at h
  simp only [setL]
  rw [ih (cells.set o v) (o + 1) (by simp; omega), List.drop_set_of_lt (by omega)]
  have h1 : (cells.set o v).take (o + 1) = cells.take o ++ [v] := by
   rw [List.take_add_one, List.take_set_of_le (by omega), List.getElem?_set_self (by omega)]
   rfl
  rw [h1]
  simp [Nat.add_assoc, Nat.add_comm 1]
theorem setL_mid {A x B r : List Value} {o : Nat} (hA : A.length = o) (hx : x.length = r.length) : setL (A ++ x ++ B) o r = A ++ r ++ B := by
 subst hA
 rw [setL_cut _ _ _ (by simp [hx]), List.append_assoc A x B, List.take_left, ← List.append_assoc A x B]
 congr 1
 rw [← hx, ← List.length_append, List.drop_left]
theorem setL_row {α : Type} {n i : Nat} {L : List (List α)} {r : List α} {f : α → Value} (hL : ∀ y ∈ L, y.length = n) (hi : i < L.length) (hr : r.length = n) :
  setL (L.flatten.map f) (i * n) (r.map f) = ((L.set i r).flatten).map f := by
 have e1 : L = L.take i ++ L[i] :: L.drop (i + 1) := by rw [List.getElem_cons_drop, List.take_append_drop]
 have hA : (L.take i).flatten.length = i * n := by rw [flat_len (n := n) fun y hy => hL y (List.mem_of_mem_take hy), List.length_take, Nat.min_eq_left (by omega)]
 have hx : (L[i]).length = n := hL _ (List.getElem_mem _)
 have e2 : L.flatten = (L.take i).flatten ++ (L[i] ++ (L.drop (i + 1)).flatten) := by
  rw [← List.flatten_cons, ← List.flatten_append, ← e1]
 have e3 : (L.set i r).flatten = (L.take i).flatten ++ (r ++ (L.drop (i + 1)).flatten) := by
  rw [List.set_eq_take_append_cons_drop, if_pos hi, List.flatten_append, List.flatten_cons]
 rw [e3, e2, ← List.append_assoc, ← List.append_assoc, List.map_append, List.map_append, List.map_append, List.map_append]
 exact setL_mid (by rw [List.length_map, hA]) (by rw [List.length_map, List.length_map, hx, hr])
section
variable {P : Program} {T : Tab} (H : TabOk P T) {E : Env} {M : Mem} {n' i' : Nat} {ty : TypeId} {ps : String} {af : Array Edge} {g : Option (Nat × Bool)} {ops : Array Oper} {os : List Oper} {D : List Eff → Prop} {K : ASt → Prop}
include H
theorem AWo.storeRow {α : Type} {t : TypeId} {a x : Operand} {id o i n es : Nat} {L : List (List α)} {r : List α} {f : α → Value} (ho : o = i * n) (ha : aev E a = some (.pointer (some ⟨id, o, none⟩))) (hx : aev E x = some (.agg (r.map f).toArray))
  (hb : M id = some ⟨L.flatten.map f, true, es⟩) (hs : T.sz.lookup t = some n) (hr : r.length = n) (hL : ∀ y ∈ L, y.length = n) (hi : i < L.length) (hone : ∀ y, (f y).oneCell' = true)
  (hw : wantA ops E ⟨none, .store t a x, ty, ps, af, g⟩ = some true)
  (hr' : AWo P ops n' (i' + 1) os ⟨E, upd M id ⟨((L.set i r).flatten).map f, true, es⟩⟩ (fun es' => D (⟨[id], [(id, ⟨((L.set i r).flatten).map f, true, es⟩)]⟩ :: es')) K) :
  AWo P ops n' i' (⟨none, .store t a x, ty, ps, af, g⟩ :: os) ⟨E, M⟩ D K := by
 subst ho
 have hc : (Value.agg (r.map f).toArray).cells = (r.map f).toArray := rfl
 have hle : i * n + n ≤ L.length * n := by rw [← Nat.succ_mul]; exact Nat.mul_le_mul_right _ hi
 exact AWo.store H ha hx hb rfl (by rw [hc, hs]; simp [hr]) (by rw [hc]; simp only [List.size_toArray, List.length_map, hr, flat_len hL]; exact hle) (by rw [hc]; simpa using fun y _ => hone y) (by rw [hc]; exact setL_row hL hi hr) hw hr'
end
def prows (i : Nat) : List (List Nat) := (List.range 9).map fun j => if j < i then digs 4294967296 9 (21888242871839275222246405745257275088548364400416034343698204186575808495617 * 2 ^ j) else List.replicate 9 0
theorem prow_len (i : Nat) : (prows i).length = 9 := by simp [prows]
theorem prow_nine (i : Nat) : ∀ y ∈ prows i, y.length = 9 := fun y hy => by
  obtain ⟨j, _, rfl⟩ := List.mem_map.1 hy
  split
  · exact digs_len _ _
  · simp
theorem prow_get {i j : Nat} (hj : j < 9) (hi : j < i) : (prows i).getD j [] = digs 4294967296 9 (21888242871839275222246405745257275088548364400416034343698204186575808495617 * 2 ^ j) := by
  rw [prows, List.getD_eq_getElem?_getD, List.getElem?_map, List.getElem?_range hj]
  simp [hi]
theorem prow_room {i j : Nat} (hj : j < 9) : 0 + j * 9 + 9 ≤ (((prows i).flatten).map (vi .u64)).length := by
  rw [List.length_map, flat_len (prow_nine i), prow_len]; omega
theorem prow_at {i j : Nat} (hj : j < 9) (hi : j < i) : ((((prows i).flatten).map (vi .u64)).drop (0 + j * 9)).take 9 = (digs 4294967296 9 (21888242871839275222246405745257275088548364400416034343698204186575808495617 * 2 ^ j)).map (vi .u64) := by
  rw [Nat.zero_add, flat_take_map (prow_nine i) (by rw [prow_len]; exact hj), prow_get hj hi]
theorem prow_next {i : Nat} (_ : i < 8) : (prows (i + 1)).set (i + 1) (digs 4294967296 9 (256 * 0 + 2 * (21888242871839275222246405745257275088548364400416034343698204186575808495617 * 2 ^ i))) = prows (i + 1 + 1) := by
  have e : 256 * 0 + 2 * (21888242871839275222246405745257275088548364400416034343698204186575808495617 * 2 ^ i) = 21888242871839275222246405745257275088548364400416034343698204186575808495617 * 2 ^ (i + 1) := by rw [Nat.pow_succ]; omega
  rw [e]
  refine List.ext_getElem (by simp [prows]) fun k h1 h2 => ?_
  simp only [prows, List.getElem_set, List.getElem_map, List.getElem_range]
  by_cases hk : i + 1 = k
  · rw [if_pos hk, if_pos (by omega), hk]
  · rw [if_neg hk]
    by_cases hk2 : k < i + 1
    · rw [if_pos hk2, if_pos (by omega)]
    · rw [if_neg hk2, if_neg (by omega)]
theorem prow_pow {i : Nat} : i ≤ 8 → 21888242871839275222246405745257275088548364400416034343698204186575808495617 * 2 ^ i ≤ 21888242871839275222246405745257275088548364400416034343698204186575808495617 * 256 := fun h => Nat.mul_le_mul_left _ (show 2 ^ i ≤ 2 ^ 8 from Nat.pow_le_pow_right (by decide) h)
theorem ld9 {l : List Nat} (h : l.length = 9) : ((l.map (vi .u64)).drop 0).take 9 = l.map (vi .u64) := List.take_of_length_le (by simp [h])
theorem at_digs8 {v i : Nat} (hi : i < 32) : ((digs 256 32 v).map (vi .u8))[i]? = some (vi .u8 (v / 256 ^ i % 256)) := by
  rw [List.getElem?_map, ← digs_getD (n := 32) (by decide) hi, List.getD_eq_getElem?_getD, List.getElem?_eq_getElem (by rw [digs_len]; exact hi)]
  rfl
theorem mul_byte {x y r N : Nat} : (256 * (x / 256 ^ (r + 1) * y % N) + x / 256 ^ r % 256 * y) % N = x / 256 ^ r * y % N := by
  have e : x / 256 ^ r = 256 * (x / 256 ^ (r + 1)) + x / 256 ^ r % 256 := by
    rw [Nat.pow_succ, ← Nat.div_div_eq_div_mul]
    omega
  generalize x / 256 ^ r % 256 = b at *
  generalize x / 256 ^ (r + 1) = v at *
  rw [e, Nat.add_mod, Nat.mul_mod_mod, ← Nat.add_mod, Nat.add_mul, Nat.mul_assoc]
theorem dl9 {x : Nat} (h : x < 21888242871839275222246405745257275088548364400416034343698204186575808495617 * 2) : (D 4294967296 x).length ≤ 9 := (D_len_le (by decide) _ _).2 (Nat.lt_of_lt_of_le h (by decide))
theorem lenP : (D 4294967296 21888242871839275222246405745257275088548364400416034343698204186575808495617).length < 100000000 := by rw [p02_digs]; decide
theorem subDz_ctr {x y z : Nat} (hz : z = x - y) (hlx : (D 4294967296 x).length < 100000000) (hly : (D 4294967296 y).length < 100000000) (h : y ≤ x) : GC Tryz.prog 47 [.slice (some ⟨0, 0, none⟩) (D 4294967296 x).length 0, .slice (some ⟨1, 0, none⟩) (D 4294967296 y).length 0] [⟨(D 4294967296 x).map (vi .u64), false, 1⟩, ⟨(D 4294967296 y).map (vi .u64), false, 1⟩] [.slice (some ⟨2, 0, none⟩) (D 4294967296 (z)).length 0] [⟨(D 4294967296 x).map (vi .u64), false, 1⟩, ⟨(D 4294967296 y).map (vi .u64), false, 1⟩, ⟨(D 4294967296 (z)).map (vi .u64), true, 1⟩] := by
 subst hz
 exact subD_ctr hlx hly h
set_option maxRecDepth 10000 in
theorem p02D_ctr : GC Tryz.prog 38 [] [] [.slice (some ⟨0, 0, none⟩) (D 4294967296 (21888242871839275222246405745257275088548364400416034343698204186575808495617)).length 0] [⟨(D 4294967296 (21888242871839275222246405745257275088548364400416034343698204186575808495617)).map (vi .u64), true, 1⟩] := by
 refine gi Tryz.func38 ?_
 refine zS ?_
 refine yA ?_
 refine zN (zS ?_)
 refine AWo.buildSlice tbok 2000 [(0, vi .u64 4026531841), (1, vi .u64 1138881939), (2, vi .u64 2042196113), (3, vi .u64 674490440), (4, vi .u64 2172737629), (5, vi .u64 3092268470), (6, vi .u64 3778125865), (7, vi .u64 811880050)] (out := [vi .u64 4026531841, vi .u64 1138881939, vi .u64 2042196113, vi .u64 674490440, vi .u64 2172737629, vi .u64 3092268470, vi .u64 3778125865, vi .u64 811880050]) rfl rfl (by decide) rfl rfl rfl (by decide) rfl rfl rfl rfl rfl ?_
 refine yA ?_
 refine zN (zE ?_)
 rw [p02_digs]
 exact rq [2000] [.tmp 0]
theorem rb4_ctr {x : Nat} (hx : x < 18446744073709551616 ^ 4) : GC Tryz.prog 40 [.slice (some ⟨0, 0, none⟩) 4 0] [⟨(digs 18446744073709551616 4 x).map (vi .u64), false, 1⟩] [.slice (some ⟨1, 0, none⟩) 32 0] [⟨(digs 18446744073709551616 4 x).map (vi .u64), false, 1⟩, ⟨(digs 256 32 x).map (vi .u8), true, 1⟩] := by
 have h := rbytes_ctr (a := digs 18446744073709551616 4 x) (digs_bd (by decide) _ _) (by rw [digs_len]; decide)
 rw [digs_len, num_digs_lt hx] at h
 exact h
set_option maxRecDepth 10000 in
theorem mul02_ctr {x y : Nat} (hx : x < 21888242871839275222246405745257275088548364400416034343698204186575808495617) (hy : y < 21888242871839275222246405745257275088548364400416034343698204186575808495617) : GC Tryz.prog 22 [.slice (some ⟨0, 0, none⟩) (D 4294967296 x).length 0, .slice (some ⟨1, 0, none⟩) (D 4294967296 y).length 0] [⟨(D 4294967296 x).map (vi .u64), false, 1⟩, ⟨(D 4294967296 y).map (vi .u64), false, 1⟩] [.slice (some ⟨2, 0, none⟩) (D 4294967296 (x * y % 21888242871839275222246405745257275088548364400416034343698204186575808495617)).length 0] [⟨(D 4294967296 x).map (vi .u64), false, 1⟩, ⟨(D 4294967296 y).map (vi .u64), false, 1⟩, ⟨(D 4294967296 (x * y % 21888242871839275222246405745257275088548364400416034343698204186575808495617)).map (vi .u64), true, 1⟩] := by
 refine gi Tryz.func22 ?_
 have h9 : ∀ a, a < 21888242871839275222246405745257275088548364400416034343698204186575808495617 * 512 → a < 4294967296 ^ 9 := fun a h => Nat.lt_of_lt_of_le h (by decide)
 refine zS ?_
 refine yA ?_
 refine zN (zS ?_)
 refine yC (p02D_ctr) bd38 [] [13000] ?_
 refine yC (rowOf_ctr (x := 21888242871839275222246405745257275088548364400416034343698204186575808495617) (by decide)) bd37 [(13000, 0)] [] ?_
 refine yP ((PureOp.buildArr tbok [(0, .agg ((digs 4294967296 9 21888242871839275222246405745257275088548364400416034343698204186575808495617).map (vi .u64)).toArray)] rfl rfl rfl (by decide) rfl rfl).mono (v' := .agg (((prows 1).flatten).map (vi .u64)).toArray) (by kernel_rfl)) ?_
 refine yN 6000 1 _ ?_
 refine AWo.storeAllN tbok (vs := ((prows 1).flatten).map (vi .u64)) rfl rfl rfl rfl (by kernel_rfl) (by kernel_rfl) (oneM (fun _ => rfl) _) rfl ?_
 refine zN (zQ (zS ?_))
 refine yA ?_
 refine zN (zB ?_)
 refine AW.loopw (fun mm σ => ∃ i, (i ≤ 8) ∧ mm = 8 - i ∧ σ = ⟨(upd (upd (upd (upd emp 0 (.slice (some ⟨0, 0, none⟩) (D 4294967296 x).length 0)) 1 (.slice (some ⟨1, 0, none⟩) (D 4294967296 y).length 0)) 5 (.pointer (some ⟨6000, 0, none⟩))) 6 (vi .i64 (i + 1))), (upd (upd (upd emp 0 ⟨(D 4294967296 x).map (vi .u64), false, 1⟩) 1 ⟨(D 4294967296 y).map (vi .u64), false, 1⟩) 6000 ⟨((prows (i + 1)).flatten).map (vi .u64), true, 1⟩)⟩) (fm := []) (wk [0, 1, 6000]) ⟨0, by decide, rfl, rfl⟩ ?_
 rintro mm σ ⟨i, hinv, rfl, rfl⟩
 have hpi := prow_pow (i := i)
 refine zQ (zS ?_)
 refine yM ?_
 refine yP (pLt (b := 9)) ?_
 refine zN ?_
 refine zA (fun hb0 => ?_) (fun hb0 => ?_)
 ·
  have hi1 : i + 1 < 9 := by simpa using hb0
  have hi : i < 8 := by omega
  refine zK (zT (zQ (zB (zR ?_))))
  refine yM ?_
  refine yP ((PureOp.buildArr tbok [] rfl rfl rfl (by decide) rfl rfl).mono (v' := .agg ((List.replicate 9 0).map (vi .u64)).toArray) rfl) ?_
  refine yM ?_
  refine yP ((PureOp.subI (b := 1) rfl rfl (by omega) (by omega)).mono (v' := vi .i64 i) rfl) ?_
  refine yP (PureOp.arr tbok rfl rfl rfl rfl (by omega)) ?_
  refine AWo.loadAgg tbok (vs := (digs 4294967296 9 (21888242871839275222246405745257275088548364400416034343698204186575808495617 * 2 ^ i)).map (vi .u64)) rfl rfl rfl rfl (prow_room (by omega)) (prow_at (by omega) (by omega)) rfl rfl ?_
  refine yC (more_ctr (x := 0) (y := 21888242871839275222246405745257275088548364400416034343698204186575808495617 * 2 ^ i) (t := 2) (by decide) (h9 _ (by omega)) (by decide)) bd39 [] [] ?_
  refine yP (PureOp.arr tbok rfl rfl rfl rfl (by omega)) ?_
  refine AWo.storeRow tbok (r := digs 4294967296 9 (256 * 0 + 2 * (21888242871839275222246405745257275088548364400416034343698204186575808495617 * 2 ^ i))) (i := i + 1) (by omega) rfl rfl rfl rfl (digs_len _ _) (prow_nine _) (by rw [prow_len]; omega) (fun _ => rfl) rfl ?_
  rw [prow_next (by omega)]
  refine zN (zL (zT (zR ?_)))
  refine yM ?_
  refine yP (pAdd (b := 1)) ?_
  refine yA ?_
  refine zN (zT ?_)
  exact ⟨8 - (i + 1), [], _, by omega, wk [0, 1, 6000], i + 1, by omega, rfl, rfl⟩
 ·
  obtain rfl : i = 8 := by simp at hb0; omega
  refine zX (zV (zV (zH (zT (zS ?_)))))
  refine yM ?_
  refine yC (wordsD_ctr (x := x) (n := 4) (by decide)) bd41 [(0, 0)] [29000] ?_
  refine yC (rb4_ctr (Nat.lt_of_lt_of_le hx (by decide))) bd40 [(29000, 0)] [30000] ?_
  refine yA ?_
  refine zN (zS ?_)
  refine yP ((PureOp.buildArr tbok [] rfl rfl rfl (by decide) rfl rfl).mono (v' := .agg ((List.replicate 9 0).map (vi .u64)).toArray) rfl) ?_
  refine yN 9000 1 ((List.replicate 9 0).map (vi .u64)) ?_
  refine AWo.storeAllN tbok (vs := (digs 4294967296 9 0).map (vi .u64)) rfl rfl rfl rfl (by rw [List.length_map, digs_len]) (by (simp; done)) (oneM (fun _ => rfl) _) rfl ?_
  refine zN (zS ?_)
  refine yM ?_
  refine yC (rowOf_ctr (x := y) (h9 _ (by omega))) bd37 [(1, 0)] [] ?_
  refine yN 10000 1 ((List.replicate 9 0).map (vi .u64)) ?_
  refine AWo.storeAllN tbok (vs := (digs 4294967296 9 y).map (vi .u64)) rfl rfl rfl rfl (by rw [List.length_map, digs_len]) (by (simp; done)) (oneM (fun _ => rfl) _) rfl ?_
  refine zN (zQ (zS ?_))
  refine yA ?_
  refine zN (zB ?_)
  refine AW.loopw (fun mm σ => ∃ z, ∃ r, (r ≤ 32 ∧ z = x / 256 ^ r * y % 21888242871839275222246405745257275088548364400416034343698204186575808495617) ∧ mm = 1 * r ∧ σ = ⟨(upd (upd (upd (upd (upd emp 5 (.pointer (some ⟨6000, 0, none⟩))) 7 (.slice (some ⟨30000, 0, none⟩) 32 0)) 8 (.pointer (some ⟨9000, 0, none⟩))) 9 (.pointer (some ⟨10000, 0, none⟩))) 10 (vp r)), (upd (upd (upd (upd (upd (upd emp 0 ⟨(D 4294967296 x).map (vi .u64), false, 1⟩) 1 ⟨(D 4294967296 y).map (vi .u64), false, 1⟩) 6000 ⟨((prows 9).flatten).map (vi .u64), true, 1⟩) 30000 ⟨(digs 256 32 x).map (vi .u8), true, 1⟩) 9000 ⟨(digs 4294967296 9 z).map (vi .u64), true, 1⟩) 10000 ⟨(digs 4294967296 9 y).map (vi .u64), true, 1⟩)⟩) (fm := []) (wk [0, 1, 6000, 30000, 9000, 10000]) ⟨0, 32, ⟨Nat.le_refl _, by rw [Nat.div_eq_of_lt (Nat.lt_of_lt_of_le hx (by decide)), Nat.zero_mul]⟩, rfl, rfl⟩ ?_
  rintro mm σ ⟨z, r, ⟨hr0, hz⟩, rfl, rfl⟩
  refine zQ (zS ?_)
  refine yM ?_
  refine yP (PureOp.geP rfl rfl) ?_
  refine zN ?_
  refine zA (fun hb1 => ?_) (fun hb1 => ?_)
  ·
   have hp0 : 0 < r := by simpa using hb1
   obtain ⟨r, rfl⟩ : ∃ q, r = q + 1 := ⟨r - 1, by omega⟩
   rw [vp_succ]
   have hr32 : r < 32 := by omega
   have hzP : z < 21888242871839275222246405745257275088548364400416034343698204186575808495617 := by rw [hz]; exact Nat.mod_lt _ (by decide)
   have hb := Nat.mod_lt (x / 256 ^ r) (show 0 < 256 by decide)
   have hby : x / 256 ^ r % 256 * y ≤ 255 * 21888242871839275222246405745257275088548364400416034343698204186575808495617 := Nat.mul_le_mul (by omega) (Nat.le_of_lt hy)
   have hv : 256 * z + x / 256 ^ r % 256 * y < 21888242871839275222246405745257275088548364400416034343698204186575808495617 * 2 ^ 9 := by omega
   refine zK (zT (zQ (zB ?_)))
   refine AW.seqD mixed ?_
   refine AWo.loadAgg tbok (vs := (digs 4294967296 9 z).map (vi .u64)) rfl rfl rfl rfl (by (simp [digs_len]; done)) (ld9 (digs_len _ _)) rfl rfl ?_
   refine AWo.loadAgg tbok (vs := (digs 4294967296 9 y).map (vi .u64)) rfl rfl rfl rfl (by (simp [digs_len]; done)) (ld9 (digs_len _ _)) rfl rfl ?_
   refine yM ?_
   refine yM ?_
   refine yP pJ ?_
   refine AWo.load tbok (v := vi .u8 (x / 256 ^ r % 256)) rfl rfl rfl (at_digs8 hr32) rfl rfl ?_
   refine yP (PureOp.cvtN tbok 18446744073709551616 rfl rfl rfl (by decide) (by decide) (by omega)) ?_
   refine yC (more_ctr (x := z) (y := y) (t := x / 256 ^ r % 256) (h9 _ (by omega)) (h9 _ (by omega)) (by omega)) bd39 [] [] ?_
   refine AWo.storeAllN tbok (vs := (digs 4294967296 9 (256 * z + x / 256 ^ r % 256 * y)).map (vi .u64)) rfl rfl rfl rfl (by rw [List.length_map, digs_len]) (by (simp [digs_len]; done)) (oneM (fun _ => rfl) _) rfl ?_
   refine zD (zS ?_)
   refine yA ?_
   refine zN (zB ?_)
   refine AW.loopw (fun mm σ => ∃ w, ∃ k, (k ≤ 9 ∧ w = (256 * z + x / 256 ^ r % 256 * y) % (21888242871839275222246405745257275088548364400416034343698204186575808495617 * 2 ^ k)) ∧ mm = 1 * k ∧ σ = ⟨(upd (upd (upd (upd (upd (upd emp 5 (.pointer (some ⟨6000, 0, none⟩))) 7 (.slice (some ⟨30000, 0, none⟩) 32 0)) 8 (.pointer (some ⟨9000, 0, none⟩))) 9 (.pointer (some ⟨10000, 0, none⟩))) 10 (vi .i64 r)) 11 (vp k)), (upd (upd (upd (upd (upd (upd emp 0 ⟨(D 4294967296 x).map (vi .u64), false, 1⟩) 1 ⟨(D 4294967296 y).map (vi .u64), false, 1⟩) 6000 ⟨((prows 9).flatten).map (vi .u64), true, 1⟩) 30000 ⟨(digs 256 32 x).map (vi .u8), true, 1⟩) 9000 ⟨(digs 4294967296 9 w).map (vi .u64), true, 1⟩) 10000 ⟨(digs 4294967296 9 y).map (vi .u64), true, 1⟩)⟩) (fm := []) (wk [0, 1, 6000, 30000, 9000, 10000]) ⟨256 * z + x / 256 ^ r % 256 * y, 9, ⟨Nat.le_refl _, (Nat.mod_eq_of_lt hv).symm⟩, rfl, rfl⟩ ?_
   rintro mm σ ⟨w, k, ⟨hk9, hw0⟩, rfl, rfl⟩
   refine zQ (zS ?_)
   refine yM ?_
   refine yP (PureOp.geP rfl rfl) ?_
   refine zN ?_
   refine zA (fun hb2 => ?_) (fun hb2 => ?_)
   ·
    have hp0 : 0 < k := by simpa using hb2
    obtain ⟨k, rfl⟩ : ∃ q, k = q + 1 := ⟨k - 1, by omega⟩
    rw [vp_succ]
    have hk2 : 21888242871839275222246405745257275088548364400416034343698204186575808495617 * 2 ^ k ≤ 21888242871839275222246405745257275088548364400416034343698204186575808495617 * 256 := Nat.mul_le_mul_left _ (show 2 ^ k ≤ 2 ^ 8 from Nat.pow_le_pow_right (by decide) (by omega))
    have hwv : w < 21888242871839275222246405745257275088548364400416034343698204186575808495617 * 512 := by rw [hw0]; exact Nat.lt_of_le_of_lt (Nat.mod_le _ _) (by omega)
    refine zK (zT (zQ (zB ?_)))
    refine AW.seqD mixed ?_
    refine AWo.loadAgg tbok (vs := (digs 4294967296 9 w).map (vi .u64)) rfl rfl rfl rfl (by (simp [digs_len]; done)) (ld9 (digs_len _ _)) rfl rfl ?_
    refine yM ?_
    refine yP (PureOp.arr tbok rfl rfl rfl rfl (by omega)) ?_
    refine AWo.loadAgg tbok (vs := (digs 4294967296 9 (21888242871839275222246405745257275088548364400416034343698204186575808495617 * 2 ^ k)).map (vi .u64)) rfl rfl rfl rfl (prow_room (by omega)) (prow_at (by omega) (by omega)) rfl rfl ?_
    refine yC (reaches_ctr (x := w) (y := 21888242871839275222246405745257275088548364400416034343698204186575808495617 * 2 ^ k) (h9 _ hwv) (h9 _ (by omega))) bd42 [] [] ?_
    refine zD ?_
    refine zA (fun hb3 => ?_) (fun hb3 => ?_)
    ·
     have hge : 21888242871839275222246405745257275088548364400416034343698204186575808495617 * 2 ^ k ≤ w := by simpa using hb3
     refine AW.draw mixed ?_
     refine AWo.loadAgg tbok (vs := (digs 4294967296 9 w).map (vi .u64)) rfl rfl rfl rfl (by (simp [digs_len]; done)) (ld9 (digs_len _ _)) rfl rfl ?_
     refine yM ?_
     refine yP (PureOp.arr tbok rfl rfl rfl rfl (by omega)) ?_
     refine AWo.loadAgg tbok (vs := (digs 4294967296 9 (21888242871839275222246405745257275088548364400416034343698204186575808495617 * 2 ^ k)).map (vi .u64)) rfl rfl rfl rfl (prow_room (by omega)) (prow_at (by omega) (by omega)) rfl rfl ?_
     refine yC (minus_ctr (x := w) (y := 21888242871839275222246405745257275088548364400416034343698204186575808495617 * 2 ^ k) (h9 _ hwv) hge) bd43 [] [] ?_
     refine AWo.storeAllN tbok (vs := (digs 4294967296 9 (w - 21888242871839275222246405745257275088548364400416034343698204186575808495617 * 2 ^ k)).map (vi .u64)) rfl rfl rfl rfl (by rw [List.length_map, digs_len]) (by (simp [digs_len]; done)) (oneM (fun _ => rfl) _) rfl ?_
     refine zD (zL (zT (zR ?_)))
     refine yM ?_
     refine yP (PureOp.subP rfl rfl (by omega)) ?_
     refine yA ?_
     refine zN (zT ?_)
     exact ⟨1 * k, [], _, by omega, wk [0, 1, 6000, 30000, 9000, 10000], w - 21888242871839275222246405745257275088548364400416034343698204186575808495617 * 2 ^ k, k, ⟨by omega, mod_hi hw0 hge⟩, rfl, rfl⟩
    ·
     have hlt : w < 21888242871839275222246405745257275088548364400416034343698204186575808495617 * 2 ^ k := by simpa using hb3
     refine zK (zL (zT (zR ?_)))
     refine yM ?_
     refine yP (PureOp.subP rfl rfl (by omega)) ?_
     refine yA ?_
     refine zN (zT ?_)
     exact ⟨1 * k, [], _, by omega, wk [0, 1, 6000, 30000, 9000, 10000], w, k, ⟨by omega, mod_lo hw0 hlt⟩, rfl, rfl⟩
   ·
    obtain rfl : k = 0 := by simpa using hb2
    have hw : w = x / 256 ^ r * y % 21888242871839275222246405745257275088548364400416034343698204186575808495617 := by rw [hw0, hz, Nat.pow_zero, Nat.mul_one]; exact mul_byte
    refine zX (zV (zV (zH (zL (zT (zR ?_))))))
    refine yM ?_
    refine yP (PureOp.subP rfl rfl (by omega)) ?_
    refine yA ?_
    refine zN (zT ?_)
    exact ⟨1 * r, [], _, by omega, wk [0, 1, 6000, 30000, 9000, 10000], w, r, ⟨by omega, hw⟩, rfl, rfl⟩
  ·
   obtain rfl : r = 0 := by simpa using hb1
   rw [Nat.pow_zero, Nat.div_one] at hz
   have hzP : z < 21888242871839275222246405745257275088548364400416034343698204186575808495617 := by rw [hz]; exact Nat.mod_lt _ (by decide)
   have hnz : num 4294967296 (digs 4294967296 9 z) = z := num_digs_lt (h9 _ (by omega))
   have hdz := digs_len (B := 4294967296) 9 z
   rw [← hz]
   refine zX (zV (zV (zH (zT (zS ?_)))))
   refine AWo.buildSlice tbok 60000 [] (out := []) rfl rfl (by decide) rfl rfl rfl (by decide) rfl rfl rfl rfl rfl ?_
   refine AWo.sliceA tbok rfl .none .none rfl rfl rfl rfl (by decide) (by decide) (.inl rfl) (by (simp; omega)) rfl rfl rfl ?_
   refine AWo.append tbok (all := (digs 4294967296 9 z).map (vi .u64)) 62000 rfl rfl rfl rfl (by rfl) rfl (by (simp; omega)) (by decide) rfl rfl rfl (by decide) rfl rfl rfl (by decide) (by decide) rfl rfl rfl rfl ?_
   refine yC (trim_ctr (a := digs 4294967296 9 z) (v := z) (n := 0 + 9) (digs_bd (by decide) _ _) hnz (digs_len _ _) (by rw [digs_len]; decide)) bd44 [(62000, 0)] [] ?_
   refine yA ?_
   refine zN (zE ?_)
   exact rq [62000] [.tmp 4] (hb := (OutL.flat rfl (by exact flatM flat_vi) (by intro h; exact h.elim id fun h => absurd h.1 (by simp)) (OutL.flat rfl (by exact flatM flat_vi) (by intro h; exact h.elim id fun h => absurd h.1 (by simp)) (OutL.part rfl (dpart (by decide) (digs_bd (by decide) 9 z) hnz) (flatM flat_vi) (fun _ => rfl) (dpart_len (by decide) (digs_bd (by decide) 9 z) hnz) trivial))))
set_option maxRecDepth 10000 in
theorem mod02_ctr {x : Nat} (hlx : (D 4294967296 x).length < 1000000) : GC Tryz.prog 65 [.slice (some ⟨0, 0, none⟩) (D 4294967296 x).length 0] [⟨(D 4294967296 x).map (vi .u64), false, 1⟩] [.slice (some ⟨1, 0, none⟩) (D 4294967296 (x % 21888242871839275222246405745257275088548364400416034343698204186575808495617)).length 0] [⟨(D 4294967296 x).map (vi .u64), false, 1⟩, ⟨(D 4294967296 (x % 21888242871839275222246405745257275088548364400416034343698204186575808495617)).map (vi .u64), true, 1⟩] := by
 refine gi Tryz.func65 ?_
 refine zS ?_
 refine yA ?_
 refine zN (zS ?_)
 refine yM ?_
 refine yC (p02D_ctr) bd38 [] [5000] ?_
 refine yC (modD_ctr (x := x) (N := 21888242871839275222246405745257275088548364400416034343698204186575808495617) (by decide) hlx (by rw [p02_digs]; decide)) bd84 [(0, 0), (5000, 0)] [6000] ?_
 refine yA ?_
 refine zN (zE ?_)
 exact rq [6000] [.tmp 2]
set_option maxRecDepth 10000 in
theorem add02_ctr {x y : Nat} (hx : x < 21888242871839275222246405745257275088548364400416034343698204186575808495617) (hy : y < 21888242871839275222246405745257275088548364400416034343698204186575808495617) : GC Tryz.prog 23 [.slice (some ⟨0, 0, none⟩) (D 4294967296 x).length 0, .slice (some ⟨1, 0, none⟩) (D 4294967296 y).length 0] [⟨(D 4294967296 x).map (vi .u64), false, 1⟩, ⟨(D 4294967296 y).map (vi .u64), false, 1⟩] [.slice (some ⟨2, 0, none⟩) (D 4294967296 ((x + y) % 21888242871839275222246405745257275088548364400416034343698204186575808495617)).length 0] [⟨(D 4294967296 x).map (vi .u64), false, 1⟩, ⟨(D 4294967296 y).map (vi .u64), false, 1⟩, ⟨(D 4294967296 ((x + y) % 21888242871839275222246405745257275088548364400416034343698204186575808495617)).map (vi .u64), true, 1⟩] := by
 refine gi Tryz.func23 ?_
 refine zS ?_
 refine yA ?_
 refine zN (zS ?_)
 refine yM ?_
 refine yM ?_
 refine yC (addD_ctr (x := x) (y := y) (Nat.lt_of_le_of_lt (dl9 (by omega)) (by decide)) (Nat.lt_of_le_of_lt (dl9 (by omega)) (by decide))) bd45 [(0, 0), (1, 0)] [9000] ?_
 refine yA ?_
 refine zN (zQ (zS ?_))
 refine yM ?_
 refine yC (p02D_ctr) bd38 [] [11000] ?_
 refine yC (cmpD_ctr (x := x + y) (y := 21888242871839275222246405745257275088548364400416034343698204186575808495617) (Nat.lt_of_le_of_lt (dl9 (by omega)) (by decide)) lenP) bd46 [(9000, 0), (11000, 0)] [] ?_
 refine yP (PureOp.bin rfl rfl rfl) ?_
 refine zN ?_
 refine zA (fun hb0 => ?_) (fun hb0 => ?_)
 ·
  have hge : 21888242871839275222246405745257275088548364400416034343698204186575808495617 ≤ x + y := ge_of_cmp (by simpa using hb0)
  obtain ⟨z, hz⟩ : ∃ z, z = x + y - 21888242871839275222246405745257275088548364400416034343698204186575808495617 := ⟨_, rfl⟩
  rw [show (x + y) % 21888242871839275222246405745257275088548364400416034343698204186575808495617 = z by omega]
  refine zS ?_
  refine yM ?_
  refine yC (p02D_ctr) bd38 [] [15000] ?_
  refine yC (subDz_ctr (x := x + y) (y := 21888242871839275222246405745257275088548364400416034343698204186575808495617) (z := z) hz (Nat.lt_of_le_of_lt (dl9 (by omega)) (by decide)) lenP hge) bd47 [(9000, 0), (15000, 0)] [16000] ?_
  refine yA ?_
  refine zN (zE (zU ?_))
  exact rq [16000] [.tmp 4]
 ·
  have hlt : x + y < 21888242871839275222246405745257275088548364400416034343698204186575808495617 := lt_of_cmp (by simpa using hb0)
  rw [Nat.mod_eq_of_lt hlt]
  refine zK (zT (zS ?_))
  refine yM ?_
  refine yA ?_
  refine zN (zE ?_)
  exact rq [9000] [.tmp 4]
set_option maxRecDepth 10000 in
theorem sub02_ctr {x y : Nat} (hx : x < 21888242871839275222246405745257275088548364400416034343698204186575808495617) (hy : y < 21888242871839275222246405745257275088548364400416034343698204186575808495617) : GC Tryz.prog 29 [.slice (some ⟨0, 0, none⟩) (D 4294967296 x).length 0, .slice (some ⟨1, 0, none⟩) (D 4294967296 y).length 0] [⟨(D 4294967296 x).map (vi .u64), false, 1⟩, ⟨(D 4294967296 y).map (vi .u64), false, 1⟩] [.slice (some ⟨2, 0, none⟩) (D 4294967296 ((x + (21888242871839275222246405745257275088548364400416034343698204186575808495617 - y)) % 21888242871839275222246405745257275088548364400416034343698204186575808495617)).length 0] [⟨(D 4294967296 x).map (vi .u64), false, 1⟩, ⟨(D 4294967296 y).map (vi .u64), false, 1⟩, ⟨(D 4294967296 ((x + (21888242871839275222246405745257275088548364400416034343698204186575808495617 - y)) % 21888242871839275222246405745257275088548364400416034343698204186575808495617)).map (vi .u64), true, 1⟩] := by
 refine gi Tryz.func29 ?_
 refine zS ?_
 refine yA ?_
 refine zN (zQ (zS ?_))
 refine yM ?_
 refine yM ?_
 refine yC (cmpD_ctr (x := x) (y := y) (Nat.lt_of_le_of_lt (dl9 (by omega)) (by decide)) (Nat.lt_of_le_of_lt (dl9 (by omega)) (by decide))) bd46 [(0, 0), (1, 0)] [] ?_
 refine yP (PureOp.bin rfl rfl rfl) ?_
 refine zN ?_
 refine zA (fun hb0 => ?_) (fun hb0 => ?_)
 ·
  have hge : y ≤ x := ge_of_cmp (by simpa using hb0)
  rw [show (x + (21888242871839275222246405745257275088548364400416034343698204186575808495617 - y)) % 21888242871839275222246405745257275088548364400416034343698204186575808495617 = x - y by omega]
  refine zS ?_
  refine yM ?_
  refine yM ?_
  refine yC (subD_ctr (x := x) (y := y) (Nat.lt_of_le_of_lt (dl9 (by omega)) (by decide)) (Nat.lt_of_le_of_lt (dl9 (by omega)) (by decide)) hge) bd47 [(0, 0), (1, 0)] [12000] ?_
  refine yA ?_
  refine zN (zE (zU ?_))
  exact rq [12000] [.tmp 4]
 ·
  have hlt : x < y := lt_of_cmp (by simpa using hb0)
  rw [show (x + (21888242871839275222246405745257275088548364400416034343698204186575808495617 - y)) % 21888242871839275222246405745257275088548364400416034343698204186575808495617 = x + 21888242871839275222246405745257275088548364400416034343698204186575808495617 - y by omega]
  refine zK (zT (zS ?_))
  refine yM ?_
  refine yC (p02D_ctr) bd38 [] [14000] ?_
  refine yC (addD_ctr (x := x) (y := 21888242871839275222246405745257275088548364400416034343698204186575808495617) (Nat.lt_of_le_of_lt (dl9 (by omega)) (by decide)) lenP) bd45 [(0, 0), (14000, 0)] [15000] ?_
  refine yM ?_
  refine yC (subD_ctr (x := x + 21888242871839275222246405745257275088548364400416034343698204186575808495617) (y := y) (Nat.lt_of_le_of_lt (dl9 (by omega)) (by decide)) (Nat.lt_of_le_of_lt (dl9 (by omega)) (by decide)) (by omega)) bd47 [(15000, 0), (1, 0)] [17000] ?_
  refine yA ?_
  refine zN (zE ?_)
  exact rq [17000] [.tmp 4]
set_option maxRecDepth 10000 in
theorem bytes02_ctr {x : Nat} (hx : x < 18446744073709551616 ^ 4) : GC Tryz.prog 25 [.slice (some ⟨0, 0, none⟩) (D 4294967296 x).length 0] [⟨(D 4294967296 x).map (vi .u64), false, 1⟩] [.slice (some ⟨1, 0, none⟩) 32 0] [⟨(D 4294967296 x).map (vi .u64), false, 1⟩, ⟨(digs 256 32 x).map (vi .u8), true, 1⟩] := by
 refine gi Tryz.func25 ?_
 refine zS ?_
 refine yA ?_
 refine zN (zS ?_)
 refine yM ?_
 refine yC (wordsD_ctr (x := x) (n := 4) (by decide)) bd41 [(0, 0)] [5000] ?_
 refine yC (rb4_ctr hx) bd40 [(5000, 0)] [6000] ?_
 refine yA ?_
 refine zN (zE ?_)
 exact rq [6000] [.tmp 2]
end Go.Proofs.YteeifahhejangaaGreatDoor
namespace Go.Proofs.YteeifahhejangaaGreatDoor
open Go Sim
def pw : List Nat := digs 18446744073709551616 4 21888242871839275222246405745257275088548364400416034343698204186575808495617
theorem pw_len : pw.length = 4 := digs_len _ _
theorem pw_num : num 18446744073709551616 pw = 21888242871839275222246405745257275088548364400416034343698204186575808495617 := num_digs_lt (by decide)
theorem pw_bd : bd 18446744073709551616 pw := digs_bd (by decide) _ _
theorem pwOk : MwOk pw := ⟨pw_bd, by rw [pw_len]; decide, by rw [pw_len]; decide, by rw [pw_num]; decide⟩
theorem pw_0 : pw.getD 0 0 = 4891460686036598785 := by kernel_rfl
theorem pw_3 : pw.getD (pw.length - 1) 0 = 3486998266802970665 := by rw [pw_len]; kernel_rfl
theorem newP_ctr : GC Tryz.prog 81 [.slice (some ⟨0, 0, none⟩) pw.length 0] [⟨pw.map (vi .u64), false, 1⟩] [.pointer (some ⟨1, 0, none⟩), .int .i64 0] [⟨pw.map (vi .u64), false, 1⟩, ⟨[.slice (some ⟨2, 0, none⟩) pw.length 0, vi .u64 (ninvR (pw.getD 0 0)), .slice (some ⟨3, 0, none⟩) pw.length 0], true, 1⟩, ⟨(pw).map (vi .u64), true, 1⟩, ⟨(digs 18446744073709551616 pw.length (18446744073709551616 ^ pw.length * 18446744073709551616 ^ pw.length % num 18446744073709551616 pw)).map (vi .u64), true, 1⟩] := lnew_ctr pw_bd (by rw [pw_len]; decide) (by rw [pw_len]; decide) (by rw [pw_0]) (by rw [pw_3]; decide) (by rw [pw_len]; decide)
theorem redP_ctr {a : List Nat} {sq : List Nat} {iv ns na xa : Nat} (hna : a.length = na) (hxa : num 18446744073709551616 a = xa) (ha : bd 18446744073709551616 a) (hla : na ≤ 1000) : GC Tryz.prog 82 [.pointer (some ⟨0, 0, none⟩), .slice (some ⟨3, 0, none⟩) na 0] [⟨[.slice (some ⟨1, 0, none⟩) pw.length 0, vi .u64 iv, .slice (some ⟨2, 0, none⟩) ns 0], false, 1⟩, ⟨(pw).map (vi .u64), false, 1⟩, ⟨(sq).map (vi .u64), false, 1⟩, ⟨a.map (vi .u64), false, 1⟩] [.slice (some ⟨4, 0, none⟩) 4 0] [⟨[.slice (some ⟨1, 0, none⟩) pw.length 0, vi .u64 iv, .slice (some ⟨2, 0, none⟩) ns 0], false, 1⟩, ⟨(pw).map (vi .u64), false, 1⟩, ⟨(sq).map (vi .u64), false, 1⟩, ⟨a.map (vi .u64), false, 1⟩, ⟨(digs 18446744073709551616 4 (xa % 21888242871839275222246405745257275088548364400416034343698204186575808495617)).map (vi .u64), true, 1⟩] := by
 have h := reduce_ctr (mw := pw) (iv := iv) (sq := sq) (ns := ns) pwOk ha (by omega)
 rw [pw_len, pw_num, hna, hxa] at h
 rw [pw_len]
 exact h
theorem rest4 {x : Nat} : num 18446744073709551616 (digs 18446744073709551616 4 (x % 21888242871839275222246405745257275088548364400416034343698204186575808495617)) = x % 21888242871839275222246405745257275088548364400416034343698204186575808495617 := num_digs_lt (Nat.lt_trans (Nat.mod_lt _ (by decide)) (by decide))
theorem inv_words {e : Nat} (he : e = 21888242871839275222246405745257275088548364400416034343698204186575808495617 - 2) : (digs 18446744073709551616 4 21888242871839275222246405745257275088548364400416034343698204186575808495617).set 0 4891460686036598783 = digs 18446744073709551616 4 e := by subst he; kernel_rfl
theorem emulP_ctr {u v : Nat} : GC Tryz.prog 34 [.agg ((fel u).map (vi .u64)).toArray, .agg ((fel v).map (vi .u64)).toArray] [] [.agg ((fel (u * v % 21888242871839275222246405745257275088548364400416034343698204186575808495617)).map (vi .u64)).toArray] [] := by
 have h := emul_ctr (u := u) (v := v)
 rw [← fel_mod (u * v)] at h
 exact h
theorem add_fel {u v : Nat} : digs 18446744073709551616 4 (num 18446744073709551616 (digs 18446744073709551616 4 (num 18446744073709551616 (fel u) + num 18446744073709551616 (fel v))) % 21888242871839275222246405745257275088548364400416034343698204186575808495617) = fel ((u + v) % 21888242871839275222246405745257275088548364400416034343698204186575808495617) := by
 have h1 := fel_lt u
 have h2 := fel_lt v
 rw [num_digs_lt (by omega), num_fel, num_fel, fel_mod, fel, ← Nat.add_mod, Nat.add_mul]
theorem sub_fel {u v : Nat} (hv : v < 21888242871839275222246405745257275088548364400416034343698204186575808495617) : (u + (21888242871839275222246405745257275088548364400416034343698204186575808495617 - v)) * 18446744073709551616 ^ 4 % 21888242871839275222246405745257275088548364400416034343698204186575808495617 = (num 18446744073709551616 (fel u) + (21888242871839275222246405745257275088548364400416034343698204186575808495617 - num 18446744073709551616 (fel v))) % 21888242871839275222246405745257275088548364400416034343698204186575808495617 := by
 have h1 := fel_lt u
 have h2 := fel_lt v
 have h3 : ((u + (21888242871839275222246405745257275088548364400416034343698204186575808495617 - v)) * 18446744073709551616 ^ 4 % 21888242871839275222246405745257275088548364400416034343698204186575808495617 + num 18446744073709551616 (fel v)) % 21888242871839275222246405745257275088548364400416034343698204186575808495617 = num 18446744073709551616 (fel u) := by
  rw [num_fel, num_fel, ← Nat.add_mod, ← Nat.add_mul, show u + (21888242871839275222246405745257275088548364400416034343698204186575808495617 - v) + v = u + 21888242871839275222246405745257275088548364400416034343698204186575808495617 by omega, Nat.add_mul, Nat.add_mul_mod_self_left]
 have h4 := Nat.mod_lt ((u + (21888242871839275222246405745257275088548364400416034343698204186575808495617 - v)) * 18446744073709551616 ^ 4) (show 0 < 21888242871839275222246405745257275088548364400416034343698204186575808495617 by decide)
 omega
theorem sub_fel_ge {u v : Nat} (hv : v < 21888242871839275222246405745257275088548364400416034343698204186575808495617) (h : num 18446744073709551616 (fel v) ≤ num 18446744073709551616 (fel u)) : digs 18446744073709551616 4 (num 18446744073709551616 (fel u) + 18446744073709551616 ^ 4 - num 18446744073709551616 (fel v)) = fel ((u + (21888242871839275222246405745257275088548364400416034343698204186575808495617 - v)) % 21888242871839275222246405745257275088548364400416034343698204186575808495617) := by
 have h1 := fel_lt u
 refine num_inj (digs_bd (by decide) _ _) (bd_fel _) (by rw [digs_len, fel_len]) ?_
 rw [num_digs, num_fel ((u + (21888242871839275222246405745257275088548364400416034343698204186575808495617 - v)) % 21888242871839275222246405745257275088548364400416034343698204186575808495617), Nat.mod_mul_mod, sub_fel hv]
 omega
theorem sub_fel_lt {u v : Nat} (hv : v < 21888242871839275222246405745257275088548364400416034343698204186575808495617) (h : num 18446744073709551616 (fel u) < num 18446744073709551616 (fel v)) : digs 18446744073709551616 4 (num 18446744073709551616 (digs 18446744073709551616 4 (num 18446744073709551616 (fel u) + 18446744073709551616 ^ 4 - num 18446744073709551616 (fel v))) + num 18446744073709551616 (digs 18446744073709551616 4 21888242871839275222246405745257275088548364400416034343698204186575808495617)) = fel ((u + (21888242871839275222246405745257275088548364400416034343698204186575808495617 - v)) % 21888242871839275222246405745257275088548364400416034343698204186575808495617) := by
 have h1 := fel_lt u
 have h2 := fel_lt v
 refine num_inj (digs_bd (by decide) _ _) (bd_fel _) (by rw [digs_len, fel_len]) ?_
 rw [num_digs, num_fel ((u + (21888242871839275222246405745257275088548364400416034343698204186575808495617 - v)) % 21888242871839275222246405745257275088548364400416034343698204186575808495617), Nat.mod_mul_mod, sub_fel hv, num_digs, num_digs]
 omega
theorem one_word {x : Nat} (hx : x < 18446744073709551616) : digs 18446744073709551616 4 x = [x, 0, 0, 0] := by
 simp only [digs, Nat.mod_eq_of_lt hx, Nat.div_eq_of_lt hx]
set_option maxRecDepth 10000 in
theorem eaddP_ctr {u v : Nat} : GC Tryz.prog 35 [.agg ((fel u).map (vi .u64)).toArray, .agg ((fel v).map (vi .u64)).toArray] [] [.agg ((fel ((u + v) % 21888242871839275222246405745257275088548364400416034343698204186575808495617)).map (vi .u64)).toArray] [] := by
 refine gi Tryz.func35 ?_
 have hd1 := fel_len u
 have hd2 := fel_len v
 have hd3 := fel_len ((u + v) % 21888242871839275222246405745257275088548364400416034343698204186575808495617)
 have h1 := fel_lt u
 have h2 := fel_lt v
 have hds := digs_len (B := 18446744073709551616) 4 (num 18446744073709551616 (fel u) + num 18446744073709551616 (fel v))
 refine zS ?_
 refine yO 3000 1 ((fel u).map (vi .u64)) ?_
 refine yO 4000 1 ((fel v).map (vi .u64)) ?_
 refine yN 5000 1 _ ?_
 refine zN (zS ?_)
 refine yP pF ?_
 refine AWo.loadAgg tbok (vs := (fel u).map (vi .u64)) rfl rfl rfl rfl (by simp [fel_len]) (ld4 (fel_len _)) rfl rfl ?_
 refine yP pF ?_
 refine AWo.loadAgg tbok (vs := (fel v).map (vi .u64)) rfl rfl rfl rfl (by simp [fel_len]) (ld4 (fel_len _)) rfl rfl ?_
 refine yC (plus_ctr (bd_fel u) (bd_fel v) (fel_len u) (fel_len v)) bd61 [] [] ?_
 refine yC (below_ctr (a := digs 18446744073709551616 4 (num 18446744073709551616 (fel u) + num 18446744073709551616 (fel v))) (digs_bd (by decide) _ _) (digs_len _ _) (by rw [num_digs_lt (by omega)]; omega)) bd60 [] [] ?_
 rw [add_fel]
 refine yP (build50 (by exact digs_len _ _) rfl) ?_
 refine ySA ?_
 refine zN (zE ?_)
 exact rq [] [.cell 4 32]
set_option maxRecDepth 10000 in
theorem esubP_ctr {u v : Nat} (hv : v < 21888242871839275222246405745257275088548364400416034343698204186575808495617) : GC Tryz.prog 50 [.agg ((fel u).map (vi .u64)).toArray, .agg ((fel v).map (vi .u64)).toArray] [] [.agg ((fel ((u + (21888242871839275222246405745257275088548364400416034343698204186575808495617 - v)) % 21888242871839275222246405745257275088548364400416034343698204186575808495617)).map (vi .u64)).toArray] [] := by
 refine gi Tryz.func50 ?_
 have hd1 := fel_len u
 have hd2 := fel_len v
 have hd3 := fel_len ((u + (21888242871839275222246405745257275088548364400416034343698204186575808495617 - v)) % 21888242871839275222246405745257275088548364400416034343698204186575808495617)
 have hd4 := digs_len (B := 18446744073709551616) 4 (num 18446744073709551616 (fel u) + 18446744073709551616 ^ 4 - num 18446744073709551616 (fel v))
 have hd5 := digs_len (B := 18446744073709551616) 4 (num 18446744073709551616 (digs 18446744073709551616 4 (num 18446744073709551616 (fel u) + 18446744073709551616 ^ 4 - num 18446744073709551616 (fel v))) + num 18446744073709551616 (digs 18446744073709551616 4 21888242871839275222246405745257275088548364400416034343698204186575808495617))
 have hsub := sub_fel (u := u) hv
 refine zS ?_
 refine yO 3000 1 ((fel u).map (vi .u64)) ?_
 refine yO 4000 1 ((fel v).map (vi .u64)) ?_
 refine yN 5000 1 _ ?_
 refine zN (zS ?_)
 refine yP pF ?_
 refine AWo.loadAgg tbok (vs := (fel u).map (vi .u64)) rfl rfl rfl rfl (by simp [fel_len]) (ld4 (fel_len _)) rfl rfl ?_
 refine yP pF ?_
 refine AWo.loadAgg tbok (vs := (fel v).map (vi .u64)) rfl rfl rfl rfl (by simp [fel_len]) (ld4 (fel_len _)) rfl rfl ?_
 refine yC (borrow_ctr (bd_fel u) (bd_fel v) (fel_len u) (fel_len v)) bd68 [] [] ?_
 refine yM ?_
 refine yP pX ?_
 refine yP pX ?_
 refine yN 6000 1 ((List.replicate 4 0).map (vi .u64)) ?_
 refine ySA ?_
 refine yA ?_
 refine zN (zQ (zS ?_))
 refine yM ?_
 refine yP (pNe (b := 0)) ?_
 refine zN ?_
 refine zA (fun hb0 => ?_) (fun hb0 => ?_)
 ·
  have hlt : num 18446744073709551616 (fel u) < num 18446744073709551616 (fel v) := by
   rcases Nat.lt_or_ge (num 18446744073709551616 (fel u)) (num 18446744073709551616 (fel v)) with h | h
   · exact h
   · rw [if_neg (by omega)] at hb0; simp at hb0
  refine AW.draw mixed ?_
  refine AWo.loadAgg tbok (vs := (digs 18446744073709551616 4 (num 18446744073709551616 (fel u) + 18446744073709551616 ^ 4 - num 18446744073709551616 (fel v))).map (vi .u64)) rfl rfl rfl rfl (by simp [digs_len]) (ld4 (digs_len _ _)) rfl rfl ?_
  refine yC (prime_ctr) bd69 [] [] ?_
  refine yC (plus_ctr (a := digs 18446744073709551616 4 (num 18446744073709551616 (fel u) + 18446744073709551616 ^ 4 - num 18446744073709551616 (fel v))) (b := digs 18446744073709551616 4 21888242871839275222246405745257275088548364400416034343698204186575808495617) (digs_bd (by decide) _ _) (digs_bd (by decide) _ _) (digs_len _ _) (digs_len _ _)) bd61 [] [] ?_
  rw [sub_fel_lt hv hlt]
  refine ySA ?_
  refine zD (zT (zS ?_))
  refine AWo.loadAgg tbok (vs := (fel ((u + (21888242871839275222246405745257275088548364400416034343698204186575808495617 - v)) % 21888242871839275222246405745257275088548364400416034343698204186575808495617)).map (vi .u64)) rfl rfl rfl rfl (by simp [fel_len]) (ld4 (fel_len _)) rfl rfl ?_
  refine yP (build50 (by exact digs_len _ _) rfl) ?_
  refine ySA ?_
  refine zN (zE ?_)
  exact rq [] [.cell 4 32]
 ·
  have hge : num 18446744073709551616 (fel v) ≤ num 18446744073709551616 (fel u) := by
   rcases Nat.lt_or_ge (num 18446744073709551616 (fel u)) (num 18446744073709551616 (fel v)) with h | h
   · rw [if_pos h] at hb0; simp at hb0
   · exact h
  rw [sub_fel_ge hv hge]
  refine zK (zT (zS ?_))
  refine AWo.loadAgg tbok (vs := (fel ((u + (21888242871839275222246405745257275088548364400416034343698204186575808495617 - v)) % 21888242871839275222246405745257275088548364400416034343698204186575808495617)).map (vi .u64)) rfl rfl rfl rfl (by simp [fel_len]) (ld4 (fel_len _)) rfl rfl ?_
  refine yP (build50 (by exact digs_len _ _) rfl) ?_
  refine ySA ?_
  refine zN (zE ?_)
  exact rq [] [.cell 4 32]
set_option maxRecDepth 10000 in
theorem enegP_ctr {v : Nat} (hv : v < 21888242871839275222246405745257275088548364400416034343698204186575808495617) : GC Tryz.prog 55 [.agg ((fel v).map (vi .u64)).toArray] [] [.agg ((fel ((0 + (21888242871839275222246405745257275088548364400416034343698204186575808495617 - v)) % 21888242871839275222246405745257275088548364400416034343698204186575808495617)).map (vi .u64)).toArray] [] := by
 refine gi Tryz.func55 ?_
 have hd1 := fel_len v
 have hd2 := fel_len ((0 + (21888242871839275222246405745257275088548364400416034343698204186575808495617 - v)) % 21888242871839275222246405745257275088548364400416034343698204186575808495617)
 refine zS ?_
 refine yO 2000 1 ((fel v).map (vi .u64)) ?_
 refine yN 3000 1 _ ?_
 refine zN (zS ?_)
 refine yP ((PureOp.buildStruct [] pl32.choose_spec.1 zr32 (by decide) pl32.choose_spec.2 rfl rfl).mono (v' := .agg ((fel 0).map (vi .u64)).toArray) (by rw [fel_zero]; rfl)) ?_
 refine AWo.loadAgg tbok (vs := (fel v).map (vi .u64)) rfl rfl rfl rfl (by simp [fel_len]) (ld4 (fel_len _)) rfl rfl ?_
 refine yC (esubP_ctr (u := 0) (v := v) hv) bd50 [] [] ?_
 refine ySA ?_
 refine zN (zE ?_)
 exact rq [] [.cell 2 32]
set_option maxRecDepth 10000 in
theorem esqP_ctr {v : Nat} : GC Tryz.prog 87 [.agg ((fel v).map (vi .u64)).toArray] [] [.agg ((fel (v * v % 21888242871839275222246405745257275088548364400416034343698204186575808495617)).map (vi .u64)).toArray] [] := by
 refine gi Tryz.func87 ?_
 have hd1 := fel_len v
 have hd2 := fel_len (v * v % 21888242871839275222246405745257275088548364400416034343698204186575808495617)
 refine zS ?_
 refine yO 2000 1 ((fel v).map (vi .u64)) ?_
 refine yN 3000 1 _ ?_
 refine zN (zS ?_)
 refine AWo.loadAgg tbok (vs := (fel v).map (vi .u64)) rfl rfl rfl rfl (by simp [fel_len]) (ld4 (fel_len _)) rfl rfl ?_
 refine AWo.loadAgg tbok (vs := (fel v).map (vi .u64)) rfl rfl rfl rfl (by simp [fel_len]) (ld4 (fel_len _)) rfl rfl ?_
 refine yC (emulP_ctr (u := v) (v := v)) bd34 [] [] ?_
 refine ySA ?_
 refine zN (zE ?_)
 exact rq [] [.cell 2 32]
set_option maxRecDepth 10000 in
theorem fromuP_ctr {x : Nat} (hx : x < 18446744073709551616) : GC Tryz.prog 13 [vi .u64 (x)] [] [.agg ((fel x).map (vi .u64)).toArray] [] := by
 refine gi Tryz.func13 ?_
 have hd1 := fel_len (num 18446744073709551616 (digs 18446744073709551616 4 x))
 have hd2 := fel_len x
 have h4 : x < 18446744073709551616 ^ 4 := Nat.lt_of_lt_of_le hx (by decide)
 refine zS ?_
 refine yN 3000 1 _ ?_
 refine zN (zS ?_)
 refine yM ?_
 refine yP ((PureOp.buildArr tbok [(0, vi .u64 x)] rfl rfl rfl (by decide) rfl rfl).mono (v' := .agg ((digs 18446744073709551616 4 x).map (vi .u64)).toArray) (by rw [one_word hx]; rfl)) ?_
 refine yC (enter_ctr (a := digs 18446744073709551616 4 x) (digs_bd (by decide) _ _) (digs_len _ _) (by rw [num_digs_lt h4]; exact Nat.lt_trans hx (by decide))) bd31 [] [] ?_
 rw [num_digs_lt h4]
 refine ySA ?_
 refine zN (zE ?_)
 exact rq [] [.cell 2 32]
set_option maxRecDepth 10000 in
theorem fromwide_ctr {b : List Nat} (hb : bd 256 b) (hlb : b.length ≤ 1000) : GC Tryz.prog 64 [.slice (some ⟨0, 0, none⟩) b.length 0] [⟨b.map (vi .u8), false, 1⟩] [.agg ((fel (num 256 b % 21888242871839275222246405745257275088548364400416034343698204186575808495617)).map (vi .u64)).toArray] [⟨b.map (vi .u8), false, 1⟩] := by
 refine gi Tryz.func64 ?_
 have h8 := reads_num hb
 have hd4 := fel_len (num 18446744073709551616 (digs 18446744073709551616 4 (num 256 b % 21888242871839275222246405745257275088548364400416034343698204186575808495617)))
 have hl4 := digs_len (B := 18446744073709551616) 4 21888242871839275222246405745257275088548364400416034343698204186575808495617
 refine zS ?_
 refine yN 3000 1 _ ?_
 refine zN (zS ?_)
 refine yC (prime_ctr) bd69 [] [] ?_
 refine yN 4000 1 ((List.replicate 4 0).map (vi .u64)) ?_
 refine ySA ?_
 refine zN (zS ?_)
 refine AWo.sliceA tbok (h := 4) rfl .none .none rfl rfl rfl rfl (by decide) (by decide) (.inl rfl) (by simp [digs_len]) rfl rfl rfl ?_
 refine yC (newP_ctr) bd81 [(4000, 0)] [10000, 10001, 10002] ?_
 refine yM ?_
 refine yP pX ?_
 refine yP pX ?_
 refine yA ?_
 refine yA ?_
 refine zN (zS ?_)
 refine yM ?_
 refine yM ?_
 refine yC (lwords_ctr hb (by omega)) bd83 [(0, 0)] [15000] ?_
 refine yC (redP_ctr (a := digs 18446744073709551616 ((b.length + 7) / 8) (num 256 b)) (na := (b.length + 7) / 8) (xa := num 256 b) (digs_len _ _) h8 (digs_bd (by decide) _ _) (by omega)) bd82 [(10000, 0), (10001, 0), (10002, 0), (15000, 0)] [16000] ?_
 refine yP (PureOp.toArrT tbok rfl rfl (by decide) (by decide)) ?_
 refine AWo.loadAgg tbok (vs := (digs 18446744073709551616 4 (num 256 b % 21888242871839275222246405745257275088548364400416034343698204186575808495617)).map (vi .u64)) rfl rfl rfl rfl (by show 0 + 4 ≤ _; simp [digs_len]) (ld4 (digs_len _ _)) rfl rfl ?_
 refine yC (enter_ctr (a := digs 18446744073709551616 4 (num 256 b % 21888242871839275222246405745257275088548364400416034343698204186575808495617)) (digs_bd (by decide) _ _) (digs_len _ _) (by rw [rest4]; exact Nat.mod_lt _ (by decide))) bd31 [] [] ?_
 refine ySA ?_
 refine zN (zE ?_)
 rw [rest4]
 exact rq [] [.cell 2 32]
set_option maxRecDepth 10000 in
theorem eexp_ctr {v : Nat} {e : List Nat} (hv : v < 21888242871839275222246405745257275088548364400416034343698204186575808495617) (he : bd 18446744073709551616 e) (hle : e.length ≤ 1000) : GC Tryz.prog 70 [.agg ((fel v).map (vi .u64)).toArray, .slice (some ⟨0, 0, none⟩) e.length 0] [⟨e.map (vi .u64), false, 1⟩] [.agg ((fel (v ^ num 18446744073709551616 e % 21888242871839275222246405745257275088548364400416034343698204186575808495617)).map (vi .u64)).toArray] [⟨e.map (vi .u64), false, 1⟩] := by
 refine gi Tryz.func70 ?_
 have hbw := blen_words he
 have hle2 : e.length ≤ 1000 := hle
 have hd4 := fel_len v
 refine zS ?_
 refine yO 3000 1 ((fel v).map (vi .u64)) ?_
 refine yN 5000 1 _ ?_
 refine zN (zS ?_)
 refine yC (fromuP_ctr (x := 1) (by decide)) bd13 [] [] ?_
 refine yN 6000 1 _ ?_
 refine ySA ?_
 refine zN (zQ (zS ?_))
 refine yM ?_
 refine yC (lbits_ctr he (by omega)) bd86 [(0, 0)] [] ?_
 refine yP ((PureOp.subP rfl rfl (by omega)).mono (v' := vp (blen (num 18446744073709551616 e))) (by rfl)) ?_
 refine yA ?_
 refine zN (zB ?_)
 refine AW.loopw (fun mm σ => ∃ z, ∃ r, (r ≤ blen (num 18446744073709551616 e) ∧ z = v ^ (num 18446744073709551616 e / 2 ^ r) % 21888242871839275222246405745257275088548364400416034343698204186575808495617) ∧ mm = 1 * r ∧ σ = ⟨(upd (upd (upd (upd (upd emp 1 (.slice (some ⟨0, 0, none⟩) e.length 0)) 2 (.pointer (some ⟨3000, 0, none⟩))) 4 (.pointer (some ⟨5000, 0, none⟩))) 5 (.pointer (some ⟨6000, 0, none⟩))) 6 (vp r)), (upd (upd (upd (upd emp 0 ⟨(e).map (vi .u64), false, 1⟩) 3000 ⟨(fel v).map (vi .u64), true, 1⟩) 5000 ⟨(List.replicate 4 0).map (vi .u64), true, 1⟩) 6000 ⟨(fel z).map (vi .u64), true, 1⟩)⟩) (fm := []) (wk [0, 3000, 5000, 6000]) ⟨1, blen (num 18446744073709551616 e), ⟨Nat.le_refl _, by rw [num_lt_blen]; rfl⟩, rfl, rfl⟩ ?_
 rintro mm σ ⟨z, r, ⟨hr0, hz⟩, rfl, rfl⟩
 have hdz := fel_len z
 have hdz2 := fel_len (z * z % 21888242871839275222246405745257275088548364400416034343698204186575808495617)
 have hdz3 := fel_len (z * z % 21888242871839275222246405745257275088548364400416034343698204186575808495617 * v % 21888242871839275222246405745257275088548364400416034343698204186575808495617)
 refine zQ (zS ?_)
 refine yM ?_
 refine yP (PureOp.geP rfl rfl) ?_
 refine zN ?_
 refine zA (fun hb0 => ?_) (fun hb0 => ?_)
 ·
  have hp0 : 0 < r := by simpa using hb0
  obtain ⟨r, rfl⟩ : ∃ q, r = q + 1 := ⟨r - 1, by omega⟩
  rw [vp_succ]
  have hal := bit_len he (show r < blen (num 18446744073709551616 e) by omega)
  refine zK (zT (zQ (zB (zS ?_))))
  refine AWo.loadAgg tbok (vs := (fel z).map (vi .u64)) rfl rfl rfl rfl (by simp [fel_len]) (ld4 (fel_len _)) rfl rfl ?_
  refine yC (esqP_ctr (v := z)) bd87 [] [] ?_
  refine ySA ?_
  refine zN (zS ?_)
  refine yM ?_
  refine yM ?_
  refine yP ((PureOp.quoN (b := 64) 9223372036854775808 rfl rfl (by decide) (by decide) (by decide) (by omega)).mono (v' := vi .i64 (r / 64)) rfl) ?_
  refine yP pJ ?_
  refine yL 0 ?_
  refine yM ?_
  refine yP ((PureOp.remN (b := 64) rfl rfl (by decide)).mono (v' := vi .i64 (r % 64)) rfl) ?_
  refine yP (PureOp.shrN (b := r % 64) 64 rfl rfl rfl (by omega)) ?_
  refine yP ((PureOp.andN 18446744073709551616 rfl rfl (by decide) (by decide) (Nat.lt_of_le_of_lt (Nat.div_le_self _ _) (bd_getD he (by decide) _)) (by decide)).mono (v' := vi .u64 (num 18446744073709551616 e / 2 ^ r % 2)) (congrArg (vi .u64) ((Nat.and_one_is_mod _).trans (bit64_at he r)))) ?_
  refine yP (pEq (b := 1)) ?_
  refine zN ?_
  refine zA (fun hb1 => ?_) (fun hb1 => ?_)
  ·
   have hb2 : num 18446744073709551616 e / 2 ^ r % 2 = 1 := by simpa using hb1
   refine zR ?_
   refine AWo.loadAgg tbok (vs := (fel (z * z % 21888242871839275222246405745257275088548364400416034343698204186575808495617)).map (vi .u64)) rfl rfl rfl rfl (by simp [fel_len]) (ld4 (fel_len _)) rfl rfl ?_
   refine AWo.loadAgg tbok (vs := (fel v).map (vi .u64)) rfl rfl rfl rfl (by simp [fel_len]) (ld4 (fel_len _)) rfl rfl ?_
   refine yC (emulP_ctr (u := z * z % 21888242871839275222246405745257275088548364400416034343698204186575808495617) (v := v)) bd34 [] [] ?_
   refine ySA ?_
   refine zN (zL (zT (zR ?_)))
   refine yM ?_
   refine yP (PureOp.subP rfl rfl (by omega)) ?_
   refine yA ?_
   refine zN (zT ?_)
   exact ⟨1 * r, [], _, by omega, wk [0, 3000, 5000, 6000], z * z % 21888242871839275222246405745257275088548364400416034343698204186575808495617 * v % 21888242871839275222246405745257275088548364400416034343698204186575808495617, r, ⟨by omega, by rw [← exp_odd hz hb2, Nat.mod_eq_of_lt hv]⟩, rfl, rfl⟩
  ·
   have hb2 : ¬ num 18446744073709551616 e / 2 ^ r % 2 = 1 := by simpa using hb1
   refine zK (zL (zT (zR ?_)))
   refine yM ?_
   refine yP (PureOp.subP rfl rfl (by omega)) ?_
   refine yA ?_
   refine zN (zT ?_)
   exact ⟨1 * r, [], _, by omega, wk [0, 3000, 5000, 6000], z * z % 21888242871839275222246405745257275088548364400416034343698204186575808495617, r, ⟨by omega, exp_even hz hb2⟩, rfl, rfl⟩
 ·
  obtain rfl : r = 0 := by simpa using hb0
  rw [Nat.pow_zero, Nat.div_one] at hz
  rw [← hz]
  refine zX (zV (zV (zH (zT (zS ?_)))))
  refine AWo.loadAgg tbok (vs := (fel z).map (vi .u64)) rfl rfl rfl rfl (by simp [fel_len]) (ld4 (fel_len _)) rfl rfl ?_
  refine ySA ?_
  refine zN (zE ?_)
  exact rq [] [.cell 4 32]
theorem eexp_ctrN {e : List Nat} {ne xe : Nat} (hne : e.length = ne) (hxe : num 18446744073709551616 e = xe) {v : Nat} (hv : v < 21888242871839275222246405745257275088548364400416034343698204186575808495617) (he : bd 18446744073709551616 e) (hle : e.length ≤ 1000) : GC Tryz.prog 70 [.agg ((fel v).map (vi .u64)).toArray, .slice (some ⟨0, 0, none⟩) ne 0] [⟨e.map (vi .u64), false, 1⟩] [.agg ((fel (v ^ xe % 21888242871839275222246405745257275088548364400416034343698204186575808495617)).map (vi .u64)).toArray] [⟨e.map (vi .u64), false, 1⟩] := by
 subst hne hxe
 exact eexp_ctr hv he hle
set_option maxRecDepth 10000 in
theorem einv_ctr {v e : Nat} (he : e = 21888242871839275222246405745257275088548364400416034343698204186575808495617 - 2) (hv : v < 21888242871839275222246405745257275088548364400416034343698204186575808495617) : GC Tryz.prog 52 [.agg ((fel v).map (vi .u64)).toArray] [] [.agg ((fel (v ^ e % 21888242871839275222246405745257275088548364400416034343698204186575808495617)).map (vi .u64)).toArray] [] := by
 refine gi Tryz.func52 ?_
 have hd4 := fel_len v
 refine zS ?_
 refine yO 2000 1 ((fel v).map (vi .u64)) ?_
 refine yN 3000 1 _ ?_
 refine zN (zS ?_)
 refine yC (prime_ctr) bd69 [] [] ?_
 refine yN 4000 1 ((List.replicate 4 0).map (vi .u64)) ?_
 refine ySA ?_
 refine zN (zS ?_)
 refine yP (pA (j := 0)) ?_
 refine AWo.load tbok (v := vi .u64 4891460686036598785) rfl rfl rfl (by kernel_rfl) rfl rfl ?_
 refine yP ((PureOp.subU (b := 2) 18446744073709551616 rfl rfl rfl rfl (by decide)).mono (v' := vi .u64 4891460686036598783) (congrArg (vi .u64) (by decide))) ?_
 refine yP (pA (j := 0)) ?_
 refine AWo.storeM (f := (vi .u64)) (y := 4891460686036598783) tbok rfl rfl rfl rfl (by rw [digs_len]; decide) rfl rfl ?_
 rw [inv_words he]
 refine zN ?_
 refine AW.seqD mixed ?_
 refine AWo.loadAgg tbok (vs := (fel v).map (vi .u64)) rfl rfl rfl rfl (by simp [fel_len]) (ld4 (fel_len _)) rfl rfl ?_
 refine AWo.sliceA tbok (h := 4) rfl .none .none rfl rfl rfl rfl (by decide) (by decide) (.inl rfl) (by simp [digs_len]) rfl rfl rfl ?_
 refine yC (eexp_ctrN (v := v) (e := digs 18446744073709551616 4 e) (ne := 4) (xe := e) (digs_len _ _) (num_digs_lt (by rw [he]; decide)) hv (digs_bd (by decide) _ _) (by rw [digs_len]; decide)) bd70 [(4000, 0)] [] ?_
 refine ySA ?_
 refine zD (zE ?_)
 exact rq [] [.cell 2 32]
set_option maxRecDepth 10000 in
theorem isT_ctr {v : Nat} (hv : v < 21888242871839275222246405745257275088548364400416034343698204186575808495617) : GC Tryz.prog 9 [.agg ((fel v).map (vi .u64)).toArray, .slice (some ⟨0, 0, none⟩) (D 4294967296 v).length 0] [⟨(D 4294967296 v).map (vi .u64), false, 1⟩] [.bool true] [⟨(D 4294967296 v).map (vi .u64), false, 1⟩] := by
 refine gi Tryz.func9 ?_
 have hd4 := fel_len v
 have hd7 := digs_len (B := 256) 32 v
 refine zS ?_
 refine yO 3000 1 ((fel v).map (vi .u64)) ?_
 refine yA ?_
 refine zN (zS ?_)
 refine AWo.loadAgg tbok (vs := (fel v).map (vi .u64)) rfl rfl rfl rfl (by simp [fel_len]) (ld4 (fel_len _)) rfl rfl ?_
 refine yC (ebytes_ctr hv) bd24 [] [] ?_
 refine yN 6000 1 ((List.replicate 32 0).map (vi .u8)) ?_
 refine ySA ?_
 refine zN ?_
 refine AW.seqD mixed ?_
 refine AWo.sliceA tbok (h := 32) rfl .none .none rfl rfl rfl rfl (by decide) (by decide) (.inl rfl) (by simp [digs_len]) rfl rfl rfl ?_
 refine AWo.bytesStr tbok (digs 256 32 v) rfl rfl (List.take_of_length_le (by simp [digs_len])) (digs_len _ _) rfl Tryz.underlying5 Tryz.underlying9 rfl rfl ?_
 refine yM ?_
 refine yC (bytes02_ctr (Nat.lt_trans hv (by decide))) bd25 [(0, 0)] [12000] ?_
 refine AWo.bytesStr tbok (digs 256 32 v) rfl rfl (List.take_of_length_le (by simp [digs_len])) (digs_len _ _) rfl Tryz.underlying5 Tryz.underlying9 rfl rfl ?_
 refine yP (PureOp.sameStr rfl rfl) ?_
 refine yA ?_
 refine zD (zE ?_)
 exact rq [] [.tmp 4]
end Go.Proofs.YteeifahhejangaaGreatDoor
namespace Go.Proofs.YteeifahhejangaaGreatDoor
def Irr (p : Nat) : Prop := 2 ≤ p ∧ ∀ d, d ∣ p → d = 1 ∨ d = p
theorem Irr.pos {p : Nat} (h : Irr p) : 0 < p := by have := h.1; omega
theorem Irr.coprime {p a : Nat} (h : Irr p) (ha : ¬ p ∣ a) : Nat.Coprime p a := by
  rcases h.2 (Nat.gcd p a) (Nat.gcd_dvd_left p a) with h1 | h1
  · exact h1
  · exact absurd (h1 ▸ Nat.gcd_dvd_right p a) ha
theorem Irr.euclid {p a b : Nat} (h : Irr p) (hd : p ∣ a * b) : p ∣ a ∨ p ∣ b := by
  by_cases ha : p ∣ a
  · exact .inl ha
  · exact .inr ((h.coprime ha).dvd_of_dvd_mul_left hd)
theorem exists_irr : ∀ {n : Nat}, 2 ≤ n → ∃ p, Irr p ∧ p ∣ n := by
  intro n
  induction n using Nat.strongRecOn with
  | _ n ih =>
    intro hn
    by_cases h : ∃ d, d ∣ n ∧ d ≠ 1 ∧ d ≠ n
    · obtain ⟨d, hd, h1, h2⟩ := h
      have hle := Nat.le_of_dvd (by omega) hd
      have h0 : d ≠ 0 := fun e => by subst e; have := Nat.eq_zero_of_zero_dvd hd; omega
      obtain ⟨p, hp, hpd⟩ := ih d (by omega) (by omega)
      exact ⟨p, hp, Nat.dvd_trans hpd hd⟩
    · refine ⟨n, ⟨hn, fun d hd => ?_⟩, Nat.dvd_refl n⟩
      by_cases h1 : d = 1
      · exact .inl h1
      · by_cases h2 : d = n
        · exact .inr h2
        · exact absurd ⟨d, hd, h1, h2⟩ h
theorem irr_of_small {n : Nat} (hn : 2 ≤ n) (h : ∀ p, Irr p → p ∣ n → n < p * p) : Irr n := by
  refine ⟨hn, fun d hd => ?_⟩
  obtain ⟨e, he⟩ := hd
  by_cases h1 : d = 1
  · exact .inl h1
  by_cases h2 : e = 1
  · subst h2; exact .inr (by omega)
  have hd0 : d ≠ 0 := fun e' => by subst e'; omega
  have he0 : e ≠ 0 := fun e' => by subst e'; omega
  obtain ⟨p, hp, a, rfl⟩ := exists_irr (n := d) (by omega)
  obtain ⟨q, hq, b, rfl⟩ := exists_irr (n := e) (by omega)
  exfalso
  have g1 := h p hp ⟨a * (q * b), by rw [he, Nat.mul_assoc]⟩
  have g2 := h q hq ⟨p * a * b, by rw [he]; simp [Nat.mul_comm, Nat.mul_left_comm]⟩
  have ha : a ≠ 0 := fun e' => by subst e'; simp at hd0
  have hb : b ≠ 0 := fun e' => by subst e'; simp at he0
  have g3 : p * q ≤ n := by
    rw [he]
    have : p * q * 1 ≤ p * q * (a * b) := Nat.mul_le_mul_left _ (Nat.mul_pos (by omega) (by omega))
    calc p * q = p * q * 1 := (Nat.mul_one _).symm
      _ ≤ p * q * (a * b) := this
      _ = p * a * (q * b) := by simp [Nat.mul_comm, Nat.mul_left_comm]
  rcases Nat.le_total p q with hle | hle
  · have := Nat.mul_le_mul_left p hle
    omega
  · have := Nat.mul_le_mul_right q hle
    omega
theorem pow_one_mod {a n k : Nat} (h : a % n = 1 % n) : a ^ k % n = 1 % n := by
  rw [Nat.pow_mod, h, ← Nat.pow_mod, Nat.one_pow]
theorem mul_mod_one {a b n : Nat} (ha : a % n = 1 % n) : a * b % n = b % n := by
  rw [Nat.mul_mod, ha, ← Nat.mul_mod, Nat.one_mul]
theorem pow_sub_mod {a n m k : Nat} (hk : a ^ k % n = 1 % n) (hm : a ^ m % n = 1 % n) : a ^ (m % k) % n = 1 % n := by
  have h : a ^ m = (a ^ k) ^ (m / k) * a ^ (m % k) := by
    rw [← Nat.pow_mul, ← Nat.pow_add, Nat.div_add_mod]
  rw [h, mul_mod_one (pow_one_mod hk)] at hm
  exact hm
theorem pow_gcd_mod {a n : Nat} : ∀ (k m : Nat), a ^ k % n = 1 % n → a ^ m % n = 1 % n → a ^ Nat.gcd k m % n = 1 % n := by
  intro k
  induction k using Nat.strongRecOn with
  | _ k ih =>
    intro m hk hm
    by_cases h0 : k = 0
    · subst h0; simpa using hm
    · rw [Nat.gcd_rec]
      exact ih (m % k) (Nat.mod_lt _ (by omega)) k (pow_sub_mod hk hm) hk
theorem dvd_pow_irr {q : Nat} (hq : Irr q) : ∀ {e d : Nat}, d ∣ q ^ e → ∃ j, j ≤ e ∧ d = q ^ j
  | 0, d, h => ⟨0, Nat.le_refl _, by simpa using h⟩
  | e + 1, d, h => by
    by_cases hd : q ∣ d
    · obtain ⟨c, rfl⟩ := hd
      rw [Nat.pow_succ, Nat.mul_comm (q ^ e) q] at h
      obtain ⟨j, hj, rfl⟩ := dvd_pow_irr hq (Nat.dvd_of_mul_dvd_mul_left hq.pos h)
      exact ⟨j + 1, by omega, by rw [Nat.pow_succ, Nat.mul_comm]⟩
    · have hc : Nat.Coprime d q := (hq.coprime hd).symm
      rw [Nat.pow_succ] at h
      obtain ⟨j, hj, rfl⟩ := dvd_pow_irr hq (hc.dvd_of_dvd_mul_right h)
      exact ⟨j, by omega, rfl⟩
def prodL : List Nat → Nat
  | [] => 1
  | x :: l => x * prodL l
theorem prodL_perm {l m : List Nat} (h : l.Perm m) : prodL l = prodL m := by
  induction h with
  | nil => rfl
  | cons x _ ih => simp [prodL, ih]
  | swap x y l => simp [prodL, Nat.mul_left_comm]
  | trans _ _ ih1 ih2 => exact ih1.trans ih2
theorem prodL_map_mod (a p : Nat) : ∀ l : List Nat, prodL (l.map fun i => a * i % p) % p = a ^ l.length * prodL l % p
  | [] => by simp [prodL]
  | x :: l => by
    simp only [List.map_cons, prodL, List.length_cons]
    rw [Nat.mul_mod, prodL_map_mod a p l, Nat.mod_mod, ← Nat.mul_mod, Nat.pow_succ]
    rw [Nat.mul_comm (a ^ l.length) a, Nat.mul_assoc, Nat.mul_assoc, Nat.mul_left_comm x]
theorem nodup_sub_perm {l m : List Nat} (hl : l.Nodup) (hs : ∀ x ∈ l, x ∈ m) (hlen : m.length ≤ l.length) : l.Perm m := by
  induction l generalizing m with
  | nil =>
    have : m = [] := List.length_eq_zero_iff.1 (by simpa using hlen)
    subst this; exact .nil
  | cons x l ih =>
    have hx := hs x (List.mem_cons_self ..)
    have hp := List.perm_cons_erase hx
    refine List.Perm.trans (.cons x (ih (List.nodup_cons.1 hl).2 (fun y hy => ?_) ?_)) hp.symm
    · have hne : y ≠ x := fun e => (List.nodup_cons.1 hl).1 (e ▸ hy)
      exact (List.mem_erase_of_ne hne).2 (hs y (List.mem_cons_of_mem _ hy))
    · rw [List.length_erase_of_mem hx]
      simp only [List.length_cons] at hlen
      omega
theorem prodL_not_dvd {p : Nat} (hp : Irr p) : ∀ {l : List Nat}, (∀ x ∈ l, ¬ p ∣ x) → ¬ p ∣ prodL l
  | [], _ => fun h => by have := Nat.le_of_dvd (by decide) h; have := hp.1; simp [prodL] at *; omega
  | x :: l, h => fun hd => by
    rcases hp.euclid hd with h1 | h1
    · exact h x (List.mem_cons_self ..) h1
    · exact prodL_not_dvd hp (fun y hy => h y (List.mem_cons_of_mem _ hy)) h1
theorem dvd_sub_of_mod {p a b : Nat} (h : a % p = b % p) : p ∣ b - a :=
  Nat.dvd_of_mod_eq_zero (Nat.sub_mod_eq_zero_of_mod_eq h.symm)
theorem mod_of_dvd_sub {p a b : Nat} (hle : a ≤ b) (h : p ∣ b - a) : a % p = b % p := by
  obtain ⟨c, hc⟩ := h
  rw [show b = a + p * c by omega, Nat.add_mul_mod_self_left]
theorem mod_cancel_le {p a b c : Nat} (hc : Nat.Coprime p c) (hab : a ≤ b) (h : c * a % p = c * b % p) : a % p = b % p := by
  have h1 := dvd_sub_of_mod h
  rw [← Nat.mul_sub] at h1
  exact mod_of_dvd_sub hab (hc.dvd_of_dvd_mul_left h1)
theorem mod_cancel {p a b c : Nat} (hc : Nat.Coprime p c) (h : c * a % p = c * b % p) : a % p = b % p := by
  rcases Nat.le_total a b with hab | hab
  · exact mod_cancel_le hc hab h
  · exact (mod_cancel_le hc hab h.symm).symm
theorem fermat {p a : Nat} (hp : Irr p) (ha : ¬ p ∣ a) : a ^ (p - 1) % p = 1 % p := by
  have h2 := hp.1
  let l := List.range' 1 (p - 1)
  have hl : ∀ x ∈ l, 1 ≤ x ∧ x < p := fun x hx => by
    have := List.mem_range'_1.1 hx
    omega
  have hnd : ∀ x ∈ l, ¬ p ∣ x := fun x hx hd => by
    have := Nat.le_of_dvd (by have := hl x hx; omega) hd
    have := hl x hx
    omega
  have hinj : (l.map fun i => a * i % p).Nodup := by
    rw [List.nodup_iff_pairwise_ne, List.pairwise_map]
    refine List.Pairwise.imp_of_mem (fun {x y} hx hy hne he => hne ?_) (List.nodup_iff_pairwise_ne.1 List.nodup_range')
    have := mod_cancel (hp.coprime ha) he
    rwa [Nat.mod_eq_of_lt (hl x hx).2, Nat.mod_eq_of_lt (hl y hy).2] at this
  have hperm : (l.map fun i => a * i % p).Perm l := by
    refine nodup_sub_perm hinj (fun x hx => ?_) (by simp)
    obtain ⟨i, hi, rfl⟩ := List.mem_map.1 hx
    refine List.mem_range'_1.2 ⟨?_, ?_⟩
    · rcases Nat.eq_zero_or_pos (a * i % p) with h0 | h0
      · rcases hp.euclid (Nat.dvd_of_mod_eq_zero h0) with h1 | h1
        · exact absurd h1 ha
        · exact absurd h1 (hnd i hi)
      · omega
    · have := Nat.mod_lt (a * i) hp.pos
      omega
  have h1 := prodL_map_mod a p l
  rw [prodL_perm hperm, List.length_range'] at h1
  have h3 : prodL l * 1 % p = prodL l * a ^ (p - 1) % p := by rw [Nat.mul_one, h1, Nat.mul_comm]
  exact (mod_cancel (hp.coprime (prodL_not_dvd hp hnd)) h3).symm
theorem pock_step {N p q e a : Nat} (hN : 2 ≤ N) (hp : Irr p) (hpN : p ∣ N) (hq : Irr q) (he : 0 < e) (hF : q ^ e ∣ N - 1) (h1 : a ^ (N - 1) % N = 1 % N)
    (h2 : Nat.gcd (a ^ ((N - 1) / q) % N + (N - 1)) N = 1) : q ^ e ∣ p - 1 := by
  have down : ∀ {x : Nat}, x % N = 1 % N → x % p = 1 % p := fun {x} h => by
    rw [← Nat.mod_mod_of_dvd x hpN, h, Nat.mod_mod_of_dvd _ hpN]
  obtain ⟨m, hm⟩ := hF
  have hqe : q ^ e = q * q ^ (e - 1) := by rw [← Nat.pow_succ', Nat.succ_eq_add_one, Nat.sub_add_cancel he]
  have ha : ¬ p ∣ a := fun hd => by
    have h3 := down h1
    have h4 : p ∣ a ^ (N - 1) := Nat.dvd_trans hd ⟨a ^ (N - 2), by rw [← Nat.pow_succ', show (N - 2).succ = N - 1 by omega]⟩
    rw [Nat.mod_eq_zero_of_dvd h4, Nat.mod_eq_of_lt hp.1] at h3
    cases h3
  have hb1 : (a ^ m) ^ (q ^ e) % p = 1 % p := by
    rw [← Nat.pow_mul, Nat.mul_comm, ← hm]
    exact down h1
  have hb2 : (a ^ m) ^ (p - 1) % p = 1 % p := by
    rw [← Nat.pow_mul, Nat.mul_comm, Nat.pow_mul]
    exact pow_one_mod (fermat hp ha)
  have hg := pow_gcd_mod _ _ hb1 hb2
  obtain ⟨j, hj, hgj⟩ := dvd_pow_irr hq (Nat.gcd_dvd_left (q ^ e) (p - 1))
  by_cases hje : j = e
  · subst hje
    exact hgj ▸ Nat.gcd_dvd_right _ _
  · exfalso
    have hdv : q ^ j ∣ q ^ (e - 1) := Nat.pow_dvd_pow q (by omega)
    obtain ⟨c, hc⟩ := hdv
    have h5 : (a ^ m) ^ (q ^ (e - 1)) % p = 1 % p := by
      rw [hc, Nat.pow_mul, ← hgj]
      exact pow_one_mod hg
    have h6 : (N - 1) / q = m * q ^ (e - 1) := by
      rw [hm, hqe, Nat.mul_assoc, Nat.mul_div_cancel_left _ hq.pos, Nat.mul_comm]
    rw [← Nat.pow_mul, ← h6] at h5
    have h7 : p ∣ a ^ ((N - 1) / q) % N + (N - 1) := by
      apply Nat.dvd_of_mod_eq_zero
      rw [Nat.add_mod, Nat.mod_mod_of_dvd _ hpN, h5]
      have : (N - 1) % p = p - 1 := by
        obtain ⟨c', rfl⟩ := hpN
        have hp1 := hp.1
        cases c' with
        | zero => omega
        | succ c' =>
          rw [Nat.mul_succ, Nat.add_sub_assoc (by omega), Nat.mul_add_mod, Nat.mod_eq_of_lt (by omega)]
      rw [this, Nat.mod_eq_of_lt hp.1, Nat.add_sub_cancel' (by have := hp.1; omega), Nat.mod_self]
    have h8 := Nat.dvd_gcd h7 hpN
    rw [h2] at h8
    have := Nat.le_of_dvd (by decide) h8
    have := hp.1
    omega
theorem coprime_pow_irr {p q : Nat} (hp : Irr p) (hq : Irr q) (h : p ≠ q) (e f : Nat) : Nat.Coprime (p ^ e) (q ^ f) := by
  apply Nat.Coprime.pow
  apply hp.coprime
  intro hd
  rcases hq.2 p hd with h1 | h1
  · have := hp.1; omega
  · exact h h1
def powm (n : Nat) : Nat → Nat → Nat → Nat
  | 0, _, _ => 1 % n
  | f + 1, a, e => if e = 0 then 1 % n else
      if e % 2 = 1 then a * powm n f (a * a % n) (e / 2) % n else powm n f (a * a % n) (e / 2)
theorem powm_eq (n : Nat) : ∀ (f a e : Nat), e < 2 ^ f → powm n f a e = a ^ e % n
  | 0, a, e, h => by
    have : e = 0 := by simpa using h
    subst this; simp [powm]
  | f + 1, a, e, h => by
    simp only [powm]
    split
    · rename_i h0; subst h0; simp
    · have h1 := powm_eq n f (a * a % n) (e / 2) (by rw [Nat.pow_succ] at h; omega)
      have h2 : (a * a % n) ^ (e / 2) % n = a ^ (2 * (e / 2)) % n := by
        rw [← Nat.pow_mod, Nat.pow_mul, Nat.pow_two]
      split
      · rename_i ho
        rw [h1, h2, Nat.mul_mod, Nat.mod_mod, ← Nat.mul_mod, ← Nat.pow_succ']
        rw [show (2 * (e / 2)).succ = e by omega]
      · rw [h1, h2, show 2 * (e / 2) = e by omega]
def noDiv (n : Nat) : Nat → Nat → Bool
  | 0, _ => true
  | f + 1, d => n % d != 0 && noDiv n f (d + 1)
theorem noDiv_spec {n : Nat} : ∀ {f d : Nat}, noDiv n f d = true → ∀ k, d ≤ k → k < d + f → ¬ k ∣ n
  | 0, d, _, k, h1, h2 => by omega
  | f + 1, d, h, k, h1, h2 => by
    simp only [noDiv, Bool.and_eq_true, bne_iff_ne, ne_eq] at h
    by_cases hk : k = d
    · subst hk; exact fun hd => h.1 (Nat.mod_eq_zero_of_dvd hd)
    · exact noDiv_spec h.2 k (by omega) (by omega)
theorem irr_trial {n f : Nat} (hn : 2 ≤ n) (hf : n < (f + 2) * (f + 2)) (h : noDiv n f 2 = true) : Irr n :=
  irr_of_small hn fun p hp hpd => by
    rcases Nat.lt_or_ge p (2 + f) with h1 | h1
    · exact absurd hpd (noDiv_spec h p hp.1 h1)
    · exact Nat.lt_of_lt_of_le hf (Nat.mul_le_mul (by omega) (by omega))
def pockB (N : Nat) (c : Nat × Nat × Nat) : Bool :=
  Nat.blt 0 c.2.1 && (N - 1) % c.1 ^ c.2.1 == 0 && powm N 800 c.2.2 (N - 1) == 1 % N && Nat.gcd (powm N 800 c.2.2 ((N - 1) / c.1) + (N - 1)) N == 1
def factL : List (Nat × Nat × Nat) → Nat
  | [] => 1
  | c :: l => c.1 ^ c.2.1 * factL l
theorem factL_coprime {q f : Nat} (hq : Irr q) : ∀ {l : List (Nat × Nat × Nat)}, (∀ c ∈ l, Irr c.1 ∧ q ≠ c.1) → Nat.Coprime (q ^ f) (factL l)
  | [], _ => Nat.coprime_one_right _
  | c :: l, h => by
    have h1 := h c (List.mem_cons_self ..)
    exact Nat.Coprime.mul_right (coprime_pow_irr hq h1.1 h1.2 f c.2.1) (factL_coprime hq fun d hd => h d (List.mem_cons_of_mem _ hd))
theorem factL_dvd {m : Nat} : ∀ {l : List (Nat × Nat × Nat)}, (∀ c ∈ l, Irr c.1 ∧ c.1 ^ c.2.1 ∣ m) → (l.map (·.1)).Nodup → factL l ∣ m
  | [], _, _ => Nat.one_dvd _
  | c :: l, h, hn => by
    have h1 := h c (List.mem_cons_self ..)
    rw [List.map_cons, List.nodup_cons] at hn
    refine Nat.Coprime.mul_dvd_of_dvd_of_dvd (factL_coprime h1.1 fun d hd => ⟨(h d (List.mem_cons_of_mem _ hd)).1, fun e => hn.1 ?_⟩) h1.2 (factL_dvd (fun d hd => h d (List.mem_cons_of_mem _ hd)) hn.2)
    rw [e]
    exact List.mem_map.2 ⟨d, hd, rfl⟩
theorem pock {N : Nat} (l : List (Nat × Nat × Nat)) (hN : Nat.ble 2 N = true) (hb : Nat.blt N (2 ^ 800) = true) (hc : l.all (pockB N) = true) (hF : Nat.blt N ((factL l + 1) * (factL l + 1)) = true)
    (hn : (l.map (·.1)).Nodup) (hq : ∀ c ∈ l, Irr c.1) : Irr N := by
  have hN' := Nat.le_of_ble_eq_true hN
  have hb' : N < 2 ^ 800 := Nat.le_of_ble_eq_true hb
  refine irr_of_small hN' fun p hp hpd => ?_
  have hd : factL l ∣ p - 1 := factL_dvd (fun c hm => ⟨hq c hm, ?_⟩) hn
  · have h1 := Nat.le_of_dvd (by have := hp.1; omega) hd
    have h2 : N < (factL l + 1) * (factL l + 1) := Nat.le_of_ble_eq_true hF
    exact Nat.lt_of_lt_of_le h2 (Nat.mul_le_mul (by have := hp.1; omega) (by have := hp.1; omega))
  · have h3 := List.all_eq_true.1 hc c hm
    simp only [pockB, Bool.and_eq_true, beq_iff_eq] at h3
    obtain ⟨⟨⟨g1, g2⟩, g3⟩, g4⟩ := h3
    rw [powm_eq N 800 _ _ (by omega)] at g3
    rw [powm_eq N 800 _ _ (Nat.lt_of_le_of_lt (Nat.div_le_self _ _) (by omega))] at g4
    exact pock_step hN' hp hpd (hq c hm) (Nat.le_of_ble_eq_true g1) (Nat.dvd_of_mod_eq_zero g2) g3 g4
end Go.Proofs.YteeifahhejangaaGreatDoor
namespace Go.Proofs.YteeifahhejangaaGreatDoor
theorem irr_2 : Irr 2 := irr_trial (f := 0) (by decide) (by decide) (by kernel_rfl)
theorem irr_3 : Irr 3 := irr_trial (f := 0) (by decide) (by decide) (by kernel_rfl)
theorem irr_13 : Irr 13 := irr_trial (f := 2) (by decide) (by decide) (by kernel_rfl)
theorem irr_29 : Irr 29 := irr_trial (f := 4) (by decide) (by decide) (by kernel_rfl)
theorem irr_983 : Irr 983 := irr_trial (f := 30) (by decide) (by decide) (by kernel_rfl)
theorem irr_11003 : Irr 11003 := irr_trial (f := 103) (by decide) (by decide) (by kernel_rfl)
theorem irr_237073 : Irr 237073 := irr_trial (f := 485) (by decide) (by decide) (by kernel_rfl)
theorem irr_11 : Irr 11 := irr_trial (f := 2) (by decide) (by decide) (by kernel_rfl)
theorem irr_3691 : Irr 3691 := irr_trial (f := 59) (by decide) (by decide) (by kernel_rfl)
theorem irr_405928799 : Irr 405928799 := pock [(2, 1, 11), (11, 1, 2), (3691, 1, 2)] (by kernel_rfl) (by kernel_rfl) (by kernel_rfl) (by kernel_rfl) (by decide) (List.forall_mem_cons.2 ⟨irr_2, List.forall_mem_cons.2 ⟨irr_11, List.forall_mem_cons.2 ⟨irr_3691, fun _ h => absurd h List.not_mem_nil⟩⟩⟩)
theorem irr_107 : Irr 107 := irr_trial (f := 9) (by decide) (by decide) (by kernel_rfl)
theorem irr_7 : Irr 7 := irr_trial (f := 1) (by decide) (by decide) (by kernel_rfl)
theorem irr_661 : Irr 661 := irr_trial (f := 24) (by decide) (by decide) (by kernel_rfl)
theorem irr_12048837557 : Irr 12048837557 := pock [(2, 2, 2), (7, 2, 2), (661, 1, 2)] (by kernel_rfl) (by kernel_rfl) (by kernel_rfl) (by kernel_rfl) (by decide) (List.forall_mem_cons.2 ⟨irr_2, List.forall_mem_cons.2 ⟨irr_7, List.forall_mem_cons.2 ⟨irr_661, fun _ h => absurd h List.not_mem_nil⟩⟩⟩)
theorem irr_5156902474397 : Irr 5156902474397 := pock [(2, 2, 2), (107, 1, 2), (12048837557, 1, 2)] (by kernel_rfl) (by kernel_rfl) (by kernel_rfl) (by kernel_rfl) (by decide) (List.forall_mem_cons.2 ⟨irr_2, List.forall_mem_cons.2 ⟨irr_107, List.forall_mem_cons.2 ⟨irr_12048837557, fun _ h => absurd h List.not_mem_nil⟩⟩⟩)
theorem irr_1670836401704629 : Irr 1670836401704629 := pock [(2, 2, 2), (3, 4, 2), (5156902474397, 1, 2)] (by kernel_rfl) (by kernel_rfl) (by kernel_rfl) (by kernel_rfl) (by decide) (List.forall_mem_cons.2 ⟨irr_2, List.forall_mem_cons.2 ⟨irr_3, List.forall_mem_cons.2 ⟨irr_5156902474397, fun _ h => absurd h List.not_mem_nil⟩⟩⟩)
theorem irr_p : Irr 21888242871839275222246405745257275088548364400416034343698204186575808495617 := pock [(2, 28, 5), (3, 2, 3), (13, 1, 5), (29, 1, 2), (983, 1, 2), (11003, 1, 2), (237073, 1, 2), (405928799, 1, 2), (1670836401704629, 1, 2)] (by kernel_rfl) (by kernel_rfl) (by kernel_rfl) (by kernel_rfl) (by decide) (List.forall_mem_cons.2 ⟨irr_2, List.forall_mem_cons.2 ⟨irr_3, List.forall_mem_cons.2 ⟨irr_13, List.forall_mem_cons.2 ⟨irr_29, List.forall_mem_cons.2 ⟨irr_983, List.forall_mem_cons.2 ⟨irr_11003, List.forall_mem_cons.2 ⟨irr_237073, List.forall_mem_cons.2 ⟨irr_405928799, List.forall_mem_cons.2 ⟨irr_1670836401704629, fun _ h => absurd h List.not_mem_nil⟩⟩⟩⟩⟩⟩⟩⟩⟩)
end Go.Proofs.YteeifahhejangaaGreatDoor
namespace Go.Proofs.YteeifahhejangaaGreatDoor.Rg
variable {n : Nat} [NeZero n] {x y z u v w : Fin n}
theorem add_comm (x y : Fin n) : x + y = y + x := by grind
theorem mul_comm (x y : Fin n) : x * y = y * x := by grind
theorem mul_assoc (x y z : Fin n) : x * (y * z) = x * y * z := by grind
theorem mul_add (x y z : Fin n) : x * (y + z) = x * y + x * z := by grind
theorem mul_one (x : Fin n) : x * 1 = x := by grind
theorem one_mul (x : Fin n) : 1 * x = x := by grind
theorem sub_self (x : Fin n) : x - x = 0 := by grind
theorem zero_mul (x : Fin n) : 0 * x = 0 := by grind
theorem mul_zero (x : Fin n) : x * 0 = 0 := by grind
theorem add_zero (x : Fin n) : x + 0 = x := by grind
theorem zero_add (x : Fin n) : 0 + x = x := by grind
theorem add_assoc (x y z : Fin n) : x + y + z = x + (y + z) := by grind
theorem unit_zero (h : x * z = 1) (h2 : x * y = 0) : y = 0 := by grind
end Go.Proofs.YteeifahhejangaaGreatDoor.Rg
namespace Go.Proofs.YteeifahhejangaaGreatDoor
open Go Sim
abbrev Fp := Fin 21888242871839275222246405745257275088548364400416034343698204186575808495617
def fe (x : Fp) : List Nat := fel x.val
def fp (v : Nat) : Fp := ⟨v % 21888242871839275222246405745257275088548364400416034343698204186575808495617, Nat.mod_lt _ (by decide)⟩
@[irreducible] def fpw (x : Fp) (k : Nat) : Fp := ⟨x.val ^ k % 21888242871839275222246405745257275088548364400416034343698204186575808495617, Nat.mod_lt _ (by decide)⟩
@[irreducible] def finv (x : Fp) : Fp := fpw x (21888242871839275222246405745257275088548364400416034343698204186575808495617 - 2)
@[simp] theorem fe_len (x : Fp) : (fe x).length = 4 := fel_len _
theorem fe_inj {x y : Fp} (h : fe x = fe y) : x = y := Fin.ext (fel_inj x.isLt y.isLt h)
theorem fe_eq {x y : Fp} : fe x = fe y ↔ x = y := ⟨fe_inj, fun h => by rw [h]⟩
theorem fe_zero : fe 0 = List.replicate 4 0 := fel_zero
theorem fpw_val (x : Fp) (k : Nat) : (fpw x k).val = x.val ^ k % 21888242871839275222246405745257275088548364400416034343698204186575808495617 := by unfold fpw; rfl
theorem addF_ctr {x y : Fp} : GC Tryz.prog 35 [.agg ((fe x).map (vi .u64)).toArray, .agg ((fe y).map (vi .u64)).toArray] [] [.agg ((fe (x + y)).map (vi .u64)).toArray] [] := eaddP_ctr (u := x.val) (v := y.val)
theorem subF_ctr {x y : Fp} : GC Tryz.prog 50 [.agg ((fe x).map (vi .u64)).toArray, .agg ((fe y).map (vi .u64)).toArray] [] [.agg ((fe (x - y)).map (vi .u64)).toArray] [] := by
  have h := esubP_ctr (u := x.val) (v := y.val) y.isLt
  rwa [Nat.add_comm x.val] at h
theorem negF_ctr {x : Fp} : GC Tryz.prog 55 [.agg ((fe x).map (vi .u64)).toArray] [] [.agg ((fe (-x)).map (vi .u64)).toArray] [] := by
  have h := enegP_ctr (v := x.val) x.isLt
  rwa [Nat.zero_add] at h
theorem mulF_ctr {x y : Fp} : GC Tryz.prog 34 [.agg ((fe x).map (vi .u64)).toArray, .agg ((fe y).map (vi .u64)).toArray] [] [.agg ((fe (x * y)).map (vi .u64)).toArray] [] := emulP_ctr (u := x.val) (v := y.val)
theorem invF_ctr {x : Fp} : GC Tryz.prog 52 [.agg ((fe x).map (vi .u64)).toArray] [] [.agg ((fe (finv x)).map (vi .u64)).toArray] [] := by
  obtain ⟨e, he⟩ : ∃ e, e = 21888242871839275222246405745257275088548364400416034343698204186575808495617 - 2 := ⟨_, rfl⟩
  have h := einv_ctr (v := x.val) (e := e) he x.isLt
  have h2 : x.val ^ e % 21888242871839275222246405745257275088548364400416034343698204186575808495617 = (finv x).val := by unfold finv; rw [fpw_val, he]
  rwa [h2] at h
theorem equalF_ctr {x y : Fp} : GC Tryz.prog 15 [.agg ((fe x).map (vi .u64)).toArray, .agg ((fe y).map (vi .u64)).toArray] [] [.bool (decide (x = y))] [] := by
  have h := equal_ctr (a := fe x) (b := fe y) (fe_len x) (fe_len y)
  rwa [show decide (fe x = fe y) = decide (x = y) from decide_eq_decide.2 fe_eq] at h
theorem iszeroF_ctr {x : Fp} : GC Tryz.prog 16 [.agg ((fe x).map (vi .u64)).toArray] [] [.bool (decide (x = 0))] [] := by
  have h := iszero_ctr (a := fe x) (fe_len x)
  rwa [show decide (fe x = List.replicate 4 0) = decide (x = 0) from decide_eq_decide.2 (by rw [← fe_zero, fe_eq])] at h
theorem fromuF_ctr {v : Nat} (hv : v < 18446744073709551616) : GC Tryz.prog 13 [vi .u64 (v)] [] [.agg ((fe (fp v)).map (vi .u64)).toArray] [] := by
  have h := fromuP_ctr hv
  rwa [← fel_mod] at h
theorem fromwideF_ctr {b : List Nat} (hb : bd 256 b) (hlb : b.length ≤ 1000) : GC Tryz.prog 64 [.slice (some ⟨0, 0, none⟩) b.length 0] [⟨b.map (vi .u8), false, 1⟩] [.agg ((fe (fp (num 256 b))).map (vi .u64)).toArray] [⟨b.map (vi .u8), false, 1⟩] := fromwide_ctr hb hlb
theorem isF_ctr {x : Fp} : GC Tryz.prog 9 [.agg ((fe x).map (vi .u64)).toArray, .slice (some ⟨0, 0, none⟩) (D 4294967296 x.val).length 0] [⟨(D 4294967296 x.val).map (vi .u64), false, 1⟩] [.bool true] [⟨(D 4294967296 x.val).map (vi .u64), false, 1⟩] := isT_ctr x.isLt
theorem addR_ctr {x y : Fp} : GC Tryz.prog 23 [.slice (some ⟨0, 0, none⟩) (D 4294967296 x.val).length 0, .slice (some ⟨1, 0, none⟩) (D 4294967296 y.val).length 0] [⟨(D 4294967296 x.val).map (vi .u64), false, 1⟩, ⟨(D 4294967296 y.val).map (vi .u64), false, 1⟩] [.slice (some ⟨2, 0, none⟩) (D 4294967296 ((x + y).val)).length 0] [⟨(D 4294967296 x.val).map (vi .u64), false, 1⟩, ⟨(D 4294967296 y.val).map (vi .u64), false, 1⟩, ⟨(D 4294967296 ((x + y).val)).map (vi .u64), true, 1⟩] := add02_ctr (x := x.val) (y := y.val) x.isLt y.isLt
theorem subR_ctr {x y : Fp} : GC Tryz.prog 29 [.slice (some ⟨0, 0, none⟩) (D 4294967296 x.val).length 0, .slice (some ⟨1, 0, none⟩) (D 4294967296 y.val).length 0] [⟨(D 4294967296 x.val).map (vi .u64), false, 1⟩, ⟨(D 4294967296 y.val).map (vi .u64), false, 1⟩] [.slice (some ⟨2, 0, none⟩) (D 4294967296 ((x - y).val)).length 0] [⟨(D 4294967296 x.val).map (vi .u64), false, 1⟩, ⟨(D 4294967296 y.val).map (vi .u64), false, 1⟩, ⟨(D 4294967296 ((x - y).val)).map (vi .u64), true, 1⟩] := by
  have h := sub02_ctr (x := x.val) (y := y.val) x.isLt y.isLt
  rwa [Nat.add_comm x.val] at h
theorem mulR_ctr {x y : Fp} : GC Tryz.prog 22 [.slice (some ⟨0, 0, none⟩) (D 4294967296 x.val).length 0, .slice (some ⟨1, 0, none⟩) (D 4294967296 y.val).length 0] [⟨(D 4294967296 x.val).map (vi .u64), false, 1⟩, ⟨(D 4294967296 y.val).map (vi .u64), false, 1⟩] [.slice (some ⟨2, 0, none⟩) (D 4294967296 ((x * y).val)).length 0] [⟨(D 4294967296 x.val).map (vi .u64), false, 1⟩, ⟨(D 4294967296 y.val).map (vi .u64), false, 1⟩, ⟨(D 4294967296 ((x * y).val)).map (vi .u64), true, 1⟩] := mul02_ctr (x := x.val) (y := y.val) x.isLt y.isLt
theorem modR_ctr {v : Nat} (hl : (D 4294967296 v).length < 1000000) : GC Tryz.prog 65 [.slice (some ⟨0, 0, none⟩) (D 4294967296 v).length 0] [⟨(D 4294967296 v).map (vi .u64), false, 1⟩] [.slice (some ⟨1, 0, none⟩) (D 4294967296 ((fp v).val)).length 0] [⟨(D 4294967296 v).map (vi .u64), false, 1⟩, ⟨(D 4294967296 ((fp v).val)).map (vi .u64), true, 1⟩] := mod02_ctr hl
theorem mul_finv {x : Fp} (hx : x ≠ 0) : x * finv x = 1 := by
  apply Fin.ext
  obtain ⟨k, hk⟩ : ∃ k, k = 21888242871839275222246405745257275088548364400416034343698204186575808495617 - 2 := ⟨_, rfl⟩
  have h0 : ¬ 21888242871839275222246405745257275088548364400416034343698204186575808495617 ∣ x.val := fun hd => hx (Fin.ext (Nat.eq_zero_of_dvd_of_lt hd x.isLt))
  have h := fermat irr_p h0
  have hf : finv x = fpw x k := by unfold finv; rw [hk]
  rw [hf, Fin.val_mul, fpw_val, Nat.mul_mod_mod, ← Nat.pow_succ']
  rw [show k.succ = 21888242871839275222246405745257275088548364400416034343698204186575808495617 - 1 by omega, h]
  rfl
section
variable {ops : Array Oper} {n i : Nat} {os : List Oper} {E : Env} {M : Mem} {D : List Eff → Prop} {K : ASt → Prop}
  {d : Tmp} {ty : TypeId} {ps : String} {af : Array Edge} {g : Option (Nat × Bool)} {t : TypeId} {a : Operand}
theorem yLE {x : Fp} {id sz : Nat} {rw : Bool} {es : Nat} (hr : AWo Tryz.prog ops n (i + 1) os ⟨upd E d (.agg ((fe x).map (vi .u64)).toArray), M⟩ (fun es => D (⟨[id], []⟩ :: es)) K)
    (ha : aev E a = some (.pointer (some ⟨id, 0, none⟩)) := by exact rfl) (hb : M id = some ⟨(fe x).map (vi .u64), rw, es⟩ := by exact rfl)
    (ht : Tb.agg.lookup t = some true := by exact rfl) (hs : Tb.sz.lookup t = some sz := by exact rfl) (hl : 4 = sz := by exact rfl) (hw : wantA ops E ⟨some d, .load t a, ty, ps, af, g⟩ = some true := by exact rfl) (hd : Nat.blt d n = true := by exact rfl) :
    AWo Tryz.prog ops n i (⟨some d, .load t a, ty, ps, af, g⟩ :: os) ⟨E, M⟩ D K := AWo.loadAll tbok ha hb ht hs (by simpa using hl) hw hd hr
theorem yLEi {xs : List Fp} {id j sz : Nat} {rw : Bool} {es : Nat} (hr : AWo Tryz.prog ops n (i + 1) os ⟨upd E d (.agg ((fe (xs.getD j 0)).map (vi .u64)).toArray), M⟩ (fun es => D (⟨[id], []⟩ :: es)) K)
    (ha : aev E a = some (.pointer (some ⟨id, 0 + j * 4, none⟩)) := by exact rfl) (hb : M id = some ⟨((xs.map fe).flatten).map (vi .u64), rw, es⟩ := by exact rfl) (hj : j < xs.length := by first | decide | omega)
    (ht : Tb.agg.lookup t = some true := by exact rfl) (hs : Tb.sz.lookup t = some sz := by exact rfl) (hl : 4 = sz := by exact rfl) (hw : wantA ops E ⟨some d, .load t a, ty, ps, af, g⟩ = some true := by exact rfl) (hd : Nat.blt d n = true := by exact rfl) :
    AWo Tryz.prog ops n i (⟨some d, .load t a, ty, ps, af, g⟩ :: os) ⟨E, M⟩ D K := by
  subst hl
  have hlen : ∀ x ∈ xs.map fe, x.length = 4 := fun x hx => by obtain ⟨y, _, rfl⟩ := List.mem_map.1 hx; exact fe_len y
  refine AWo.loadAgg tbok (vs := (fe (xs.getD j 0)).map (vi .u64)) ha hb ht hs ?_ ?_ hw hd hr
  · rw [List.length_map, flat_len hlen, List.length_map]; omega
  · rw [Nat.zero_add, flat_take_map hlen (by rw [List.length_map]; exact hj)]
    congr 1
    rw [List.getD_eq_getElem?_getD, List.getElem?_map, List.getElem?_eq_getElem hj, List.getD_eq_getElem?_getD, List.getElem?_eq_getElem hj]
    rfl
end
end Go.Proofs.YteeifahhejangaaGreatDoor
namespace Go.Proofs.YteeifahhejangaaGreatDoor
open Go Sim
abbrev dd (v : Nat) : Value := deep (D 4294967296 v).length 1 ((D 4294967296 v).map (vi .u64))
abbrev dv (x : Fp) : Value := dd x.val
abbrev db (b : List Nat) : Value := deep b.length 1 (b.map (vi .u8))
theorem cloA {α : Type} {f : α → Value} {l : List α} (hf : ∀ x, flatV (f x) = true) : cloV (.agg (l.map f).toArray) = true := by
  simp only [cloV, List.all_eq_true]
  intro x hx
  obtain ⟨y, _, rfl⟩ := List.mem_map.1 (by simpa using hx)
  simp [clo1, hf y]
theorem addRd {x y : Fp} : GC Tryz.prog 23 [dv x, dv y] [] [dv (x + y)] [] := GC.deepen (addR_ctr (x := x) (y := y)) (.deep (.deep .nil)) (.new (Nat.le_refl _) rfl (by simp) (cloM fun _ => rfl) .nil)
theorem subRd {x y : Fp} : GC Tryz.prog 29 [dv x, dv y] [] [dv (x - y)] [] := GC.deepen (subR_ctr (x := x) (y := y)) (.deep (.deep .nil)) (.new (Nat.le_refl _) rfl (by simp) (cloM fun _ => rfl) .nil)
theorem mulRd {x y : Fp} : GC Tryz.prog 22 [dv x, dv y] [] [dv (x * y)] [] := GC.deepen (mulR_ctr (x := x) (y := y)) (.deep (.deep .nil)) (.new (Nat.le_refl _) rfl (by simp) (cloM fun _ => rfl) .nil)
theorem modRd {v : Nat} (hl : (D 4294967296 v).length < 1000000) : GC Tryz.prog 65 [dd v] [] [dv (fp v)] [] := GC.deepen (modR_ctr hl) (.deep .nil) (.new (Nat.le_refl _) rfl (by simp) (cloM fun _ => rfl) .nil)
theorem isFd {x : Fp} : GC Tryz.prog 9 [.agg ((fe x).map (vi .u64)).toArray, dv x] [] [.bool true] [] := GC.deepen (isF_ctr (x := x)) (.pure (cloA flat_vi) (.deep .nil)) (.pure rfl .nil)
theorem fromwideFd {b : List Nat} (hb : bd 256 b) (hlb : b.length ≤ 1000) : GC Tryz.prog 64 [db b] [] [.agg ((fe (fp (num 256 b))).map (vi .u64)).toArray] [] := GC.deepen (fromwideF_ctr hb hlb) (.deep .nil) (.pure (cloA flat_vi) .nil)
theorem ofbd {a : List Nat} (ha : bd 256 a) (hl : a.length < 100000000) : GC Tryz.prog 66 [db a] [] [dd (num 256 a)] [] := GC.deepen (ofb_ctr ha hl) (.deep .nil) (.new (Nat.le_refl _) rfl (by simp) (cloM fun _ => rfl) .nil)
end Go.Proofs.YteeifahhejangaaGreatDoor
namespace Go.Proofs.YteeifahhejangaaGreatDoor
open Go Sim
def blk (L : List (List Nat)) (c : Nat) : List Nat := L.getD (c % L.length) []
end Go.Proofs.YteeifahhejangaaGreatDoor
namespace Go.Proofs.YteeifahhejangaaGreatDoor
open Go Sim
theorem setL_eq : ∀ (vs cells : List Value) (o : Nat), o + vs.length ≤ cells.length → setL cells o vs = cells.take o ++ vs ++ cells.drop (o + vs.length) := by
 intro vs
 induction vs with
 | nil => intro cells o _; simp [setL]
 | cons v vs ih =>
  intro cells o h
  simp only [List.length_cons] at h
  simp only [setL]
  rw [ih (cells.set o v) (o + 1) (by simp; omega), List.drop_set_of_lt (by omega)]
  have h1 : (cells.set o v).take (o + 1) = cells.take o ++ [v] := by
   rw [List.take_add_one, List.take_set_of_le (by omega), List.getElem?_set_self (by omega)]
   rfl
  rw [h1]
  simp [Nat.add_assoc, Nat.add_comm 1]
theorem fillB1 {b : List Nat} {c : Value} {k : IntKind} {n : Nat} (h : b.length = n) : fillL (fun i => some (i * n, n)) (List.replicate (1 * n) c) [(0, .agg (b.map (vi k)).toArray)] = some ([b].flatten.map (vi k)) := by
 simp only [fillL]
 rw [if_neg (by simp [Value.cells, h])]
 simp only [Value.cells]
 rw [setL_eq _ _ _ (by simp [h])]
 simp [h]
end Go.Proofs.YteeifahhejangaaGreatDoor
namespace Go.Proofs.YteeifahhejangaaGreatDoor
open Go Sim
attribute [local simp] digs_len
def bstr (xs : List Fp) (i : Nat) : Nat := (digs 256 32 (xs.getD (i / 31 % xs.length) 0).val).getD (i % 31) 0
def bts (xs : List Fp) (n : Nat) : List Nat := (List.range n).map (bstr xs)
@[simp] theorem bts_len (xs : List Fp) (n : Nat) : (bts xs n).length = n := by simp [bts]
theorem bts_step {xs : List Fp} {k n : Nat} (h : 31 * k < n) : bts xs (min (31 * k) n) ++ (digs 256 32 (xs.getD (k % xs.length) 0).val).take (min 31 (n - min (31 * k) n)) = bts xs (min (31 * (k + 1)) n) := by
  have h1 : min (31 * k) n = 31 * k := by omega
  rw [h1]
  obtain ⟨m, hm⟩ : ∃ m, m = min 31 (n - 31 * k) := ⟨_, rfl⟩
  rw [← hm, show min (31 * (k + 1)) n = 31 * k + m by omega]
  apply List.ext_getElem?
  intro i
  have hl : ((digs 256 32 (xs.getD (k % xs.length) 0).val).take m).length = m := by rw [List.length_take, digs_len]; omega
  rcases Nat.lt_or_ge i (31 * k) with hi | hi
  · rw [List.getElem?_append_left (by simpa using hi)]
    simp only [bts, List.getElem?_map, List.getElem?_range hi, List.getElem?_range (show i < 31 * k + m by omega)]
  · rw [List.getElem?_append_right (by simpa using hi), bts_len]
    rcases Nat.lt_or_ge i (31 * k + m) with hj | hj
    · simp only [bts, List.getElem?_map, List.getElem?_range hj, Option.map_some, bstr]
      rw [List.getElem?_take, if_pos (by omega), List.getElem?_eq_getElem (by rw [digs_len]; omega), show i / 31 = k by omega, show i % 31 = i - 31 * k by omega, List.getD_eq_getElem?_getD (i := i - 31 * k), List.getElem?_eq_getElem (by rw [digs_len]; omega)]
      rfl
    · rw [List.getElem?_eq_none (by omega), List.getElem?_eq_none (by simpa using hj)]
end Go.Proofs.YteeifahhejangaaGreatDoor
namespace Go.Proofs.YteeifahhejangaaGreatDoor
open Go Sim
theorem fe_flat (xs : List Fp) : ((xs.map fe).flatten).length = xs.length * 4 := by
 have := flat_len (L := xs.map fe) (n := 4) (fun x hx => by obtain ⟨y, _, rfl⟩ := List.mem_map.1 hx; exact fe_len y)
 rwa [List.length_map] at this
end Go.Proofs.YteeifahhejangaaGreatDoor
namespace Go.Proofs.YteeifahhejangaaGreatDoor
open Go Sim
theorem fp_addN (a b : Nat) : fp (a + b) = fp a + fp b := Fin.ext (Nat.add_mod a b 21888242871839275222246405745257275088548364400416034343698204186575808495617)
end Go.Proofs.YteeifahhejangaaGreatDoor
namespace Go.Proofs.YteeifahhejangaaGreatDoor
open Go Sim
abbrev FF (xs : List Fp) : List Value := ((xs.map fe).flatten).map (vi .u64)
theorem FF_len (xs : List Fp) : (FF xs).length = xs.length * 4 := by rw [List.length_map, fe_flat]
theorem FF_app (xs ys : List Fp) : FF (xs ++ ys) = FF xs ++ FF ys := by simp
theorem FF_cons (x : Fp) (xs : List Fp) : FF (x :: xs) = (fe x).map (vi .u64) ++ FF xs := by simp
theorem FF_drop (xs : List Fp) (j : Nat) : (FF xs).drop (j * 4) = FF (xs.drop j) := by
  by_cases h : j ≤ xs.length
  · have e : FF xs = FF (xs.take j) ++ FF (xs.drop j) := by rw [← FF_app, List.take_append_drop]
    have hl : (FF (xs.take j)).length = j * 4 := by rw [FF_len, List.length_take, Nat.min_eq_left h]
    rw [e, ← hl, List.drop_left]
  · rw [List.drop_eq_nil_of_le (by rw [FF_len]; omega), List.drop_eq_nil_of_le (by omega)]; rfl
theorem FF_take (xs : List Fp) (j : Nat) : (FF xs).take (j * 4) = FF (xs.take j) := by
  by_cases h : j ≤ xs.length
  · have e : FF xs = FF (xs.take j) ++ FF (xs.drop j) := by rw [← FF_app, List.take_append_drop]
    have hl : (FF (xs.take j)).length = j * 4 := by rw [FF_len, List.length_take, Nat.min_eq_left h]
    rw [e, ← hl, List.take_left]
  · rw [List.take_of_length_le (by rw [FF_len]; omega), List.take_of_length_le (by omega)]
theorem setL_app : ∀ (a b c : List Value) (o : Nat), setL c o (a ++ b) = setL (setL c o a) (o + a.length) b
  | [], b, c, o => rfl
  | v :: a, b, c, o => by
    show setL (c.set o v) (o + 1) (a ++ b) = setL (setL (c.set o v) (o + 1) a) (o + (a.length + 1)) b
    rw [setL_app a b, show o + 1 + a.length = o + (a.length + 1) by omega]
theorem setL_FF {xs : List Fp} {j : Nat} {x : Fp} (h : j < xs.length) : setL (FF xs) (j * 4) ((fe x).map (vi .u64)) = FF (xs.set j x) := by
  rw [setL_eq _ _ _ (by rw [List.length_map, fe_len, FF_len]; omega), List.length_map, fe_len, show j * 4 + 4 = (j + 1) * 4 by omega, FF_drop, FF_take, List.set_eq_take_append_cons_drop, if_pos h, FF_app, FF_cons, List.append_assoc]
def setE (xs : List Fp) (j : Nat) : List Fp → List Fp
  | [] => xs
  | v :: vs => setE (xs.set j v) (j + 1) vs
theorem setE_len : ∀ (vs xs : List Fp) (j : Nat), (setE xs j vs).length = xs.length
  | [], _, _ => rfl
  | v :: vs, xs, j => by rw [setE, setE_len vs, List.length_set]
theorem setL_FFs : ∀ (vs xs : List Fp) (j : Nat), j + vs.length ≤ xs.length → setL (FF xs) (j * 4) (FF vs) = FF (setE xs j vs)
  | [], _, _, _ => rfl
  | v :: vs, xs, j, h => by
    simp only [List.length_cons] at h
    rw [FF_cons, setL_app, setL_FF (by omega), List.length_map, fe_len, show j * 4 + 4 = (j + 1) * 4 by omega, setL_FFs vs _ _ (by rw [List.length_set]; omega)]
    rfl
theorem setL_at {A vs : List Value} {c : Value} {k : Nat} : setL (A ++ List.replicate (vs.length + k) c) A.length vs = (A ++ vs) ++ List.replicate k c := by
  rw [setL_eq _ _ _ (by simp), List.take_left, List.drop_append, List.drop_of_length_le (by omega), List.nil_append, List.drop_replicate, show vs.length + k - (A.length + vs.length - A.length) = k by omega]
theorem fill4 {c : Value} {x : Fp} {A : List Value} {i k n : Nat} {vals : List (Nat × Value)} {out : List Value} (hA : A.length = i * 4) (hk : n = 4 + k) (h : fillL (fun i => some (i * 4, 4)) ((A ++ (fe x).map (vi .u64)) ++ List.replicate k c) vals = some out) :
    fillL (fun i => some (i * 4, 4)) (A ++ List.replicate n c) ((i, .agg ((fe x).map (vi .u64)).toArray) :: vals) = some out := by
  subst hk
  simp only [fillL]
  have hl : ((fe x).map (vi .u64)).length = 4 := by rw [List.length_map, fe_len]
  rw [if_neg (by
    simp only [Value.cells, List.size_toArray, hl, List.length_append, List.length_replicate, hA]
    intro hh
    rcases hh with hh | hh <;> omega)]
  have := setL_at (A := A) (vs := (fe x).map (vi .u64)) (c := c) (k := k)
  rw [hl, hA] at this
  simp only [Value.cells]
  rw [this]; exact h
theorem zeroFF (n : Nat) : FF (List.replicate n 0) = List.replicate (n * 4) (vi .u64 0) := by
  induction n with
  | zero => rfl
  | succ n ih => rw [List.replicate_succ, FF_cons, ih, fe_zero, List.map_replicate, List.replicate_append_replicate, show 4 + n * 4 = (n + 1) * 4 by omega]
theorem ptr_off {E : Env} {a : Operand} {id o o' : Nat} (h : aev E a = some (.pointer (some ⟨id, o, none⟩))) (e : o = o') : aev E a = some (.pointer (some ⟨id, o', none⟩)) := e ▸ h
section
variable {ops : Array Oper} {n i : Nat} {os : List Oper} {E : Env} {M : Mem} {D : List Eff → Prop} {K : ASt → Prop}
  {d : Tmp} {ty : TypeId} {ps : String} {af : Array Edge} {g : Option (Nat × Bool)} {t : TypeId} {a x : Operand}
theorem yLJ {xs : List Fp} {id sz o : Nat} {rw : Bool} {es : Nat} (j : Nat) (hr : AWo Tryz.prog ops n (i + 1) os ⟨upd E d (.agg ((fe (xs.getD j 0)).map (vi .u64)).toArray), M⟩ (fun es => D (⟨[id], []⟩ :: es)) K)
        (ha : aev E a = some (.pointer (some ⟨id, o, none⟩)) := by exact rfl) (hb : M id = some ⟨((xs.map fe).flatten).map (vi .u64), rw, es⟩ := by exact rfl)
    (ht : Tb.agg.lookup t = some true := by exact rfl) (hs : Tb.sz.lookup t = some sz := by exact rfl) (hl : 4 = sz := by exact rfl) (hw : wantA ops E ⟨some d, .load t a, ty, ps, af, g⟩ = some true := by exact rfl) (hd : Nat.blt d n = true := by exact rfl) (hj : j < xs.length := by first | decide | omega | (simp only [List.length_cons, List.length_nil]; omega)) (ho : o = j * 4 := by omega) :
    AWo Tryz.prog ops n i (⟨some d, .load t a, ty, ps, af, g⟩ :: os) ⟨E, M⟩ D K :=
  yLEi (xs := xs) (j := j) hr (ptr_off ha (by omega)) hb hj ht hs hl hw hd
theorem ySE {xs vs : List Fp} {id o sz es : Nat} (j : Nat) (hr' : AWo Tryz.prog ops n (i + 1) os ⟨E, upd M id ⟨(((setE xs j vs).map fe).flatten).map (vi .u64), true, es⟩⟩ (fun es' => D (⟨[id], [(id, ⟨(((setE xs j vs).map fe).flatten).map (vi .u64), true, es⟩)]⟩ :: es')) K)
        (ha : aev E a = some (.pointer (some ⟨id, o, none⟩)) := by exact rfl) (hx : aev E x = some (.agg (((vs.map fe).flatten).map (vi .u64)).toArray) := by exact rfl) (hb : M id = some ⟨((xs.map fe).flatten).map (vi .u64), true, es⟩ := by exact rfl)
    (hs : Tb.sz.lookup t = some sz := by exact rfl) (hl : vs.length * 4 = sz := by exact rfl) (hw : wantA ops E ⟨none, .store t a x, ty, ps, af, g⟩ = some true := by exact rfl) (hj : j + vs.length ≤ xs.length := by first | decide | omega | (simp only [List.length_cons, List.length_nil, List.length_replicate, List.length_set, setE_len]; omega)) (ho : o = j * 4 := by omega) :
    AWo Tryz.prog ops n i (⟨none, .store t a x, ty, ps, af, g⟩ :: os) ⟨E, M⟩ D K := by
  subst ho
  have hl2 : (FF vs).length = sz := by rw [FF_len]; exact hl
  refine AWo.store tbok ha hx hb rfl (by show Tb.sz.lookup t = some (FF vs).toArray.size; rw [List.size_toArray, hl2]; exact hs) ?_ (by show (FF vs).all _ = true; exact oneM (fun _ => rfl) _) (setL_FFs vs xs j hj) hw hr'
  show j * 4 + (FF vs).toArray.size ≤ (FF xs).length
  rw [List.size_toArray, FF_len, FF_len]; omega
theorem ySJ {xs : List Fp} {y : Fp} {id o sz es : Nat} (j : Nat) (hr' : AWo Tryz.prog ops n (i + 1) os ⟨E, upd M id ⟨(((xs.set j y).map fe).flatten).map (vi .u64), true, es⟩⟩ (fun es' => D (⟨[id], [(id, ⟨(((xs.set j y).map fe).flatten).map (vi .u64), true, es⟩)]⟩ :: es')) K)
        (ha : aev E a = some (.pointer (some ⟨id, o, none⟩)) := by exact rfl) (hx : aev E x = some (.agg ((fe y).map (vi .u64)).toArray) := by exact rfl) (hb : M id = some ⟨((xs.map fe).flatten).map (vi .u64), true, es⟩ := by exact rfl)
    (hs : Tb.sz.lookup t = some sz := by exact rfl) (hl : 4 = sz := by exact rfl) (hw : wantA ops E ⟨none, .store t a x, ty, ps, af, g⟩ = some true := by exact rfl) (hj : j < xs.length := by first | decide | omega | (simp only [List.length_cons, List.length_nil, List.length_replicate, List.length_set, setE_len]; omega)) (ho : o = j * 4 := by omega) :
    AWo Tryz.prog ops n i (⟨none, .store t a x, ty, ps, af, g⟩ :: os) ⟨E, M⟩ D K :=
  ySE (vs := [y]) j hr' ha (by rw [hx]; simp) hb hs hl hw (by simp only [List.length_cons, List.length_nil]; omega) ho
end
end Go.Proofs.YteeifahhejangaaGreatDoor
namespace Go.Proofs.YteeifahhejangaaGreatDoor
open Go Sim Go.RowKit
def backQ (bx id n : Nat) (xs : List Fp) (M : Mem) : Prop := (∃ rw es, M bx = some ⟨[.slice (some ⟨id, 0, none⟩) n 0], rw, es⟩) ∧ ∃ rw es, M id = some ⟨((xs.map fe).flatten).map (vi .u64), rw, es⟩
def backE (xs : List Fp) (n k : Nat) : List Value := [vi .i64 (n - 1 - k), .agg ((fe (xs.getD (n - 1 - k) 0)).map (vi .u64)).toArray]
theorem Sim.Rep.sub {C : Ctx} {ρ : Rho} {E E' : Env} {M : Mem} {a : Act} {w : World} (h : Rep C ρ ⟨E, M⟩ a w) (hE : ∀ t v, E' t = some v → E t = some v) : Rep C ρ ⟨E', M⟩ a w :=
  ⟨h.size, h.defers, fun t v ht => h.env t v (hE t v ht), h.mem, h.agree, h.low, h.own, h.frame, h.im, h.imsub, h.imnew, h.gl⟩
theorem sub2 {E : Env} {i j : Nat} {x y : Value} (h1 : E i = some x) (h2 : E j = some y) : ∀ t v, Sim.upd (Sim.upd (fun _ => none) i x) j y t = some v → E t = some v := by
  intro t v ht
  simp only [Sim.upd] at ht
  split at ht
  · rename_i e; subst e; rw [h2]; exact ht
  · split at ht
    · rename_i e; subst e; rw [h1]; exact ht
    · cases ht
set_option maxRecDepth 100000 in
theorem back_p {xs : List Fp} {bx id n m : Nat} (hb : bx < m) (hn : n ≤ xs.length) (hx : n < 4611686018427387904) : IterA Tryz.prog 95 [.pointer (some ⟨bx, 0, none⟩)] m (backQ bx id n xs) n (backE xs n) := by
  intro C hm l Inv Ext Jx hq hExt hY ρ M w rcaps hM h0 hw hc
  obtain ⟨u, rfl⟩ : ∃ u, rcaps = [u] := by
    have := hc.1
    match rcaps, this with
    | [u], _ => exact ⟨u, rfl⟩
  have hu : VR .real (fun i => i < C.m) C.ρ0 (.pointer (some ⟨bx, 0, none⟩)) u := by rw [hm]; exact hc.2 0 _ _ rfl rfl
  refine callsIn_of_wp (F := GF none) Tryz.func95 rfl trivial ?_ rfl
  obtain ⟨ax, hM⟩ := hM
  have hR := hM.reframe (C := { C with n := ax.tmps.size }) (n := 19) (E := Sim.upd (fun _ => none) 1 (.pointer (some ⟨bx, 0, none⟩))) (a := { tmps := (#[.func (.yield l) #[] #[]] ++ [u].toArray) ++ Array.replicate 17 undef, defers := [] }) (by simp) rfl (fun t v ht => by
    simp only [Sim.upd] at ht
    split at ht
    · rename_i e; subst e; cases ht
      exact ⟨u, by simp, VR.up (C := { C with n := ax.tmps.size }) hM hu⟩
    · cases ht)
  have hT : TS [(0, .func (.yield l) #[] #[]), (1, u)] { tmps := (#[.func (.yield l) #[] #[]] ++ [u].toArray) ++ Array.replicate 17 undef, defers := [] } := by
    intro p hp
    simp only [List.mem_cons, List.not_mem_nil, or_false] at hp
    rcases hp with rfl | rfl <;> simp
  obtain ⟨⟨rw0, es0, hbx⟩, _⟩ := hq 0 M h0
  refine wpIn_seq (wpIn_regionX hR rfl hT (K := fun σ => σ.mem = M ∧ σ.env 1 = some (.pointer (some ⟨bx, 0, none⟩)) ∧ σ.env 3 = some (vp n)) ?_ rfl rfl ?_)
  · refine yL1 ?_ rfl hbx
    refine yP (pL (k := n)) ?_
    refine yP (PureOp.subP (a := n) rfl rfl (by omega)) ?_
    refine yA ?_
    exact AWo.nil trivial ⟨rfl, rfl, rfl⟩
  intro ρ1 E1 M1 a1 w1 hR1 hK1 hT1
  obtain ⟨hm1, he1, he3⟩ := hK1
  have hm1 : M1 = M := hm1
  subst hm1
  have hE1 := hExt _ _ hw (hR.others hR1)
  refine wpIn_block (wpIn_loopK (I := fun r a w => r ≤ n ∧ ∃ ρ M, Rep { C with n := 19 } ρ ⟨(Sim.upd (Sim.upd (fun _ => none) 1 (.pointer (some ⟨bx, 0, none⟩))) 3 (vp r)), M⟩ a w ∧ Inv (n - r) M ∧ Ext w ∧ TS [(0, .func (.yield l) #[] #[]), (1, u)] a) ?_
    (k := n) ⟨Nat.le_refl _, ρ1, M1, ((hR.unbase (Nat.le_refl _) hR1).sub (sub2 he1 he3)), by rw [Nat.sub_self]; exact h0, hE1, hT1⟩)
  rintro r a w ⟨hr, ρ, M, hR, hi, hw, hT⟩
  refine wpIn_seq (wpIn_seq (wpIn_regionX hR rfl hT (K := fun σ => σ.mem = M ∧ σ.env 1 = some (.pointer (some ⟨bx, 0, none⟩)) ∧ σ.env 3 = some (vp r) ∧ σ.env 8 = some (.bool (decide (0 < r)))) ?_ rfl rfl ?_))
  · refine yM ?_
    refine yP (PureOp.geP (r := r) rfl rfl) ?_
    exact AWo.nil trivial ⟨rfl, rfl, rfl, rfl⟩
  rintro ρ1 E1 M1 a1 w1 hR1 ⟨hm1, he1, he3, he8⟩ hT1
  have hm1 : M1 = M := hm1
  subst hm1
  have hE1 := hExt _ _ hw (hR.others hR1)
  have hRc := hR.unbase (Nat.le_refl _) hR1
  obtain ⟨⟨rw0, es0, hbx⟩, ⟨rw1, es1, hid⟩⟩ := hq _ _ hi
  refine wpIn_cond_split (t := decide (0 < r)) (flat_inv (hRc.eval (x := .tmp 8) he8) rfl) (fun h0r => ?_) (fun h0r => ?_)
  · have h0r : 0 < r := of_decide_eq_true h0r
    obtain ⟨q, rfl⟩ : ∃ q, r = q + 1 := ⟨r - 1, by omega⟩
    rw [vp_succ] at he3
    refine wpIn_skip ?_
    have hk : backE xs n (n - (q + 1)) = [vi .i64 q, .agg ((fe (xs.getD q 0)).map (vi .u64)).toArray] := by simp only [backE, show n - 1 - (n - (q + 1)) = q by omega]
    refine wpIn_seq (wpIn_block (wpIn_seq (wpIn_yield (os := [_, _, _, _, _]) (n := 19) (d0 := 11) (dc := 17) (dn := 18) (l := l) (Ext := Ext) (Jx := Jx) (Nx := Inv (n - (q + 1) + 1)) (vs := [vi .i64 q, .agg ((fe (xs.getD q 0)).map (vi .u64)).toArray]) (E2 := (Sim.upd (Sim.upd (fun _ => none) 1 (.pointer (some ⟨bx, 0, none⟩))) 3 (vi .i64 q)))
      (hRc.sub (sub2 he1 he3)) rfl hT1 hE1 hExt rfl (by decide) rfl (by simp) (by decide) ?_ rfl rfl (fun ρ' w' rv h1 h2 h3 => hY _ ρ' M1 w' rv (by omega) h1 hi h2 (by rw [hk]; exact h3)) ?_ ?_)))
    · refine yM ?_
      refine yL1 ?_ rfl hbx
      refine yM ?_
      refine yP (pI (j := q) (n := n)) ?_
      refine yLJ (xs := xs) q ?_ rfl hid
      refine AWo.nil trivial ⟨rfl, rfl, fun t v ht => ?_⟩
      simp only [Sim.upd] at ht
      split at ht
      · rename_i e; subst e; cases ht
        exact ⟨by decide, by decide, .inl ⟨rfl, rfl⟩⟩
      · split at ht
        · rename_i e; subst e; cases ht
          exact ⟨by decide, by decide, .inr ⟨u, by simp, hu⟩⟩
        · cases ht
    · intro ρ2 M2 a2 w2 hnx hE2 hR2 hT2
      refine wpIn_cond_false (flat_inv (hR2.eval (x := .tmp 18) rfl) rfl) (wpIn_skip ?_)
      refine wpIn_regionX hR2 rfl hT2 (K := fun σ => σ.mem = M2 ∧ σ.env 1 = some (.pointer (some ⟨bx, 0, none⟩)) ∧ σ.env 3 = some (vp q)) ?_ rfl rfl ?_
      · refine yM ?_
        refine yP (PureOp.subP (a := q) rfl rfl (by omega)) ?_
        refine yA ?_
        exact AWo.nil trivial ⟨rfl, rfl, rfl⟩
      rintro ρ3 E3 M3 a3 w3 hR3 ⟨hm3, he13, he33⟩ hT3
      have hm3 : M3 = M2 := hm3
      subst hm3
      exact ⟨q, Nat.lt_succ_self q, by omega, ρ3, M3, (hR2.unbase (Nat.le_refl _) hR3).sub (sub2 he13 he33), by rw [show n - q = n - (q + 1) + 1 by omega]; exact hnx, hExt _ _ hE2 (hR2.others hR3), hT3⟩
    · intro a2 w2 hj h18 hd
      refine wpIn_cond_true (eval_of h18) (wpIn_ret ?_)
      exact ⟨hd, _, results_none rfl _ _ _, ⟨_, rfl⟩, .inr hj⟩
  · have h0r : r = 0 := by have := of_decide_eq_false h0r; omega
    subst h0r
    refine wpIn_exit ?_
    exact ⟨hRc.defers, _, results_none rfl _ _ _, ⟨_, rfl⟩, .inl ⟨ρ1, M1, hRc.toM, by simpa using hi, hE1⟩⟩
set_option maxRecDepth 100000 in
theorem back_e {xs : List Fp} {bx id n m : Nat} (hb : bx < m) (hn : n ≤ xs.length) (hx : n < 4611686018427387904) : IterA Tryz.prog 71 [.pointer (some ⟨bx, 0, none⟩)] m (backQ bx id n xs) n (backE xs n) := by
  intro C hm l Inv Ext Jx hq hExt hY ρ M w rcaps hM h0 hw hc
  obtain ⟨u, rfl⟩ : ∃ u, rcaps = [u] := by
    have := hc.1
    match rcaps, this with
    | [u], _ => exact ⟨u, rfl⟩
  have hu : VR .real (fun i => i < C.m) C.ρ0 (.pointer (some ⟨bx, 0, none⟩)) u := by rw [hm]; exact hc.2 0 _ _ rfl rfl
  refine callsIn_of_wp (F := GF none) Tryz.func71 rfl trivial ?_ rfl
  obtain ⟨ax, hM⟩ := hM
  have hR := hM.reframe (C := { C with n := ax.tmps.size }) (n := 19) (E := Sim.upd (fun _ => none) 1 (.pointer (some ⟨bx, 0, none⟩))) (a := { tmps := (#[.func (.yield l) #[] #[]] ++ [u].toArray) ++ Array.replicate 17 undef, defers := [] }) (by simp) rfl (fun t v ht => by
    simp only [Sim.upd] at ht
    split at ht
    · rename_i e; subst e; cases ht
      exact ⟨u, by simp, VR.up (C := { C with n := ax.tmps.size }) hM hu⟩
    · cases ht)
  have hT : TS [(0, .func (.yield l) #[] #[]), (1, u)] { tmps := (#[.func (.yield l) #[] #[]] ++ [u].toArray) ++ Array.replicate 17 undef, defers := [] } := by
    intro p hp
    simp only [List.mem_cons, List.not_mem_nil, or_false] at hp
    rcases hp with rfl | rfl <;> simp
  obtain ⟨⟨rw0, es0, hbx⟩, _⟩ := hq 0 M h0
  refine wpIn_seq (wpIn_regionX hR rfl hT (K := fun σ => σ.mem = M ∧ σ.env 1 = some (.pointer (some ⟨bx, 0, none⟩)) ∧ σ.env 3 = some (vp n)) ?_ rfl rfl ?_)
  · refine yL1 ?_ rfl hbx
    refine yP (pL (k := n)) ?_
    refine yP (PureOp.subP (a := n) rfl rfl (by omega)) ?_
    refine yA ?_
    exact AWo.nil trivial ⟨rfl, rfl, rfl⟩
  intro ρ1 E1 M1 a1 w1 hR1 hK1 hT1
  obtain ⟨hm1, he1, he3⟩ := hK1
  have hm1 : M1 = M := hm1
  subst hm1
  have hE1 := hExt _ _ hw (hR.others hR1)
  refine wpIn_block (wpIn_loopK (I := fun r a w => r ≤ n ∧ ∃ ρ M, Rep { C with n := 19 } ρ ⟨(Sim.upd (Sim.upd (fun _ => none) 1 (.pointer (some ⟨bx, 0, none⟩))) 3 (vp r)), M⟩ a w ∧ Inv (n - r) M ∧ Ext w ∧ TS [(0, .func (.yield l) #[] #[]), (1, u)] a) ?_
    (k := n) ⟨Nat.le_refl _, ρ1, M1, ((hR.unbase (Nat.le_refl _) hR1).sub (sub2 he1 he3)), by rw [Nat.sub_self]; exact h0, hE1, hT1⟩)
  rintro r a w ⟨hr, ρ, M, hR, hi, hw, hT⟩
  refine wpIn_seq (wpIn_seq (wpIn_regionX hR rfl hT (K := fun σ => σ.mem = M ∧ σ.env 1 = some (.pointer (some ⟨bx, 0, none⟩)) ∧ σ.env 3 = some (vp r) ∧ σ.env 8 = some (.bool (decide (0 < r)))) ?_ rfl rfl ?_))
  · refine yM ?_
    refine yP (PureOp.geP (r := r) rfl rfl) ?_
    exact AWo.nil trivial ⟨rfl, rfl, rfl, rfl⟩
  rintro ρ1 E1 M1 a1 w1 hR1 ⟨hm1, he1, he3, he8⟩ hT1
  have hm1 : M1 = M := hm1
  subst hm1
  have hE1 := hExt _ _ hw (hR.others hR1)
  have hRc := hR.unbase (Nat.le_refl _) hR1
  obtain ⟨⟨rw0, es0, hbx⟩, ⟨rw1, es1, hid⟩⟩ := hq _ _ hi
  refine wpIn_cond_split (t := decide (0 < r)) (flat_inv (hRc.eval (x := .tmp 8) he8) rfl) (fun h0r => ?_) (fun h0r => ?_)
  · have h0r : 0 < r := of_decide_eq_true h0r
    obtain ⟨q, rfl⟩ : ∃ q, r = q + 1 := ⟨r - 1, by omega⟩
    rw [vp_succ] at he3
    refine wpIn_skip ?_
    have hk : backE xs n (n - (q + 1)) = [vi .i64 q, .agg ((fe (xs.getD q 0)).map (vi .u64)).toArray] := by simp only [backE, show n - 1 - (n - (q + 1)) = q by omega]
    refine wpIn_seq (wpIn_block (wpIn_seq (wpIn_yield (os := [_, _, _, _, _]) (n := 19) (d0 := 11) (dc := 17) (dn := 18) (l := l) (Ext := Ext) (Jx := Jx) (Nx := Inv (n - (q + 1) + 1)) (vs := [vi .i64 q, .agg ((fe (xs.getD q 0)).map (vi .u64)).toArray]) (E2 := (Sim.upd (Sim.upd (fun _ => none) 1 (.pointer (some ⟨bx, 0, none⟩))) 3 (vi .i64 q)))
      (hRc.sub (sub2 he1 he3)) rfl hT1 hE1 hExt rfl (by decide) rfl (by simp) (by decide) ?_ rfl rfl (fun ρ' w' rv h1 h2 h3 => hY _ ρ' M1 w' rv (by omega) h1 hi h2 (by rw [hk]; exact h3)) ?_ ?_)))
    · refine yM ?_
      refine yL1 ?_ rfl hbx
      refine yM ?_
      refine yP (pI (j := q) (n := n)) ?_
      refine yLJ (xs := xs) q ?_ rfl hid
      refine AWo.nil trivial ⟨rfl, rfl, fun t v ht => ?_⟩
      simp only [Sim.upd] at ht
      split at ht
      · rename_i e; subst e; cases ht
        exact ⟨by decide, by decide, .inl ⟨rfl, rfl⟩⟩
      · split at ht
        · rename_i e; subst e; cases ht
          exact ⟨by decide, by decide, .inr ⟨u, by simp, hu⟩⟩
        · cases ht
    · intro ρ2 M2 a2 w2 hnx hE2 hR2 hT2
      refine wpIn_cond_false (flat_inv (hR2.eval (x := .tmp 18) rfl) rfl) (wpIn_skip ?_)
      refine wpIn_regionX hR2 rfl hT2 (K := fun σ => σ.mem = M2 ∧ σ.env 1 = some (.pointer (some ⟨bx, 0, none⟩)) ∧ σ.env 3 = some (vp q)) ?_ rfl rfl ?_
      · refine yM ?_
        refine yP (PureOp.subP (a := q) rfl rfl (by omega)) ?_
        refine yA ?_
        exact AWo.nil trivial ⟨rfl, rfl, rfl⟩
      rintro ρ3 E3 M3 a3 w3 hR3 ⟨hm3, he13, he33⟩ hT3
      have hm3 : M3 = M2 := hm3
      subst hm3
      exact ⟨q, Nat.lt_succ_self q, by omega, ρ3, M3, (hR2.unbase (Nat.le_refl _) hR3).sub (sub2 he13 he33), by rw [show n - q = n - (q + 1) + 1 by omega]; exact hnx, hExt _ _ hE2 (hR2.others hR3), hT3⟩
    · intro a2 w2 hj h18 hd
      refine wpIn_cond_true (eval_of h18) (wpIn_ret ?_)
      exact ⟨hd, _, results_none rfl _ _ _, ⟨_, rfl⟩, .inr hj⟩
  · have h0r : r = 0 := by have := of_decide_eq_false h0r; omega
    subst h0r
    refine wpIn_exit ?_
    exact ⟨hRc.defers, _, results_none rfl _ _ _, ⟨_, rfl⟩, .inl ⟨ρ1, M1, hRc.toM, by simpa using hi, hE1⟩⟩
end Go.Proofs.YteeifahhejangaaGreatDoor
namespace Go.Proofs.YteeifahhejangaaGreatDoor
open Go Sim
theorem backwp_ctr {xs : List Fp} {n : Nat} : GC Tryz.prog 88 [.slice (some ⟨0, 0, none⟩) n 0] [⟨((xs.map fe).flatten).map (vi .u64), false, 4⟩] [.func (.func 95) #[] #[.pointer (some ⟨1, 0, none⟩)]]
    [⟨((xs.map fe).flatten).map (vi .u64), false, 4⟩, ⟨[.slice (some ⟨0, 0, none⟩) n 0], true, 1⟩] := by
  refine GC.intro Tryz.func88 rfl (by show 1 ≤ 4; decide) (Nat.le_succ _) ?_
  refine AW.seqR ?_
  refine yO 2000 1 _ ?_
  refine yA ?_
  refine zN ?_
  refine AW.seqR ?_
  refine yP (PureOp.makeFunc (xs := #[]) (ys := #[.pointer (some ⟨2000, 0, none⟩)]) rfl (by simp) (by simp [aev, Sim.upd]) ) ?_
  refine yA ?_
  refine zN ?_
  refine AW.ret ?_
  exact rq [2000] [.tmp 2] (hres := .cons rfl rfl .nil) (hb := OutL.flat rfl (flatM flat_vi) (by intro h; first | exact h | rfl | exact h.elim id fun h => absurd h.1 (by simp)) (OutL.whole rfl rfl (OkL.all rfl) (fun _ => rfl) trivial))
theorem backwe_ctr {xs : List Fp} {n : Nat} : GC Tryz.prog 53 [.slice (some ⟨0, 0, none⟩) n 0] [⟨((xs.map fe).flatten).map (vi .u64), false, 4⟩] [.func (.func 71) #[] #[.pointer (some ⟨1, 0, none⟩)]]
    [⟨((xs.map fe).flatten).map (vi .u64), false, 4⟩, ⟨[.slice (some ⟨0, 0, none⟩) n 0], true, 1⟩] := by
  refine GC.intro Tryz.func53 rfl (by show 1 ≤ 4; decide) (Nat.le_succ _) ?_
  refine AW.seqR ?_
  refine yO 2000 1 _ ?_
  refine yA ?_
  refine zN ?_
  refine AW.seqR ?_
  refine yP (PureOp.makeFunc (xs := #[]) (ys := #[.pointer (some ⟨2000, 0, none⟩)]) rfl (by simp) (by simp [aev, Sim.upd]) ) ?_
  refine yA ?_
  refine zN ?_
  refine AW.ret ?_
  exact rq [2000] [.tmp 2] (hres := .cons rfl rfl .nil) (hb := OutL.flat rfl (flatM flat_vi) (by intro h; first | exact h | rfl | exact h.elim id fun h => absurd h.1 (by simp)) (OutL.whole rfl rfl (OkL.all rfl) (fun _ => rfl) trivial))
def hiN (xs : List Fp) : Nat → Nat
  | 0 => 0
  | n + 1 => if xs.getD n 0 = 0 then hiN xs n else n + 1
def dgM (xs : List Fp) (n : Nat) (v : Value) : Mem := Sim.upd (Sim.upd (Sim.upd (fun _ => none) 0 ⟨((xs.map fe).flatten).map (vi .u64), false, 4⟩) 1 ⟨[v], true, 1⟩) 2 ⟨[.slice (some ⟨0, 0, none⟩) n 0], true, 1⟩
theorem encE2 {E : Env} {i j : Tmp} {x y : Value} : encE E [i, j] [x, y] = Sim.upd (Sim.upd E i x) j y := rfl
theorem degree_ctr {xs : List Fp} {n : Nat} (hn : n ≤ xs.length) (hx : n < 4611686018427387904) : GC Tryz.prog 74 [.slice (some ⟨0, 0, none⟩) n 0] [⟨((xs.map fe).flatten).map (vi .u64), false, 4⟩] [vp (hiN xs n)]
    [⟨((xs.map fe).flatten).map (vi .u64), false, 4⟩] := by
  refine GC.introD Tryz.func74 rfl (by show 1 ≤ 13; decide) (Nat.le_refl _) ?_
  refine AWd.firstR ?_
  refine yN 1 1 _ ?_
  refine zN ?_
  refine AWd.seq ?_
  refine AWd.firstR ?_
  refine yM ?_
  refine yC (backwp_ctr (xs := xs) (n := n)) bd88 [(0, 0)] [2] ?_
  refine zN ?_
  refine AWd.block (AWd.weaken (fm := []) (τ := ⟨Sim.upd (Sim.upd (fun _ => none) 2 (.pointer (some ⟨1, 0, none⟩))) 6 (.func (.func 95) #[] #[.pointer (some ⟨2, 0, none⟩)]), dgM xs n (vi .i64 0)⟩)
    (wk [0, 1, 2] (hE := WkE.upd rfl (okVI_rel (ids := [2]) (by simp) rfl (dom_all rfl) rfl) (WkE.upd rfl (.ptr _ _ ⟨_, rfl⟩) WkE.emp))) ?_)
  refine AWd.range (back_p (xs := xs) (bx := 2) (id := 0) (n := n) (m := 3) (by omega) hn hx) (Sim.upd (fun _ => none) 2 (.pointer (some ⟨1, 0, none⟩)))
    (fun k M => M = dgM xs n (vi .i64 0) ∧ hiN xs n = hiN xs (n - k)) (fun M => ∃ i, M = dgM xs n (vi .i64 i) ∧ hiN xs n = i + 1)
    (by show 1 ≤ 3; decide) rfl ?_ ?_ (fun args w => run_callFunc bd95 args w) ?_ (fun _ => rfl) (by decide) ⟨rfl, rfl⟩ ?_ ?_ ?_ ?_
  · intro v hv
    simp only [List.mem_cons, List.not_mem_nil, or_false] at hv
    subst hv; exact Low.ptr (by decide)
  · intro i hi
    match i, hi with
    | 0, _ => exact ⟨_, rfl⟩
    | 1, _ => exact ⟨_, rfl⟩
    | 2, _ => exact ⟨_, rfl⟩
  · intro t v ht
    simp only [Sim.upd] at ht
    split at ht
    · rename_i e; subst e; cases ht
      exact ⟨rfl, Low.ptr (by decide)⟩
    · cases ht
  · rintro k M ⟨rfl, _⟩
    exact ⟨⟨_, _, rfl⟩, ⟨_, _, rfl⟩⟩
  · rintro k M hk ⟨rfl, hh⟩
    obtain ⟨q, hq⟩ : ∃ q, q = n - 1 - k := ⟨_, rfl⟩
    have he : backE xs n k = [vi .i64 q, .agg ((fe (xs.getD q 0)).map (vi .u64)).toArray] := by rw [hq]; rfl
    rw [he, show n - k = q + 1 by omega] at *
    rw [encE2]
    refine AWX.seqR ?_
    refine yA ?_
    refine zN ?_
    refine AWX.region ?_
    refine yN 5000 1 _ ?_
    refine ySA ?_
    refine zN ?_
    refine AWX.block (AWX.seqR ?_)
    refine yLE ?_
    refine yC (iszeroF_ctr (x := xs.getD q 0)) bd16 [] [] ?_
    refine yP (PureOp.not rfl) ?_
    refine zN ?_
    refine AWX.cond rfl (fun h => ?_) (fun h => ?_)
    · have hz : ¬ xs.getD q 0 = 0 := by simpa using h
      refine AWX.seqR ?_
      refine yM ?_
      refine AWo.store1 tbok rfl rfl rfl rfl rfl (by simp) rfl rfl ?_
      refine zN ?_
      refine AWX.ret ?_
      exact ⟨[], ⟨fun _ => none, dgM xs n (vi .i64 q)⟩, wk [0, 1, 2], .inr ⟨rfl, q, rfl, by rw [hh, hiN, if_neg hz]⟩⟩
    · have hz : xs.getD q 0 = 0 := by simpa using h
      refine AWX.skip ?_
      exact ⟨[], ⟨fun _ => none, dgM xs n (vi .i64 0)⟩, wk [0, 1, 2], .inl ⟨rfl, rfl, by rw [hh, hiN, if_pos hz, show n - (k + 1) = q by omega]⟩⟩
  · rintro M ⟨rfl, hh⟩
    rw [Nat.sub_self] at hh
    refine AWd.ofX (AWX.seqR ?_)
    refine AWo.store1 tbok rfl rfl rfl rfl rfl (by simp) rfl rfl ?_
    refine zN ?_
    refine AWX.ret ?_
    rw [hh]
    exact rq [] [.cell 2 3]
  · rintro M ⟨i, rfl, hh⟩
    rw [hh, vp_succ]
    exact rq [] [.cell 2 3]
end Go.Proofs.YteeifahhejangaaGreatDoor
namespace Go.Proofs.YteeifahhejangaaGreatDoor
open Go Sim
theorem FF_cut {xs : List Fp} {n : Nat} : ((FF xs).drop 0).take (n * 4) = FF (xs.take n) := by rw [List.drop_zero, FF_take]
theorem clonep_ctr {xs : List Fp} {n : Nat} (hn : n ≤ xs.length) (hx : n < 1000000) : GC Tryz.prog 73 [.slice (some ⟨0, 0, none⟩) n 0] [⟨((xs.map fe).flatten).map (vi .u64), false, 4⟩] [.slice (some ⟨1, 0, none⟩) n 0]
    [⟨((xs.map fe).flatten).map (vi .u64), false, 4⟩, ⟨(((xs.take n).map fe).flatten).map (vi .u64), true, 4⟩] := by
  refine GC.intro Tryz.func73 rfl (by show 1 ≤ 8; decide) (Nat.le_succ _) ?_
  by_cases h0 : n = 0
  · subst h0
    refine AW.nilCase (t := 0) rfl ?_ ?_
    · refine AW.ghost 9000 4 rfl ?_
      refine zS ?_
      refine yA ?_
      refine zN (zQ (zS ?_))
      refine yM ?_
      refine yP (PureOp.nilEqNilS Tryz.underlying41 rfl) ?_
      refine zN (zC (zS ?_))
      refine yA ?_
      refine zN (zE ?_)
      exact rq [9000] [.tmp 2]
    · refine zS ?_
      refine yA ?_
      refine zN (zQ (zS ?_))
      refine yM ?_
      refine yP (PureOp.slEqDead Tryz.underlying41 rfl) ?_
      refine zN (zF (zK (zT (zS ?_))))
      refine AWo.buildSlice tbok 6000 [] (out := []) rfl rfl (by decide) rfl rfl rfl (by decide) rfl rfl rfl rfl rfl ?_
      refine yM ?_
      refine yP (PureOp.append0 Tryz.underlying41 (tbok.sz _ _ rfl) rfl rfl) ?_
      refine yA ?_
      refine zN (zE ?_)
      exact rq [6000] [.tmp 2]
  · refine zS ?_
    refine yA ?_
    refine zN (zQ (zS ?_))
    refine yM ?_
    refine yP (PureOp.slEqNil Tryz.underlying41 rfl h0) ?_
    refine zN (zF (zK (zT (zS ?_))))
    refine AWo.buildSlice tbok 6000 [] (out := []) rfl rfl (by decide) rfl rfl rfl (by decide) rfl rfl rfl rfl rfl ?_
    refine yM ?_
    refine AWo.append tbok (all := FF (xs.take n)) (news := FF (xs.take n)) 8000 rfl rfl rfl rfl rfl FF_cut (by rw [Nat.zero_add]; show n * 4 ≤ (FF xs).length; rw [FF_len]; omega) (by decide) rfl rfl rfl (by decide) rfl rfl rfl (by omega) (by omega) (oneM (fun _ => rfl) _) rfl rfl rfl ?_
    refine yA ?_
    refine zN (zE ?_)
    exact rq [8000] [.tmp 2] (hres := (.cons rfl (by simp [ren, ren1, hmap]) .nil))
end Go.Proofs.YteeifahhejangaaGreatDoor
namespace Go.Proofs.YteeifahhejangaaGreatDoor.Po
variable {n : Nat} [NeZero n]
def co (p : List (Fin n)) (i : Nat) : Fin n := p.getD i 0
def ev (x : Fin n) : List (Fin n) → Fin n
  | [] => 0
  | a :: p => ev x p * x + a
theorem co_nil (i : Nat) : co ([] : List (Fin n)) i = 0 := by simp [co]
theorem co_zero (a : Fin n) (p : List (Fin n)) : co (a :: p) 0 = a := rfl
theorem co_succ (a : Fin n) (p : List (Fin n)) (i : Nat) : co (a :: p) (i + 1) = co p i := by simp [co]
theorem co_lt {p : List (Fin n)} {i : Nat} (h : i < p.length) : co p i = p[i] := by simp [co, List.getD_eq_getElem?_getD, h]
theorem co_len {p : List (Fin n)} {i : Nat} (h : p.length ≤ i) : co p i = 0 := by simp [co, List.getD_eq_getElem?_getD, h]
theorem ring0 (x : Fin n) : 0 * x + 0 = 0 := by grind
theorem ev_zero (x : Fin n) : ∀ {p : List (Fin n)}, (∀ i, co p i = 0) → ev x p = 0
  | [], _ => rfl
  | a :: p, h => by
    rw [ev, ev_zero x (fun i => (co_succ a p i).symm.trans (h (i + 1))), show a = 0 from h 0]; exact ring0 x
theorem ev_congr (x : Fin n) : ∀ {p q : List (Fin n)}, (∀ i, co p i = co q i) → ev x p = ev x q
  | [], _, h => (ev_zero x fun i => (h i).symm.trans (co_nil i)).symm
  | a :: p, [], h => ev_zero x fun i => (h i).trans (co_nil i)
  | a :: p, b :: q, h => by
    rw [ev, ev, ev_congr x (p := p) (q := q) (fun i => by have := h (i + 1); rwa [co_succ, co_succ] at this), show a = b from h 0]
def dg : List (Fin n) → Nat
  | [] => 0
  | a :: p => if dg p = 0 then (if a = 0 then 0 else 1) else dg p + 1
theorem dg_le : ∀ p : List (Fin n), dg p ≤ p.length
  | [] => Nat.le_refl _
  | a :: p => by
    have := dg_le p
    simp only [dg, List.length_cons]
    split
    · split <;> omega
    · omega
theorem co_ge : ∀ (p : List (Fin n)) (i : Nat), dg p ≤ i → co p i = 0
  | [], i, _ => co_nil i
  | a :: p, 0, h => by
    simp only [dg] at h
    split at h
    · split at h
      · assumption
      · omega
    · omega
  | a :: p, i + 1, h => by
    rw [co_succ]
    apply co_ge
    simp only [dg] at h
    split at h <;> omega
theorem co_top : ∀ (p : List (Fin n)) (m : Nat), dg p = m + 1 → co p m ≠ 0
  | [], m, h => by simp [dg] at h
  | a :: p, m, h => by
    simp only [dg] at h
    split at h
    · split at h
      · omega
      · obtain rfl : m = 0 := by omega
        assumption
    · obtain ⟨k, rfl⟩ : ∃ k, m = k + 1 := ⟨m - 1, by omega⟩
      rw [co_succ]
      exact co_top p k (by omega)
theorem dg_eq {p : List (Fin n)} {d : Nat} (hz : ∀ i, d ≤ i → co p i = 0) (hn : ∀ m, d = m + 1 → co p m ≠ 0) : dg p = d := by
  rcases Nat.lt_trichotomy (dg p) d with h | h | h
  · obtain ⟨m, rfl⟩ : ∃ m, d = m + 1 := ⟨d - 1, by omega⟩
    exact absurd (co_ge p m (by omega)) (hn m rfl)
  · exact h
  · exact absurd (hz (dg p - 1) (by omega)) (co_top p _ (by omega))
theorem dg_congr {p q : List (Fin n)} (h : ∀ i, co p i = co q i) : dg p = dg q :=
  dg_eq (fun i hi => (h i).trans (co_ge q i hi)) fun m hm => by rw [h]; exact co_top q m hm
def tr (p : List (Fin n)) : List (Fin n) := p.take (dg p)
theorem tr_len (p : List (Fin n)) : (tr p).length = dg p := by rw [tr, List.length_take, Nat.min_eq_left (dg_le p)]
theorem co_tr (p : List (Fin n)) (i : Nat) : co (tr p) i = co p i := by
  by_cases h : i < dg p
  · have := dg_le p
    rw [co_lt (by rw [tr_len]; exact h), co_lt (by omega)]
    simp [tr]
  · rw [co_len (by rw [tr_len]; omega), co_ge p i (by omega)]
theorem ext {p q : List (Fin n)} (hl : p.length = q.length) (h : ∀ i, co p i = co q i) : p = q :=
  List.ext_getElem hl fun i h1 h2 => by rw [← co_lt h1, ← co_lt h2, h]
theorem tr_congr {p q : List (Fin n)} (h : ∀ i, co p i = co q i) : tr p = tr q :=
  ext (by rw [tr_len, tr_len, dg_congr h]) fun i => by rw [co_tr, co_tr, h]
theorem ev_tr (x : Fin n) (p : List (Fin n)) : ev x (tr p) = ev x p := ev_congr x (co_tr p)
def pa : List (Fin n) → List (Fin n) → List (Fin n)
  | [], q => q
  | a :: p, [] => a :: p
  | a :: p, b :: q => (a + b) :: pa p q
theorem ring1 (x : Fin n) : x = 0 + x := by grind
theorem ring2 (x : Fin n) : x = x + 0 := by grind
theorem co_pa : ∀ (p q : List (Fin n)) (i : Nat), co (pa p q) i = co p i + co q i
  | [], q, i => by rw [pa, co_nil]; exact ring1 _
  | a :: p, [], i => by rw [pa, co_nil]; exact ring2 _
  | a :: p, b :: q, 0 => rfl
  | a :: p, b :: q, i + 1 => by rw [pa, co_succ, co_succ, co_succ, co_pa p q i]
theorem ring3 (s t x a b : Fin n) : (s + t) * x + (a + b) = s * x + a + (t * x + b) := by grind
theorem ev_pa (x : Fin n) : ∀ p q : List (Fin n), ev x (pa p q) = ev x p + ev x q
  | [], q => by rw [pa]; exact ring1 _
  | a :: p, [] => by rw [pa]; exact ring2 _
  | a :: p, b :: q => by rw [pa, ev, ev, ev, ev_pa x p q]; exact ring3 ..
omit [NeZero n] in
theorem pa_len : ∀ p q : List (Fin n), (pa p q).length = max p.length q.length
  | [], q => by simp [pa]
  | a :: p, [] => by simp [pa]
  | a :: p, b :: q => by simp [pa, pa_len p q, Nat.add_max_add_right]
def ps (c : Fin n) (p : List (Fin n)) : List (Fin n) := p.map (· * c)
theorem ring4 (c : Fin n) : 0 * c = 0 := by grind
theorem co_ps (c : Fin n) (p : List (Fin n)) (i : Nat) : co (ps c p) i = co p i * c := by
  by_cases h : i < p.length
  · rw [co_lt (by simpa [ps] using h), co_lt h]; simp [ps]
  · rw [co_len (by simp [ps]; omega), co_len (by omega), ring4]
theorem ring5 (s x a c : Fin n) : s * c * x + a * c = (s * x + a) * c := by grind
theorem ev_ps (x c : Fin n) : ∀ p : List (Fin n), ev x (ps c p) = ev x p * c
  | [] => (ring4 c).symm
  | a :: p => by
    show ev x (ps c p) * x + a * c = (ev x p * x + a) * c
    rw [ev_ps x c p]; exact ring5 ..
def pm : List (Fin n) → List (Fin n) → List (Fin n)
  | [], _ => []
  | a :: p, q => pa (ps a q) (0 :: pm p q)
theorem ring6 (s t a x : Fin n) : t * a + (s * t * x + 0) = (s * x + a) * t := by grind
theorem ring7 (t : Fin n) : 0 = 0 * t := by grind
theorem ev_pm (x : Fin n) : ∀ p q : List (Fin n), ev x (pm p q) = ev x p * ev x q
  | [], q => ring7 _
  | a :: p, q => by
    rw [pm, ev_pa, ev_ps, ev, ev, ev_pm x p q]; exact ring6 ..
theorem pm_len : ∀ p q : List (Fin n), (pm p q).length ≤ p.length + q.length
  | [], q => by simp [pm]
  | a :: p, q => by
    have := pm_len p q
    rw [pm, pa_len]
    simp only [ps, List.length_map, List.length_cons]
    omega
theorem co_pm_zero (a : Fin n) (p q : List (Fin n)) : co (pm (a :: p) q) 0 = co q 0 * a + 0 := by rw [pm, co_pa, co_ps, co_zero]
theorem co_pm_succ (a : Fin n) (p q : List (Fin n)) (i : Nat) : co (pm (a :: p) q) (i + 1) = co q (i + 1) * a + co (pm p q) i := by rw [pm, co_pa, co_ps, co_succ]
def qs (r : Fin n) : List (Fin n) → List (Fin n)
  | [] => []
  | [_] => []
  | _ :: b :: p => ev r (b :: p) :: qs r (b :: p)
theorem qs_len (r : Fin n) : ∀ (p : List (Fin n)) (a : Fin n), (qs r (a :: p)).length = p.length
  | [], _ => rfl
  | b :: p, a => by simp [qs, qs_len r p b]
theorem ring10 (a x r : Fin n) : 0 * x + a = 0 * r + a + (x - r) * 0 := by grind
theorem ring11 (e q a x r : Fin n) : (e + (x - r) * q) * x + a = e * r + a + (x - r) * (q * x + e) := by grind
theorem qs_ev (x r : Fin n) : ∀ p : List (Fin n), ev x p = ev r p + (x - r) * ev x (qs r p)
  | [] => by show (0 : Fin n) = 0 + (x - r) * 0; grind
  | [a] => ring10 ..
  | a :: b :: p => by
    have h := qs_ev x r (b :: p)
    show ev x (b :: p) * x + a = ev r (b :: p) * r + a + (x - r) * (ev x (qs r (b :: p)) * x + ev r (b :: p))
    rw [h]; exact ring11 ..
theorem of_qs (r : Fin n) : ∀ p : List (Fin n), (∀ i, co (qs r p) i = 0) → ev r p = 0 → ∀ i, co p i = 0
  | [], _, _, i => co_nil i
  | [a], _, h, 0 => by rw [co_zero]; have : 0 * r + a = 0 := h; grind
  | [a], _, _, i + 1 => by rw [co_succ, co_nil]
  | a :: b :: p, hq, h, i => by
    have h0 : ev r (b :: p) = 0 := hq 0
    have hp := of_qs r (b :: p) (fun i => (co_succ _ _ i).symm.trans (hq (i + 1))) h0
    have h1 : ev r (b :: p) * r + a = 0 := h
    rw [h0] at h1
    cases i with
    | zero => rw [co_zero]; grind
    | succ i => rw [co_succ]; exact hp i
theorem ring12 {e x r q : Fin n} (h : 0 = 0 + (x - r) * q) : (x - r) * q = 0 := by grind
theorem ring13 {x r : Fin n} (h : x - r = 0) : x = r := by grind
theorem roots (hD : ∀ x y : Fin n, x * y = 0 → x = 0 ∨ y = 0) : ∀ (rs : List (Fin n)) (p : List (Fin n)), p.length ≤ rs.length → rs.Nodup → (∀ r ∈ rs, ev r p = 0) → ∀ i, co p i = 0
  | _, [], _, _, _, i => co_nil i
  | [], a :: p, h, _, _, i => by simp at h
  | r :: rs, a :: p, hl, hn, h, i => by
    rw [List.nodup_cons] at hn
    have hr := h r (by simp)
    refine of_qs r (a :: p) (roots hD rs _ (by rw [qs_len]; simpa using hl) hn.2 fun s hs => ?_) hr i
    have he := qs_ev s r (a :: p)
    rw [hr, h s (by simp [hs])] at he
    rcases hD _ _ (ring12 (e := 0) he) with h1 | h1
    · exact absurd (ring13 h1) fun e => hn.1 (e ▸ hs)
    · exact h1
def nc : Nat → Fin n
  | 0 => 0
  | k + 1 => nc k + 1
theorem nc_add (a : Nat) : ∀ b : Nat, (nc (a + b) : Fin n) = nc a + nc b
  | 0 => ring2 _
  | b + 1 => by show nc (a + b) + 1 = nc a + (nc b + 1); rw [nc_add a b]; grind
theorem uniq (hD : ∀ x y : Fin n, x * y = 0 → x = 0 ∨ y = 0) {N : Nat} (hN : ∀ i j, i < j → j < N → (nc i : Fin n) ≠ nc j) {p q : List (Fin n)} (hp : p.length ≤ N) (hq : q.length ≤ N)
    (h : ∀ m, m < N → ev (nc m) p = ev (nc m) q) : ∀ i, co p i = co q i := by
  have hz := roots hD ((List.range N).map nc) (pa p (ps (-1) q)) (by rw [pa_len]; simp [ps]; omega)
    (by
      rw [List.nodup_iff_pairwise_ne, List.pairwise_map]
      refine List.Pairwise.imp_of_mem (fun {a b} ha hb hab => hN a b hab (List.mem_range.1 hb)) (List.pairwise_lt_range (n := N)))
    (fun r hr => by
      obtain ⟨m, hm, rfl⟩ := List.mem_map.1 hr
      rw [ev_pa, ev_ps, h m (List.mem_range.1 hm)]; grind)
  intro i
  have := hz i
  rw [co_pa, co_ps] at this
  grind
def U (iv : Nat → Fin n) (v : Nat → Fin n) : Nat → Nat → Fin n
  | 0, i => v i
  | k + 1, i => (U iv v k (i + 1) - U iv v k i) * iv (k + 1)
def ff (y : Fin n) : Nat → Fin n
  | 0 => 1
  | r + 1 => ff y r * (y - nc r)
theorem ff_succ (y : Fin n) : ∀ r, ff (y + 1) (r + 1) = (y + 1) * ff y r
  | 0 => by show 1 * (y + 1 - 0) = (y + 1) * 1; grind
  | r + 1 => by
    have h := ff_succ y r
    show ff (y + 1) (r + 1) * (y + 1 - (nc r + 1)) = (y + 1) * (ff y r * (y - nc r))
    rw [h]; grind
theorem ff_step (y : Fin n) (r : Nat) : ff (y + 1) (r + 1) = ff y (r + 1) + nc (r + 1) * ff y r := by
  rw [ff_succ]
  show (y + 1) * ff y r = ff y r * (y - nc r) + (nc r + 1) * ff y r
  grind
theorem ff_zero {t : Nat} : ∀ {r : Nat}, t < r → ff (nc t : Fin n) r = 0
  | 0, h => by omega
  | r + 1, h => by
    show ff _ r * (nc t - nc r) = 0
    by_cases e : t = r
    · subst e; grind
    · rw [ff_zero (by omega : t < r)]; grind
def Wn (iv v : Nat → Fin n) (s : Nat) (x : Fin n) : Nat → Fin n
  | 0 => 0
  | c + 1 => Wn iv v s x c + U iv v c s * ff (x - nc s) c
theorem U_step {iv v : Nat → Fin n} {c : Nat} (hi : nc (c + 1) * iv (c + 1) = 1) (s : Nat) : U iv v c (s + 1) = U iv v c s + nc (c + 1) * U iv v (c + 1) s := by
  show _ = _ + nc (c + 1) * ((U iv v c (s + 1) - U iv v c s) * iv (c + 1))
  grind
theorem Wn_step {iv v : Nat → Fin n} {N : Nat} (hi : ∀ k, k < N → 0 < k → nc k * iv k = 1) (s : Nat) (x : Fin n) : ∀ c, c < N → Wn iv v s x (c + 1) = Wn iv v (s + 1) x c + U iv v c s * ff (x - nc (s + 1)) c
  | 0, _ => by show 0 + U iv v 0 s * 1 = 0 + U iv v 0 s * 1; rfl
  | c + 1, hc => by
    have h := Wn_step (v := v) hi s x c (by omega)
    have hu := U_step (v := v) (hi (c + 1) hc (by omega)) s
    have hf := ff_step (x - nc (s + 1)) c
    rw [show x - nc (s + 1) + 1 = x - nc s by show x - (nc s + 1) + 1 = x - nc s; grind] at hf
    rw [show Wn iv v s x (c + 1 + 1) = Wn iv v s x (c + 1) + U iv v (c + 1) s * ff (x - nc s) (c + 1) from rfl, h, hf,
      show Wn iv v (s + 1) x (c + 1) = Wn iv v (s + 1) x c + U iv v c (s + 1) * ff (x - nc (s + 1)) c from rfl, hu]
    grind
theorem Wn_at (iv v : Nat → Fin n) (m : Nat) : ∀ c, Wn iv v m (nc m) (c + 1) = v m
  | 0 => by show 0 + v m * 1 = v m; grind
  | c + 1 => by
    rw [show Wn iv v m (nc m) (c + 1 + 1) = Wn iv v m (nc m) (c + 1) + U iv v (c + 1) m * ff (nc m - nc m) (c + 1) from rfl, Wn_at iv v m c,
      show (nc m - nc m : Fin n) = nc 0 by show nc m - nc m = 0; grind, ff_zero (by omega)]
    grind
theorem Wn_all {iv v : Nat → Fin n} {N m : Nat} (hi : ∀ k, k < N → 0 < k → nc k * iv k = 1) (hm : m < N) : ∀ d s, d + s = m → Wn iv v s (nc m) (N - s) = v m
  | 0, s, h => by
    obtain rfl : s = m := by omega
    rw [show N - s = N - s - 1 + 1 by omega]; exact Wn_at ..
  | d + 1, s, h => by
    rw [show N - s = N - s - 1 + 1 by omega, Wn_step hi s _ _ (by omega)]
    have e : (nc m - nc (s + 1) : Fin n) = nc d := by
      rw [← h, show d + 1 + s = d + (s + 1) by omega, nc_add]; grind
    rw [e, ff_zero (by omega), show N - s - 1 = N - (s + 1) by omega, Wn_all hi hm d (s + 1) (by omega)]
    grind
def nw (d : Nat → Fin n) (x : Fin n) (N : Nat) : Nat → Fin n
  | 0 => 0
  | j + 1 => nw d x N j * (x - nc (N - (j + 1))) + d (N - (j + 1))
theorem nw_sum (iv v : Nat → Fin n) (x : Fin n) (N : Nat) : ∀ j, j ≤ N → nw (fun k => U iv v k 0) x N N = nw (fun k => U iv v k 0) x N (N - j) * ff x j + Wn iv v 0 x j
  | 0, _ => by show _ = _ * 1 + 0; rw [Nat.sub_zero]; grind
  | j + 1, h => by
    rw [nw_sum iv v x N j (by omega), show N - j = N - (j + 1) + 1 by omega]
    rw [show nw (fun k => U iv v k 0) x N (N - (j + 1) + 1) = nw (fun k => U iv v k 0) x N (N - (j + 1)) * (x - nc (N - (N - (j + 1) + 1))) + U iv v (N - (N - (j + 1) + 1)) 0 from rfl,
      show N - (N - (j + 1) + 1) = j by omega, show ff x (j + 1) = ff x j * (x - nc j) from rfl,
      show Wn iv v 0 x (j + 1) = Wn iv v 0 x j + U iv v j 0 * ff (x - nc 0) j from rfl, show (x - nc 0 : Fin n) = x by show x - 0 = x; grind]
    grind
theorem newton {iv v : Nat → Fin n} {N m : Nat} (hi : ∀ k, k < N → 0 < k → nc k * iv k = 1) (hm : m < N) : nw (fun k => U iv v k 0) (nc m) N N = v m := by
  have h := Wn_all (v := v) hi hm m 0 (by omega)
  rw [Nat.sub_zero] at h
  rw [nw_sum iv v _ N N (Nat.le_refl _), Nat.sub_self, h]
  show 0 * _ + _ = _
  grind
end Go.Proofs.YteeifahhejangaaGreatDoor.Po
namespace Go.Proofs.YteeifahhejangaaGreatDoor
open Go Sim
theorem hiN_le (xs : List Fp) : ∀ n, hiN xs n ≤ n
  | 0 => Nat.le_refl _
  | n + 1 => by
    have := hiN_le xs n
    simp only [hiN]; split <;> omega
theorem hiN_zero (xs : List Fp) : ∀ (n i : Nat), hiN xs n ≤ i → i < n → xs.getD i 0 = 0
  | 0, i, _, h => by omega
  | n + 1, i, h1, h2 => by
    simp only [hiN] at h1
    split at h1
    · rename_i h0
      by_cases e : i = n
      · rw [e]; exact h0
      · exact hiN_zero xs n i h1 (by omega)
    · omega
theorem hiN_top (xs : List Fp) : ∀ (n m : Nat), hiN xs n = m + 1 → xs.getD m 0 ≠ 0
  | 0, m, h => by simp [hiN] at h
  | n + 1, m, h => by
    simp only [hiN] at h
    split at h
    · exact hiN_top xs n m h
    · rename_i h0
      obtain rfl : n = m := by omega
      exact h0
theorem hiN_dg (xs : List Fp) : hiN xs xs.length = Po.dg xs := by
  refine (Po.dg_eq (fun i hi => ?_) (fun m hm => hiN_top xs _ m hm)).symm
  by_cases h : i < xs.length
  · exact hiN_zero xs _ i hi h
  · exact Po.co_len (by omega)
theorem PureOp.vpSucc {P : Program} {E : Env} {t t' : TypeId} {x y : Operand} {r : Nat} (h1 : aev E x = some (vp r)) (h2 : aev E y = some (.int .i64 1)) (h : r < 9223372036854775808) : PureOp P (.binOp .add t x y t') E (vi .i64 r) :=
  PureOp.bin h1 h2 (by simp only [evalBin, vi]; rw [IntWalk.i64_in _ (by omega)]; congr 2; omega)
theorem trimp_ctr {xs : List Fp} {n : Nat} (hn : xs.length = n) (hx : n < 1000000) : GC Tryz.prog 57 [.slice (some ⟨0, 0, none⟩) n 0] [⟨((xs.map fe).flatten).map (vi .u64), false, 4⟩] [.slice (some ⟨1, 0, none⟩) (Po.tr xs).length 0]
    [⟨((xs.map fe).flatten).map (vi .u64), false, 4⟩, ⟨(((Po.tr xs).map fe).flatten).map (vi .u64), true, 4⟩] := by
  subst hn
  have hle := hiN_le xs xs.length
  rw [Po.tr_len, Po.tr, ← hiN_dg]
  refine GC.intro Tryz.func57 rfl (by show 1 ≤ 9; decide) (Nat.le_succ _) ?_
  refine zS ?_
  refine yA ?_
  refine zN (zS ?_)
  refine yM ?_
  refine yM ?_
  refine yC (degree_ctr (xs := xs) (n := xs.length) (Nat.le_refl _) (by omega)) bd74 [(0, 0)] [] ?_
  refine yP (PureOp.vpSucc (r := hiN xs xs.length) rfl rfl (by omega)) ?_
  refine AWo.sliceS tbok rfl .none (.some rfl) rfl rfl rfl rfl (by omega) (by omega) (.inl rfl) rfl rfl rfl ?_
  refine yC (clonep_ctr (xs := xs) (n := hiN xs xs.length) hle (by omega)) bd73 [(0, 0)] [9000] ?_
  refine yA ?_
  refine zN (zE ?_)
  exact rq [9000] [.tmp 2]
end Go.Proofs.YteeifahhejangaaGreatDoor
namespace Go.Proofs.YteeifahhejangaaGreatDoor
open Go Sim
theorem few_step {Ls : List (List Nat)} {i : Nat} (hi : i < Ls.length) (hs : ∀ b ∈ Ls.take i, b.length ≤ 40) (hle : (Ls.getD i []).length ≤ 40) : ∀ b ∈ Ls.take (i + 1), b.length ≤ 40 := by
  intro b hb
  rw [List.take_add_one, List.mem_append] at hb
  rcases hb with hb | hb
  · exact hs b hb
  · rw [List.getElem?_eq_getElem hi] at hb
    rw [List.getD_eq_getElem?_getD, List.getElem?_eq_getElem hi] at hle
    obtain rfl : b = Ls[i] := by simpa using hb
    exact hle
end Go.Proofs.YteeifahhejangaaGreatDoor
namespace Go.Proofs.YteeifahhejangaaGreatDoor
open Go Sim
theorem atp_ctr {xs : List Fp} {n i : Nat} (hn : xs.length = n) (hx : n < 1000000) : GC Tryz.prog 72 [.slice (some ⟨0, 0, none⟩) n 0, vi .i64 (i)] [⟨((xs.map fe).flatten).map (vi .u64), false, 4⟩] [.agg ((fe (Po.co xs i)).map (vi .u64)).toArray] [⟨((xs.map fe).flatten).map (vi .u64), false, 4⟩] := by
  subst hn
  refine GC.intro Tryz.func72 rfl (by show 2 ≤ 14; decide) (Nat.le_refl _) ?_
  refine zS ?_
  refine yN 5000 1 ((fe 0).map (vi .u64)) ?_ (hc := by rw [fe_zero]; rfl)
  refine zN (zQ (zS ?_))
  refine yM ?_
  refine yM ?_
  refine yP (pL (k := xs.length)) ?_
  refine yP (pLt (a := i) (b := xs.length)) ?_
  refine zN (zA (fun h => ?_) (fun h => ?_))
  · have hi : i < xs.length := by simpa using h
    refine zS ?_
    refine yM ?_
    refine yM ?_
    refine yP (pI (j := i) (n := xs.length)) ?_
    refine yLJ (xs := xs) i ?_
    refine ySA ?_
    refine zN (zE ?_)
    exact rq [] [.cell 4 32]
  · have hi : Po.co xs i = 0 := Po.co_len (by have := of_decide_eq_false h; omega)
    rw [hi, fe_zero]
    refine zK (zT (zS ?_))
    refine AWo.pure (PureOp.buildStruct [] pl32.choose_spec.1 zr32 (by decide) pl32.choose_spec.2 rfl rfl) rfl rfl ?_
    refine ySA ?_
    refine zN (zE ?_)
    exact rq [] [.cell 4 32]
end Go.Proofs.YteeifahhejangaaGreatDoor
namespace Go.Proofs.YteeifahhejangaaGreatDoor
open Go Sim
theorem pa_step {xs ys : List Fp} {i : Nat} (h : i < (Po.pa xs ys).length) : (Po.pa xs ys).take i ++ [Po.co xs i + Po.co ys i] = (Po.pa xs ys).take (i + 1) := by
  rw [List.take_succ_eq_append_getElem h, ← Po.co_pa, Po.co_lt h]
theorem addp_ctr {xs ys : List Fp} {n k : Nat} (hn : xs.length = n) (hk : ys.length = k) (hx : n < 1000000) (hy : k < 1000000) : GC Tryz.prog 56 [.slice (some ⟨0, 0, none⟩) n 0, .slice (some ⟨1, 0, none⟩) k 0] [⟨((xs.map fe).flatten).map (vi .u64), false, 4⟩, ⟨((ys.map fe).flatten).map (vi .u64), false, 4⟩] [.slice (some ⟨2, 0, none⟩) (Po.tr (Po.pa xs ys)).length 0] [⟨((xs.map fe).flatten).map (vi .u64), false, 4⟩, ⟨((ys.map fe).flatten).map (vi .u64), false, 4⟩, ⟨(((Po.tr (Po.pa xs ys)).map fe).flatten).map (vi .u64), true, 4⟩] := by
  refine GC.intro Tryz.func56 rfl (by show 2 ≤ 28; decide) (by first | exact Nat.le_refl _ | decide | simp) ?_
  subst hn
  subst hk
  have hpl : (Po.pa xs ys).length = (Nat.max xs.length ys.length) := Po.pa_len xs ys
  refine AW.seqR ?_
  refine AWo.pure (PureOp.assign rfl) rfl rfl ?_
  refine AWo.nil trivial ?_
  refine AW.seqR ?_
  refine AWo.pure (PureOp.assign rfl) rfl rfl ?_
  refine AWo.nil trivial ?_
  refine AW.seq ?_
  refine AW.seqR ?_
  refine AWo.pure (PureOp.move rfl) rfl rfl ?_
  first | refine AWo.pure (PureOp.lenS tbok rfl rfl) rfl rfl ?_ | refine AWo.pure (PureOp.lenD tbok rfl rfl) rfl rfl ?_
  refine AWo.pure (PureOp.move rfl) rfl rfl ?_
  first | refine AWo.pure (PureOp.lenS tbok rfl rfl) rfl rfl ?_ | refine AWo.pure (PureOp.lenD tbok rfl rfl) rfl rfl ?_
  first | refine AWo.pure (PureOp.maxN rfl rfl) rfl rfl ?_ | refine AWo.pure (PureOp.max rfl rfl) rfl rfl ?_
  refine AWo.pure (PureOp.move rfl) rfl rfl ?_
  refine AWo.nil trivial ?_
  refine AW.block ?_
  refine AW.ghost 77000 4 rfl ?_
  refine AW.loopw (fun mm σ => ∃ i, (i ≤ (Nat.max xs.length ys.length)) ∧ mm = (Nat.max xs.length ys.length) - i ∧ σ = ⟨(upd (upd (upd (upd (upd emp 0 (.slice (some ⟨0, 0, none⟩) xs.length 0)) 1 (.slice (some ⟨1, 0, none⟩) ys.length 0)) 5 (.slice (some ⟨77000, 0, none⟩) i 0)) 11 (vi .i64 (Nat.max xs.length ys.length))) 12 (vi .i64 i)), (upd (upd (upd emp 0 ⟨((xs.map fe).flatten).map (vi .u64), false, 4⟩) 1 ⟨((ys.map fe).flatten).map (vi .u64), false, 4⟩) 77000 ⟨((((Po.pa xs ys).take i).map fe).flatten).map (vi .u64), true, 4⟩)⟩) (fm := []) ?_ ⟨0, Nat.zero_le _, rfl, rfl⟩ ?_
  ·
    refine Wk.of [0, 1, 77000] ?_ ?_ ?_ (by decide) rfl
    ·
      refine WkE.upd rfl (by first | exact VR.flat _ rfl | exact VR.eqv (vp_succ _) rfl | exact VR.eqv (vp_succ _).symm rfl | exact VR.eqv (by first | rfl | (congr 1; omega) | (simp; done) | (simp; omega)) rfl) ?_
      refine WkE.upd rfl (by first | exact VR.flat _ rfl | exact VR.eqv (vp_succ _) rfl | exact VR.eqv (vp_succ _).symm rfl | exact VR.eqv (by first | rfl | (congr 1; omega) | (simp; done) | (simp; omega)) rfl) ?_
      refine WkE.upd rfl (by first | exact .nilS _ (by simp) | exact .slice (77000) 0 _ 0 ⟨_, rfl⟩ (by simp) (by simp)) ?_
      refine WkE.upd rfl (.slice (1) 0 _ 0 ⟨_, rfl⟩ (by simp) (by simp)) ?_
      refine WkE.upd rfl (.slice (0) 0 _ 0 ⟨_, rfl⟩ (by simp) (by simp)) ?_
      exact WkE.emp
    ·
      refine WkM.flat rfl (flatM flat_vi) (fun h => h) ?_
      refine WkM.flat rfl (flatM flat_vi) (fun h => h) ?_
      refine WkM.flat rfl (flatM flat_vi) (fun h => h) ?_
      exact WkM.emp
    ·
      repeat (refine dom_upd_mem (by decide) ?_)
      exact dom_emp
  ·
    rintro mm σ ⟨i, hinv, rfl, rfl⟩
    refine AW.seqR ?_
    first | refine AWo.pure (PureOp.ltN rfl rfl) rfl rfl ?_ | refine AWo.pure (PureOp.bin rfl rfl rfl) rfl rfl ?_
    refine AWo.nil trivial ?_
    refine AW.seq ?_
    refine AW.cond rfl (fun hb0 => ?_) (fun hb0 => ?_)
    ·
      have hi : i < (Nat.max xs.length ys.length) := by simpa using hb0
      have hm1 := Nat.max_lt.2 ⟨hx, hy⟩
      have hm2 : (Nat.max xs.length ys.length) < 1000000 := hm1
      refine AW.skip ?_
      refine thenA_normal ?_
      refine AW.seq ?_
      refine AW.block ?_
      refine AW.seqR ?_
      refine AWo.pure (PureOp.move rfl) rfl rfl ?_
      refine AWo.pure (PureOp.assign rfl) rfl rfl ?_
      refine AWo.nil trivial ?_
      refine AW.region ?_
      refine AWo.pure (PureOp.move rfl) rfl rfl ?_
      refine AWo.pure (PureOp.move rfl) rfl rfl ?_
      refine AWo.pure (PureOp.move rfl) rfl rfl ?_
      refine AWo.callX (atp_ctr (xs := xs) (n := xs.length) (i := i) rfl hx) bd72 [(0, 0)] [] rfl (.cons rfl (.cons rfl .nil)) rfl (.cons rfl rfl (.cons rfl rfl .nil)) (.flat rfl (flatM flat_vi) (by intro h; first | exact h | rfl) .nil) rfl (.keep rfl .nil) frN (by decide) (.pure (by first | rfl | exact pure_aggM flat_vi | exact pure_aggM flat_bool) .nil) rfl rfl rfl rfl ?_
      refine AWo.pure (PureOp.move rfl) rfl rfl ?_
      refine AWo.pure (PureOp.move rfl) rfl rfl ?_
      refine AWo.callX (atp_ctr (xs := ys) (n := ys.length) (i := i) rfl hy) bd72 [(1, 0)] [] rfl (.cons rfl (.cons rfl .nil)) rfl (.cons rfl rfl (.cons rfl rfl .nil)) (.flat rfl (flatM flat_vi) (by intro h; first | exact h | rfl) .nil) rfl (.keep rfl .nil) frN (by decide) (.pure (by first | rfl | exact pure_aggM flat_vi | exact pure_aggM flat_bool) .nil) rfl rfl rfl rfl ?_
      refine AWo.callX (addF_ctr (x := Po.co xs i) (y := Po.co ys i)) bd35 [] [] rfl (.cons rfl (.cons rfl .nil)) rfl (.pure (by first | rfl | exact pure_aggM flat_vi | exact pure_aggM flat_bool) (.pure (by first | rfl | exact pure_aggM flat_vi | exact pure_aggM flat_bool) .nil)) .nil rfl .nil frN (by decide) (.pure (by first | rfl | exact pure_aggM flat_vi | exact pure_aggM flat_bool) .nil) rfl rfl rfl rfl ?_
      refine AWo.buildSlice tbok 24000 [(0, .agg ((fe (Po.co xs i + Po.co ys i)).map (vi .u64)).toArray)] (out := [fe (Po.co xs i + Po.co ys i)].flatten.map (vi .u64)) rfl rfl (by decide) rfl rfl rfl (by decide) rfl (fillB1 (fe_len _)) rfl rfl rfl ?_
      refine AWo.append tbok (all := ((((Po.pa xs ys).take (i + 1)).map fe).flatten).map (vi .u64)) (news := [fe (Po.co xs i + Po.co ys i)].flatten.map (vi .u64)) 25000 rfl rfl rfl rfl (by show (FF _).length = _; rw [FF_len, List.length_take, Nat.min_eq_left (by omega)]) (by show List.take _ (List.drop 0 _) = _; rw [List.drop_zero]; exact List.take_of_length_le (by simp)) (by simp; done) (by decide) rfl rfl rfl (by first | decide | exact Nat.one_ne_zero) rfl rfl rfl (by first | decide | omega) (by first | decide | omega) (by first | exact oneM (fun _ => rfl) _ | (simp; done)) (by show FF _ ++ FF [_] = FF _; rw [← FF_app, pa_step (by omega)]) rfl rfl ?_
      refine AWo.pure (PureOp.assign rfl) rfl rfl ?_
      refine AWo.nil trivial ?_
      refine inBlockA_normal ?_
      refine thenA_normal ?_
      refine AW.region ?_
      first | refine AWo.pure (PureOp.addI (b := 1) rfl rfl (by first | decide | omega)) rfl rfl ?_ | refine AWo.pure (PureOp.bin rfl rfl rfl) rfl rfl ?_
      refine AWo.pure (PureOp.move rfl) rfl rfl ?_
      refine AWo.nil trivial ?_
      refine thenA_normal ?_
      refine ⟨(Nat.max xs.length ys.length) - (i + 1), [(77000, 25000)], _, by omega, ?_, i + 1, by omega, rfl, rfl⟩
      refine Wk.of [0, 1, 77000] ?_ ?_ ?_ (by decide) rfl
      ·
        refine WkE.upd rfl (by first | exact VR.flat _ rfl | exact VR.eqv (vp_succ _) rfl | exact VR.eqv (vp_succ _).symm rfl | exact VR.eqv (by first | rfl | (congr 1; omega) | (simp; done) | (simp; omega)) rfl) ?_
        refine WkE.upd rfl (by first | exact VR.flat _ rfl | exact VR.eqv (vp_succ _) rfl | exact VR.eqv (vp_succ _).symm rfl | exact VR.eqv (by first | rfl | (congr 1; omega) | (simp; done) | (simp; omega)) rfl) ?_
        refine WkE.upd rfl (by first | exact .nilS _ (by simp) | exact .slice (77000) 0 _ 0 ⟨_, rfl⟩ (by simp) (by simp)) ?_
        refine WkE.upd rfl (.slice (1) 0 _ 0 ⟨_, rfl⟩ (by simp) (by simp)) ?_
        refine WkE.upd rfl (.slice (0) 0 _ 0 ⟨_, rfl⟩ (by simp) (by simp)) ?_
        exact WkE.emp
      ·
        refine WkM.flat rfl (flatM flat_vi) (fun h => h) ?_
        refine WkM.flat rfl (flatM flat_vi) (fun h => h) ?_
        refine WkM.flat rfl (flatM flat_vi) (fun h => h) ?_
        exact WkM.emp
      ·
        repeat (refine dom_upd_mem (by decide) ?_)
        exact dom_emp
    ·
      obtain rfl : i = (Nat.max xs.length ys.length) := by have := of_decide_eq_false hb0; omega
      rw [List.take_of_length_le (by omega)]
      refine AW.exit ?_
      refine thenA_exit ?_
      refine thenA_exit ?_
      refine inBlockA_hit ?_
      refine thenA_normal ?_
      refine AW.seqR ?_
      refine AWo.pure (PureOp.move rfl) rfl rfl ?_
      refine AWo.callX (trimp_ctr (xs := Po.pa xs ys) (n := (Nat.max xs.length ys.length)) hpl (by have := Nat.max_le.2 ⟨Nat.le_of_lt hx, Nat.le_of_lt hy⟩; have := Nat.max_lt.2 ⟨hx, hy⟩; exact this)) bd57 [(77000, 0)] [28000] rfl (.cons rfl .nil) rfl (.cons rfl rfl .nil) (.flat rfl (flatM flat_vi) (by intro h; first | exact h | rfl) .nil) rfl (.keep rfl (.new (flat_map_ren (flatM flat_vi)) (OkL.flat (flatM flat_vi)) .nil)) (frC rfl frN) (by decide) (.cons rfl rfl .nil) rfl rfl rfl rfl ?_
      refine AWo.pure (PureOp.assign rfl) rfl rfl ?_
      refine AWo.nil trivial ?_
      refine AW.ret ?_
      refine RetQ.gc [_] [28000] [.tmp 4] (.inl rfl) rfl (.tmp rfl .nil) rfl (.cons rfl rfl .nil) (OutL.flat rfl (flatM flat_vi) (by intro h; first | rfl | exact h.elim id fun h => absurd h.1 (by simp)) (OutL.flat rfl (flatM flat_vi) (by intro h; first | rfl | exact h.elim id fun h => absurd h.1 (by simp)) (OutL.flat rfl (flatM flat_vi) (by intro h; first | rfl | exact h.elim id fun h => absurd h.1 (by simp)) trivial))) (by decide) rfl
end Go.Proofs.YteeifahhejangaaGreatDoor
namespace Go.Proofs.YteeifahhejangaaGreatDoor
open Go Sim
def rowA (l : List Fp) (i : Nat) (a : Fp) (ys : List Fp) : Nat → List Fp
  | 0 => l
  | j + 1 => (rowA l i a ys j).set (i + j) ((rowA l i a ys j).getD (i + j) 0 + a * ys.getD j 0)
def mulA (xs ys : List Fp) : Nat → List Fp
  | 0 => List.replicate (xs.length + ys.length) 0
  | i + 1 => rowA (mulA xs ys i) i (xs.getD i 0) ys ys.length
theorem rowA_len (l : List Fp) (i : Nat) (a : Fp) (ys : List Fp) : ∀ j, (rowA l i a ys j).length = l.length
  | 0 => rfl
  | j + 1 => by rw [rowA, List.length_set, rowA_len l i a ys j]
theorem mulA_len (xs ys : List Fp) : ∀ i, (mulA xs ys i).length = xs.length + ys.length
  | 0 => by rw [mulA, List.length_replicate]
  | i + 1 => by rw [mulA, rowA_len, mulA_len xs ys i]
theorem co_set {l : List Fp} {p : Nat} {v : Fp} (h : p < l.length) (k : Nat) : Po.co (l.set p v) k = if k = p then v else Po.co l k := by
  unfold Po.co
  rw [List.getD_eq_getElem?_getD, List.getD_eq_getElem?_getD, List.getElem?_set]
  by_cases e : p = k
  · subst e; simp [h]
  · rw [if_neg e, if_neg (fun h => e h.symm)]
theorem co_rowA {l : List Fp} {i : Nat} {a : Fp} {ys : List Fp} (k : Nat) : ∀ j, i + j ≤ l.length → Po.co (rowA l i a ys j) k = Po.co l k + (if i ≤ k ∧ k < i + j then a * Po.co ys (k - i) else 0)
  | 0, _ => by rw [if_neg (by omega), rowA, Rg.add_zero]
  | j + 1, h => by
    rw [rowA, co_set (by rw [rowA_len]; omega)]
    by_cases e : k = i + j
    · subst e
      rw [if_pos rfl, if_pos ⟨by omega, by omega⟩, Nat.add_sub_cancel_left]
      have := co_rowA (l := l) (i := i) (a := a) (ys := ys) (i + j) j (by omega)
      rw [if_neg (by omega), Rg.add_zero] at this
      unfold Po.co at this ⊢
      rw [this]
    · rw [if_neg e, co_rowA k j (by omega)]
      by_cases h2 : i ≤ k ∧ k < i + j
      · rw [if_pos h2, if_pos ⟨h2.1, by omega⟩]
      · rw [if_neg h2, if_neg (by omega)]
theorem ringB (b s : Fp) : s * b + 0 = 0 + b * s := by rw [Rg.add_zero, Rg.zero_add, Rg.mul_comm]
theorem ringC (u s t : Fp) : u + (s + t) = u + s + t := by rw [Rg.add_assoc]
theorem co_snoc (q : List Fp) (a : Fp) : ∀ (p : List Fp) (k : Nat), Po.co (Po.pm (p ++ [a]) q) k = Po.co (Po.pm p q) k + (if p.length ≤ k then a * Po.co q (k - p.length) else 0)
  | [], k => by
    rw [List.nil_append, List.length_nil, if_pos (Nat.zero_le _), Nat.sub_zero]
    cases k with
    | zero => rw [Po.co_pm_zero, Po.pm, Po.co_nil]; exact ringB ..
    | succ k => rw [Po.co_pm_succ, Po.pm, Po.co_nil, Po.co_nil]; exact ringB ..
  | b :: p, 0 => by
    rw [List.cons_append, Po.co_pm_zero, Po.co_pm_zero, if_neg (by simp), Rg.add_zero, Rg.add_zero]
  | b :: p, k + 1 => by
    rw [List.cons_append, Po.co_pm_succ, Po.co_pm_succ, co_snoc q a p k, ringC]
    congr 1
    simp only [List.length_cons, Nat.add_le_add_iff_right, Nat.add_sub_add_right]
theorem co_mulA (xs ys : List Fp) (k : Nat) : ∀ i, i ≤ xs.length → Po.co (mulA xs ys i) k = Po.co (Po.pm (xs.take i) ys) k
  | 0, _ => by
    rw [mulA, List.take_zero, Po.pm, Po.co_nil]
    unfold Po.co
    rw [List.getD_eq_getElem?_getD]
    by_cases h : k < xs.length + ys.length
    · rw [List.getElem?_replicate_of_lt h]; rfl
    · rw [List.getElem?_eq_none (by simp; omega)]; rfl
  | i + 1, h => by
    rw [mulA, co_rowA k ys.length (by rw [mulA_len]; omega), co_mulA xs ys k i (by omega), List.take_succ_eq_append_getElem (show i < xs.length by omega), co_snoc]
    congr 1
    rw [List.length_take, Nat.min_eq_left (by omega), List.getD_eq_getElem?_getD, List.getElem?_eq_getElem (show i < xs.length by omega), Option.getD_some]
    by_cases h1 : i ≤ k
    · by_cases h2 : k < i + ys.length
      · rw [if_pos ⟨h1, h2⟩, if_pos h1]
      · rw [if_neg (by omega), if_pos h1, Po.co_len (by omega), Rg.mul_zero]
    · rw [if_neg (by omega), if_neg h1]
theorem mulA_tr (xs ys : List Fp) : Po.tr (mulA xs ys xs.length) = Po.tr (Po.pm xs ys) := Po.tr_congr fun k => by
  rw [co_mulA xs ys k _ (Nat.le_refl _), List.take_length]
theorem mulp_ctr {xs ys : List Fp} {n k : Nat} (hn : xs.length = n) (hk : ys.length = k) (hx : n < 100000) (hy : k < 100000) : GC Tryz.prog 54 [.slice (some ⟨0, 0, none⟩) n 0, .slice (some ⟨1, 0, none⟩) k 0] [⟨((xs.map fe).flatten).map (vi .u64), false, 4⟩, ⟨((ys.map fe).flatten).map (vi .u64), false, 4⟩] [.slice (some ⟨2, 0, none⟩) (Po.tr (Po.pm xs ys)).length 0] [⟨((xs.map fe).flatten).map (vi .u64), false, 4⟩, ⟨((ys.map fe).flatten).map (vi .u64), false, 4⟩, ⟨(((Po.tr (Po.pm xs ys)).map fe).flatten).map (vi .u64), true, 4⟩] := by
  refine GC.intro Tryz.func54 rfl (by show 2 ≤ 49; decide) (by first | exact Nat.le_refl _ | decide | simp) ?_
  subst hn
  subst hk
  refine AW.seqR ?_
  refine AWo.pure (PureOp.assign rfl) rfl rfl ?_
  refine AWo.nil trivial ?_
  refine AW.seqR ?_
  refine AWo.pure (PureOp.move rfl) rfl rfl ?_
  first | refine AWo.pure (PureOp.lenS tbok rfl rfl) rfl rfl ?_ | refine AWo.pure (PureOp.lenD tbok rfl rfl) rfl rfl ?_
  refine AWo.pure (PureOp.move rfl) rfl rfl ?_
  first | refine AWo.pure (PureOp.lenS tbok rfl rfl) rfl rfl ?_ | refine AWo.pure (PureOp.lenD tbok rfl rfl) rfl rfl ?_
  first | refine AWo.pure (PureOp.addI rfl rfl (by first | decide | omega)) rfl rfl ?_ | refine AWo.pure (PureOp.bin rfl rfl rfl) rfl rfl ?_
  refine AWo.makeSliceC tbok 16000 ((((List.replicate (xs.length + ys.length) (0 : Fp)).map fe).flatten).map (vi .u64)) rfl rfl (Nat.le_refl _) rfl rfl (by decide) rfl rfl rfl rfl (by omega) (by omega) (zeroFF _).symm rfl rfl rfl ?_
  refine AWo.pure (PureOp.assign rfl) rfl rfl ?_
  refine AWo.nil trivial ?_
  refine AW.seq ?_
  refine AW.seqR ?_
  refine AWo.pure (PureOp.move rfl) rfl rfl ?_
  first | refine AWo.pure (PureOp.lenS tbok rfl rfl) rfl rfl ?_ | refine AWo.pure (PureOp.lenD tbok rfl rfl) rfl rfl ?_
  refine AWo.pure (PureOp.move rfl) rfl rfl ?_
  refine AWo.nil trivial ?_
  refine AW.block ?_
  refine AW.loopw (fun mm σ => ∃ i, (i ≤ xs.length) ∧ mm = xs.length - i ∧ σ = ⟨(upd (upd (upd (upd (upd emp 1 (.slice (some ⟨1, 0, none⟩) ys.length 0)) 5 (.slice (some ⟨16000, 0, none⟩) (xs.length + ys.length) 0)) 16 (.slice (some ⟨0, 0, none⟩) xs.length 0)) 17 (vi .i64 xs.length)) 18 (vi .i64 i)), (upd (upd (upd emp 0 ⟨((xs.map fe).flatten).map (vi .u64), false, 4⟩) 1 ⟨((ys.map fe).flatten).map (vi .u64), false, 4⟩) 16000 ⟨(((mulA xs ys i).map fe).flatten).map (vi .u64), true, 4⟩)⟩) (fm := []) ?_ ⟨0, Nat.zero_le _, rfl, rfl⟩ ?_
  ·
    refine Wk.of [0, 1, 16000] ?_ ?_ ?_ (by decide) rfl
    ·
      refine WkE.upd rfl (by first | exact VR.flat _ rfl | exact VR.eqv (vp_succ _) rfl | exact VR.eqv (vp_succ _).symm rfl | exact VR.eqv (by first | rfl | (congr 1; omega) | (simp; done) | (simp; omega)) rfl) ?_
      refine WkE.upd rfl (by first | exact VR.flat _ rfl | exact VR.eqv (vp_succ _) rfl | exact VR.eqv (vp_succ _).symm rfl | exact VR.eqv (by first | rfl | (congr 1; omega) | (simp; done) | (simp; omega)) rfl) ?_
      refine WkE.upd rfl (.slice (0) 0 _ 0 ⟨_, rfl⟩ (by simp) (by simp)) ?_
      refine WkE.upd rfl (.slice (16000) 0 _ 0 ⟨_, rfl⟩ (by simp) (by simp)) ?_
      refine WkE.upd rfl (.slice (1) 0 _ 0 ⟨_, rfl⟩ (by simp) (by simp)) ?_
      exact WkE.emp
    ·
      refine WkM.flat rfl (flatM flat_vi) (fun h => h) ?_
      refine WkM.flat rfl (flatM flat_vi) (fun h => h) ?_
      refine WkM.flat rfl (flatM flat_vi) (fun h => h) ?_
      exact WkM.emp
    ·
      repeat (refine dom_upd_mem (by decide) ?_)
      exact dom_emp
  ·
    rintro mm σ ⟨i, hinv, rfl, rfl⟩
    refine AW.seqR ?_
    first | refine AWo.pure (PureOp.ltN rfl rfl) rfl rfl ?_ | refine AWo.pure (PureOp.bin rfl rfl rfl) rfl rfl ?_
    refine AWo.nil trivial ?_
    refine AW.seq ?_
    refine AW.cond rfl (fun hb0 => ?_) (fun hb0 => ?_)
    ·
      have hi : i < xs.length := by simpa using hb0
      refine AW.skip ?_
      refine thenA_normal ?_
      refine AW.seq ?_
      refine AW.block ?_
      refine AW.seqR ?_
      refine AWo.pure (PureOp.move rfl) rfl rfl ?_
      first | refine AWo.pure (PureOp.idx1 tbok rfl rfl rfl rfl (by first | decide | omega)) rfl rfl ?_ | refine AWo.pure (PureOp.idx tbok rfl rfl rfl rfl (by first | decide | omega)) rfl rfl ?_
      refine yLJ (xs := xs) (i) ?_
      refine AWo.alloc tbok 8000 1 _ rfl rfl rfl rfl rfl rfl ?_
      refine AWo.pure (PureOp.assign rfl) rfl rfl ?_
      refine AWo.storeAllN tbok rfl rfl rfl rfl (by first | (simp [*]; done) | rfl) (by first | (simp [*]; done) | rfl) (by first | exact oneM (fun _ => rfl) _ | rfl | (simp; done)) rfl ?_
      refine AWo.nil trivial ?_
      refine AW.seqR ?_
      refine AWo.pure (PureOp.move rfl) rfl rfl ?_
      first | refine AWo.pure (PureOp.lenS tbok rfl rfl) rfl rfl ?_ | refine AWo.pure (PureOp.lenD tbok rfl rfl) rfl rfl ?_
      refine AWo.pure (PureOp.move rfl) rfl rfl ?_
      refine AWo.nil trivial ?_
      refine AW.block ?_
      refine AW.loopw (fun mm σ => ∃ j, (j ≤ ys.length) ∧ mm = ys.length - j ∧ σ = ⟨(upd (upd (upd (upd (upd (upd (upd (upd (upd (upd emp 1 (.slice (some ⟨1, 0, none⟩) ys.length 0)) 5 (.slice (some ⟨16000, 0, none⟩) (xs.length + ys.length) 0)) 16 (.slice (some ⟨0, 0, none⟩) xs.length 0)) 17 (vi .i64 xs.length)) 18 (vi .i64 i)) 6 (vi .i64 i)) 7 (.pointer (some ⟨8000, 0, none⟩))) 23 (.slice (some ⟨1, 0, none⟩) ys.length 0)) 24 (vi .i64 ys.length)) 25 (vi .i64 j)), (upd (upd (upd (upd emp 0 ⟨((xs.map fe).flatten).map (vi .u64), false, 4⟩) 1 ⟨((ys.map fe).flatten).map (vi .u64), false, 4⟩) 16000 ⟨(((rowA (mulA xs ys i) i (xs.getD i 0) ys j).map fe).flatten).map (vi .u64), true, 4⟩) 8000 ⟨(fe (xs.getD i 0)).map (vi .u64), true, 1⟩)⟩) (fm := []) ?_ ⟨0, Nat.zero_le _, rfl, rfl⟩ ?_
      ·
        refine Wk.of [0, 1, 16000, 8000] ?_ ?_ ?_ (by decide) rfl
        ·
          refine WkE.upd rfl (by first | exact VR.flat _ rfl | exact VR.eqv (vp_succ _) rfl | exact VR.eqv (vp_succ _).symm rfl | exact VR.eqv (by first | rfl | (congr 1; omega) | (simp; done) | (simp; omega)) rfl) ?_
          refine WkE.upd rfl (by first | exact VR.flat _ rfl | exact VR.eqv (vp_succ _) rfl | exact VR.eqv (vp_succ _).symm rfl | exact VR.eqv (by first | rfl | (congr 1; omega) | (simp; done) | (simp; omega)) rfl) ?_
          refine WkE.upd rfl (.slice (1) 0 _ 0 ⟨_, rfl⟩ (by simp) (by simp)) ?_
          refine WkE.upd rfl (.ptr (8000) 0 ⟨_, rfl⟩) ?_
          refine WkE.upd rfl (by first | exact VR.flat _ rfl | exact VR.eqv (vp_succ _) rfl | exact VR.eqv (vp_succ _).symm rfl | exact VR.eqv (by first | rfl | (congr 1; omega) | (simp; done) | (simp; omega)) rfl) ?_
          refine WkE.upd rfl (by first | exact VR.flat _ rfl | exact VR.eqv (vp_succ _) rfl | exact VR.eqv (vp_succ _).symm rfl | exact VR.eqv (by first | rfl | (congr 1; omega) | (simp; done) | (simp; omega)) rfl) ?_
          refine WkE.upd rfl (by first | exact VR.flat _ rfl | exact VR.eqv (vp_succ _) rfl | exact VR.eqv (vp_succ _).symm rfl | exact VR.eqv (by first | rfl | (congr 1; omega) | (simp; done) | (simp; omega)) rfl) ?_
          refine WkE.upd rfl (.slice (0) 0 _ 0 ⟨_, rfl⟩ (by simp) (by simp)) ?_
          refine WkE.upd rfl (.slice (16000) 0 _ 0 ⟨_, rfl⟩ (by simp) (by simp)) ?_
          refine WkE.upd rfl (.slice (1) 0 _ 0 ⟨_, rfl⟩ (by simp) (by simp)) ?_
          exact WkE.emp
        ·
          refine WkM.flat rfl (flatM flat_vi) (fun h => h) ?_
          refine WkM.flat rfl (flatM flat_vi) (fun h => h) ?_
          refine WkM.flat rfl (flatM flat_vi) (fun h => h) ?_
          refine WkM.flat rfl (flatM flat_vi) (fun h => h) ?_
          exact WkM.emp
        ·
          repeat (refine dom_upd_mem (by decide) ?_)
          exact dom_emp
      ·
        rintro mm σ ⟨j, hj0, rfl, rfl⟩
        refine AW.seqR ?_
        first | refine AWo.pure (PureOp.ltN rfl rfl) rfl rfl ?_ | refine AWo.pure (PureOp.bin rfl rfl rfl) rfl rfl ?_
        refine AWo.nil trivial ?_
        refine AW.seq ?_
        refine AW.cond rfl (fun hb1 => ?_) (fun hb1 => ?_)
        ·
          have hj : j < ys.length := by simpa using hb1
          have hrl : (rowA (mulA xs ys i) i (xs.getD i 0) ys j).length = xs.length + ys.length := by rw [rowA_len, mulA_len]
          refine AW.skip ?_
          refine thenA_normal ?_
          refine AW.seq ?_
          refine AW.block ?_
          refine AW.seqR ?_
          refine AWo.pure (PureOp.move rfl) rfl rfl ?_
          first | refine AWo.pure (PureOp.idx1 tbok rfl rfl rfl rfl (by first | decide | omega)) rfl rfl ?_ | refine AWo.pure (PureOp.idx tbok rfl rfl rfl rfl (by first | decide | omega)) rfl rfl ?_
          refine yLJ (xs := ys) (j) ?_
          refine AWo.alloc tbok 10000 1 _ rfl rfl rfl rfl rfl rfl ?_
          refine AWo.pure (PureOp.assign rfl) rfl rfl ?_
          refine AWo.storeAllN tbok rfl rfl rfl rfl (by first | (simp [*]; done) | rfl) (by first | (simp [*]; done) | rfl) (by first | exact oneM (fun _ => rfl) _ | rfl | (simp; done)) rfl ?_
          refine AWo.nil trivial ?_
          refine AW.draw mixed ?_
          refine AWo.pure (PureOp.move rfl) rfl rfl ?_
          refine AWo.pure (PureOp.move rfl) rfl rfl ?_
          refine AWo.pure (PureOp.move rfl) rfl rfl ?_
          first | refine AWo.pure (PureOp.addI rfl rfl (by first | decide | omega)) rfl rfl ?_ | refine AWo.pure (PureOp.bin rfl rfl rfl) rfl rfl ?_
          refine AWo.pure (PureOp.move rfl) rfl rfl ?_
          refine AWo.pure (PureOp.move rfl) rfl rfl ?_
          refine AWo.pure (PureOp.move rfl) rfl rfl ?_
          first | refine AWo.pure (PureOp.addI rfl rfl (by first | decide | omega)) rfl rfl ?_ | refine AWo.pure (PureOp.bin rfl rfl rfl) rfl rfl ?_
          first | refine AWo.pure (PureOp.idx1 tbok rfl rfl rfl rfl (by first | decide | omega)) rfl rfl ?_ | refine AWo.pure (PureOp.idx tbok rfl rfl rfl rfl (by first | decide | omega)) rfl rfl ?_
          refine yLJ (xs := rowA (mulA xs ys i) i (xs.getD i 0) ys j) (i + j) ?_
          first | refine yLE ?_ | refine yLEi ?_
          first | refine yLE ?_ | refine yLEi ?_
          refine AWo.callX (mulF_ctr (x := xs.getD i 0) (y := ys.getD j 0)) bd34 [] [] rfl (.cons rfl (.cons rfl .nil)) rfl (.pure (by first | rfl | exact pure_aggM flat_vi | exact pure_aggM flat_bool) (.pure (by first | rfl | exact pure_aggM flat_vi | exact pure_aggM flat_bool) .nil)) .nil rfl .nil frN (by decide) (.pure (by first | rfl | exact pure_aggM flat_vi | exact pure_aggM flat_bool) .nil) rfl rfl rfl rfl ?_
          refine AWo.callX (addF_ctr (x := (rowA (mulA xs ys i) i (xs.getD i 0) ys j).getD (i + j) 0) (y := xs.getD i 0 * ys.getD j 0)) bd35 [] [] rfl (.cons rfl (.cons rfl .nil)) rfl (.pure (by first | rfl | exact pure_aggM flat_vi | exact pure_aggM flat_bool) (.pure (by first | rfl | exact pure_aggM flat_vi | exact pure_aggM flat_bool) .nil)) .nil rfl .nil frN (by decide) (.pure (by first | rfl | exact pure_aggM flat_vi | exact pure_aggM flat_bool) .nil) rfl rfl rfl rfl ?_
          first | refine AWo.pure (PureOp.idx1 tbok rfl rfl rfl rfl (by first | decide | omega)) rfl rfl ?_ | refine AWo.pure (PureOp.idx tbok rfl rfl rfl rfl (by first | decide | omega)) rfl rfl ?_
          refine ySJ (xs := rowA (mulA xs ys i) i (xs.getD i 0) ys j) (y := (rowA (mulA xs ys i) i (xs.getD i 0) ys j).getD (i + j) 0 + xs.getD i 0 * ys.getD j 0) (i + j) ?_
          refine AWo.nil (by kernel_rfl) ?_
          refine inBlockA_normal ?_
          refine thenA_normal ?_
          refine AW.region ?_
          first | refine AWo.pure (PureOp.addI (b := 1) rfl rfl (by first | decide | omega)) rfl rfl ?_ | refine AWo.pure (PureOp.bin rfl rfl rfl) rfl rfl ?_
          refine AWo.pure (PureOp.move rfl) rfl rfl ?_
          refine AWo.nil trivial ?_
          refine thenA_normal ?_
          refine ⟨ys.length - (j + 1), [], _, by omega, ?_, j + 1, by omega, rfl, rfl⟩
          refine Wk.of [0, 1, 16000, 8000] ?_ ?_ ?_ (by decide) rfl
          ·
            refine WkE.upd rfl (by first | exact VR.flat _ rfl | exact VR.eqv (vp_succ _) rfl | exact VR.eqv (vp_succ _).symm rfl | exact VR.eqv (by first | rfl | (congr 1; omega) | (simp; done) | (simp; omega)) rfl) ?_
            refine WkE.upd rfl (by first | exact VR.flat _ rfl | exact VR.eqv (vp_succ _) rfl | exact VR.eqv (vp_succ _).symm rfl | exact VR.eqv (by first | rfl | (congr 1; omega) | (simp; done) | (simp; omega)) rfl) ?_
            refine WkE.upd rfl (.slice (1) 0 _ 0 ⟨_, rfl⟩ (by simp) (by simp)) ?_
            refine WkE.upd rfl (.ptr (8000) 0 ⟨_, rfl⟩) ?_
            refine WkE.upd rfl (by first | exact VR.flat _ rfl | exact VR.eqv (vp_succ _) rfl | exact VR.eqv (vp_succ _).symm rfl | exact VR.eqv (by first | rfl | (congr 1; omega) | (simp; done) | (simp; omega)) rfl) ?_
            refine WkE.upd rfl (by first | exact VR.flat _ rfl | exact VR.eqv (vp_succ _) rfl | exact VR.eqv (vp_succ _).symm rfl | exact VR.eqv (by first | rfl | (congr 1; omega) | (simp; done) | (simp; omega)) rfl) ?_
            refine WkE.upd rfl (by first | exact VR.flat _ rfl | exact VR.eqv (vp_succ _) rfl | exact VR.eqv (vp_succ _).symm rfl | exact VR.eqv (by first | rfl | (congr 1; omega) | (simp; done) | (simp; omega)) rfl) ?_
            refine WkE.upd rfl (.slice (0) 0 _ 0 ⟨_, rfl⟩ (by simp) (by simp)) ?_
            refine WkE.upd rfl (.slice (16000) 0 _ 0 ⟨_, rfl⟩ (by simp) (by simp)) ?_
            refine WkE.upd rfl (.slice (1) 0 _ 0 ⟨_, rfl⟩ (by simp) (by simp)) ?_
            exact WkE.emp
          ·
            refine WkM.flat rfl (flatM flat_vi) (fun h => h) ?_
            refine WkM.flat rfl (flatM flat_vi) (fun h => h) ?_
            refine WkM.flat rfl (flatM flat_vi) (fun h => h) ?_
            refine WkM.flat rfl (flatM flat_vi) (fun h => h) ?_
            exact WkM.emp
          ·
            repeat (refine dom_upd_mem (by decide) ?_)
            exact dom_emp
        ·
          obtain rfl : j = ys.length := by simp at hb1; omega
          refine AW.exit ?_
          refine thenA_exit ?_
          refine thenA_exit ?_
          refine inBlockA_hit ?_
          refine inBlockA_normal ?_
          refine thenA_normal ?_
          refine AW.region ?_
          first | refine AWo.pure (PureOp.addI (b := 1) rfl rfl (by first | decide | omega)) rfl rfl ?_ | refine AWo.pure (PureOp.bin rfl rfl rfl) rfl rfl ?_
          refine AWo.pure (PureOp.move rfl) rfl rfl ?_
          refine AWo.nil trivial ?_
          refine thenA_normal ?_
          refine ⟨xs.length - (i + 1), [], _, by omega, ?_, i + 1, by omega, rfl, rfl⟩
          refine Wk.of [0, 1, 16000] ?_ ?_ ?_ (by decide) rfl
          ·
            refine WkE.upd rfl (by first | exact VR.flat _ rfl | exact VR.eqv (vp_succ _) rfl | exact VR.eqv (vp_succ _).symm rfl | exact VR.eqv (by first | rfl | (congr 1; omega) | (simp; done) | (simp; omega)) rfl) ?_
            refine WkE.upd rfl (by first | exact VR.flat _ rfl | exact VR.eqv (vp_succ _) rfl | exact VR.eqv (vp_succ _).symm rfl | exact VR.eqv (by first | rfl | (congr 1; omega) | (simp; done) | (simp; omega)) rfl) ?_
            refine WkE.upd rfl (.slice (0) 0 _ 0 ⟨_, rfl⟩ (by simp) (by simp)) ?_
            refine WkE.upd rfl (.slice (16000) 0 _ 0 ⟨_, rfl⟩ (by simp) (by simp)) ?_
            refine WkE.upd rfl (.slice (1) 0 _ 0 ⟨_, rfl⟩ (by simp) (by simp)) ?_
            exact WkE.emp
          ·
            refine WkM.flat rfl (flatM flat_vi) (fun h => h) ?_
            refine WkM.flat rfl (flatM flat_vi) (fun h => h) ?_
            refine WkM.flat rfl (flatM flat_vi) (fun h => h) ?_
            exact WkM.emp
          ·
            repeat (refine dom_upd_mem (by decide) ?_)
            exact dom_emp
    ·
      obtain rfl : i = xs.length := by simp at hb0; omega
      rw [← mulA_tr]
      refine AW.exit ?_
      refine thenA_exit ?_
      refine thenA_exit ?_
      refine inBlockA_hit ?_
      refine thenA_normal ?_
      refine AW.seqR ?_
      refine AWo.pure (PureOp.move rfl) rfl rfl ?_
      refine AWo.callX (trimp_ctr (xs := mulA xs ys xs.length) (n := xs.length + ys.length) (mulA_len _ _ _) (by omega)) bd57 [(16000, 0)] [49000] rfl (.cons rfl .nil) rfl (.cons rfl rfl .nil) (.flat rfl (flatM flat_vi) (by intro h; first | exact h | rfl) .nil) rfl (.keep rfl (.new (flat_map_ren (flatM flat_vi)) (OkL.flat (flatM flat_vi)) .nil)) (frC rfl frN) (by decide) (.cons rfl rfl .nil) rfl rfl rfl rfl ?_
      refine AWo.pure (PureOp.assign rfl) rfl rfl ?_
      refine AWo.nil trivial ?_
      refine AW.ret ?_
      refine RetQ.gc [_] [49000] [.tmp 4] (.inl rfl) rfl (.tmp rfl .nil) rfl (.cons rfl rfl .nil) (OutL.flat rfl (flatM flat_vi) (by intro h; first | rfl | exact h.elim id fun h => absurd h.1 (by simp)) (OutL.flat rfl (flatM flat_vi) (by intro h; first | rfl | exact h.elim id fun h => absurd h.1 (by simp)) (OutL.flat rfl (flatM flat_vi) (by intro h; first | rfl | exact h.elim id fun h => absurd h.1 (by simp)) trivial))) (by decide) rfl
end Go.Proofs.YteeifahhejangaaGreatDoor
namespace Go.Proofs.YteeifahhejangaaGreatDoor
open Go Sim
theorem clonee_ctr {xs : List Fp} {n : Nat} (hn : n ≤ xs.length) (hx : n < 1000000) : GC Tryz.prog 51 [.slice (some ⟨0, 0, none⟩) n 0] [⟨((xs.map fe).flatten).map (vi .u64), false, 4⟩] [.slice (some ⟨1, 0, none⟩) n 0]
    [⟨((xs.map fe).flatten).map (vi .u64), false, 4⟩, ⟨(((xs.take n).map fe).flatten).map (vi .u64), true, 4⟩] := by
  refine GC.intro Tryz.func51 rfl (by show 1 ≤ 8; decide) (Nat.le_succ _) ?_
  by_cases h0 : n = 0
  · subst h0
    refine AW.nilCase (t := 0) rfl ?_ ?_
    · refine AW.ghost 9000 4 rfl ?_
      refine zS ?_
      refine yA ?_
      refine zN (zQ (zS ?_))
      refine yM ?_
      refine yP (PureOp.nilEqNilS Tryz.underlying40 rfl) ?_
      refine zN (zC (zS ?_))
      refine yA ?_
      refine zN (zE ?_)
      exact rq [9000] [.tmp 2]
    · refine zS ?_
      refine yA ?_
      refine zN (zQ (zS ?_))
      refine yM ?_
      refine yP (PureOp.slEqDead Tryz.underlying40 rfl) ?_
      refine zN (zF (zK (zT (zS ?_))))
      refine AWo.buildSlice tbok 6000 [] (out := []) rfl rfl (by decide) rfl rfl rfl (by decide) rfl rfl rfl rfl rfl ?_
      refine yM ?_
      refine yP (PureOp.append0 Tryz.underlying40 (tbok.sz _ _ rfl) rfl rfl) ?_
      refine yA ?_
      refine zN (zE ?_)
      exact rq [6000] [.tmp 2]
  · refine zS ?_
    refine yA ?_
    refine zN (zQ (zS ?_))
    refine yM ?_
    refine yP (PureOp.slEqNil Tryz.underlying40 rfl h0) ?_
    refine zN (zF (zK (zT (zS ?_))))
    refine AWo.buildSlice tbok 6000 [] (out := []) rfl rfl (by decide) rfl rfl rfl (by decide) rfl rfl rfl rfl rfl ?_
    refine yM ?_
    refine AWo.append tbok (all := FF (xs.take n)) (news := FF (xs.take n)) 8000 rfl rfl rfl rfl rfl FF_cut (by rw [Nat.zero_add]; show n * 4 ≤ (FF xs).length; rw [FF_len]; omega) (by decide) rfl rfl rfl (by decide) rfl rfl rfl (by omega) (by omega) (oneM (fun _ => rfl) _) rfl rfl rfl ?_
    refine yA ?_
    refine zN (zE ?_)
    exact rq [8000] [.tmp 2] (hres := (.cons rfl (by simp [ren, ren1, hmap]) .nil))
def inn (l : List Fp) (far : Fp) (n : Nat) : Nat → List Fp
  | 0 => l
  | m + 1 => (inn l far n m).set (n - 1 - m) (((inn l far n m).getD (n - 1 - m) 0 - (inn l far n m).getD (n - 1 - m - 1) 0) * far)
def difN (vs : List Fp) : Nat → List Fp
  | 0 => vs
  | c + 1 => inn (difN vs c) (finv (fp (c + 1))) vs.length (vs.length - 1 - c)
theorem inn_len (l : List Fp) (far : Fp) (n : Nat) : ∀ m, (inn l far n m).length = l.length
  | 0 => rfl
  | m + 1 => by rw [inn, List.length_set, inn_len l far n m]
theorem difN_len (vs : List Fp) : ∀ c, (difN vs c).length = vs.length
  | 0 => rfl
  | c + 1 => by rw [difN, inn_len, difN_len vs c]
def nwL (ds : List Fp) (n : Nat) : Nat → List Fp
  | 0 => []
  | j + 1 => Po.tr (Po.pa (Po.tr (Po.pm (nwL ds n j) [-(fp (n - 1 - j)), fp 1])) [ds.getD (n - 1 - j) 0])
def thr (vs : List Fp) : List Fp := Po.tr (nwL (difN vs (vs.length - 1)) vs.length vs.length)
theorem nwL_len (ds : List Fp) (n : Nat) : ∀ j, (nwL ds n j).length ≤ 2 * j
  | 0 => Nat.le_refl _
  | j + 1 => by
    have h := nwL_len ds n j
    rw [nwL, Po.tr_len]
    have h1 := Po.dg_le (Po.pa (Po.tr (Po.pm (nwL ds n j) [-(fp (n - 1 - j)), fp 1])) [ds.getD (n - 1 - j) 0])
    rw [Po.pa_len, Po.tr_len] at h1
    have h2 := Po.dg_le (Po.pm (nwL ds n j) [-(fp (n - 1 - j)), fp 1])
    have h3 := Po.pm_len (nwL ds n j) [-(fp (n - 1 - j)), fp 1]
    simp only [List.length_cons, List.length_nil] at h1 h3
    have h4 : max (Po.dg (Po.pm (nwL ds n j) [-(fp (n - 1 - j)), fp 1])) (0 + 1) ≤ 2 * (j + 1) := Nat.max_le.2 ⟨by omega, by omega⟩
    omega
def thM (vs ds p : List Fp) : Mem := Sim.upd (Sim.upd (Sim.upd (Sim.upd (Sim.upd (fun _ => none) 0 ⟨((vs.map fe).flatten).map (vi .u64), false, 4⟩) 1 ⟨((ds.map fe).flatten).map (vi .u64), true, 4⟩) 2 ⟨[.slice (some ⟨77000, 0, none⟩) p.length 0], true, 1⟩)
  3 ⟨[.slice (some ⟨1, 0, none⟩) vs.length 0], true, 1⟩) 77000 ⟨((p.map fe).flatten).map (vi .u64), true, 4⟩
theorem WkI.nil1 {Dm : Nat → Prop} {fm : List (Nat × Nat)} {M N : Mem} {i : Nat} {p : Addr} {rw rw' : Bool} {es : Nat} {ids : List Nat} (h1 : M ((fm.lookup i).getD i) = some ⟨[.slice none 0 0], rw', es⟩)
    (h3 : rw = true → rw' = true) (h : WkI ids Dm fm M N) : WkI ids Dm fm M (Sim.upd N i ⟨[.slice (some p) 0 0], rw, es⟩) :=
  WkM.upd h1 (fun c x hx => by
    match c, hx with
    | 0, hx => cases hx; exact ⟨_, rfl, .nilS _ (by simp)⟩
    | c + 1, hx => simp at hx) h3 rfl (Nat.le_refl _) h
theorem fillB2 {c : Value} {x y : Fp} : fillL (fun i => some (i * 4, 4)) (List.replicate (2 * 4) c) [(0, .agg ((fe x).map (vi .u64)).toArray), (1, .agg ((fe y).map (vi .u64)).toArray)] = some (FF [x, y]) := by
  have hl : ∀ x : Fp, ((fe x).map (vi .u64)).length = 4 := fun x => by rw [List.length_map, fe_len]
  refine fill4 (A := []) (k := 4) rfl rfl (fill4 (k := 0) (by simp [hl]) rfl ?_)
  simp [fillL]
theorem AWd.ghost {P : Program} {n m : Nat} {c : Code} {E : Env} {M : Mem} {Q : Exit → ASt → Prop} {z : Bool} {id es : Nat} (hid : M id = none) (h : AWd z P n m c ⟨E, Sim.upd M id ⟨[], true, es⟩⟩ Q) : AWd z P n m c ⟨E, M⟩ Q :=
  fun C hn hm ds _ a w hz hst hR => let ⟨ρ', hR'⟩ := hR.2.ghost es hid; h C hn hm ds ρ' a w hz hst ⟨hR.1, hR'⟩
theorem thrp_ctr {vs : List Fp} {n : Nat} (hn : vs.length = n) (hx : n < 10000) : GC Tryz.prog 27 [.slice (some ⟨0, 0, none⟩) n 0] [⟨((vs.map fe).flatten).map (vi .u64), false, 4⟩] [.slice (some ⟨1, 0, none⟩) (thr vs).length 0] [⟨((vs.map fe).flatten).map (vi .u64), false, 4⟩, ⟨(((thr vs).map fe).flatten).map (vi .u64), true, 4⟩] := by
  refine GC.introD Tryz.func27 rfl (by show 1 ≤ 62; decide) (by first | exact Nat.le_refl _ | decide | simp) ?_
  subst hn
  refine AWd.firstR ?_
  refine AWo.pure (PureOp.assign rfl) rfl rfl ?_
  refine AWo.nil trivial ?_
  refine AWd.firstR ?_
  refine AWo.pure (PureOp.move rfl) rfl rfl ?_
  refine AWo.callX (clonee_ctr (xs := vs) (n := vs.length) (Nat.le_refl _) (by omega)) bd51 [(0, 0)] [1] rfl (.cons rfl .nil) rfl (.cons rfl rfl .nil) (.flat rfl (flatM flat_vi) (by intro h; first | exact h | rfl) .nil) rfl (.keep rfl (.new (flat_map_ren (flatM flat_vi)) (OkL.flat (flatM flat_vi)) .nil)) (frC rfl frN) (by decide) (.cons rfl rfl .nil) rfl rfl rfl rfl ?_
  refine AWo.pure (PureOp.assign rfl) rfl rfl ?_
  refine AWo.nil trivial ?_
  refine AWd.first ?_
  refine AW.seqR ?_
  refine AWo.pure (PureOp.assign rfl) rfl rfl ?_
  refine AWo.nil trivial ?_
  refine AW.block ?_
  refine AW.loopw (fun mm σ => ∃ c, (c + 1 ≤ vs.length ∨ c = 0) ∧ mm = vs.length - c ∧ σ = ⟨(upd (upd emp 3 (.slice (some ⟨1, 0, none⟩) vs.length 0)) 4 (vi .i64 (c + 1))), (upd (upd emp 0 ⟨((vs.map fe).flatten).map (vi .u64), false, 4⟩) 1 ⟨(((difN vs c).map fe).flatten).map (vi .u64), true, 4⟩)⟩) (fm := []) ?_ ⟨0, .inr rfl, rfl, rfl⟩ ?_
  ·
    refine Wk.of [0, 1] ?_ ?_ ?_ (by decide) rfl
    ·
      refine WkE.upd rfl (by first | exact VR.flat _ rfl | exact VR.eqv (vp_succ _) rfl | exact VR.eqv (vp_succ _).symm rfl | exact VR.eqv (by first | rfl | (congr 1; omega) | (simp; done) | (simp; omega)) rfl) ?_
      refine WkE.upd rfl (.slice (1) 0 _ 0 ⟨_, rfl⟩ (by simp) (by simp)) ?_
      exact WkE.emp
    ·
      refine WkM.flat (by first | rfl | (rw [List.take_length]; rfl)) (flatM flat_vi) (fun h => h) ?_
      refine WkM.flat rfl (flatM flat_vi) (fun h => h) ?_
      exact WkM.emp
    ·
      repeat (refine dom_upd_mem (by decide) ?_)
      exact dom_emp
  ·
    rintro mm σ ⟨c, hinv, rfl, rfl⟩
    refine AW.seq ?_
    refine AW.seqR ?_
    refine AWo.pure (PureOp.move rfl) rfl rfl ?_
    refine AWo.pure (PureOp.move rfl) rfl rfl ?_
    first | refine AWo.pure (PureOp.lenS tbok rfl rfl) rfl rfl ?_ | refine AWo.pure (PureOp.lenD tbok rfl rfl) rfl rfl ?_
    first | refine AWo.pure (PureOp.ltN rfl rfl) rfl rfl ?_ | refine AWo.pure (PureOp.bin rfl rfl rfl) rfl rfl ?_
    refine AWo.nil trivial ?_
    refine AW.cond rfl (fun hb0 => ?_) (fun hb0 => ?_)
    ·
      have hi : c + 1 < vs.length := by simpa using hb0
      refine AW.skip ?_
      refine thenA_normal ?_
      refine AW.seq ?_
      refine AW.block ?_
      refine AW.seqR ?_
      refine AWo.pure (PureOp.move rfl) rfl rfl ?_
      first | refine AWo.pure (PureOp.cvtN tbok 18446744073709551616 rfl rfl rfl (by decide) (by decide) (by first | decide | omega)) rfl rfl ?_ | refine AWo.pure (PureOp.cvtU tbok 18446744073709551616 rfl rfl rfl rfl rfl) rfl rfl ?_ | refine AWo.pure (PureOp.cvt tbok rfl rfl rfl) rfl rfl ?_
      refine AWo.callX (fromuF_ctr (v := c + 1) (by omega)) bd13 [] [] rfl (.cons rfl .nil) rfl (.cons rfl rfl .nil) .nil rfl .nil frN (by decide) (.pure (by first | rfl | exact pure_aggM flat_vi | exact pure_aggM flat_bool) .nil) rfl rfl rfl rfl ?_
      refine AWo.callX (invF_ctr (x := fp (c + 1))) bd52 [] [] rfl (.cons rfl .nil) rfl (.pure (by first | rfl | exact pure_aggM flat_vi | exact pure_aggM flat_bool) .nil) .nil rfl .nil frN (by decide) (.pure (by first | rfl | exact pure_aggM flat_vi | exact pure_aggM flat_bool) .nil) rfl rfl rfl rfl ?_
      refine AWo.alloc tbok 6000 1 _ rfl rfl rfl rfl rfl rfl ?_
      refine AWo.storeAllN tbok rfl rfl rfl rfl (by first | (simp [*]; done) | rfl) (by first | (simp [*]; done) | rfl) (by first | exact oneM (fun _ => rfl) _ | rfl | (simp; done)) rfl ?_
      refine AWo.nil trivial ?_
      refine AW.seqR ?_
      refine AWo.pure (PureOp.move rfl) rfl rfl ?_
      first | refine AWo.pure (PureOp.lenS tbok rfl rfl) rfl rfl ?_ | refine AWo.pure (PureOp.lenD tbok rfl rfl) rfl rfl ?_
      first | refine AWo.pure (PureOp.subI (b := 1) rfl rfl (by first | decide | omega) (by first | decide | omega)) rfl rfl ?_ | refine AWo.pure (PureOp.subP rfl rfl (by first | decide | omega)) rfl rfl ?_ | refine AWo.pure (PureOp.bin rfl rfl rfl) rfl rfl ?_
      refine AWo.pure (PureOp.assign rfl) rfl rfl ?_
      refine AWo.nil trivial ?_
      refine AW.block ?_
      refine AW.loopw (fun mm σ => ∃ m, (m + c + 1 ≤ vs.length) ∧ mm = vs.length - m ∧ σ = ⟨(upd (upd (upd (upd emp 3 (.slice (some ⟨1, 0, none⟩) vs.length 0)) 4 (vi .i64 (c + 1))) 5 (.pointer (some ⟨6000, 0, none⟩))) 6 (vi .i64 (vs.length - 1 - m))), (upd (upd (upd emp 0 ⟨((vs.map fe).flatten).map (vi .u64), false, 4⟩) 1 ⟨(((inn (difN vs c) (finv (fp (c + 1))) vs.length m).map fe).flatten).map (vi .u64), true, 4⟩) 6000 ⟨(fe (finv (fp (c + 1)))).map (vi .u64), true, 1⟩)⟩) (fm := []) ?_ ⟨0, by omega, rfl, rfl⟩ ?_
      ·
        refine Wk.of [0, 1, 6000] ?_ ?_ ?_ (by decide) rfl
        ·
          refine WkE.upd rfl (by first | exact VR.flat _ rfl | exact VR.eqv (vp_succ _) rfl | exact VR.eqv (vp_succ _).symm rfl | exact VR.eqv (by first | rfl | (congr 1; omega) | (simp; done) | (simp; omega)) rfl) ?_
          refine WkE.upd rfl (.ptr (6000) 0 ⟨_, rfl⟩) ?_
          refine WkE.upd rfl (by first | exact VR.flat _ rfl | exact VR.eqv (vp_succ _) rfl | exact VR.eqv (vp_succ _).symm rfl | exact VR.eqv (by first | rfl | (congr 1; omega) | (simp; done) | (simp; omega)) rfl) ?_
          refine WkE.upd rfl (.slice (1) 0 _ 0 ⟨_, rfl⟩ (by simp) (by simp)) ?_
          exact WkE.emp
        ·
          refine WkM.flat rfl (flatM flat_vi) (fun h => h) ?_
          refine WkM.flat rfl (flatM flat_vi) (fun h => h) ?_
          refine WkM.flat rfl (flatM flat_vi) (fun h => h) ?_
          exact WkM.emp
        ·
          repeat (refine dom_upd_mem (by decide) ?_)
          exact dom_emp
      ·
        rintro mm σ ⟨m, hm0, rfl, rfl⟩
        refine AW.seq ?_
        refine AW.seqR ?_
        refine AWo.pure (PureOp.move rfl) rfl rfl ?_
        refine AWo.pure (PureOp.move rfl) rfl rfl ?_
        first | refine AWo.pure (PureOp.geP rfl rfl) rfl rfl ?_ | refine AWo.pure (PureOp.geN rfl rfl) rfl rfl ?_ | refine AWo.pure (PureOp.bin rfl rfl rfl) rfl rfl ?_
        refine AWo.nil trivial ?_
        refine AW.cond rfl (fun hb1 => ?_) (fun hb1 => ?_)
        ·
          have hj : c + 1 ≤ vs.length - 1 - m := by simpa using hb1
          have hrl : (inn (difN vs c) (finv (fp (c + 1))) vs.length m).length = vs.length := by rw [inn_len, difN_len]
          refine AW.skip ?_
          refine thenA_normal ?_
          refine AW.seq ?_
          refine AW.block ?_
          refine AW.draw mixed ?_
          refine AWo.pure (PureOp.move rfl) rfl rfl ?_
          refine AWo.pure (PureOp.move rfl) rfl rfl ?_
          refine AWo.pure (PureOp.move rfl) rfl rfl ?_
          refine AWo.pure (PureOp.move rfl) rfl rfl ?_
          first | refine AWo.pure (PureOp.idx1 tbok rfl rfl rfl rfl (by first | decide | omega)) rfl rfl ?_ | refine AWo.pure (PureOp.idx tbok rfl rfl rfl rfl (by first | decide | omega)) rfl rfl ?_
          refine yLJ (xs := (inn (difN vs c) (finv (fp (c + 1))) vs.length m)) (vs.length - 1 - m) ?_
          refine AWo.pure (PureOp.move rfl) rfl rfl ?_
          refine AWo.pure (PureOp.move rfl) rfl rfl ?_
          first | refine AWo.pure (PureOp.subI (b := 1) rfl rfl (by first | decide | omega) (by first | decide | omega)) rfl rfl ?_ | refine AWo.pure (PureOp.subP rfl rfl (by first | decide | omega)) rfl rfl ?_ | refine AWo.pure (PureOp.bin rfl rfl rfl) rfl rfl ?_
          first | refine AWo.pure (PureOp.idx1 tbok rfl rfl rfl rfl (by first | decide | omega)) rfl rfl ?_ | refine AWo.pure (PureOp.idx tbok rfl rfl rfl rfl (by first | decide | omega)) rfl rfl ?_
          refine yLJ (xs := (inn (difN vs c) (finv (fp (c + 1))) vs.length m)) (vs.length - 1 - m - 1) ?_
          refine AWo.callX (subF_ctr (x := (inn (difN vs c) (finv (fp (c + 1))) vs.length m).getD (vs.length - 1 - m) 0) (y := (inn (difN vs c) (finv (fp (c + 1))) vs.length m).getD (vs.length - 1 - m - 1) 0)) bd50 [] [] rfl (.cons rfl (.cons rfl .nil)) rfl (.pure (by first | rfl | exact pure_aggM flat_vi | exact pure_aggM flat_bool) (.pure (by first | rfl | exact pure_aggM flat_vi | exact pure_aggM flat_bool) .nil)) .nil rfl .nil frN (by decide) (.pure (by first | rfl | exact pure_aggM flat_vi | exact pure_aggM flat_bool) .nil) rfl rfl rfl rfl ?_
          first | refine yLE ?_ | refine yLEi ?_
          refine AWo.callX (mulF_ctr (x := (inn (difN vs c) (finv (fp (c + 1))) vs.length m).getD (vs.length - 1 - m) 0 - (inn (difN vs c) (finv (fp (c + 1))) vs.length m).getD (vs.length - 1 - m - 1) 0) (y := finv (fp (c + 1)))) bd34 [] [] rfl (.cons rfl (.cons rfl .nil)) rfl (.pure (by first | rfl | exact pure_aggM flat_vi | exact pure_aggM flat_bool) (.pure (by first | rfl | exact pure_aggM flat_vi | exact pure_aggM flat_bool) .nil)) .nil rfl .nil frN (by decide) (.pure (by first | rfl | exact pure_aggM flat_vi | exact pure_aggM flat_bool) .nil) rfl rfl rfl rfl ?_
          first | refine AWo.pure (PureOp.idx1 tbok rfl rfl rfl rfl (by first | decide | omega)) rfl rfl ?_ | refine AWo.pure (PureOp.idx tbok rfl rfl rfl rfl (by first | decide | omega)) rfl rfl ?_
          refine ySJ (xs := (inn (difN vs c) (finv (fp (c + 1))) vs.length m)) (y := ((inn (difN vs c) (finv (fp (c + 1))) vs.length m).getD (vs.length - 1 - m) 0 - (inn (difN vs c) (finv (fp (c + 1))) vs.length m).getD (vs.length - 1 - m - 1) 0) * finv (fp (c + 1))) (vs.length - 1 - m) ?_
          refine AWo.nil (by kernel_rfl) ?_
          refine inBlockA_normal ?_
          refine thenA_normal ?_
          refine AW.region ?_
          refine AWo.pure (PureOp.move rfl) rfl rfl ?_
          first | refine AWo.pure (PureOp.subI (b := 1) rfl rfl (by first | decide | omega) (by first | decide | omega)) rfl rfl ?_ | refine AWo.pure (PureOp.subP rfl rfl (by first | decide | omega)) rfl rfl ?_ | refine AWo.pure (PureOp.bin rfl rfl rfl) rfl rfl ?_
          refine AWo.pure (PureOp.assign rfl) rfl rfl ?_
          refine AWo.nil trivial ?_
          refine thenA_normal ?_
          refine ⟨vs.length - (m + 1), [], _, by omega, ?_, m + 1, by omega, rfl, rfl⟩
          refine Wk.of [0, 1, 6000] ?_ ?_ ?_ (by decide) rfl
          ·
            refine WkE.upd rfl (by first | exact VR.flat _ rfl | exact VR.eqv (vp_succ _) rfl | exact VR.eqv (vp_succ _).symm rfl | exact VR.eqv (by first | rfl | (congr 1; omega) | (simp; done) | (simp; omega)) rfl) ?_
            refine WkE.upd rfl (.ptr (6000) 0 ⟨_, rfl⟩) ?_
            refine WkE.upd rfl (by first | exact VR.flat _ rfl | exact VR.eqv (vp_succ _) rfl | exact VR.eqv (vp_succ _).symm rfl | exact VR.eqv (by first | rfl | (congr 1; omega) | (simp; done) | (simp; omega)) rfl) ?_
            refine WkE.upd rfl (.slice (1) 0 _ 0 ⟨_, rfl⟩ (by simp) (by simp)) ?_
            exact WkE.emp
          ·
            refine WkM.flat rfl (flatM flat_vi) (fun h => h) ?_
            refine WkM.flat rfl (flatM flat_vi) (fun h => h) ?_
            refine WkM.flat rfl (flatM flat_vi) (fun h => h) ?_
            exact WkM.emp
          ·
            repeat (refine dom_upd_mem (by decide) ?_)
            exact dom_emp
        ·
          obtain rfl : m = vs.length - 1 - c := by have := of_decide_eq_false hb1; omega
          refine AW.exit ?_
          refine thenA_exit ?_
          refine thenA_exit ?_
          refine inBlockA_hit ?_
          refine inBlockA_normal ?_
          refine thenA_normal ?_
          refine AW.region ?_
          refine AWo.pure (PureOp.move rfl) rfl rfl ?_
          first | refine AWo.pure (PureOp.addI (b := 1) rfl rfl (by first | decide | omega)) rfl rfl ?_ | refine AWo.pure (PureOp.bin rfl rfl rfl) rfl rfl ?_
          refine AWo.pure (PureOp.assign rfl) rfl rfl ?_
          refine AWo.nil trivial ?_
          refine thenA_normal ?_
          refine ⟨vs.length - (c + 1), [], _, by omega, ?_, c + 1, by omega, rfl, rfl⟩
          refine Wk.of [0, 1] ?_ ?_ ?_ (by decide) rfl
          ·
            refine WkE.upd rfl (by first | exact VR.flat _ rfl | exact VR.eqv (vp_succ _) rfl | exact VR.eqv (vp_succ _).symm rfl | exact VR.eqv (by first | rfl | (congr 1; omega) | (simp; done) | (simp; omega)) rfl) ?_
            refine WkE.upd rfl (.slice (1) 0 _ 0 ⟨_, rfl⟩ (by simp) (by simp)) ?_
            exact WkE.emp
          ·
            refine WkM.flat (by first | rfl | (rw [List.take_length]; rfl)) (flatM flat_vi) (fun h => h) ?_
            refine WkM.flat rfl (flatM flat_vi) (fun h => h) ?_
            exact WkM.emp
          ·
            repeat (refine dom_upd_mem (by decide) ?_)
            exact dom_emp
    ·
      obtain rfl : c = vs.length - 1 := by have := of_decide_eq_false hb0; omega
      refine AW.exit ?_
      refine thenA_exit ?_
      refine thenA_exit ?_
      refine inBlockA_hit ?_
      refine thenA_normal ?_
      refine AWd.firstR ?_
      refine AWo.alloc tbok 2 1 _ rfl rfl rfl rfl rfl rfl ?_
      refine AWo.nil trivial ?_
      have hdl : (difN vs (vs.length - 1)).length = vs.length := difN_len _ _
      generalize hds : difN vs (vs.length - 1) = ds at hdl
      refine AWd.seq ?_
      refine AWd.firstR ?_
      refine yM ?_
      refine yC (backwe_ctr (xs := ds) (n := vs.length)) bd53 [(1, 0)] [3] ?_
      refine zN ?_
      refine AWd.block (AWd.ghost (id := 77000) (es := 4) rfl (AWd.weaken (fm := []) (τ := ⟨Sim.upd (Sim.upd (fun _ => none) 7 (.pointer (some ⟨2, 0, none⟩))) 46 (.func (.func 71) #[] #[.pointer (some ⟨3, 0, none⟩)]), thM vs ds []⟩)
        (wk [0, 1, 2, 3, 77000] (hE := WkE.upd rfl (okVI_rel (ids := [3]) (by simp) rfl (dom_all rfl) rfl) (WkE.upd rfl (.ptr _ _ ⟨_, rfl⟩) WkE.emp))
          (hM := WkI.flatM (l := (([] : List Fp).map fe).flatten) (l' := []) rfl rfl flat_vi (fun h => h) (WkI.ren rfl rfl rfl (dom_all rfl) (fun h => h) (WkI.nil1 rfl (fun h => h) (WkI.flatM rfl rfl flat_vi (fun h => h) (WkI.flatM rfl rfl flat_vi (fun h => h) WkM.emp)))))) ?_))
      refine AWd.range (back_e (xs := ds) (bx := 3) (id := 1) (n := vs.length) (m := 4) (by omega) (by omega) (by omega)) (Sim.upd (fun _ => none) 7 (.pointer (some ⟨2, 0, none⟩)))
        (fun k M => M = thM vs ds (nwL ds vs.length k)) (fun _ => False)
        (by show 1 ≤ 4; decide) rfl ?_ ?_ (fun args w => run_callFunc bd71 args w) ?_ (fun _ => rfl) (by decide) rfl ?_ ?_ ?_ (fun M h => h.elim)
      · intro v hv
        simp only [List.mem_cons, List.not_mem_nil, or_false] at hv
        subst hv; exact Low.ptr (by decide)
      · intro i hi
        match i, hi with
        | 0, _ => exact ⟨_, rfl⟩
        | 1, _ => exact ⟨_, rfl⟩
        | 2, _ => exact ⟨_, rfl⟩
        | 3, _ => exact ⟨_, rfl⟩
      · intro t v ht
        simp only [Sim.upd] at ht
        split at ht
        · rename_i e; subst e; cases ht
          exact ⟨rfl, Low.ptr (by decide)⟩
        · cases ht
      · rintro k M rfl
        exact ⟨⟨_, _, rfl⟩, ⟨_, _, rfl⟩⟩
      · rintro k M hk rfl
        have he : backE ds vs.length k = [vi .i64 (vs.length - 1 - k : Nat), .agg ((fe (ds.getD (vs.length - 1 - k) 0)).map (vi .u64)).toArray] := rfl
        have hpl := nwL_len ds vs.length k
        rw [he, encE2]
        refine AWX.seqR ?_
        refine yA ?_
        refine zN ?_
        refine AWX.region ?_
        refine yN 10000 1 _ ?_
        refine ySA ?_
        refine zN ?_
        refine AWX.block (AWX.draw (by kernel_rfl) ?_)
        refine yL1 ?_
        refine yM ?_
        refine yP (PureOp.cvtN tbok 18446744073709551616 rfl rfl rfl (by decide) (by decide) (by omega)) ?_
        refine yC (fromuF_ctr (v := vs.length - 1 - k) (by omega)) bd13 [] [] ?_
        refine yC (negF_ctr (x := fp (vs.length - 1 - k))) bd55 [] [] ?_
        refine yC (fromuF_ctr (v := 1) (by decide)) bd13 [] [] ?_
        refine AWo.buildSlice tbok 56000 [(0, .agg ((fe (-(fp (vs.length - 1 - k)))).map (vi .u64)).toArray), (1, .agg ((fe (fp 1)).map (vi .u64)).toArray)] (out := FF [-(fp (vs.length - 1 - k)), fp 1]) rfl rfl (by decide) rfl rfl rfl (by decide) rfl fillB2 rfl rfl rfl ?_
        have hm1 := Po.pm_len (nwL ds vs.length k) [-(fp (vs.length - 1 - k)), fp 1]
        have hm2 := Po.dg_le (Po.pm (nwL ds vs.length k) [-(fp (vs.length - 1 - k)), fp 1])
        simp only [List.length_cons, List.length_nil] at hm1
        refine yC (mulp_ctr (xs := nwL ds vs.length k) (ys := [-(fp (vs.length - 1 - k)), fp 1]) rfl rfl (by omega) (by show 2 < 100000; decide)) bd54 [(77000, 0), (56000, 0)] [57000] ?_
        refine yLE ?_
        refine AWo.buildSlice tbok 59000 [(0, .agg ((fe (ds.getD (vs.length - 1 - k) 0)).map (vi .u64)).toArray)] (out := FF [ds.getD (vs.length - 1 - k) 0]) rfl rfl (by decide) rfl rfl rfl (by decide) rfl (fillB1 (fe_len _)) rfl rfl rfl ?_
        refine yC (addp_ctr (xs := Po.tr (Po.pm (nwL ds vs.length k) [-(fp (vs.length - 1 - k)), fp 1])) (ys := [ds.getD (vs.length - 1 - k) 0]) rfl rfl (by rw [Po.tr_len]; omega) (by show 1 < 1000000; decide)) bd56 [(57000, 0), (59000, 0)] [60000] ?_
        refine AWo.store1 tbok rfl rfl rfl rfl rfl (by simp) rfl rfl ?_
        refine zD ?_
        exact ⟨[(77000, 60000)], ⟨fun _ => none, thM vs ds (nwL ds vs.length (k + 1))⟩, wk [0, 1, 2, 3, 77000], .inl ⟨rfl, rfl⟩⟩
      · rintro M rfl
        have hpl := nwL_len ds vs.length vs.length
        refine AWd.ofX (AWX.seqR ?_)
        refine yL1 ?_
        refine yC (trimp_ctr (xs := nwL ds vs.length vs.length) rfl (by omega)) bd57 [(77000, 0)] [90000] ?_
        refine yA ?_
        refine zN ?_
        refine AWX.ret ?_
        rw [thr, hds]
        exact rq [90000] [.tmp 2]
end Go.Proofs.YteeifahhejangaaGreatDoor
namespace Go.Proofs.YteeifahhejangaaGreatDoor
open Go Sim
def nb (b : List Nat) : Fp := fp (num 256 b)
theorem nb_step {Ls : List (List Nat)} {i : Nat} (h : i < Ls.length) : (Ls.take i).map nb ++ [nb (Ls.getD i [])] = (Ls.take (i + 1)).map nb := by
  rw [List.take_succ_eq_append_getElem h, List.map_append, List.getD_eq_getElem?_getD, List.getElem?_eq_getElem h]; rfl
def fewB (Ls : List (List Nat)) (most : Nat) : Bool := (Ls.all fun b => decide (b.length ≤ 40)) && decide (Ls.length ≤ most)
theorem fewB_ok {Ls : List (List Nat)} {most : Nat} (h : ∀ b ∈ Ls, b.length ≤ 40) : fewB Ls most = decide (Ls.length ≤ most) := by
  rw [fewB, List.all_eq_true.2 fun b hb => decide_eq_true (h b hb), Bool.true_and]
theorem fewB_bad {Ls : List (List Nat)} {most i : Nat} (hi : i < Ls.length) (h : 40 < (Ls.getD i []).length) : fewB Ls most = false := by
  have : (Ls.all fun b => decide (b.length ≤ 40)) = false := by
    rw [← Bool.not_eq_true, List.all_eq_true]
    intro hh
    have h2 := of_decide_eq_true (hh (Ls.getD i []) (by rw [List.getD_eq_getElem?_getD, List.getElem?_eq_getElem hi]; exact List.getElem_mem _))
    omega
  rw [fewB, this, Bool.false_and]
theorem fewB_get {Ls : List (List Nat)} {most : Nat} (h : fewB Ls most = true) : (∀ b ∈ Ls, b.length ≤ 40) ∧ Ls.length ≤ most := by
  rw [fewB, Bool.and_eq_true, List.all_eq_true] at h
  exact ⟨fun b hb => of_decide_eq_true (h.1 b hb), of_decide_eq_true h.2⟩
theorem ofb_short {b : List Nat} (h : bd 256 b) (hl : b.length ≤ 40) : (D 4294967296 (num 256 b)).length < 1000000 := by
  have h1 : num 256 b < 256 ^ 40 := Nat.lt_of_lt_of_le (num_lt h) (Nat.pow_le_pow_right (by decide) hl)
  have h2 := (D_len_le (B := 4294967296) (by decide) (num 256 b) 10).2 (Nat.lt_of_lt_of_le h1 (by decide))
  omega
theorem few22_ctr {Ls : List (List Nat)} {most : Nat} (hl : Ls.length ≤ 9223372036854775807) (hm : most < 100000000) : GC Tryz.prog 17 [.slice (some ⟨0, 0, none⟩) Ls.length 0, vi .i64 (most)] [⟨Ls.map (db), false, 1⟩] [.bool (fewB Ls most)] [⟨Ls.map (db), false, 1⟩] := by
  refine GC.intro Tryz.func17 rfl (by show 2 ≤ 21; decide) (by first | exact Nat.le_refl _ | decide | simp) ?_
  refine AW.seqR ?_
  refine AWo.pure (PureOp.assign rfl) rfl rfl ?_
  refine AWo.nil trivial ?_
  refine AW.seq ?_
  refine AW.seqR ?_
  refine AWo.pure (PureOp.move rfl) rfl rfl ?_
  first | refine AWo.pure (PureOp.lenS tbok rfl rfl) rfl rfl ?_ | refine AWo.pure (PureOp.lenD tbok rfl rfl) rfl rfl ?_
  refine AWo.pure (PureOp.move rfl) rfl rfl ?_
  refine AWo.nil trivial ?_
  refine AW.block ?_
  refine AW.loopw (fun mm σ => ∃ i, (i ≤ Ls.length ∧ ∀ b ∈ Ls.take i, b.length ≤ 40) ∧ mm = Ls.length - i ∧ σ = ⟨(upd (upd (upd (upd (upd emp 0 (.slice (some ⟨0, 0, none⟩) Ls.length 0)) 1 (vi .i64 most)) 7 (.slice (some ⟨0, 0, none⟩) Ls.length 0)) 8 (vi .i64 Ls.length)) 9 (vi .i64 i)), (upd emp 0 ⟨Ls.map db, false, 1⟩)⟩) (fm := []) ?_ ⟨0, ⟨Nat.zero_le _, fun b hb => by simp at hb⟩, rfl, rfl⟩ ?_
  ·
    refine Wk.of [0] ?_ ?_ ?_ (by decide) rfl
    ·
      refine WkE.upd rfl (by first | exact VR.flat _ rfl | exact VR.eqv (vp_succ _) rfl | exact VR.eqv (vp_succ _).symm rfl | exact VR.eqv (by first | rfl | (congr 1; omega) | (simp; done) | (simp; omega)) rfl) ?_
      refine WkE.upd rfl (by first | exact VR.flat _ rfl | exact VR.eqv (vp_succ _) rfl | exact VR.eqv (vp_succ _).symm rfl | exact VR.eqv (by first | rfl | (congr 1; omega) | (simp; done) | (simp; omega)) rfl) ?_
      refine WkE.upd rfl (.slice (0) 0 _ 0 ⟨_, rfl⟩ (by simp) (by simp)) ?_
      refine WkE.upd rfl (by first | exact VR.flat _ rfl | exact VR.eqv (vp_succ _) rfl | exact VR.eqv (vp_succ _).symm rfl | exact VR.eqv (by first | rfl | (congr 1; omega) | (simp; done) | (simp; omega)) rfl) ?_
      refine WkE.upd rfl (.slice (0) 0 _ 0 ⟨_, rfl⟩ (by simp) (by simp)) ?_
      exact WkE.emp
    ·
      refine WkM.cloM rfl rfl (fun _ => rfl) (fun h => h) ?_
      exact WkM.emp
    ·
      repeat (refine dom_upd_mem (by decide) ?_)
      exact dom_emp
  ·
    rintro mm σ ⟨i, ⟨hi0, hs⟩, rfl, rfl⟩
    refine AW.seqR ?_
    first | refine AWo.pure (PureOp.ltN rfl rfl) rfl rfl ?_ | refine AWo.pure (PureOp.bin rfl rfl rfl) rfl rfl ?_
    refine AWo.nil trivial ?_
    refine AW.seq ?_
    refine AW.cond rfl (fun hb0 => ?_) (fun hb0 => ?_)
    ·
      have hi : i < Ls.length := by simpa using hb0
      refine AW.skip ?_
      refine thenA_normal ?_
      refine AW.seq ?_
      refine AW.block ?_
      refine AW.seqR ?_
      refine AWo.pure (PureOp.idx1 tbok (j := i) rfl rfl rfl rfl hi) rfl rfl ?_
      refine AWo.loadM tbok (f := db) [] rfl rfl rfl hi rfl rfl ?_
      refine AWo.pure (PureOp.assign rfl) rfl rfl ?_
      refine AWo.nil trivial ?_
      refine AW.seqR ?_
      refine AWo.pure (PureOp.move rfl) rfl rfl ?_
      first | refine AWo.pure (PureOp.lenS tbok rfl rfl) rfl rfl ?_ | refine AWo.pure (PureOp.lenD tbok rfl rfl) rfl rfl ?_
      first | refine AWo.pure (PureOp.gtN (b := 40) rfl rfl) rfl rfl ?_ | refine AWo.pure (PureOp.bin rfl rfl rfl) rfl rfl ?_
      refine AWo.nil trivial ?_
      refine AW.cond rfl (fun hb1 => ?_) (fun hb1 => ?_)
      ·
        have hgt : 40 < (Ls.getD i []).length := by simpa using hb1
        rw [fewB_bad hi hgt]
        refine AW.seqR ?_
        refine AWo.pure (PureOp.assign rfl) rfl rfl ?_
        refine AWo.nil trivial ?_
        refine AW.ret ?_
        refine inBlockA_ret ?_
        refine thenA_ret ?_
        refine thenA_ret ?_
        refine inBlockA_ret ?_
        refine thenA_ret ?_
        refine RetQ.gc [_] [] [.tmp 4] (.inl rfl) rfl (.tmp rfl .nil) rfl (.cons rfl rfl .nil) (OutL.clo rfl (cloM fun _ => rfl) (by intro h; first | rfl | exact h.elim id fun h => absurd h.1 (by simp)) trivial) (by decide) rfl
      ·
        have hle : (Ls.getD i []).length ≤ 40 := by simpa using hb1
        refine AW.skip ?_
        refine inBlockA_normal ?_
        refine thenA_normal ?_
        refine AW.region ?_
        first | refine AWo.pure (PureOp.addI (b := 1) rfl rfl (by first | decide | omega)) rfl rfl ?_ | refine AWo.pure (PureOp.bin rfl rfl rfl) rfl rfl ?_
        refine AWo.pure (PureOp.move rfl) rfl rfl ?_
        refine AWo.nil trivial ?_
        refine thenA_normal ?_
        refine ⟨Ls.length - (i + 1), [], _, by omega, ?_, i + 1, ⟨by omega, few_step hi hs hle⟩, rfl, rfl⟩
        refine Wk.of [0] ?_ ?_ ?_ (by decide) rfl
        ·
          refine WkE.upd rfl (by first | exact VR.flat _ rfl | exact VR.eqv (vp_succ _) rfl | exact VR.eqv (vp_succ _).symm rfl | exact VR.eqv (by first | rfl | (congr 1; omega) | (simp; done) | (simp; omega)) rfl) ?_
          refine WkE.upd rfl (by first | exact VR.flat _ rfl | exact VR.eqv (vp_succ _) rfl | exact VR.eqv (vp_succ _).symm rfl | exact VR.eqv (by first | rfl | (congr 1; omega) | (simp; done) | (simp; omega)) rfl) ?_
          refine WkE.upd rfl (.slice (0) 0 _ 0 ⟨_, rfl⟩ (by simp) (by simp)) ?_
          refine WkE.upd rfl (by first | exact VR.flat _ rfl | exact VR.eqv (vp_succ _) rfl | exact VR.eqv (vp_succ _).symm rfl | exact VR.eqv (by first | rfl | (congr 1; omega) | (simp; done) | (simp; omega)) rfl) ?_
          refine WkE.upd rfl (.slice (0) 0 _ 0 ⟨_, rfl⟩ (by simp) (by simp)) ?_
          exact WkE.emp
        ·
          refine WkM.cloM rfl rfl (fun _ => rfl) (fun h => h) ?_
          exact WkM.emp
        ·
          repeat (refine dom_upd_mem (by decide) ?_)
          exact dom_emp
    ·
      obtain rfl : i = Ls.length := by simp at hb0; omega
      rw [List.take_length] at hs
      rw [fewB_ok hs]
      refine AW.exit ?_
      refine thenA_exit ?_
      refine thenA_exit ?_
      refine inBlockA_hit ?_
      refine thenA_normal ?_
      refine AW.seqR ?_
      refine AWo.pure (PureOp.move rfl) rfl rfl ?_
      first | refine AWo.pure (PureOp.lenS tbok rfl rfl) rfl rfl ?_ | refine AWo.pure (PureOp.lenD tbok rfl rfl) rfl rfl ?_
      refine AWo.pure (PureOp.move rfl) rfl rfl ?_
      first | refine AWo.pure (PureOp.leN rfl rfl) rfl rfl ?_ | refine AWo.pure (PureOp.bin rfl rfl rfl) rfl rfl ?_
      refine AWo.pure (PureOp.assign rfl) rfl rfl ?_
      refine AWo.nil trivial ?_
      refine AW.ret ?_
      refine RetQ.gc [_] [] [.tmp 4] (.inl rfl) rfl (.tmp rfl .nil) rfl (.cons rfl rfl .nil) (OutL.clo rfl (cloM fun _ => rfl) (by intro h; first | rfl | exact h.elim id fun h => absurd h.1 (by simp)) trivial) (by decide) rfl
theorem of22_ctr {Ls : List (List Nat)} (hB : ∀ b ∈ Ls, bd 256 b) (hS : ∀ b ∈ Ls, b.length ≤ 40) (hl : Ls.length < 1000000) : GC Tryz.prog 33 [.slice (some ⟨0, 0, none⟩) Ls.length 0] [⟨Ls.map (db), false, 1⟩] [.slice (some ⟨1, 0, none⟩) Ls.length 0, .slice (some ⟨2, 0, none⟩) Ls.length 0] [⟨Ls.map (db), false, 1⟩, ⟨(((Ls.map nb).map fe).flatten).map (vi .u64), true, 4⟩, ⟨(Ls.map nb).map dv, true, 1⟩] := by
  refine GC.intro Tryz.func33 rfl (by show 1 ≤ 29; decide) (by first | exact Nat.le_refl _ | decide | simp) ?_
  refine AW.seqR ?_
  refine AWo.pure (PureOp.assign rfl) rfl rfl ?_
  refine AWo.pure (PureOp.assign rfl) rfl rfl ?_
  refine AWo.nil trivial ?_
  refine AW.seqR ?_
  refine AWo.pure (PureOp.assign rfl) rfl rfl ?_
  refine AWo.nil trivial ?_
  refine AW.seqR ?_
  refine AWo.buildSlice tbok 9000 [] (out := []) rfl rfl (by decide) rfl rfl rfl (by decide) rfl rfl rfl rfl rfl ?_
  refine AWo.pure (PureOp.assign rfl) rfl rfl ?_
  refine AWo.nil trivial ?_
  refine AW.seq ?_
  refine AW.seqR ?_
  refine AWo.pure (PureOp.move rfl) rfl rfl ?_
  first | refine AWo.pure (PureOp.lenS tbok rfl rfl) rfl rfl ?_ | refine AWo.pure (PureOp.lenD tbok rfl rfl) rfl rfl ?_
  refine AWo.pure (PureOp.move rfl) rfl rfl ?_
  refine AWo.nil trivial ?_
  refine AW.block ?_
  refine AW.ghost 77000 4 rfl ?_
  refine AW.loopw (fun mm σ => ∃ i, (i ≤ Ls.length) ∧ mm = Ls.length - i ∧ σ = ⟨(upd (upd (upd (upd (upd emp 4 (.slice (some ⟨77000, 0, none⟩) i 0)) 5 (.slice (some ⟨77001, 0, none⟩) i 0)) 9 (.slice (some ⟨0, 0, none⟩) Ls.length 0)) 10 (vi .i64 Ls.length)) 11 (vi .i64 i)), (upd (upd (upd emp 0 ⟨Ls.map db, false, 1⟩) 77000 ⟨((((Ls.take i).map nb).map fe).flatten).map (vi .u64), true, 4⟩) 77001 ⟨((Ls.take i).map nb).map dv, true, 1⟩)⟩) (fm := [(77001, 9000)]) ?_ ⟨0, Nat.zero_le _, rfl, rfl⟩ ?_
  ·
    refine Wk.of [0, 77000, 77001] ?_ ?_ ?_ (by decide) rfl
    ·
      refine WkE.upd rfl (by first | exact VR.flat _ rfl | exact VR.eqv (vp_succ _) rfl | exact VR.eqv (vp_succ _).symm rfl | exact VR.eqv (by first | rfl | (congr 1; omega) | (simp; done) | (simp; omega)) rfl) ?_
      refine WkE.upd rfl (by first | exact VR.flat _ rfl | exact VR.eqv (vp_succ _) rfl | exact VR.eqv (vp_succ _).symm rfl | exact VR.eqv (by first | rfl | (congr 1; omega) | (simp; done) | (simp; omega)) rfl) ?_
      refine WkE.upd rfl (.slice (0) 0 _ 0 ⟨_, rfl⟩ (by simp) (by simp)) ?_
      refine WkE.upd rfl (by first | exact .nilS _ (by simp) | exact .slice (77001) 0 _ 0 ⟨_, rfl⟩ (by simp) (by simp)) ?_
      refine WkE.upd rfl (by first | exact .nilS _ (by simp) | exact .slice (77000) 0 _ 0 ⟨_, rfl⟩ (by simp) (by simp)) ?_
      exact WkE.emp
    ·
      refine WkM.cloM rfl rfl (fun _ => rfl) (fun h => h) ?_
      refine WkM.flat rfl (flatM flat_vi) (fun h => h) ?_
      refine WkM.cloM rfl rfl (fun _ => rfl) (fun h => h) ?_
      exact WkM.emp
    ·
      repeat (refine dom_upd_mem (by decide) ?_)
      exact dom_emp
  ·
    rintro mm σ ⟨i, hinv, rfl, rfl⟩
    refine AW.seqR ?_
    first | refine AWo.pure (PureOp.ltN rfl rfl) rfl rfl ?_ | refine AWo.pure (PureOp.bin rfl rfl rfl) rfl rfl ?_
    refine AWo.nil trivial ?_
    refine AW.seq ?_
    refine AW.cond rfl (fun hb0 => ?_) (fun hb0 => ?_)
    ·
      have hi : i < Ls.length := by simpa using hb0
      have hbm : Ls.getD i [] ∈ Ls := by rw [List.getD_eq_getElem?_getD, List.getElem?_eq_getElem hi]; exact List.getElem_mem _
      have hbb := hB _ hbm
      have hbl := hS _ hbm
      refine AW.skip ?_
      refine thenA_normal ?_
      refine AW.seq ?_
      refine AW.block ?_
      refine AW.seqR ?_
      refine AWo.pure (PureOp.idx1 tbok (j := i) rfl rfl rfl rfl hi) rfl rfl ?_
      refine AWo.loadM tbok (f := db) [] rfl rfl rfl hi rfl rfl ?_
      refine AWo.pure (PureOp.assign rfl) rfl rfl ?_
      refine AWo.nil trivial ?_
      refine AW.seqR ?_
      refine AWo.pure (PureOp.move rfl) rfl rfl ?_
      refine AWo.pure (PureOp.move rfl) rfl rfl ?_
      refine AWo.callX (fromwideFd (b := Ls.getD i []) hbb (by omega)) bd64 [] [] rfl (.cons rfl .nil) rfl (.cons rfl rfl .nil) .nil rfl .nil frN (by decide) (.pure (by first | rfl | exact pure_aggM flat_vi | exact pure_aggM flat_bool) .nil) rfl rfl rfl rfl ?_
      refine AWo.buildSlice tbok 19000 [(0, .agg ((fe (nb (Ls.getD i []))).map (vi .u64)).toArray)] (out := [fe (nb (Ls.getD i []))].flatten.map (vi .u64)) rfl rfl (by decide) rfl rfl rfl (by decide) rfl (fillB1 (fe_len _)) rfl rfl rfl ?_
      refine AWo.append tbok (all := ((((Ls.take (i + 1)).map nb).map fe).flatten).map (vi .u64)) (news := [fe (nb (Ls.getD i []))].flatten.map (vi .u64)) 20000 rfl rfl rfl rfl (by show (FF _).length = _; rw [FF_len, List.length_map, List.length_take, Nat.min_eq_left hinv]) (by show List.take _ (List.drop 0 _) = _; rw [List.drop_zero]; exact List.take_of_length_le (by simp)) (by simp; done) (by decide) rfl rfl rfl (by first | decide | exact Nat.one_ne_zero) rfl rfl rfl (by first | decide | omega) (by first | decide | omega) (by first | exact oneM (fun _ => rfl) _ | (simp; done)) (by show FF _ ++ FF [_] = FF _; rw [← FF_app, nb_step hi]) rfl rfl ?_
      refine AWo.pure (PureOp.assign rfl) rfl rfl ?_
      refine AWo.nil trivial ?_
      refine AW.region ?_
      refine AWo.pure (PureOp.move rfl) rfl rfl ?_
      refine AWo.pure (PureOp.move rfl) rfl rfl ?_
      refine AWo.callX (ofbd (a := Ls.getD i []) hbb (by omega)) bd66 [] [] rfl (.cons rfl .nil) rfl (.cons rfl rfl .nil) .nil rfl .nil frN (by decide) (.cons rfl rfl .nil) rfl rfl rfl rfl ?_
      refine AWo.callX (modRd (v := num 256 (Ls.getD i [])) (ofb_short hbb hbl)) bd65 [] [] rfl (.cons rfl .nil) rfl (.cons rfl rfl .nil) .nil rfl .nil frN (by decide) (.cons rfl rfl .nil) rfl rfl rfl rfl ?_
      refine AWo.buildSlice tbok 25000 [(0, dv (nb (Ls.getD i [])))] (out := [dv (nb (Ls.getD i []))]) rfl rfl (by decide) rfl rfl rfl (by decide) rfl rfl rfl rfl rfl ?_
      refine AWo.append tbok (all := ((Ls.take (i + 1)).map nb).map dv) (news := [dv (nb (Ls.getD i []))]) 26000 rfl rfl rfl rfl (by simp; omega) (by show List.take _ (List.drop 0 _) = _; rw [List.drop_zero]; exact List.take_of_length_le (by simp)) (by first | decide | (simp; done) | (simp; omega)) (by decide) rfl rfl rfl (by first | decide | exact Nat.one_ne_zero) rfl rfl rfl (by first | decide | omega) (by first | decide | omega) (by rfl) (by rw [← nb_step hi, List.map_append]; rfl) rfl rfl ?_
      refine AWo.pure (PureOp.assign rfl) rfl rfl ?_
      refine AWo.nil trivial ?_
      refine inBlockA_normal ?_
      refine thenA_normal ?_
      refine AW.region ?_
      first | refine AWo.pure (PureOp.addI (b := 1) rfl rfl (by first | decide | omega)) rfl rfl ?_ | refine AWo.pure (PureOp.bin rfl rfl rfl) rfl rfl ?_
      refine AWo.pure (PureOp.move rfl) rfl rfl ?_
      refine AWo.nil trivial ?_
      refine thenA_normal ?_
      refine ⟨Ls.length - (i + 1), [(77000, 20000), (77001, 26000)], _, by omega, ?_, i + 1, by omega, rfl, rfl⟩
      refine Wk.of [0, 77000, 77001] ?_ ?_ ?_ (by decide) rfl
      ·
        refine WkE.upd rfl (by first | exact VR.flat _ rfl | exact VR.eqv (vp_succ _) rfl | exact VR.eqv (vp_succ _).symm rfl | exact VR.eqv (by first | rfl | (congr 1; omega) | (simp; done) | (simp; omega)) rfl) ?_
        refine WkE.upd rfl (by first | exact VR.flat _ rfl | exact VR.eqv (vp_succ _) rfl | exact VR.eqv (vp_succ _).symm rfl | exact VR.eqv (by first | rfl | (congr 1; omega) | (simp; done) | (simp; omega)) rfl) ?_
        refine WkE.upd rfl (.slice (0) 0 _ 0 ⟨_, rfl⟩ (by simp) (by simp)) ?_
        refine WkE.upd rfl (by first | exact .nilS _ (by simp) | exact .slice (77001) 0 _ 0 ⟨_, rfl⟩ (by simp) (by simp)) ?_
        refine WkE.upd rfl (by first | exact .nilS _ (by simp) | exact .slice (77000) 0 _ 0 ⟨_, rfl⟩ (by simp) (by simp)) ?_
        exact WkE.emp
      ·
        refine WkM.cloM rfl rfl (fun _ => rfl) (fun h => h) ?_
        refine WkM.flat rfl (flatM flat_vi) (fun h => h) ?_
        refine WkM.cloM rfl rfl (fun _ => rfl) (fun h => h) ?_
        exact WkM.emp
      ·
        repeat (refine dom_upd_mem (by decide) ?_)
        exact dom_emp
    ·
      obtain rfl : i = Ls.length := by simp at hb0; omega
      simp only [List.take_length]
      refine AW.exit ?_
      refine thenA_exit ?_
      refine thenA_exit ?_
      refine inBlockA_hit ?_
      refine thenA_normal ?_
      refine AW.seqR ?_
      refine AWo.pure (PureOp.move rfl) rfl rfl ?_
      refine AWo.pure (PureOp.move rfl) rfl rfl ?_
      refine AWo.pure (PureOp.assign rfl) rfl rfl ?_
      refine AWo.pure (PureOp.assign rfl) rfl rfl ?_
      refine AWo.nil trivial ?_
      refine AW.ret ?_
      refine RetQ.gc [_, _] [77000, 77001] [.tmp 2, .tmp 3] (.inl rfl) rfl (.tmp rfl (.tmp rfl .nil)) rfl (.cons rfl rfl (.cons rfl rfl .nil)) (OutL.clo rfl (cloM fun _ => rfl) (by intro h; first | rfl | exact h.elim id fun h => absurd h.1 (by simp)) (OutL.flat rfl (flatM flat_vi) (by intro h; first | rfl | exact h.elim id fun h => absurd h.1 (by simp)) (OutL.clo rfl (cloM fun _ => rfl) (by intro h; first | rfl | exact h.elim id fun h => absurd h.1 (by simp)) trivial))) (by decide) rfl
end Go.Proofs.YteeifahhejangaaGreatDoor
