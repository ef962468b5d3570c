/- What the proof stands on, part 4: the walk of each function, and plain laws of numbers. -/
import Derived.Test.YteeifahhejangaaDoorK3
namespace Go.Proofs.YteeifahhejangaaDoor
open Go Sim
theorem addD_ctr {x y : Nat} (hlx : (D 4294967296 x).length < 100000000) (hly : (D 4294967296 y).length < 100000000) : GC Tryd.prog 65 [.slice (some ⟨0, 0, none⟩) (D 4294967296 x).length 0, .slice (some ⟨1, 0, none⟩) (D 4294967296 y).length 0] [⟨(D 4294967296 x).map (vi .u64), false, 1⟩, ⟨(D 4294967296 y).map (vi .u64), false, 1⟩] [.slice (some ⟨2, 0, none⟩) (D 4294967296 (x + y)).length 0] [⟨(D 4294967296 x).map (vi .u64), false, 1⟩, ⟨(D 4294967296 y).map (vi .u64), false, 1⟩, ⟨(D 4294967296 (x + y)).map (vi .u64), true, 1⟩] := by
 have h := radd_ctr (a := D 4294967296 x) (b := D 4294967296 y) (bd_D (by decide) _) (bd_D (by decide) _) hlx hly
 simp only [num_D (show 2 ≤ 4294967296 by decide)] at h
 exact h
theorem subD_ctr {x y : Nat} (hlx : (D 4294967296 x).length < 100000000) (hly : (D 4294967296 y).length < 100000000) (h : y ≤ x) : GC Tryd.prog 67 [.slice (some ⟨0, 0, none⟩) (D 4294967296 x).length 0, .slice (some ⟨1, 0, none⟩) (D 4294967296 y).length 0] [⟨(D 4294967296 x).map (vi .u64), false, 1⟩, ⟨(D 4294967296 y).map (vi .u64), false, 1⟩] [.slice (some ⟨2, 0, none⟩) (D 4294967296 (x - y)).length 0] [⟨(D 4294967296 x).map (vi .u64), false, 1⟩, ⟨(D 4294967296 y).map (vi .u64), false, 1⟩, ⟨(D 4294967296 (x - y)).map (vi .u64), true, 1⟩] := by
 have h := rsub_ctr (a := D 4294967296 x) (b := D 4294967296 y) (bd_D (by decide) _) (bd_D (by decide) _) hlx hly (by rw [num_D (by decide), num_D (by decide)]; exact h)
 simp only [num_D (show 2 ≤ 4294967296 by decide)] at h
 exact h
theorem cmpD_ctr {x y : Nat} (hlx : (D 4294967296 x).length < 100000000) (hly : (D 4294967296 y).length < 100000000) : GC Tryd.prog 66 [.slice (some ⟨0, 0, none⟩) (D 4294967296 x).length 0, .slice (some ⟨1, 0, none⟩) (D 4294967296 y).length 0] [⟨(D 4294967296 x).map (vi .u64), false, 1⟩, ⟨(D 4294967296 y).map (vi .u64), false, 1⟩] [.int .i64 (cmpI x y)] [⟨(D 4294967296 x).map (vi .u64), false, 1⟩, ⟨(D 4294967296 y).map (vi .u64), false, 1⟩] := by
 have h := rcmp_ctr (a := D 4294967296 x) (b := D 4294967296 y) (bd_D (by decide) _) (bd_D (by decide) _) (Nat.lt_trans hlx (by decide)) (Nat.lt_trans hly (by decide))
 simp only [num_D (show 2 ≤ 4294967296 by decide)] at h
 exact h
theorem shiftD_ctr {x k : Nat} (hlx : (D 4294967296 x).length < 100000000) (hk : k < 32) : GC Tryd.prog 91 [.slice (some ⟨0, 0, none⟩) (D 4294967296 x).length 0, vi .i64 (k)] [⟨(D 4294967296 x).map (vi .u64), false, 1⟩] [.slice (some ⟨1, 0, none⟩) (D 4294967296 (x * 2 ^ k)).length 0] [⟨(D 4294967296 x).map (vi .u64), false, 1⟩, ⟨(D 4294967296 (x * 2 ^ k)).map (vi .u64), true, 1⟩] := by
 have h := shift_ctr (a := D 4294967296 x) (k := k) (bd_D (by decide) _) hlx hk
 simp only [num_D (show 2 ≤ 4294967296 by decide)] at h
 exact h
theorem mul256_ctr {x : Nat} (hlx : (D 4294967296 x).length < 100000000) : GC Tryd.prog 92 [.slice (some ⟨0, 0, none⟩) (D 4294967296 x).length 0, .slice (some ⟨1, 0, none⟩) ([256]).length 0] [⟨(D 4294967296 x).map (vi .u64), false, 1⟩, ⟨([256]).map (vi .u64), false, 1⟩] [.slice (some ⟨2, 0, none⟩) (D 4294967296 (x * 256)).length 0] [⟨(D 4294967296 x).map (vi .u64), false, 1⟩, ⟨([256]).map (vi .u64), false, 1⟩, ⟨(D 4294967296 (x * 256)).map (vi .u64), true, 1⟩] := by
 have h := rmul_ctr (a := D 4294967296 x) (b := [256]) (bd_D (by decide) _) (fun y hy => by simp at hy; rw [hy]; decide) hlx (by decide)
 rw [num_D (by decide), show num 4294967296 [256] = 256 from rfl] at h
 exact h
theorem num_one {B : Nat} (x : Nat) : num B [x] = x := by simp [num]
theorem bd_byte (v : Nat) : bd 4294967296 [v % 256] := fun y hy => by simp at hy; rw [hy]; exact Nat.lt_trans (Nat.mod_lt _ (by decide)) (by decide)
theorem num_byte (v : Nat) : num 4294967296 [v % 256] = v % 256 := @num_one 4294967296 (v % 256)
theorem byteD (x r : Nat) : (D 4294967296 x).getD (r / 4) 0 / 256 ^ (r % 4) % 256 = x / 256 ^ r % 256 := by
 rw [D_getD (by decide)]
 have hd : x / 256 ^ r = x / 4294967296 ^ (r / 4) / 256 ^ (r % 4) := by
  rw [Nat.div_div_eq_div_mul, show (4294967296 : Nat) = 256 ^ 4 from by decide, ← Nat.pow_mul, ← Nat.pow_add, Nat.div_add_mod]
 rw [hd]
 generalize x / 4294967296 ^ (r / 4) = z
 have hj : r % 4 < 4 := Nat.mod_lt _ (by decide)
 generalize r % 4 = j at hj
 have e : 4294967296 = 256 ^ j * (256 * 256 ^ (3 - j)) := by
  rw [← Nat.mul_assoc, Nat.mul_right_comm, ← Nat.pow_add, show j + (3 - j) = 3 by omega]
 rw [e, Nat.mod_mul_right_div_self, Nat.mod_mul_right_mod]
theorem mod_room {N : Nat} (h : (D 4294967296 N).length < 1000000) : ∀ z, z < N * 512 → (D 4294967296 z).length < 100000000 := fun z hz => by
 have h1 : N < 4294967296 ^ (D 4294967296 N).length := (D_len_le (B := 4294967296) (by decide) N _).1 (Nat.le_refl _)
 have h2 : z < 4294967296 ^ ((D 4294967296 N).length + 1) := Nat.lt_of_lt_of_le hz (by rw [Nat.pow_succ]; exact Nat.mul_le_mul (Nat.le_of_lt h1) (by decide))
 have := (D_len_le (B := 4294967296) (by decide) z _).2 h2
 omega
theorem mod_top {N : Nat} (x : Nat) : x / 256 ^ (4 * (D 4294967296 x).length) % N = 0 := by
 have h1 : x < 4294967296 ^ (D 4294967296 x).length := (D_len_le (B := 4294967296) (by decide) x _).1 (Nat.le_refl _)
 rw [Nat.pow_mul, show (256 : Nat) ^ 4 = 4294967296 from by decide, Nat.div_eq_of_lt h1, Nat.zero_mod]
theorem mod_small {x y r N : Nat} (h : y < N) : y * 256 + x / 256 ^ r % 256 < N * 2 ^ 9 := by
 have h2 := Nat.mod_lt (x / 256 ^ r) (show 0 < 256 by decide)
 omega
theorem mod_two (v M : Nat) : v % (M * 2) = v % M + M * (v / M % 2) := Nat.mod_mul
theorem mod_lo {v N k z : Nat} (hz : z = v % (N * 2 ^ (k + 1))) (h : z < N * 2 ^ k) : z = v % (N * 2 ^ k) := by
 have h1 := mod_two v (N * 2 ^ k)
 rw [Nat.mul_assoc, ← Nat.pow_succ] at h1
 rw [h1] at hz
 rcases Nat.mod_two_eq_zero_or_one (v / (N * 2 ^ k)) with h2 | h2
 · rw [hz, h2]; rfl
 · rw [h2] at hz; omega
theorem mod_hi {v N k z : Nat} (hz : z = v % (N * 2 ^ (k + 1))) (h : N * 2 ^ k ≤ z) : z - N * 2 ^ k = v % (N * 2 ^ k) := by
  have h1 := mod_two v (N * 2 ^ k)
  rw [Nat.mul_assoc, ← Nat.pow_succ] at h1
  rw [h1] at hz
  rcases Nat.mod_two_eq_zero_or_one (v / (N * 2 ^ k)) with h2 | h2
  · rcases Nat.eq_zero_or_pos (N * 2 ^ k) with h3 | h3
    · rw [h3] at hz ⊢; rw [hz]; simp
    · have := Nat.mod_lt v h3
      rw [h2] at hz; omega
  · rw [h2] at hz; omega
theorem mod_byte {x r N : Nat} : (x / 256 ^ (r + 1) % N * 256 + x / 256 ^ r % 256) % N = x / 256 ^ r % N := by
 have e : x / 256 ^ r = x / 256 ^ (r + 1) * 256 + x / 256 ^ r % 256 := by
  rw [Nat.pow_succ, ← Nat.div_div_eq_div_mul]
  omega
 generalize x / 256 ^ r % 256 = b at *
 generalize x / 256 ^ (r + 1) = y at *
 rw [e, Nat.add_mod, Nat.mod_mul_mod, ← Nat.add_mod]
set_option maxRecDepth 10000 in
theorem modD_ctr {x N : Nat} (hN : 0 < N) (hlx : (D 4294967296 x).length < 1000000) (hlN : (D 4294967296 N).length < 1000000) : GC Tryd.prog 60 [.slice (some ⟨0, 0, none⟩) (D 4294967296 x).length 0, .slice (some ⟨1, 0, none⟩) (D 4294967296 N).length 0] [⟨(D 4294967296 x).map (vi .u64), false, 1⟩, ⟨(D 4294967296 N).map (vi .u64), false, 1⟩] [.slice (some ⟨2, 0, none⟩) (D 4294967296 (x % N)).length 0] [⟨(D 4294967296 x).map (vi .u64), false, 1⟩, ⟨(D 4294967296 N).map (vi .u64), false, 1⟩, ⟨(D 4294967296 (x % N)).map (vi .u64), true, 1⟩] := by
 refine gi Tryd.func60 ?_
 have hL := mod_room hlN
 refine zS ?_
 refine yA ?_
 refine zN (zS ?_)
 refine yP (PureOp.buildArr tbok [] rfl rfl rfl (by decide) rfl rfl) ?_
 refine yN 6000 1 _ ?_
 refine ySA ?_
 refine zN (zQ (zS ?_))
 refine yA ?_
 refine zN (zB ?_)
 refine AW.rounds 10 ?_
 refine roundsA_succ ?_
 refine zQ (zS ?_)
 refine yM ?_
 refine yP (pLt (b := 9)) ?_
 refine zN (zC (zK (zT (zQ (zB (zR ?_))))))
 refine yM ?_
 refine yM ?_
 refine yM ?_
 refine yC (shiftD_ctr (x := N) (k := 0) (Nat.lt_trans hlN (by decide)) (by decide)) bd91 [(1, 0)] [21000] ?_
 refine yP pA ?_
 refine AWo.store1 tbok rfl rfl rfl rfl rfl (by simp [Value.cells]) rfl rfl ?_
 refine zN (zL (zT (zR ?_)))
 refine yM ?_
 refine yP (pAdd (b := 1)) ?_
 refine yA ?_
 refine zN (zT ?_)
 refine roundsA_succ ?_
 refine zQ (zS ?_)
 refine yM ?_
 refine yP (pLt (b := 9)) ?_
 refine zN (zC (zK (zT (zQ (zB (zR ?_))))))
 refine yM ?_
 refine yM ?_
 refine yM ?_
 refine yC (shiftD_ctr (x := N) (k := 1) (Nat.lt_trans hlN (by decide)) (by decide)) bd91 [(1, 0)] [21001] ?_
 refine yP pA ?_
 refine AWo.store1 tbok rfl rfl rfl rfl rfl (by simp [Value.cells]) rfl rfl ?_
 refine zN (zL (zT (zR ?_)))
 refine yM ?_
 refine yP (pAdd (b := 1)) ?_
 refine yA ?_
 refine zN (zT ?_)
 refine roundsA_succ ?_
 refine zQ (zS ?_)
 refine yM ?_
 refine yP (pLt (b := 9)) ?_
 refine zN (zC (zK (zT (zQ (zB (zR ?_))))))
 refine yM ?_
 refine yM ?_
 refine yM ?_
 refine yC (shiftD_ctr (x := N) (k := 2) (Nat.lt_trans hlN (by decide)) (by decide)) bd91 [(1, 0)] [21002] ?_
 refine yP pA ?_
 refine AWo.store1 tbok rfl rfl rfl rfl rfl (by simp [Value.cells]) rfl rfl ?_
 refine zN (zL (zT (zR ?_)))
 refine yM ?_
 refine yP (pAdd (b := 1)) ?_
 refine yA ?_
 refine zN (zT ?_)
 refine roundsA_succ ?_
 refine zQ (zS ?_)
 refine yM ?_
 refine yP (pLt (b := 9)) ?_
 refine zN (zC (zK (zT (zQ (zB (zR ?_))))))
 refine yM ?_
 refine yM ?_
 refine yM ?_
 refine yC (shiftD_ctr (x := N) (k := 3) (Nat.lt_trans hlN (by decide)) (by decide)) bd91 [(1, 0)] [21003] ?_
 refine yP pA ?_
 refine AWo.store1 tbok rfl rfl rfl rfl rfl (by simp [Value.cells]) rfl rfl ?_
 refine zN (zL (zT (zR ?_)))
 refine yM ?_
 refine yP (pAdd (b := 1)) ?_
 refine yA ?_
 refine zN (zT ?_)
 refine roundsA_succ ?_
 refine zQ (zS ?_)
 refine yM ?_
 refine yP (pLt (b := 9)) ?_
 refine zN (zC (zK (zT (zQ (zB (zR ?_))))))
 refine yM ?_
 refine yM ?_
 refine yM ?_
 refine yC (shiftD_ctr (x := N) (k := 4) (Nat.lt_trans hlN (by decide)) (by decide)) bd91 [(1, 0)] [21004] ?_
 refine yP pA ?_
 refine AWo.store1 tbok rfl rfl rfl rfl rfl (by simp [Value.cells]) rfl rfl ?_
 refine zN (zL (zT (zR ?_)))
 refine yM ?_
 refine yP (pAdd (b := 1)) ?_
 refine yA ?_
 refine zN (zT ?_)
 refine roundsA_succ ?_
 refine zQ (zS ?_)
 refine yM ?_
 refine yP (pLt (b := 9)) ?_
 refine zN (zC (zK (zT (zQ (zB (zR ?_))))))
 refine yM ?_
 refine yM ?_
 refine yM ?_
 refine yC (shiftD_ctr (x := N) (k := 5) (Nat.lt_trans hlN (by decide)) (by decide)) bd91 [(1, 0)] [21005] ?_
 refine yP pA ?_
 refine AWo.store1 tbok rfl rfl rfl rfl rfl (by simp [Value.cells]) rfl rfl ?_
 refine zN (zL (zT (zR ?_)))
 refine yM ?_
 refine yP (pAdd (b := 1)) ?_
 refine yA ?_
 refine zN (zT ?_)
 refine roundsA_succ ?_
 refine zQ (zS ?_)
 refine yM ?_
 refine yP (pLt (b := 9)) ?_
 refine zN (zC (zK (zT (zQ (zB (zR ?_))))))
 refine yM ?_
 refine yM ?_
 refine yM ?_
 refine yC (shiftD_ctr (x := N) (k := 6) (Nat.lt_trans hlN (by decide)) (by decide)) bd91 [(1, 0)] [21006] ?_
 refine yP pA ?_
 refine AWo.store1 tbok rfl rfl rfl rfl rfl (by simp [Value.cells]) rfl rfl ?_
 refine zN (zL (zT (zR ?_)))
 refine yM ?_
 refine yP (pAdd (b := 1)) ?_
 refine yA ?_
 refine zN (zT ?_)
 refine roundsA_succ ?_
 refine zQ (zS ?_)
 refine yM ?_
 refine yP (pLt (b := 9)) ?_
 refine zN (zC (zK (zT (zQ (zB (zR ?_))))))
 refine yM ?_
 refine yM ?_
 refine yM ?_
 refine yC (shiftD_ctr (x := N) (k := 7) (Nat.lt_trans hlN (by decide)) (by decide)) bd91 [(1, 0)] [21007] ?_
 refine yP pA ?_
 refine AWo.store1 tbok rfl rfl rfl rfl rfl (by simp [Value.cells]) rfl rfl ?_
 refine zN (zL (zT (zR ?_)))
 refine yM ?_
 refine yP (pAdd (b := 1)) ?_
 refine yA ?_
 refine zN (zT ?_)
 refine roundsA_succ ?_
 refine zQ (zS ?_)
 refine yM ?_
 refine yP (pLt (b := 9)) ?_
 refine zN (zC (zK (zT (zQ (zB (zR ?_))))))
 refine yM ?_
 refine yM ?_
 refine yM ?_
 refine yC (shiftD_ctr (x := N) (k := 8) (Nat.lt_trans hlN (by decide)) (by decide)) bd91 [(1, 0)] [21008] ?_
 refine yP pA ?_
 refine AWo.store1 tbok rfl rfl rfl rfl rfl (by simp [Value.cells]) rfl rfl ?_
 refine zN (zL (zT (zR ?_)))
 refine yM ?_
 refine yP (pAdd (b := 1)) ?_
 refine yA ?_
 refine zN (zT ?_)
 refine roundsA_succ ?_
 refine zQ (zS ?_)
 refine yM ?_
 refine yP (pLt (b := 9)) ?_
 refine zN (zF (zX (zV (zV (zH (zT (zS ?_)))))))
 refine AWo.buildSlice tbok 23000 [] (out := []) rfl rfl (by decide) rfl rfl rfl (by decide) rfl rfl rfl rfl rfl ?_
 refine yA ?_
 refine zN (zQ (zS ?_))
 refine yM ?_
 refine yP pL ?_
 refine yP (PureOp.mulI (b := 4) rfl rfl (by omega)) ?_
 refine yP ((PureOp.subP rfl rfl (by omega)).mono (v' := vp (4 * (D 4294967296 x).length)) (by (simp only [vp]; congr 1; omega))) ?_
 refine yA ?_
 refine zN (zB ?_)
 refine AW.loopw (fun mm σ => ∃ y, ∃ r, (r ≤ 4 * (D 4294967296 x).length ∧ y = x / 256 ^ r % N) ∧ mm = 1 * r ∧ σ = ⟨(upd (upd (upd (upd emp 0 (.slice (some ⟨0, 0, none⟩) (D 4294967296 x).length 0)) 5 (.pointer (some ⟨6000, 0, none⟩))) 7 (.slice (some ⟨77000, 0, none⟩) (D 4294967296 (y)).length 0)) 8 (vp r)), (upd (upd (upd (upd (upd (upd (upd (upd (upd (upd (upd (upd (upd emp 0 ⟨(D 4294967296 x).map (vi .u64), false, 1⟩) 1 ⟨(D 4294967296 N).map (vi .u64), false, 1⟩) 6000 ⟨[.slice (some ⟨21000, 0, none⟩) (D 4294967296 (N * 2 ^ 0)).length 0, .slice (some ⟨21001, 0, none⟩) (D 4294967296 (N * 2 ^ 1)).length 0, .slice (some ⟨21002, 0, none⟩) (D 4294967296 (N * 2 ^ 2)).length 0, .slice (some ⟨21003, 0, none⟩) (D 4294967296 (N * 2 ^ 3)).length 0, .slice (some ⟨21004, 0, none⟩) (D 4294967296 (N * 2 ^ 4)).length 0, .slice (some ⟨21005, 0, none⟩) (D 4294967296 (N * 2 ^ 5)).length 0, .slice (some ⟨21006, 0, none⟩) (D 4294967296 (N * 2 ^ 6)).length 0, .slice (some ⟨21007, 0, none⟩) (D 4294967296 (N * 2 ^ 7)).length 0, .slice (some ⟨21008, 0, none⟩) (D 4294967296 (N * 2 ^ 8)).length 0], true, 1⟩) 21000 ⟨(D 4294967296 (N * 2 ^ 0)).map (vi .u64), true, 1⟩) 21001 ⟨(D 4294967296 (N * 2 ^ 1)).map (vi .u64), true, 1⟩) 21002 ⟨(D 4294967296 (N * 2 ^ 2)).map (vi .u64), true, 1⟩) 21003 ⟨(D 4294967296 (N * 2 ^ 3)).map (vi .u64), true, 1⟩) 21004 ⟨(D 4294967296 (N * 2 ^ 4)).map (vi .u64), true, 1⟩) 21005 ⟨(D 4294967296 (N * 2 ^ 5)).map (vi .u64), true, 1⟩) 21006 ⟨(D 4294967296 (N * 2 ^ 6)).map (vi .u64), true, 1⟩) 21007 ⟨(D 4294967296 (N * 2 ^ 7)).map (vi .u64), true, 1⟩) 21008 ⟨(D 4294967296 (N * 2 ^ 8)).map (vi .u64), true, 1⟩) 77000 ⟨(D 4294967296 (y)).map (vi .u64), true, 1⟩)⟩) (fm := [(77000, 23000)]) (wk [0, 1, 6000, 21000, 21001, 21002, 21003, 21004, 21005, 21006, 21007, 21008, 77000]) ⟨0, 4 * (D 4294967296 x).length, ⟨Nat.le_refl _, (mod_top x).symm⟩, rfl, rfl⟩ ?_
 rintro mm σ ⟨y, r, ⟨hr0, hy⟩, rfl, rfl⟩
 refine zQ (zS ?_)
 refine yM ?_
 refine yP (PureOp.geP rfl rfl) ?_
 refine zN ?_
 refine zA (fun hb0 => ?_) (fun hb0 => ?_)
 ·
  have hp0 : 0 < r := by simpa using hb0
  obtain ⟨r, rfl⟩ : ∃ q, r = q + 1 := ⟨r - 1, by omega⟩
  rw [vp_succ]
  have hr4 : r / 4 < (D 4294967296 x).length := by omega
  have hx := bd_getD (bd_D (B := 4294967296) (by decide) x) (by decide) (r / 4)
  have hyN : y < N := by rw [hy]; exact Nat.mod_lt _ hN
  have hv := mod_small (x := x) (r := r) hyN
  refine zK (zT (zQ (zB (zS ?_))))
  refine yM ?_
  refine yM ?_
  refine yP (PureOp.quoN (b := 4) 9223372036854775808 rfl rfl (by decide) (by decide) (by decide) (by omega)) ?_
  refine yP (PureOp.idxN tbok (j := r / 4) rfl rfl rfl rfl hr4) ?_
  refine yL 0 ?_
  refine yA ?_
  refine zN (zQ (zS ?_))
  refine yA ?_
  refine zN (zB ?_)
  refine AW.loopw (fun mm σ => ∃ j, (j ≤ r % 4) ∧ mm = r % 4 - j ∧ σ = ⟨(upd (upd (upd (upd (upd (upd emp 0 (.slice (some ⟨0, 0, none⟩) (D 4294967296 x).length 0)) 5 (.pointer (some ⟨6000, 0, none⟩))) 7 (.slice (some ⟨77000, 0, none⟩) (D 4294967296 (y)).length 0)) 8 (vi .i64 r)) 9 (vi .u64 ((D 4294967296 x).getD (r / 4) 0 / 256 ^ j))) 10 (vi .i64 j)), (upd (upd (upd (upd (upd (upd (upd (upd (upd (upd (upd (upd (upd emp 0 ⟨(D 4294967296 x).map (vi .u64), false, 1⟩) 1 ⟨(D 4294967296 N).map (vi .u64), false, 1⟩) 6000 ⟨[.slice (some ⟨21000, 0, none⟩) (D 4294967296 (N * 2 ^ 0)).length 0, .slice (some ⟨21001, 0, none⟩) (D 4294967296 (N * 2 ^ 1)).length 0, .slice (some ⟨21002, 0, none⟩) (D 4294967296 (N * 2 ^ 2)).length 0, .slice (some ⟨21003, 0, none⟩) (D 4294967296 (N * 2 ^ 3)).length 0, .slice (some ⟨21004, 0, none⟩) (D 4294967296 (N * 2 ^ 4)).length 0, .slice (some ⟨21005, 0, none⟩) (D 4294967296 (N * 2 ^ 5)).length 0, .slice (some ⟨21006, 0, none⟩) (D 4294967296 (N * 2 ^ 6)).length 0, .slice (some ⟨21007, 0, none⟩) (D 4294967296 (N * 2 ^ 7)).length 0, .slice (some ⟨21008, 0, none⟩) (D 4294967296 (N * 2 ^ 8)).length 0], true, 1⟩) 21000 ⟨(D 4294967296 (N * 2 ^ 0)).map (vi .u64), true, 1⟩) 21001 ⟨(D 4294967296 (N * 2 ^ 1)).map (vi .u64), true, 1⟩) 21002 ⟨(D 4294967296 (N * 2 ^ 2)).map (vi .u64), true, 1⟩) 21003 ⟨(D 4294967296 (N * 2 ^ 3)).map (vi .u64), true, 1⟩) 21004 ⟨(D 4294967296 (N * 2 ^ 4)).map (vi .u64), true, 1⟩) 21005 ⟨(D 4294967296 (N * 2 ^ 5)).map (vi .u64), true, 1⟩) 21006 ⟨(D 4294967296 (N * 2 ^ 6)).map (vi .u64), true, 1⟩) 21007 ⟨(D 4294967296 (N * 2 ^ 7)).map (vi .u64), true, 1⟩) 21008 ⟨(D 4294967296 (N * 2 ^ 8)).map (vi .u64), true, 1⟩) 77000 ⟨(D 4294967296 (y)).map (vi .u64), true, 1⟩)⟩) (fm := []) (wk [0, 1, 6000, 21000, 21001, 21002, 21003, 21004, 21005, 21006, 21007, 21008, 77000]) ⟨0, Nat.zero_le _, rfl, rfl⟩ ?_
  rintro mm σ ⟨j, hinv, rfl, rfl⟩
  refine zQ (zS ?_)
  refine yM ?_
  refine yM ?_
  refine yP ((PureOp.remN (b := 4) rfl rfl (by decide)).mono (v' := vi .i64 (r % 4)) rfl) ?_
  refine yP pLt ?_
  refine zN ?_
  refine zA (fun hb1 => ?_) (fun hb1 => ?_)
  ·
   have hj : j < r % 4 := by simpa using hb1
   refine zK (zT (zQ (zB (zR ?_))))
   refine yM ?_
   refine yP ((PureOp.quoN (b := 256) 18446744073709551616 rfl rfl (by decide) (by decide) (by decide) (Nat.lt_of_le_of_lt (Nat.div_le_self _ _) (Nat.lt_trans hx (by decide)))).mono (v' := vi .u64 ((D 4294967296 x).getD (r / 4) 0 / 256 ^ (j + 1))) (congrArg (vi .u64) (by rw [Nat.div_div_eq_div_mul, ← Nat.pow_succ]))) ?_
   refine yA ?_
   refine zN (zL (zT (zR ?_)))
   refine yM ?_
   refine yP (pAdd (b := 1)) ?_
   refine yA ?_
   refine zN (zT ?_)
   exact ⟨r % 4 - (j + 1), [], _, by omega, wk [0, 1, 6000, 21000, 21001, 21002, 21003, 21004, 21005, 21006, 21007, 21008, 77000], j + 1, by omega, rfl, rfl⟩
  ·
   obtain rfl : j = r % 4 := by simp at hb1; omega
   refine zX (zV (zV (zH (zT (zS ?_)))))
   refine yM ?_
   refine AWo.buildSlice tbok 46000 [(0, vi .u64 256)] (out := [vi .u64 256]) rfl rfl (by decide) rfl rfl rfl (by decide) rfl rfl rfl rfl rfl ?_
   refine yC (mul256_ctr (x := y) (hL _ (by omega))) bd92 [(77000, 0), (46000, 0)] [47000] ?_
   refine yM ?_
   refine yP ((PureOp.remN (b := 256) rfl rfl (by decide)).mono (v' := vi .u64 (x / 256 ^ r % 256)) (congrArg (vi .u64) (byteD x r))) ?_
   refine AWo.buildSlice tbok 50000 [(0, vi .u64 (x / 256 ^ r % 256))] (out := [vi .u64 (x / 256 ^ r % 256)]) rfl rfl (by decide) rfl rfl rfl (by decide) rfl rfl rfl rfl rfl ?_
   refine yC (trim_ctr (a := [x / 256 ^ r % 256]) (v := x / 256 ^ r % 256) (n := 1) (bd_byte _) (num_byte _) rfl (by simp)) bd62 [(50000, 0)] [] ?_
   refine yC (addD_ctr (x := y * 256) (y := x / 256 ^ r % 256) (hL _ (by omega)) (hL _ (by have := Nat.mod_lt (x / 256 ^ r) (show 0 < 256 by decide); omega))) bd65 [(47000, 0), (50000, 0)] [52000] ?_ (hfit := (.flat rfl (by exact flatM flat_vi) (by intro h; rfl) (.part rfl (dpart (by decide) (bd_byte _) (num_byte _)) (flatM flat_vi) (by rw [Nat.zero_add]; exact dpart_len (by decide) (bd_byte (x / 256 ^ r)) (num_byte _)) .nil)))
   refine yA ?_
   refine zN (zS ?_)
   refine yA ?_
   refine zN (zB ?_)
   refine AW.loopw (fun mm σ => ∃ z, ∃ k, (k ≤ 9 ∧ z = (y * 256 + x / 256 ^ r % 256) % (N * 2 ^ k)) ∧ mm = 1 * k ∧ σ = ⟨(upd (upd (upd (upd (upd emp 0 (.slice (some ⟨0, 0, none⟩) (D 4294967296 x).length 0)) 5 (.pointer (some ⟨6000, 0, none⟩))) 7 (.slice (some ⟨77000, 0, none⟩) (D 4294967296 (z)).length 0)) 8 (vi .i64 r)) 11 (vp k)), (upd (upd (upd (upd (upd (upd (upd (upd (upd (upd (upd (upd (upd emp 0 ⟨(D 4294967296 x).map (vi .u64), false, 1⟩) 1 ⟨(D 4294967296 N).map (vi .u64), false, 1⟩) 6000 ⟨[.slice (some ⟨21000, 0, none⟩) (D 4294967296 (N * 2 ^ 0)).length 0, .slice (some ⟨21001, 0, none⟩) (D 4294967296 (N * 2 ^ 1)).length 0, .slice (some ⟨21002, 0, none⟩) (D 4294967296 (N * 2 ^ 2)).length 0, .slice (some ⟨21003, 0, none⟩) (D 4294967296 (N * 2 ^ 3)).length 0, .slice (some ⟨21004, 0, none⟩) (D 4294967296 (N * 2 ^ 4)).length 0, .slice (some ⟨21005, 0, none⟩) (D 4294967296 (N * 2 ^ 5)).length 0, .slice (some ⟨21006, 0, none⟩) (D 4294967296 (N * 2 ^ 6)).length 0, .slice (some ⟨21007, 0, none⟩) (D 4294967296 (N * 2 ^ 7)).length 0, .slice (some ⟨21008, 0, none⟩) (D 4294967296 (N * 2 ^ 8)).length 0], true, 1⟩) 21000 ⟨(D 4294967296 (N * 2 ^ 0)).map (vi .u64), true, 1⟩) 21001 ⟨(D 4294967296 (N * 2 ^ 1)).map (vi .u64), true, 1⟩) 21002 ⟨(D 4294967296 (N * 2 ^ 2)).map (vi .u64), true, 1⟩) 21003 ⟨(D 4294967296 (N * 2 ^ 3)).map (vi .u64), true, 1⟩) 21004 ⟨(D 4294967296 (N * 2 ^ 4)).map (vi .u64), true, 1⟩) 21005 ⟨(D 4294967296 (N * 2 ^ 5)).map (vi .u64), true, 1⟩) 21006 ⟨(D 4294967296 (N * 2 ^ 6)).map (vi .u64), true, 1⟩) 21007 ⟨(D 4294967296 (N * 2 ^ 7)).map (vi .u64), true, 1⟩) 21008 ⟨(D 4294967296 (N * 2 ^ 8)).map (vi .u64), true, 1⟩) 77000 ⟨(D 4294967296 (z)).map (vi .u64), true, 1⟩)⟩) (fm := [(77000, 52000)]) (wk [0, 1, 6000, 21000, 21001, 21002, 21003, 21004, 21005, 21006, 21007, 21008, 77000]) ⟨y * 256 + x / 256 ^ r % 256, 9, ⟨by decide, (Nat.mod_eq_of_lt hv).symm⟩, rfl, rfl⟩ ?_
   rintro mm σ ⟨z, k, ⟨hk9, hz⟩, rfl, rfl⟩
   refine zQ (zS ?_)
   refine yM ?_
   refine yP (PureOp.geP rfl rfl) ?_
   refine zN ?_
   refine zA (fun hb2 => ?_) (fun hb2 => ?_)
   ·
    have hp0 : 0 < k := by simpa using hb2
    have hkc : k = 1 ∨ k = 2 ∨ k = 3 ∨ k = 4 ∨ k = 5 ∨ k = 6 ∨ k = 7 ∨ k = 8 ∨ k = 9 := by omega
    rcases hkc with rfl | rfl | rfl | rfl | rfl | rfl | rfl | rfl | rfl
    ·
     rw [show vp 1 = vi .i64 0 from rfl]
     have hzl : z < N * 2 ^ 1 := by rw [hz]; exact Nat.mod_lt _ (Nat.mul_pos hN (by decide))
     refine zK (zT (zQ (zB (zS ?_))))
     refine yM ?_
     refine yM ?_
     refine yP pA ?_
     refine yL1 ?_
     refine yC (cmpD_ctr (x := z) (y := N * 2 ^ 0) (hL _ (by omega)) (hL _ (by omega))) bd66 [(77000, 0), (21000, 0)] [] ?_
     refine yP (PureOp.bin rfl rfl rfl) ?_
     refine zN ?_
     refine zA (fun hb3 => ?_) (fun hb3 => ?_)
     ·
      have hge : N * 2 ^ 0 ≤ z := ge_of_cmp (by simpa using hb3)
      refine zR ?_
      refine yM ?_
      refine yM ?_
      refine yP pA ?_
      refine yL1 ?_
      refine yC (subD_ctr (x := z) (y := N * 2 ^ 0) (hL _ (by omega)) (hL _ (by omega)) hge) bd67 [(77000, 0), (21000, 0)] [67000] ?_
      refine yA ?_
      refine zN (zL (zT (zR ?_)))
      refine yM ?_
      refine yP (PureOp.subP rfl rfl (by decide)) ?_
      refine yA ?_
      refine zN (zT ?_)
      exact ⟨1 * 0, [(77000, 67000)], _, by omega, wk [0, 1, 6000, 21000, 21001, 21002, 21003, 21004, 21005, 21006, 21007, 21008, 77000], z - N * 2 ^ 0, 0, ⟨by decide, mod_hi hz hge⟩, rfl, rfl⟩
     ·
      have hlt : z < N * 2 ^ 0 := lt_of_cmp (by simpa using hb3)
      refine zK (zL (zT (zR ?_)))
      refine yM ?_
      refine yP (PureOp.subP rfl rfl (by decide)) ?_
      refine yA ?_
      refine zN (zT ?_)
      exact ⟨1 * 0, [(77000, 77000)], _, by omega, wk [0, 1, 6000, 21000, 21001, 21002, 21003, 21004, 21005, 21006, 21007, 21008, 77000], z, 0, ⟨by decide, mod_lo hz hlt⟩, rfl, rfl⟩
    ·
     rw [show vp 2 = vi .i64 1 from rfl]
     have hzl : z < N * 2 ^ 2 := by rw [hz]; exact Nat.mod_lt _ (Nat.mul_pos hN (by decide))
     refine zK (zT (zQ (zB (zS ?_))))
     refine yM ?_
     refine yM ?_
     refine yP pA ?_
     refine yL1 ?_
     refine yC (cmpD_ctr (x := z) (y := N * 2 ^ 1) (hL _ (by omega)) (hL _ (by omega))) bd66 [(77000, 0), (21001, 0)] [] ?_
     refine yP (PureOp.bin rfl rfl rfl) ?_
     refine zN ?_
     refine zA (fun hb4 => ?_) (fun hb4 => ?_)
     ·
      have hge : N * 2 ^ 1 ≤ z := ge_of_cmp (by simpa using hb4)
      refine zR ?_
      refine yM ?_
      refine yM ?_
      refine yP pA ?_
      refine yL1 ?_
      refine yC (subD_ctr (x := z) (y := N * 2 ^ 1) (hL _ (by omega)) (hL _ (by omega)) hge) bd67 [(77000, 0), (21001, 0)] [67000] ?_
      refine yA ?_
      refine zN (zL (zT (zR ?_)))
      refine yM ?_
      refine yP (pSub (b := 1)) ?_
      refine yA ?_
      refine zN (zT ?_)
      exact ⟨1 * 1, [(77000, 67000)], _, by omega, wk [0, 1, 6000, 21000, 21001, 21002, 21003, 21004, 21005, 21006, 21007, 21008, 77000], z - N * 2 ^ 1, 1, ⟨by decide, mod_hi hz hge⟩, rfl, rfl⟩
     ·
      have hlt : z < N * 2 ^ 1 := lt_of_cmp (by simpa using hb4)
      refine zK (zL (zT (zR ?_)))
      refine yM ?_
      refine yP (pSub (b := 1)) ?_
      refine yA ?_
      refine zN (zT ?_)
      exact ⟨1 * 1, [(77000, 77000)], _, by omega, wk [0, 1, 6000, 21000, 21001, 21002, 21003, 21004, 21005, 21006, 21007, 21008, 77000], z, 1, ⟨by decide, mod_lo hz hlt⟩, rfl, rfl⟩
    ·
     rw [show vp 3 = vi .i64 2 from rfl]
     have hzl : z < N * 2 ^ 3 := by rw [hz]; exact Nat.mod_lt _ (Nat.mul_pos hN (by decide))
     refine zK (zT (zQ (zB (zS ?_))))
     refine yM ?_
     refine yM ?_
     refine yP pA ?_
     refine yL1 ?_
     refine yC (cmpD_ctr (x := z) (y := N * 2 ^ 2) (hL _ (by omega)) (hL _ (by omega))) bd66 [(77000, 0), (21002, 0)] [] ?_
     refine yP (PureOp.bin rfl rfl rfl) ?_
     refine zN ?_
     refine zA (fun hb5 => ?_) (fun hb5 => ?_)
     ·
      have hge : N * 2 ^ 2 ≤ z := ge_of_cmp (by simpa using hb5)
      refine zR ?_
      refine yM ?_
      refine yM ?_
      refine yP pA ?_
      refine yL1 ?_
      refine yC (subD_ctr (x := z) (y := N * 2 ^ 2) (hL _ (by omega)) (hL _ (by omega)) hge) bd67 [(77000, 0), (21002, 0)] [67000] ?_
      refine yA ?_
      refine zN (zL (zT (zR ?_)))
      refine yM ?_
      refine yP (pSub (b := 1)) ?_
      refine yA ?_
      refine zN (zT ?_)
      exact ⟨1 * 2, [(77000, 67000)], _, by omega, wk [0, 1, 6000, 21000, 21001, 21002, 21003, 21004, 21005, 21006, 21007, 21008, 77000], z - N * 2 ^ 2, 2, ⟨by decide, mod_hi hz hge⟩, rfl, rfl⟩
     ·
      have hlt : z < N * 2 ^ 2 := lt_of_cmp (by simpa using hb5)
      refine zK (zL (zT (zR ?_)))
      refine yM ?_
      refine yP (pSub (b := 1)) ?_
      refine yA ?_
      refine zN (zT ?_)
      exact ⟨1 * 2, [(77000, 77000)], _, by omega, wk [0, 1, 6000, 21000, 21001, 21002, 21003, 21004, 21005, 21006, 21007, 21008, 77000], z, 2, ⟨by decide, mod_lo hz hlt⟩, rfl, rfl⟩
    ·
     rw [show vp 4 = vi .i64 3 from rfl]
     have hzl : z < N * 2 ^ 4 := by rw [hz]; exact Nat.mod_lt _ (Nat.mul_pos hN (by decide))
     refine zK (zT (zQ (zB (zS ?_))))
     refine yM ?_
     refine yM ?_
     refine yP pA ?_
     refine yL1 ?_
     refine yC (cmpD_ctr (x := z) (y := N * 2 ^ 3) (hL _ (by omega)) (hL _ (by omega))) bd66 [(77000, 0), (21003, 0)] [] ?_
     refine yP (PureOp.bin rfl rfl rfl) ?_
     refine zN ?_
     refine zA (fun hb6 => ?_) (fun hb6 => ?_)
     ·
      have hge : N * 2 ^ 3 ≤ z := ge_of_cmp (by simpa using hb6)
      refine zR ?_
      refine yM ?_
      refine yM ?_
      refine yP pA ?_
      refine yL1 ?_
      refine yC (subD_ctr (x := z) (y := N * 2 ^ 3) (hL _ (by omega)) (hL _ (by omega)) hge) bd67 [(77000, 0), (21003, 0)] [67000] ?_
      refine yA ?_
      refine zN (zL (zT (zR ?_)))
      refine yM ?_
      refine yP (pSub (b := 1)) ?_
      refine yA ?_
      refine zN (zT ?_)
      exact ⟨1 * 3, [(77000, 67000)], _, by omega, wk [0, 1, 6000, 21000, 21001, 21002, 21003, 21004, 21005, 21006, 21007, 21008, 77000], z - N * 2 ^ 3, 3, ⟨by decide, mod_hi hz hge⟩, rfl, rfl⟩
     ·
      have hlt : z < N * 2 ^ 3 := lt_of_cmp (by simpa using hb6)
      refine zK (zL (zT (zR ?_)))
      refine yM ?_
      refine yP (pSub (b := 1)) ?_
      refine yA ?_
      refine zN (zT ?_)
      exact ⟨1 * 3, [(77000, 77000)], _, by omega, wk [0, 1, 6000, 21000, 21001, 21002, 21003, 21004, 21005, 21006, 21007, 21008, 77000], z, 3, ⟨by decide, mod_lo hz hlt⟩, rfl, rfl⟩
    ·
     rw [show vp 5 = vi .i64 4 from rfl]
     have hzl : z < N * 2 ^ 5 := by rw [hz]; exact Nat.mod_lt _ (Nat.mul_pos hN (by decide))
     refine zK (zT (zQ (zB (zS ?_))))
     refine yM ?_
     refine yM ?_
     refine yP pA ?_
     refine yL1 ?_
     refine yC (cmpD_ctr (x := z) (y := N * 2 ^ 4) (hL _ (by omega)) (hL _ (by omega))) bd66 [(77000, 0), (21004, 0)] [] ?_
     refine yP (PureOp.bin rfl rfl rfl) ?_
     refine zN ?_
     refine zA (fun hb7 => ?_) (fun hb7 => ?_)
     ·
      have hge : N * 2 ^ 4 ≤ z := ge_of_cmp (by simpa using hb7)
      refine zR ?_
      refine yM ?_
      refine yM ?_
      refine yP pA ?_
      refine yL1 ?_
      refine yC (subD_ctr (x := z) (y := N * 2 ^ 4) (hL _ (by omega)) (hL _ (by omega)) hge) bd67 [(77000, 0), (21004, 0)] [67000] ?_
      refine yA ?_
      refine zN (zL (zT (zR ?_)))
      refine yM ?_
      refine yP (pSub (b := 1)) ?_
      refine yA ?_
      refine zN (zT ?_)
      exact ⟨1 * 4, [(77000, 67000)], _, by omega, wk [0, 1, 6000, 21000, 21001, 21002, 21003, 21004, 21005, 21006, 21007, 21008, 77000], z - N * 2 ^ 4, 4, ⟨by decide, mod_hi hz hge⟩, rfl, rfl⟩
     ·
      have hlt : z < N * 2 ^ 4 := lt_of_cmp (by simpa using hb7)
      refine zK (zL (zT (zR ?_)))
      refine yM ?_
      refine yP (pSub (b := 1)) ?_
      refine yA ?_
      refine zN (zT ?_)
      exact ⟨1 * 4, [(77000, 77000)], _, by omega, wk [0, 1, 6000, 21000, 21001, 21002, 21003, 21004, 21005, 21006, 21007, 21008, 77000], z, 4, ⟨by decide, mod_lo hz hlt⟩, rfl, rfl⟩
    ·
     rw [show vp 6 = vi .i64 5 from rfl]
     have hzl : z < N * 2 ^ 6 := by rw [hz]; exact Nat.mod_lt _ (Nat.mul_pos hN (by decide))
     refine zK (zT (zQ (zB (zS ?_))))
     refine yM ?_
     refine yM ?_
     refine yP pA ?_
     refine yL1 ?_
     refine yC (cmpD_ctr (x := z) (y := N * 2 ^ 5) (hL _ (by omega)) (hL _ (by omega))) bd66 [(77000, 0), (21005, 0)] [] ?_
     refine yP (PureOp.bin rfl rfl rfl) ?_
     refine zN ?_
     refine zA (fun hb8 => ?_) (fun hb8 => ?_)
     ·
      have hge : N * 2 ^ 5 ≤ z := ge_of_cmp (by simpa using hb8)
      refine zR ?_
      refine yM ?_
      refine yM ?_
      refine yP pA ?_
      refine yL1 ?_
      refine yC (subD_ctr (x := z) (y := N * 2 ^ 5) (hL _ (by omega)) (hL _ (by omega)) hge) bd67 [(77000, 0), (21005, 0)] [67000] ?_
      refine yA ?_
      refine zN (zL (zT (zR ?_)))
      refine yM ?_
      refine yP (pSub (b := 1)) ?_
      refine yA ?_
      refine zN (zT ?_)
      exact ⟨1 * 5, [(77000, 67000)], _, by omega, wk [0, 1, 6000, 21000, 21001, 21002, 21003, 21004, 21005, 21006, 21007, 21008, 77000], z - N * 2 ^ 5, 5, ⟨by decide, mod_hi hz hge⟩, rfl, rfl⟩
     ·
      have hlt : z < N * 2 ^ 5 := lt_of_cmp (by simpa using hb8)
      refine zK (zL (zT (zR ?_)))
      refine yM ?_
      refine yP (pSub (b := 1)) ?_
      refine yA ?_
      refine zN (zT ?_)
      exact ⟨1 * 5, [(77000, 77000)], _, by omega, wk [0, 1, 6000, 21000, 21001, 21002, 21003, 21004, 21005, 21006, 21007, 21008, 77000], z, 5, ⟨by decide, mod_lo hz hlt⟩, rfl, rfl⟩
    ·
     rw [show vp 7 = vi .i64 6 from rfl]
     have hzl : z < N * 2 ^ 7 := by rw [hz]; exact Nat.mod_lt _ (Nat.mul_pos hN (by decide))
     refine zK (zT (zQ (zB (zS ?_))))
     refine yM ?_
     refine yM ?_
     refine yP pA ?_
     refine yL1 ?_
     refine yC (cmpD_ctr (x := z) (y := N * 2 ^ 6) (hL _ (by omega)) (hL _ (by omega))) bd66 [(77000, 0), (21006, 0)] [] ?_
     refine yP (PureOp.bin rfl rfl rfl) ?_
     refine zN ?_
     refine zA (fun hb9 => ?_) (fun hb9 => ?_)
     ·
      have hge : N * 2 ^ 6 ≤ z := ge_of_cmp (by simpa using hb9)
      refine zR ?_
      refine yM ?_
      refine yM ?_
      refine yP pA ?_
      refine yL1 ?_
      refine yC (subD_ctr (x := z) (y := N * 2 ^ 6) (hL _ (by omega)) (hL _ (by omega)) hge) bd67 [(77000, 0), (21006, 0)] [67000] ?_
      refine yA ?_
      refine zN (zL (zT (zR ?_)))
      refine yM ?_
      refine yP (pSub (b := 1)) ?_
      refine yA ?_
      refine zN (zT ?_)
      exact ⟨1 * 6, [(77000, 67000)], _, by omega, wk [0, 1, 6000, 21000, 21001, 21002, 21003, 21004, 21005, 21006, 21007, 21008, 77000], z - N * 2 ^ 6, 6, ⟨by decide, mod_hi hz hge⟩, rfl, rfl⟩
     ·
      have hlt : z < N * 2 ^ 6 := lt_of_cmp (by simpa using hb9)
      refine zK (zL (zT (zR ?_)))
      refine yM ?_
      refine yP (pSub (b := 1)) ?_
      refine yA ?_
      refine zN (zT ?_)
      exact ⟨1 * 6, [(77000, 77000)], _, by omega, wk [0, 1, 6000, 21000, 21001, 21002, 21003, 21004, 21005, 21006, 21007, 21008, 77000], z, 6, ⟨by decide, mod_lo hz hlt⟩, rfl, rfl⟩
    ·
     rw [show vp 8 = vi .i64 7 from rfl]
     have hzl : z < N * 2 ^ 8 := by rw [hz]; exact Nat.mod_lt _ (Nat.mul_pos hN (by decide))
     refine zK (zT (zQ (zB (zS ?_))))
     refine yM ?_
     refine yM ?_
     refine yP pA ?_
     refine yL1 ?_
     refine yC (cmpD_ctr (x := z) (y := N * 2 ^ 7) (hL _ (by omega)) (hL _ (by omega))) bd66 [(77000, 0), (21007, 0)] [] ?_
     refine yP (PureOp.bin rfl rfl rfl) ?_
     refine zN ?_
     refine zA (fun hb10 => ?_) (fun hb10 => ?_)
     ·
      have hge : N * 2 ^ 7 ≤ z := ge_of_cmp (by simpa using hb10)
      refine zR ?_
      refine yM ?_
      refine yM ?_
      refine yP pA ?_
      refine yL1 ?_
      refine yC (subD_ctr (x := z) (y := N * 2 ^ 7) (hL _ (by omega)) (hL _ (by omega)) hge) bd67 [(77000, 0), (21007, 0)] [67000] ?_
      refine yA ?_
      refine zN (zL (zT (zR ?_)))
      refine yM ?_
      refine yP (pSub (b := 1)) ?_
      refine yA ?_
      refine zN (zT ?_)
      exact ⟨1 * 7, [(77000, 67000)], _, by omega, wk [0, 1, 6000, 21000, 21001, 21002, 21003, 21004, 21005, 21006, 21007, 21008, 77000], z - N * 2 ^ 7, 7, ⟨by decide, mod_hi hz hge⟩, rfl, rfl⟩
     ·
      have hlt : z < N * 2 ^ 7 := lt_of_cmp (by simpa using hb10)
      refine zK (zL (zT (zR ?_)))
      refine yM ?_
      refine yP (pSub (b := 1)) ?_
      refine yA ?_
      refine zN (zT ?_)
      exact ⟨1 * 7, [(77000, 77000)], _, by omega, wk [0, 1, 6000, 21000, 21001, 21002, 21003, 21004, 21005, 21006, 21007, 21008, 77000], z, 7, ⟨by decide, mod_lo hz hlt⟩, rfl, rfl⟩
    ·
     rw [show vp 9 = vi .i64 8 from rfl]
     have hzl : z < N * 2 ^ 9 := by rw [hz]; exact Nat.mod_lt _ (Nat.mul_pos hN (by decide))
     refine zK (zT (zQ (zB (zS ?_))))
     refine yM ?_
     refine yM ?_
     refine yP pA ?_
     refine yL1 ?_
     refine yC (cmpD_ctr (x := z) (y := N * 2 ^ 8) (hL _ (by omega)) (hL _ (by omega))) bd66 [(77000, 0), (21008, 0)] [] ?_
     refine yP (PureOp.bin rfl rfl rfl) ?_
     refine zN ?_
     refine zA (fun hb11 => ?_) (fun hb11 => ?_)
     ·
      have hge : N * 2 ^ 8 ≤ z := ge_of_cmp (by simpa using hb11)
      refine zR ?_
      refine yM ?_
      refine yM ?_
      refine yP pA ?_
      refine yL1 ?_
      refine yC (subD_ctr (x := z) (y := N * 2 ^ 8) (hL _ (by omega)) (hL _ (by omega)) hge) bd67 [(77000, 0), (21008, 0)] [67000] ?_
      refine yA ?_
      refine zN (zL (zT (zR ?_)))
      refine yM ?_
      refine yP (pSub (b := 1)) ?_
      refine yA ?_
      refine zN (zT ?_)
      exact ⟨1 * 8, [(77000, 67000)], _, by omega, wk [0, 1, 6000, 21000, 21001, 21002, 21003, 21004, 21005, 21006, 21007, 21008, 77000], z - N * 2 ^ 8, 8, ⟨by decide, mod_hi hz hge⟩, rfl, rfl⟩
     ·
      have hlt : z < N * 2 ^ 8 := lt_of_cmp (by simpa using hb11)
      refine zK (zL (zT (zR ?_)))
      refine yM ?_
      refine yP (pSub (b := 1)) ?_
      refine yA ?_
      refine zN (zT ?_)
      exact ⟨1 * 8, [(77000, 77000)], _, by omega, wk [0, 1, 6000, 21000, 21001, 21002, 21003, 21004, 21005, 21006, 21007, 21008, 77000], z, 8, ⟨by decide, mod_lo hz hlt⟩, rfl, rfl⟩
   ·
    obtain rfl : k = 0 := by simpa using hb2
    have hzy : z = x / 256 ^ r % N := by rw [hz, hy, Nat.pow_zero, Nat.mul_one]; exact mod_byte
    refine zX (zV (zV (zH (zL (zT (zR ?_))))))
    refine yM ?_
    refine yP (PureOp.subP rfl rfl (by omega)) ?_
    refine yA ?_
    refine zN (zT ?_)
    exact ⟨1 * r, [(77000, 77000)], _, by omega, wk [0, 1, 6000, 21000, 21001, 21002, 21003, 21004, 21005, 21006, 21007, 21008, 77000], z, r, ⟨by omega, hzy⟩, rfl, rfl⟩
 ·
  obtain rfl : r = 0 := by simpa using hb0
  rw [Nat.pow_zero, Nat.div_one] at hy
  subst hy
  refine zX (zV (zV (zH (zT (zS ?_)))))
  refine yM ?_
  refine yA ?_
  refine zN (zE ?_)
  exact rq [77000] [.tmp 4]
end Go.Proofs.YteeifahhejangaaDoor
namespace Go.Proofs.YteeifahhejangaaDoor
open Go Sim
theorem wordsD_ctr {x n : Nat} (hn : n < 100000000) : GC Tryd.prog 71 [.slice (some ⟨0, 0, none⟩) (D 4294967296 x).length 0, vi .i64 (n)] [⟨(D 4294967296 x).map (vi .u64), false, 1⟩] [.slice (some ⟨1, 0, none⟩) n 0] [⟨(D 4294967296 x).map (vi .u64), false, 1⟩, ⟨(digs 18446744073709551616 n x).map (vi .u64), true, 1⟩] := by
 have h := words_ctr (a := D 4294967296 x) (n := n) (bd_D (by decide) _) hn
 simp only [num_D (show 2 ≤ 4294967296 by decide), digs_len] at h
 exact h
end Go.Proofs.YteeifahhejangaaDoor
namespace Go.Proofs.YteeifahhejangaaDoor
open Go Sim
theorem row_step {x i : Nat} (hi : i < 9) : (digs 4294967296 9 (x % 4294967296 ^ i)).set i ((D 4294967296 x).getD i 0) = digs 4294967296 9 (x % 4294967296 ^ (i + 1)) := by
 have hp : 4294967296 ^ (i + 1) ≤ 4294967296 ^ 9 := Nat.pow_le_pow_right (by decide) (by omega)
 have hp2 : 4294967296 ^ i ≤ 4294967296 ^ 9 := Nat.pow_le_pow_right (by decide) (by omega)
 have h1 := Nat.mod_lt x (show 0 < 4294967296 ^ (i + 1) from Nat.pow_pos (by decide))
 have h2 := Nat.mod_lt x (show 0 < 4294967296 ^ i from Nat.pow_pos (by decide))
 refine num_inj (bd_set (digs_bd (by decide) _ _) (by rw [D_getD (by decide)]; exact Nat.mod_lt _ (by decide))) (digs_bd (by decide) _ _) (by simp [digs_len]) ?_
 have h3 := num_set (B := 4294967296) (l := digs 4294967296 9 (x % 4294967296 ^ i)) (k := i) (v := (D 4294967296 x).getD i 0) (by rw [digs_len]; exact hi)
 rw [digs_getD (by decide) hi, Nat.div_eq_of_lt h2, Nat.zero_mod, Nat.zero_mul, Nat.add_zero, num_digs_lt (Nat.lt_of_lt_of_le h2 hp2), D_getD (by decide)] at h3
 rw [D_getD (by decide), h3, num_digs_lt (Nat.lt_of_lt_of_le h1 hp), mod_succ, Nat.mul_comm]
theorem row_end {x : Nat} : digs 4294967296 9 (x % 4294967296 ^ (D 4294967296 x).length) = digs 4294967296 9 x := by
 rw [Nat.mod_eq_of_lt ((D_len_le (B := 4294967296) (by decide) x _).1 (Nat.le_refl _))]
theorem at_digs {v i : Nat} (hi : i < 9) : ((digs 4294967296 9 v).map (vi .u64))[i]? = some (vi .u64 (v / 4294967296 ^ i % 4294967296)) := by
 rw [List.getElem?_map, ← digs_getD (n := 9) (by decide) hi, List.getD_eq_getElem?_getD, List.getElem?_eq_getElem (by rw [digs_len]; exact hi)]
 rfl
theorem at_tail {l : List Nat} {i x : Nat} (hl : l.length = 9) (hi : i < 9) (h : l.getD i 0 = x) : (l.map (vi .u64))[i]? = some (vi .u64 x) := by
 rw [List.getElem?_map, ← h, List.getD_eq_getElem?_getD, List.getElem?_eq_getElem (by omega)]
 rfl
theorem more_step {l : List Nat} {i x y t c s : Nat} (hi : i < l.length) (h : num 4294967296 (l.take i) + 4294967296 ^ i * c = 256 * (x % 4294967296 ^ i) + t * (y % 4294967296 ^ i)) (hs : s = x / 4294967296 ^ i % 4294967296 * 256 + y / 4294967296 ^ i % 4294967296 * t + c) :
    num 4294967296 ((l.set i (s % 4294967296)).take (i + 1)) + 4294967296 ^ (i + 1) * (s / 4294967296) = 256 * (x % 4294967296 ^ (i + 1)) + t * (y % 4294967296 ^ (i + 1)) := by
  rw [take_set_succ hi, num_append, List.length_take, Nat.min_eq_left (by omega), num_one, mod_succ x, mod_succ y, Nat.pow_succ]
  have e : s = s % 4294967296 + 4294967296 * (s / 4294967296) := (Nat.mod_add_div _ _).symm
  generalize s % 4294967296 = r at *
  generalize s / 4294967296 = q at *
  generalize x / 4294967296 ^ i % 4294967296 = X at *
  generalize y / 4294967296 ^ i % 4294967296 = Y at *
  generalize 4294967296 ^ i = w at *
  generalize x % w = x' at *
  generalize y % w = y' at *
  rw [hs] at e
  grind
theorem more_end {l : List Nat} {x y t c : Nat} (hbl : bd 4294967296 l) (hl : l.length = 9) (hx : x < 4294967296 ^ 9) (hy : y < 4294967296 ^ 9) (h : num 4294967296 (l.take 9) + 4294967296 ^ 9 * c = 256 * (x % 4294967296 ^ 9) + t * (y % 4294967296 ^ 9)) : digs 4294967296 9 (256 * x + t * y) = l := by
  rw [List.take_of_length_le (by omega), Nat.mod_eq_of_lt hx, Nat.mod_eq_of_lt hy] at h
  refine num_inj (digs_bd (by decide) _ _) hbl (by rw [digs_len, hl]) ?_
  have h1 := num_lt hbl
  rw [hl] at h1
  rw [num_digs, ← h, Nat.add_mul_mod_self_left, Nat.mod_eq_of_lt h1]
theorem minus_end {l : List Nat} {x y c : Nat} (hbl : bd 4294967296 l) (hl : l.length = 9) (hx : x < 4294967296 ^ 9) (hle : y ≤ x) (h : num 4294967296 (l.take 9) + y % 4294967296 ^ 9 = x % 4294967296 ^ 9 + 4294967296 ^ 9 * c) : digs 4294967296 9 (x - y) = l := by
  rw [List.take_of_length_le (by omega)] at h
  have h2 := sub_end hbl hl h hx hle
  rw [← h2, ← hl, digs_num hbl]
theorem reach_dec {x y r : Nat} (he : x / 4294967296 ^ (r + 1) = y / 4294967296 ^ (r + 1)) (hne : x / 4294967296 ^ r % 4294967296 ≠ y / 4294967296 ^ r % 4294967296) : decide (y / 4294967296 ^ r % 4294967296 < x / 4294967296 ^ r % 4294967296) = decide (y ≤ x) := by
  rcases Nat.lt_or_ge (y / 4294967296 ^ r % 4294967296) (x / 4294967296 ^ r % 4294967296) with h | h
  · rw [decide_eq_true h, decide_eq_true (Nat.le_of_lt (top_lt he.symm h))]
  · have := top_lt he (show x / 4294967296 ^ r % 4294967296 < y / 4294967296 ^ r % 4294967296 by omega)
    rw [decide_eq_false (by omega), decide_eq_false (by omega)]
set_option maxRecDepth 10000 in
theorem rowOf_ctr {x : Nat} (hx : x < 4294967296 ^ 9) : GC Tryd.prog 68 [.slice (some ⟨0, 0, none⟩) (D 4294967296 x).length 0] [⟨(D 4294967296 x).map (vi .u64), false, 1⟩] [.agg ((digs 4294967296 9 x).map (vi .u64)).toArray] [⟨(D 4294967296 x).map (vi .u64), false, 1⟩] := by
 refine gi Tryd.func68 ?_
 have hlx : (D 4294967296 x).length ≤ 9 := (D_len_le (by decide) _ _).2 hx
 have hd9 := fun i => digs_len (B := 4294967296) 9 (x % 4294967296 ^ i)
 have hd0 := digs_len (B := 4294967296) 9 x
 refine zS ?_
 refine yN 3000 1 ((List.replicate 9 0).map (vi .u64)) ?_
 refine zN (zS ?_)
 refine yP ((PureOp.buildArr tbok [] rfl rfl rfl (by decide) rfl rfl).mono (v' := .agg ((List.replicate 9 0).map (vi .u64)).toArray) rfl) ?_
 refine yN 4000 1 ((List.replicate 9 0).map (vi .u64)) ?_
 refine ySA ?_
 refine zN (zQ (zS ?_))
 refine yA ?_
 refine zN (zB ?_)
 refine AW.loopw (fun mm σ => ∃ i, (i ≤ (D 4294967296 x).length) ∧ mm = (D 4294967296 x).length - i ∧ σ = ⟨(upd (upd (upd (upd emp 0 (.slice (some ⟨0, 0, none⟩) (D 4294967296 x).length 0)) 2 (.pointer (some ⟨3000, 0, none⟩))) 3 (.pointer (some ⟨4000, 0, none⟩))) 4 (vi .i64 i)), (upd (upd (upd emp 0 ⟨(D 4294967296 x).map (vi .u64), false, 1⟩) 3000 ⟨(List.replicate 9 0).map (vi .u64), true, 1⟩) 4000 ⟨(digs 4294967296 9 (x % 4294967296 ^ i)).map (vi .u64), true, 1⟩)⟩) (fm := []) ?_ ⟨0, Nat.zero_le _, rfl, rfl⟩ ?_
 ·
  refine Wk.of [0, 3000, 4000] ?_ ?_ ?_ (by decide) rfl
  ·
   refine WkE.upd rfl (by exact VR.flat _ rfl) ?_
   refine WkE.upd rfl (.ptr (4000) 0 ⟨_, rfl⟩) ?_
   refine WkE.upd rfl (.ptr (3000) 0 ⟨_, rfl⟩) ?_
   refine WkE.upd rfl (.slice (0) 0 _ 0 ⟨_, rfl⟩ (by simp) (by simp)) ?_
   exact WkE.emp
  ·
   refine WkM.flatM rfl (by (rw [Nat.pow_zero, Nat.mod_one]; rfl)) flat_vi (fun h => h) ?_
   refine WkM.flatM rfl (by rfl) (fun _ => rfl) (fun h => h) ?_
   refine WkM.flatM rfl (by rfl) (fun _ => rfl) (fun h => h) ?_
   exact WkM.emp
  ·
   repeat (refine dom_upd_mem (by decide) ?_)
   exact dom_emp
 ·
  rintro mm σ ⟨i, hinv, rfl, rfl⟩
  have hdi := hd9 i
  refine zQ (zS ?_)
  refine yM ?_
  refine yM ?_
  refine yP pL ?_
  refine yP pLt ?_
  first | refine AWo.pureB (PureOp.move rfl) rfl rfl (fun hb0 => ?_) (fun hb0 => ?_)
  ·
   have hi : i < (D 4294967296 x).length := by simpa using hb0
   refine yM ?_
   refine yP ((PureOp.ltN (b := 9) rfl rfl).mono (v' := .bool true) (congrArg Value.bool (decide_eq_true (by omega)))) ?_
   refine yP pT ?_
   refine zN (zC (zK (zT (zQ (zB (zR ?_))))))
   refine yM ?_
   refine yM ?_
   refine yM ?_
   refine yP pJ ?_
   refine yL 0 ?_
   refine yP pA ?_
   refine AWo.storeM (f := (vi .u64)) tbok rfl rfl rfl rfl (by rw [hdi]; omega) rfl rfl ?_
   refine zN (zL (zT (zR ?_)))
   refine yM ?_
   refine yP (pAdd (b := 1)) ?_
   refine yA ?_
   refine zN (zT ?_)
   refine ⟨(D 4294967296 x).length - (i + 1), [], _, by omega, ?_, i + 1, by omega, rfl, rfl⟩
   refine Wk.of [0, 3000, 4000] ?_ ?_ ?_ (by decide) rfl
   ·
    refine WkE.upd rfl (by exact VR.flat _ rfl) ?_
    refine WkE.upd rfl (.ptr (4000) 0 ⟨_, rfl⟩) ?_
    refine WkE.upd rfl (.ptr (3000) 0 ⟨_, rfl⟩) ?_
    refine WkE.upd rfl (.slice (0) 0 _ 0 ⟨_, rfl⟩ (by simp) (by simp)) ?_
    exact WkE.emp
   ·
    refine WkM.flatM rfl (by exact (row_step (by omega)).symm) flat_vi (fun h => h) ?_
    refine WkM.flatM rfl (by rfl) (fun _ => rfl) (fun h => h) ?_
    refine WkM.flatM rfl (by rfl) (fun _ => rfl) (fun h => h) ?_
    exact WkM.emp
   ·
    repeat (refine dom_upd_mem (by decide) ?_)
    exact dom_emp
  ·
   have hi : i = (D 4294967296 x).length := by simp at hb0; omega
   subst hi
   rw [row_end]
   refine yK ?_
   refine yK ?_
   refine yP pE ?_
   refine zN (zF (zX (zV (zV (zH (zT (zS ?_)))))))
   refine yLA ?_
   refine ySA ?_
   refine zN (zE ?_)
   exact rq [] [.cell 2 108]
set_option maxRecDepth 10000 in
theorem more_ctr {x y t : Nat} (hx : x < 4294967296 ^ 9) (hy : y < 4294967296 ^ 9) (ht : t ≤ 256) : GC Tryd.prog 69 [.agg ((digs 4294967296 9 x).map (vi .u64)).toArray, .agg ((digs 4294967296 9 y).map (vi .u64)).toArray, vi .u64 (t)] [] [.agg ((digs 4294967296 9 (256 * x + t * y)).map (vi .u64)).toArray] [] := by
 refine gi Tryd.func69 ?_
 have hd9 := digs_len (B := 4294967296) 9 x
 have he9 := digs_len (B := 4294967296) 9 y
 refine zS ?_
 refine yO 4000 1 ((digs 4294967296 9 x).map (vi .u64)) ?_
 refine yO 5000 1 ((digs 4294967296 9 y).map (vi .u64)) ?_
 refine yN 7000 1 ((List.replicate 9 0).map (vi .u64)) ?_
 refine zN (zS ?_)
 refine yA ?_
 refine zN (zQ (zS ?_))
 refine yA ?_
 refine zN (zB ?_)
 refine AW.loopw (fun mm σ => ∃ i, ∃ (l : List Nat), ∃ c, (i ≤ 9 ∧ l.length = 9 ∧ bd 4294967296 l ∧ c ≤ 1000 ∧ num 4294967296 (l.take i) + 4294967296 ^ i * c = 256 * (x % 4294967296 ^ i) + t * (y % 4294967296 ^ i) ∧ ∀ k, i ≤ k → k < 9 → l.getD k 0 = x / 4294967296 ^ k % 4294967296) ∧ mm = 9 - i ∧ σ = ⟨(upd (upd (upd (upd (upd (upd emp 2 (vi .u64 t)) 3 (.pointer (some ⟨4000, 0, none⟩))) 4 (.pointer (some ⟨5000, 0, none⟩))) 6 (.pointer (some ⟨7000, 0, none⟩))) 7 (vi .u64 c)) 8 (vi .i64 i)), (upd (upd (upd emp 4000 ⟨(l).map (vi .u64), true, 1⟩) 5000 ⟨(digs 4294967296 9 y).map (vi .u64), true, 1⟩) 7000 ⟨(List.replicate 9 0).map (vi .u64), true, 1⟩)⟩) (fm := []) (wk [4000, 5000, 7000]) ⟨0, digs 4294967296 9 x, 0, ⟨Nat.zero_le _, hd9, digs_bd (by decide) _ _, Nat.zero_le _, by simp [num, Nat.mod_one], fun k _ hk => digs_getD (by decide) hk⟩, rfl, rfl⟩ ?_
 rintro mm σ ⟨i, l, c, ⟨hi0, hl2, hbl, hc, hnl, hz0⟩, rfl, rfl⟩
 have hX := Nat.mod_lt (x / 4294967296 ^ i) (show 0 < 4294967296 by decide)
 have hY := Nat.mod_lt (y / 4294967296 ^ i) (show 0 < 4294967296 by decide)
 have hYt : (y / 4294967296 ^ i % 4294967296) * t ≤ 4294967296 * 256 := Nat.mul_le_mul (Nat.le_of_lt hY) ht
 refine zQ (zS ?_)
 refine yM ?_
 refine yP (pLt (b := 9)) ?_
 refine zN ?_
 refine zA (fun hb0 => ?_) (fun hb0 => ?_)
 ·
  have hi : i < 9 := by simpa using hb0
  refine zK (zT (zQ (zB ?_)))
  refine AW.seqD mixed ?_
  refine yM ?_
  refine yP pA ?_
  refine AWo.load tbok (v := vi .u64 (x / 4294967296 ^ i % 4294967296)) rfl rfl rfl (at_tail hl2 hi (hz0 i (Nat.le_refl i) hi)) rfl rfl ?_
  refine yP ((PureOp.mulU (b := 256) 18446744073709551616 rfl rfl rfl rfl).mono (v' := vi .u64 ((x / 4294967296 ^ i % 4294967296) * 256)) (congrArg (vi .u64) (Nat.mod_eq_of_lt (by omega)))) ?_
  refine yM ?_
  refine yP pA ?_
  refine AWo.load tbok (v := vi .u64 (y / 4294967296 ^ i % 4294967296)) rfl rfl rfl (at_digs hi) rfl rfl ?_
  refine yM ?_
  refine yP ((PureOp.mulU 18446744073709551616 rfl rfl rfl rfl).mono (v' := vi .u64 ((y / 4294967296 ^ i % 4294967296) * t)) (congrArg (vi .u64) (Nat.mod_eq_of_lt (by omega)))) ?_
  refine yP ((PureOp.addU 18446744073709551616 rfl rfl rfl rfl).mono (v' := vi .u64 ((x / 4294967296 ^ i % 4294967296) * 256 + (y / 4294967296 ^ i % 4294967296) * t)) (congrArg (vi .u64) (Nat.mod_eq_of_lt (by omega)))) ?_
  refine yM ?_
  refine yP ((PureOp.addU 18446744073709551616 rfl rfl rfl rfl).mono (v' := vi .u64 ((x / 4294967296 ^ i % 4294967296) * 256 + (y / 4294967296 ^ i % 4294967296) * t + c)) (congrArg (vi .u64) (Nat.mod_eq_of_lt (by omega)))) ?_
  refine yA ?_
  refine zD (zS ?_)
  refine yM ?_
  refine yM ?_
  refine yP ((PureOp.remN (b := 4294967296) rfl rfl (by decide)).mono (v' := vi .u64 (((x / 4294967296 ^ i % 4294967296) * 256 + (y / 4294967296 ^ i % 4294967296) * t + c) % 4294967296)) rfl) ?_
  refine yP pA ?_
  refine AWo.storeM (f := (vi .u64)) tbok rfl rfl rfl rfl (by rw [hl2]; omega) rfl rfl ?_
  refine zN (zR ?_)
  refine yM ?_
  refine yP ((PureOp.quoN (b := 4294967296) 18446744073709551616 rfl rfl (by decide) (by decide) (by decide) (by omega)).mono (v' := vi .u64 (((x / 4294967296 ^ i % 4294967296) * 256 + (y / 4294967296 ^ i % 4294967296) * t + c) / 4294967296)) rfl) ?_
  refine yA ?_
  refine zN (zL (zT (zR ?_)))
  refine yM ?_
  refine yP (pAdd (b := 1)) ?_
  refine yA ?_
  refine zN (zT ?_)
  exact ⟨9 - (i + 1), [], _, by omega, wk [4000, 5000, 7000], i + 1, l.set i (((x / 4294967296 ^ i % 4294967296) * 256 + (y / 4294967296 ^ i % 4294967296) * t + c) % 4294967296), ((x / 4294967296 ^ i % 4294967296) * 256 + (y / 4294967296 ^ i % 4294967296) * t + c) / 4294967296, ⟨by omega, by simp [hl2], bd_set hbl (Nat.mod_lt _ (by decide)), by omega, more_step (by omega) hnl rfl, fun k hk hk9 => by rw [getD_set (by omega)]; exact hz0 k (by omega) hk9⟩, rfl, rfl⟩
 ·
  obtain rfl : i = 9 := by simp at hb0; omega
  rw [show digs 4294967296 9 (256 * x + t * y) = l from more_end hbl hl2 hx hy hnl]
  refine zX (zV (zV (zH (zT (zS ?_)))))
  refine yLA ?_
  refine ySA ?_
  refine zN (zE ?_)
  exact rq [] [.cell 6 108]
set_option maxRecDepth 10000 in
theorem minus_ctr {x y : Nat} (hx : x < 4294967296 ^ 9) (hle : y ≤ x) : GC Tryd.prog 73 [.agg ((digs 4294967296 9 x).map (vi .u64)).toArray, .agg ((digs 4294967296 9 y).map (vi .u64)).toArray] [] [.agg ((digs 4294967296 9 (x - y)).map (vi .u64)).toArray] [] := by
 refine gi Tryd.func73 ?_
 have hd9 := digs_len (B := 4294967296) 9 x
 have he9 := digs_len (B := 4294967296) 9 y
 refine zS ?_
 refine yO 3000 1 ((digs 4294967296 9 x).map (vi .u64)) ?_
 refine yO 4000 1 ((digs 4294967296 9 y).map (vi .u64)) ?_
 refine yN 5000 1 ((List.replicate 9 0).map (vi .u64)) ?_
 refine zN (zS ?_)
 refine yA ?_
 refine zN (zQ (zS ?_))
 refine yA ?_
 refine zN (zB ?_)
 refine AW.loopw (fun mm σ => ∃ i, ∃ (l : List Nat), ∃ c, (i ≤ 9 ∧ l.length = 9 ∧ bd 4294967296 l ∧ c ≤ 1 ∧ num 4294967296 (l.take i) + y % 4294967296 ^ i = x % 4294967296 ^ i + 4294967296 ^ i * c ∧ ∀ k, i ≤ k → k < 9 → l.getD k 0 = x / 4294967296 ^ k % 4294967296) ∧ mm = 9 - i ∧ σ = ⟨(upd (upd (upd (upd (upd emp 2 (.pointer (some ⟨3000, 0, none⟩))) 3 (.pointer (some ⟨4000, 0, none⟩))) 4 (.pointer (some ⟨5000, 0, none⟩))) 5 (vi .u64 c)) 6 (vi .i64 i)), (upd (upd (upd emp 3000 ⟨(l).map (vi .u64), true, 1⟩) 4000 ⟨(digs 4294967296 9 y).map (vi .u64), true, 1⟩) 5000 ⟨(List.replicate 9 0).map (vi .u64), true, 1⟩)⟩) (fm := []) (wk [3000, 4000, 5000]) ⟨0, digs 4294967296 9 x, 0, ⟨Nat.zero_le _, hd9, digs_bd (by decide) _ _, Nat.zero_le _, by simp [num, Nat.mod_one], fun k _ hk => digs_getD (by decide) hk⟩, rfl, rfl⟩ ?_
 rintro mm σ ⟨i, l, c, ⟨hi0, hl2, hbl, hc, hnl, hz0⟩, rfl, rfl⟩
 have hX := Nat.mod_lt (x / 4294967296 ^ i) (show 0 < 4294967296 by decide)
 have hY := Nat.mod_lt (y / 4294967296 ^ i) (show 0 < 4294967296 by decide)
 refine zQ (zS ?_)
 refine yM ?_
 refine yP (pLt (b := 9)) ?_
 refine zN ?_
 refine zA (fun hb0 => ?_) (fun hb0 => ?_)
 ·
  have hi : i < 9 := by simpa using hb0
  refine zK (zT (zQ (zB ?_)))
  refine AW.seqD mixed ?_
  refine yM ?_
  refine yP pA ?_
  refine AWo.load tbok (v := vi .u64 (x / 4294967296 ^ i % 4294967296)) rfl rfl rfl (at_tail hl2 hi (hz0 i (Nat.le_refl i) hi)) rfl rfl ?_
  refine yP ((PureOp.addU (a := 4294967296) 18446744073709551616 rfl rfl rfl rfl).mono (v' := vi .u64 (4294967296 + (x / 4294967296 ^ i % 4294967296))) (congrArg (vi .u64) (Nat.mod_eq_of_lt (by omega)))) ?_
  refine yM ?_
  refine yP pA ?_
  refine AWo.load tbok (v := vi .u64 (y / 4294967296 ^ i % 4294967296)) rfl rfl rfl (at_digs hi) rfl rfl ?_
  refine yP ((PureOp.subU 18446744073709551616 rfl rfl rfl rfl (by omega)).mono (v' := vi .u64 (4294967296 + (x / 4294967296 ^ i % 4294967296) - (y / 4294967296 ^ i % 4294967296))) (by congr 1; omega)) ?_
  refine yM ?_
  refine yP ((PureOp.subU 18446744073709551616 rfl rfl rfl rfl (by omega)).mono (v' := vi .u64 (4294967296 + (x / 4294967296 ^ i % 4294967296) - (y / 4294967296 ^ i % 4294967296) - c)) (by congr 1; omega)) ?_
  refine yA ?_
  refine zD (zS ?_)
  refine yM ?_
  refine yM ?_
  refine yP ((PureOp.remN (b := 4294967296) rfl rfl (by decide)).mono (v' := vi .u64 ((4294967296 + (x / 4294967296 ^ i % 4294967296) - (y / 4294967296 ^ i % 4294967296) - c) % 4294967296)) rfl) ?_
  refine yP pA ?_
  refine AWo.storeM (f := (vi .u64)) tbok rfl rfl rfl rfl (by rw [hl2]; omega) rfl rfl ?_
  refine zN (zR ?_)
  refine yM ?_
  refine yP ((PureOp.quoN (b := 4294967296) 18446744073709551616 rfl rfl (by decide) (by decide) (by decide) (by omega)).mono (v' := vi .u64 ((4294967296 + (x / 4294967296 ^ i % 4294967296) - (y / 4294967296 ^ i % 4294967296) - c) / 4294967296)) rfl) ?_
  refine yP ((PureOp.subU (a := 1) 18446744073709551616 rfl rfl rfl rfl (by omega)).mono (v' := vi .u64 (1 - (4294967296 + (x / 4294967296 ^ i % 4294967296) - (y / 4294967296 ^ i % 4294967296) - c) / 4294967296)) (by congr 1; omega)) ?_
  refine yA ?_
  refine zN (zL (zT (zR ?_)))
  refine yM ?_
  refine yP (pAdd (b := 1)) ?_
  refine yA ?_
  refine zN (zT ?_)
  exact ⟨9 - (i + 1), [], _, by omega, wk [3000, 4000, 5000], i + 1, l.set i ((4294967296 + (x / 4294967296 ^ i % 4294967296) - (y / 4294967296 ^ i % 4294967296) - c) % 4294967296), 1 - (4294967296 + (x / 4294967296 ^ i % 4294967296) - (y / 4294967296 ^ i % 4294967296) - c) / 4294967296, ⟨by omega, by simp [hl2], bd_set hbl (Nat.mod_lt _ (by decide)), by omega, by rw [take_set_succ (by omega)]; exact sub_step (by simp [hl2]; omega) hnl rfl rfl hY hc, fun k hk hk9 => by rw [getD_set (by omega)]; exact hz0 k (by omega) hk9⟩, rfl, rfl⟩
 ·
  obtain rfl : i = 9 := by simp at hb0; omega
  rw [show digs 4294967296 9 (x - y) = l from minus_end hbl hl2 hx hle hnl]
  refine zX (zV (zV (zH (zT (zS ?_)))))
  refine yLA ?_
  refine ySA ?_
  refine zN (zE ?_)
  exact rq [] [.cell 4 108]
set_option maxRecDepth 10000 in
theorem reaches_ctr {x y : Nat} (hx : x < 4294967296 ^ 9) (hy : y < 4294967296 ^ 9) : GC Tryd.prog 72 [.agg ((digs 4294967296 9 x).map (vi .u64)).toArray, .agg ((digs 4294967296 9 y).map (vi .u64)).toArray] [] [.bool (decide (y ≤ x))] [] := by
 refine gi Tryd.func72 ?_
 have hd9 := digs_len (B := 4294967296) 9 x
 have he9 := digs_len (B := 4294967296) 9 y
 refine zS ?_
 refine yO 3000 1 ((digs 4294967296 9 x).map (vi .u64)) ?_
 refine yO 4000 1 ((digs 4294967296 9 y).map (vi .u64)) ?_
 refine yA ?_
 refine zN (zQ (zS ?_))
 refine yA ?_
 refine zN (zB ?_)
 refine AW.loopw (fun mm σ => ∃ r, (r ≤ 9 ∧ x / 4294967296 ^ r = y / 4294967296 ^ r) ∧ mm = 1 * r ∧ σ = ⟨(upd (upd (upd (upd emp 2 (.pointer (some ⟨3000, 0, none⟩))) 3 (.pointer (some ⟨4000, 0, none⟩))) 4 (.bool false)) 5 (vp r)), (upd (upd emp 3000 ⟨(digs 4294967296 9 x).map (vi .u64), true, 1⟩) 4000 ⟨(digs 4294967296 9 y).map (vi .u64), true, 1⟩)⟩) (fm := []) (wk [3000, 4000]) ⟨9, ⟨Nat.le_refl _, by rw [Nat.div_eq_of_lt hx, Nat.div_eq_of_lt hy]⟩, rfl, rfl⟩ ?_
 rintro mm σ ⟨r, ⟨hr0, he⟩, rfl, rfl⟩
 refine zQ (zS ?_)
 refine yM ?_
 refine yP (PureOp.geP rfl rfl) ?_
 refine zN ?_
 refine zA (fun hb0 => ?_) (fun hb0 => ?_)
 ·
  have hp0 : 0 < r := by simpa using hb0
  obtain ⟨r, rfl⟩ : ∃ q, r = q + 1 := ⟨r - 1, by omega⟩
  rw [vp_succ]
  have hi : r < 9 := by omega
  refine zK (zT (zQ (zB ?_)))
  refine AW.seqD mixed ?_
  refine yM ?_
  refine yP pA ?_
  refine AWo.load tbok (v := vi .u64 (x / 4294967296 ^ r % 4294967296)) rfl rfl rfl (at_digs hi) rfl rfl ?_
  refine yM ?_
  refine yP pA ?_
  refine AWo.load tbok (v := vi .u64 (y / 4294967296 ^ r % 4294967296)) rfl rfl rfl (at_digs hi) rfl rfl ?_
  refine yP pNe ?_
  refine zD ?_
  refine zA (fun hb1 => ?_) (fun hb1 => ?_)
  ·
   have hne : (x / 4294967296 ^ r % 4294967296) ≠ y / 4294967296 ^ r % 4294967296 := by simpa using hb1
   have hdec := reach_dec he hne
   refine AW.seqD mixed ?_
   refine yM ?_
   refine yP pA ?_
   refine AWo.load tbok (v := vi .u64 (x / 4294967296 ^ r % 4294967296)) rfl rfl rfl (at_digs hi) rfl rfl ?_
   refine yM ?_
   refine yP pA ?_
   refine AWo.load tbok (v := vi .u64 (y / 4294967296 ^ r % 4294967296)) rfl rfl rfl (at_digs hi) rfl rfl ?_
   refine yP ((PureOp.gtN rfl rfl).mono (v' := .bool (decide (y ≤ x))) (congrArg Value.bool hdec)) ?_
   refine yA ?_
   refine zD (zE (zI (zU (zU (zI (zU ?_))))))
   exact rq [] [.tmp 4]
  ·
   have heq : (x / 4294967296 ^ r % 4294967296) = y / 4294967296 ^ r % 4294967296 := by simpa using hb1
   refine zK (zL (zT (zR ?_)))
   refine yM ?_
   refine yP (PureOp.subP rfl rfl (by omega)) ?_
   refine yA ?_
   refine zN (zT ?_)
   exact ⟨1 * r, [], _, by omega, wk [3000, 4000], r, ⟨by omega, top_eq he heq⟩, rfl, rfl⟩
 ·
  obtain rfl : r = 0 := by simpa using hb0
  rw [Nat.pow_zero, Nat.div_one, Nat.div_one] at he
  rw [show decide (y ≤ x) = true from decide_eq_true (by omega)]
  refine zX (zV (zV (zH (zT (zS ?_)))))
  refine yA ?_
  refine zN (zE ?_)
  exact rq [] [.tmp 4]
end Go.Proofs.YteeifahhejangaaDoor
namespace Go.Proofs.YteeifahhejangaaDoor
open Go Sim
theorem p02_digs : D 4294967296 21888242871839275222246405745257275088548364400416034343698204186575808495617 = [4026531841, 1138881939, 2042196113, 674490440, 2172737629, 3092268470, 3778125865, 811880050] := by kernel_rfl
theorem setL_cut : ∀ (vs cells : List Value) (o : Nat), o + vs.length ≤ cells.length → setL cells o vs = cells.take o ++ vs ++ cells.drop (o + vs.length) := by
 intro vs
 induction vs with
 | nil => intro cells o _; simp [setL]
 | cons v vs ih =>
  intro cells o h
  simp only [List.length_cons] at h
  simp only [setL]
  rw [ih (cells.set o v) (o + 1) (by simp; omega), List.drop_set_of_lt (by omega)]
  have h1 : (cells.set o v).take (o + 1) = cells.take o ++ [v] := by
   rw [List.take_add_one, List.take_set_of_le (by omega), List.getElem?_set_self (by omega)]
   rfl
  rw [h1]
  simp [Nat.add_assoc, Nat.add_comm 1]
theorem setL_mid {A x B r : List Value} {o : Nat} (hA : A.length = o) (hx : x.length = r.length) : setL (A ++ x ++ B) o r = A ++ r ++ B := by
 subst hA
 rw [setL_cut _ _ _ (by simp [hx]), List.append_assoc A x B, List.take_left, ← List.append_assoc A x B]
 congr 1
 rw [← hx, ← List.length_append, List.drop_left]
theorem setL_row {α : Type} {n i : Nat} {L : List (List α)} {r : List α} {f : α → Value} (hL : ∀ y ∈ L, y.length = n) (hi : i < L.length) (hr : r.length = n) :
  setL (L.flatten.map f) (i * n) (r.map f) = ((L.set i r).flatten).map f := by
 have e1 : L = L.take i ++ L[i] :: L.drop (i + 1) := by rw [List.getElem_cons_drop, List.take_append_drop]
 have hA : (L.take i).flatten.length = i * n := by rw [flat_len (n := n) fun y hy => hL y (List.mem_of_mem_take hy), List.length_take, Nat.min_eq_left (by omega)]
 have hx : (L[i]).length = n := hL _ (List.getElem_mem _)
 have e2 : L.flatten = (L.take i).flatten ++ (L[i] ++ (L.drop (i + 1)).flatten) := by
  rw [← List.flatten_cons, ← List.flatten_append, ← e1]
 have e3 : (L.set i r).flatten = (L.take i).flatten ++ (r ++ (L.drop (i + 1)).flatten) := by
  rw [List.set_eq_take_append_cons_drop, if_pos hi, List.flatten_append, List.flatten_cons]
 rw [e3, e2, ← List.append_assoc, ← List.append_assoc, List.map_append, List.map_append, List.map_append, List.map_append]
 exact setL_mid (by rw [List.length_map, hA]) (by rw [List.length_map, List.length_map, hx, hr])
section
variable {P : Program} {T : Tab} (H : TabOk P T) {E : Env} {M : Mem} {n' i' : Nat} {ty : TypeId} {ps : String} {af : Array Edge} {g : Option (Nat × Bool)} {ops : Array Oper} {os : List Oper} {D : List Eff → Prop} {K : ASt → Prop}
include H
theorem AWo.storeRow {α : Type} {t : TypeId} {a x : Operand} {id o i n es : Nat} {L : List (List α)} {r : List α} {f : α → Value} (ho : o = i * n) (ha : aev E a = some (.pointer (some ⟨id, o, none⟩))) (hx : aev E x = some (.agg (r.map f).toArray))
  (hb : M id = some ⟨L.flatten.map f, true, es⟩) (hs : T.sz.lookup t = some n) (hr : r.length = n) (hL : ∀ y ∈ L, y.length = n) (hi : i < L.length) (hone : ∀ y, (f y).oneCell' = true)
  (hw : wantA ops E ⟨none, .store t a x, ty, ps, af, g⟩ = some true)
  (hr' : AWo P ops n' (i' + 1) os ⟨E, upd M id ⟨((L.set i r).flatten).map f, true, es⟩⟩ (fun es' => D (⟨[id], [(id, ⟨((L.set i r).flatten).map f, true, es⟩)]⟩ :: es')) K) :
  AWo P ops n' i' (⟨none, .store t a x, ty, ps, af, g⟩ :: os) ⟨E, M⟩ D K := by
 subst ho
 have hc : (Value.agg (r.map f).toArray).cells = (r.map f).toArray := rfl
 have hle : i * n + n ≤ L.length * n := by rw [← Nat.succ_mul]; exact Nat.mul_le_mul_right _ hi
 exact AWo.store H ha hx hb rfl (by rw [hc, hs]; simp [hr]) (by rw [hc]; simp only [List.size_toArray, List.length_map, hr, flat_len hL]; exact hle) (by rw [hc]; simpa using fun y _ => hone y) (by rw [hc]; exact setL_row hL hi hr) hw hr'
end
def prows (i : Nat) : List (List Nat) := (List.range 9).map fun j => if j < i then digs 4294967296 9 (21888242871839275222246405745257275088548364400416034343698204186575808495617 * 2 ^ j) else List.replicate 9 0
theorem prow_len (i : Nat) : (prows i).length = 9 := by simp [prows]
theorem prow_nine (i : Nat) : ∀ y ∈ prows i, y.length = 9 := fun y hy => by
  obtain ⟨j, _, rfl⟩ := List.mem_map.1 hy
  split
  · exact digs_len _ _
  · simp
theorem prow_get {i j : Nat} (hj : j < 9) (hi : j < i) : (prows i).getD j [] = digs 4294967296 9 (21888242871839275222246405745257275088548364400416034343698204186575808495617 * 2 ^ j) := by
  rw [prows, List.getD_eq_getElem?_getD, List.getElem?_map, List.getElem?_range hj]
  simp [hi]
theorem prow_room {i j : Nat} (hj : j < 9) : 0 + j * 9 + 9 ≤ (((prows i).flatten).map (vi .u64)).length := by
  rw [List.length_map, flat_len (prow_nine i), prow_len]; omega
theorem prow_at {i j : Nat} (hj : j < 9) (hi : j < i) : ((((prows i).flatten).map (vi .u64)).drop (0 + j * 9)).take 9 = (digs 4294967296 9 (21888242871839275222246405745257275088548364400416034343698204186575808495617 * 2 ^ j)).map (vi .u64) := by
  rw [Nat.zero_add, flat_take_map (prow_nine i) (by rw [prow_len]; exact hj), prow_get hj hi]
theorem prow_next {i : Nat} (_ : i < 8) : (prows (i + 1)).set (i + 1) (digs 4294967296 9 (256 * 0 + 2 * (21888242871839275222246405745257275088548364400416034343698204186575808495617 * 2 ^ i))) = prows (i + 1 + 1) := by
  have e : 256 * 0 + 2 * (21888242871839275222246405745257275088548364400416034343698204186575808495617 * 2 ^ i) = 21888242871839275222246405745257275088548364400416034343698204186575808495617 * 2 ^ (i + 1) := by rw [Nat.pow_succ]; omega
  rw [e]
  refine List.ext_getElem (by simp [prows]) fun k h1 h2 => ?_
  simp only [prows, List.getElem_set, List.getElem_map, List.getElem_range]
  by_cases hk : i + 1 = k
  · rw [if_pos hk, if_pos (by omega), hk]
  · rw [if_neg hk]
    by_cases hk2 : k < i + 1
    · rw [if_pos hk2, if_pos (by omega)]
    · rw [if_neg hk2, if_neg (by omega)]
theorem prow_pow {i : Nat} : i ≤ 8 → 21888242871839275222246405745257275088548364400416034343698204186575808495617 * 2 ^ i ≤ 21888242871839275222246405745257275088548364400416034343698204186575808495617 * 256 := fun h => Nat.mul_le_mul_left _ (show 2 ^ i ≤ 2 ^ 8 from Nat.pow_le_pow_right (by decide) h)
theorem ld9 {l : List Nat} (h : l.length = 9) : ((l.map (vi .u64)).drop 0).take 9 = l.map (vi .u64) := List.take_of_length_le (by simp [h])
theorem at_digs8 {v i : Nat} (hi : i < 32) : ((digs 256 32 v).map (vi .u8))[i]? = some (vi .u8 (v / 256 ^ i % 256)) := by
  rw [List.getElem?_map, ← digs_getD (n := 32) (by decide) hi, List.getD_eq_getElem?_getD, List.getElem?_eq_getElem (by rw [digs_len]; exact hi)]
  rfl
theorem mul_byte {x y r N : Nat} : (256 * (x / 256 ^ (r + 1) * y % N) + x / 256 ^ r % 256 * y) % N = x / 256 ^ r * y % N := by
  have e : x / 256 ^ r = 256 * (x / 256 ^ (r + 1)) + x / 256 ^ r % 256 := by
    rw [Nat.pow_succ, ← Nat.div_div_eq_div_mul]
    omega
  generalize x / 256 ^ r % 256 = b at *
  generalize x / 256 ^ (r + 1) = v at *
  rw [e, Nat.add_mod, Nat.mul_mod_mod, ← Nat.add_mod, Nat.add_mul, Nat.mul_assoc]
theorem dl9 {x : Nat} (h : x < 21888242871839275222246405745257275088548364400416034343698204186575808495617 * 2) : (D 4294967296 x).length ≤ 9 := (D_len_le (by decide) _ _).2 (Nat.lt_of_lt_of_le h (by decide))
theorem lenP : (D 4294967296 21888242871839275222246405745257275088548364400416034343698204186575808495617).length < 100000000 := by rw [p02_digs]; decide
theorem subDz_ctr {x y z : Nat} (hz : z = x - y) (hlx : (D 4294967296 x).length < 100000000) (hly : (D 4294967296 y).length < 100000000) (h : y ≤ x) : GC Tryd.prog 67 [.slice (some ⟨0, 0, none⟩) (D 4294967296 x).length 0, .slice (some ⟨1, 0, none⟩) (D 4294967296 y).length 0] [⟨(D 4294967296 x).map (vi .u64), false, 1⟩, ⟨(D 4294967296 y).map (vi .u64), false, 1⟩] [.slice (some ⟨2, 0, none⟩) (D 4294967296 (z)).length 0] [⟨(D 4294967296 x).map (vi .u64), false, 1⟩, ⟨(D 4294967296 y).map (vi .u64), false, 1⟩, ⟨(D 4294967296 (z)).map (vi .u64), true, 1⟩] := by
 subst hz
 exact subD_ctr hlx hly h
set_option maxRecDepth 10000 in
theorem p02D_ctr : GC Tryd.prog 61 [] [] [.slice (some ⟨0, 0, none⟩) (D 4294967296 (21888242871839275222246405745257275088548364400416034343698204186575808495617)).length 0] [⟨(D 4294967296 (21888242871839275222246405745257275088548364400416034343698204186575808495617)).map (vi .u64), true, 1⟩] := by
 refine gi Tryd.func61 ?_
 refine zS ?_
 refine yA ?_
 refine zN (zS ?_)
 refine AWo.buildSlice tbok 2000 [(0, vi .u64 4026531841), (1, vi .u64 1138881939), (2, vi .u64 2042196113), (3, vi .u64 674490440), (4, vi .u64 2172737629), (5, vi .u64 3092268470), (6, vi .u64 3778125865), (7, vi .u64 811880050)] (out := [vi .u64 4026531841, vi .u64 1138881939, vi .u64 2042196113, vi .u64 674490440, vi .u64 2172737629, vi .u64 3092268470, vi .u64 3778125865, vi .u64 811880050]) rfl rfl (by decide) rfl rfl rfl (by decide) rfl rfl rfl rfl rfl ?_
 refine yA ?_
 refine zN (zE ?_)
 rw [p02_digs]
 exact rq [2000] [.tmp 0]
theorem rb4_ctr {x : Nat} (hx : x < 18446744073709551616 ^ 4) : GC Tryd.prog 70 [.slice (some ⟨0, 0, none⟩) 4 0] [⟨(digs 18446744073709551616 4 x).map (vi .u64), false, 1⟩] [.slice (some ⟨1, 0, none⟩) 32 0] [⟨(digs 18446744073709551616 4 x).map (vi .u64), false, 1⟩, ⟨(digs 256 32 x).map (vi .u8), true, 1⟩] := by
 have h := rbytes_ctr (a := digs 18446744073709551616 4 x) (digs_bd (by decide) _ _) (by rw [digs_len]; decide)
 rw [digs_len, num_digs_lt hx] at h
 exact h
set_option maxRecDepth 10000 in
theorem mul02_ctr {x y : Nat} (hx : x < 21888242871839275222246405745257275088548364400416034343698204186575808495617) (hy : y < 21888242871839275222246405745257275088548364400416034343698204186575808495617) : GC Tryd.prog 40 [.slice (some ⟨0, 0, none⟩) (D 4294967296 x).length 0, .slice (some ⟨1, 0, none⟩) (D 4294967296 y).length 0] [⟨(D 4294967296 x).map (vi .u64), false, 1⟩, ⟨(D 4294967296 y).map (vi .u64), false, 1⟩] [.slice (some ⟨2, 0, none⟩) (D 4294967296 (x * y % 21888242871839275222246405745257275088548364400416034343698204186575808495617)).length 0] [⟨(D 4294967296 x).map (vi .u64), false, 1⟩, ⟨(D 4294967296 y).map (vi .u64), false, 1⟩, ⟨(D 4294967296 (x * y % 21888242871839275222246405745257275088548364400416034343698204186575808495617)).map (vi .u64), true, 1⟩] := by
 refine gi Tryd.func40 ?_
 have h9 : ∀ a, a < 21888242871839275222246405745257275088548364400416034343698204186575808495617 * 512 → a < 4294967296 ^ 9 := fun a h => Nat.lt_of_lt_of_le h (by decide)
 refine zS ?_
 refine yA ?_
 refine zN (zS ?_)
 refine yC (p02D_ctr) bd61 [] [13000] ?_
 refine yC (rowOf_ctr (x := 21888242871839275222246405745257275088548364400416034343698204186575808495617) (by decide)) bd68 [(13000, 0)] [] ?_
 refine yP ((PureOp.buildArr tbok [(0, .agg ((digs 4294967296 9 21888242871839275222246405745257275088548364400416034343698204186575808495617).map (vi .u64)).toArray)] rfl rfl rfl (by decide) rfl rfl).mono (v' := .agg (((prows 1).flatten).map (vi .u64)).toArray) (by kernel_rfl)) ?_
 refine yN 6000 1 _ ?_
 refine AWo.storeAllN tbok (vs := ((prows 1).flatten).map (vi .u64)) rfl rfl rfl rfl (by kernel_rfl) (by kernel_rfl) (oneM (fun _ => rfl) _) rfl ?_
 refine zN (zQ (zS ?_))
 refine yA ?_
 refine zN (zB ?_)
 refine AW.loopw (fun mm σ => ∃ i, (i ≤ 8) ∧ mm = 8 - i ∧ σ = ⟨(upd (upd (upd (upd emp 0 (.slice (some ⟨0, 0, none⟩) (D 4294967296 x).length 0)) 1 (.slice (some ⟨1, 0, none⟩) (D 4294967296 y).length 0)) 5 (.pointer (some ⟨6000, 0, none⟩))) 6 (vi .i64 (i + 1))), (upd (upd (upd emp 0 ⟨(D 4294967296 x).map (vi .u64), false, 1⟩) 1 ⟨(D 4294967296 y).map (vi .u64), false, 1⟩) 6000 ⟨((prows (i + 1)).flatten).map (vi .u64), true, 1⟩)⟩) (fm := []) (wk [0, 1, 6000]) ⟨0, by decide, rfl, rfl⟩ ?_
 rintro mm σ ⟨i, hinv, rfl, rfl⟩
 have hpi := prow_pow (i := i)
 refine zQ (zS ?_)
 refine yM ?_
 refine yP (pLt (b := 9)) ?_
 refine zN ?_
 refine zA (fun hb0 => ?_) (fun hb0 => ?_)
 ·
  have hi1 : i + 1 < 9 := by simpa using hb0
  have hi : i < 8 := by omega
  refine zK (zT (zQ (zB (zR ?_))))
  refine yM ?_
  refine yP ((PureOp.buildArr tbok [] rfl rfl rfl (by decide) rfl rfl).mono (v' := .agg ((List.replicate 9 0).map (vi .u64)).toArray) rfl) ?_
  refine yM ?_
  refine yP ((PureOp.subI (b := 1) rfl rfl (by omega) (by omega)).mono (v' := vi .i64 i) rfl) ?_
  refine yP (PureOp.arr tbok rfl rfl rfl rfl (by omega)) ?_
  refine AWo.loadAgg tbok (vs := (digs 4294967296 9 (21888242871839275222246405745257275088548364400416034343698204186575808495617 * 2 ^ i)).map (vi .u64)) rfl rfl rfl rfl (prow_room (by omega)) (prow_at (by omega) (by omega)) rfl rfl ?_
  refine yC (more_ctr (x := 0) (y := 21888242871839275222246405745257275088548364400416034343698204186575808495617 * 2 ^ i) (t := 2) (by decide) (h9 _ (by omega)) (by decide)) bd69 [] [] ?_
  refine yP (PureOp.arr tbok rfl rfl rfl rfl (by omega)) ?_
  refine AWo.storeRow tbok (r := digs 4294967296 9 (256 * 0 + 2 * (21888242871839275222246405745257275088548364400416034343698204186575808495617 * 2 ^ i))) (i := i + 1) (by omega) rfl rfl rfl rfl (digs_len _ _) (prow_nine _) (by rw [prow_len]; omega) (fun _ => rfl) rfl ?_
  rw [prow_next (by omega)]
  refine zN (zL (zT (zR ?_)))
  refine yM ?_
  refine yP (pAdd (b := 1)) ?_
  refine yA ?_
  refine zN (zT ?_)
  exact ⟨8 - (i + 1), [], _, by omega, wk [0, 1, 6000], i + 1, by omega, rfl, rfl⟩
 ·
  obtain rfl : i = 8 := by simp at hb0; omega
  refine zX (zV (zV (zH (zT (zS ?_)))))
  refine yM ?_
  refine yC (wordsD_ctr (x := x) (n := 4) (by decide)) bd71 [(0, 0)] [29000] ?_
  refine yC (rb4_ctr (Nat.lt_of_lt_of_le hx (by decide))) bd70 [(29000, 0)] [30000] ?_
  refine yA ?_
  refine zN (zS ?_)
  refine yP ((PureOp.buildArr tbok [] rfl rfl rfl (by decide) rfl rfl).mono (v' := .agg ((List.replicate 9 0).map (vi .u64)).toArray) rfl) ?_
  refine yN 9000 1 ((List.replicate 9 0).map (vi .u64)) ?_
  refine AWo.storeAllN tbok (vs := (digs 4294967296 9 0).map (vi .u64)) rfl rfl rfl rfl (by rw [List.length_map, digs_len]) (by (simp; done)) (oneM (fun _ => rfl) _) rfl ?_
  refine zN (zS ?_)
  refine yM ?_
  refine yC (rowOf_ctr (x := y) (h9 _ (by omega))) bd68 [(1, 0)] [] ?_
  refine yN 10000 1 ((List.replicate 9 0).map (vi .u64)) ?_
  refine AWo.storeAllN tbok (vs := (digs 4294967296 9 y).map (vi .u64)) rfl rfl rfl rfl (by rw [List.length_map, digs_len]) (by (simp; done)) (oneM (fun _ => rfl) _) rfl ?_
  refine zN (zQ (zS ?_))
  refine yA ?_
  refine zN (zB ?_)
  refine AW.loopw (fun mm σ => ∃ z, ∃ r, (r ≤ 32 ∧ z = x / 256 ^ r * y % 21888242871839275222246405745257275088548364400416034343698204186575808495617) ∧ mm = 1 * r ∧ σ = ⟨(upd (upd (upd (upd (upd emp 5 (.pointer (some ⟨6000, 0, none⟩))) 7 (.slice (some ⟨30000, 0, none⟩) 32 0)) 8 (.pointer (some ⟨9000, 0, none⟩))) 9 (.pointer (some ⟨10000, 0, none⟩))) 10 (vp r)), (upd (upd (upd (upd (upd (upd emp 0 ⟨(D 4294967296 x).map (vi .u64), false, 1⟩) 1 ⟨(D 4294967296 y).map (vi .u64), false, 1⟩) 6000 ⟨((prows 9).flatten).map (vi .u64), true, 1⟩) 30000 ⟨(digs 256 32 x).map (vi .u8), true, 1⟩) 9000 ⟨(digs 4294967296 9 z).map (vi .u64), true, 1⟩) 10000 ⟨(digs 4294967296 9 y).map (vi .u64), true, 1⟩)⟩) (fm := []) (wk [0, 1, 6000, 30000, 9000, 10000]) ⟨0, 32, ⟨Nat.le_refl _, by rw [Nat.div_eq_of_lt (Nat.lt_of_lt_of_le hx (by decide)), Nat.zero_mul]⟩, rfl, rfl⟩ ?_
  rintro mm σ ⟨z, r, ⟨hr0, hz⟩, rfl, rfl⟩
  refine zQ (zS ?_)
  refine yM ?_
  refine yP (PureOp.geP rfl rfl) ?_
  refine zN ?_
  refine zA (fun hb1 => ?_) (fun hb1 => ?_)
  ·
   have hp0 : 0 < r := by simpa using hb1
   obtain ⟨r, rfl⟩ : ∃ q, r = q + 1 := ⟨r - 1, by omega⟩
   rw [vp_succ]
   have hr32 : r < 32 := by omega
   have hzP : z < 21888242871839275222246405745257275088548364400416034343698204186575808495617 := by rw [hz]; exact Nat.mod_lt _ (by decide)
   have hb := Nat.mod_lt (x / 256 ^ r) (show 0 < 256 by decide)
   have hby : x / 256 ^ r % 256 * y ≤ 255 * 21888242871839275222246405745257275088548364400416034343698204186575808495617 := Nat.mul_le_mul (by omega) (Nat.le_of_lt hy)
   have hv : 256 * z + x / 256 ^ r % 256 * y < 21888242871839275222246405745257275088548364400416034343698204186575808495617 * 2 ^ 9 := by omega
   refine zK (zT (zQ (zB ?_)))
   refine AW.seqD mixed ?_
   refine AWo.loadAgg tbok (vs := (digs 4294967296 9 z).map (vi .u64)) rfl rfl rfl rfl (by (simp [digs_len]; done)) (ld9 (digs_len _ _)) rfl rfl ?_
   refine AWo.loadAgg tbok (vs := (digs 4294967296 9 y).map (vi .u64)) rfl rfl rfl rfl (by (simp [digs_len]; done)) (ld9 (digs_len _ _)) rfl rfl ?_
   refine yM ?_
   refine yM ?_
   refine yP pJ ?_
   refine AWo.load tbok (v := vi .u8 (x / 256 ^ r % 256)) rfl rfl rfl (at_digs8 hr32) rfl rfl ?_
   refine yP (PureOp.cvtN tbok 18446744073709551616 rfl rfl rfl (by decide) (by decide) (by omega)) ?_
   refine yC (more_ctr (x := z) (y := y) (t := x / 256 ^ r % 256) (h9 _ (by omega)) (h9 _ (by omega)) (by omega)) bd69 [] [] ?_
   refine AWo.storeAllN tbok (vs := (digs 4294967296 9 (256 * z + x / 256 ^ r % 256 * y)).map (vi .u64)) rfl rfl rfl rfl (by rw [List.length_map, digs_len]) (by (simp [digs_len]; done)) (oneM (fun _ => rfl) _) rfl ?_
   refine zD (zS ?_)
   refine yA ?_
   refine zN (zB ?_)
   refine AW.loopw (fun mm σ => ∃ w, ∃ k, (k ≤ 9 ∧ w = (256 * z + x / 256 ^ r % 256 * y) % (21888242871839275222246405745257275088548364400416034343698204186575808495617 * 2 ^ k)) ∧ mm = 1 * k ∧ σ = ⟨(upd (upd (upd (upd (upd (upd emp 5 (.pointer (some ⟨6000, 0, none⟩))) 7 (.slice (some ⟨30000, 0, none⟩) 32 0)) 8 (.pointer (some ⟨9000, 0, none⟩))) 9 (.pointer (some ⟨10000, 0, none⟩))) 10 (vi .i64 r)) 11 (vp k)), (upd (upd (upd (upd (upd (upd emp 0 ⟨(D 4294967296 x).map (vi .u64), false, 1⟩) 1 ⟨(D 4294967296 y).map (vi .u64), false, 1⟩) 6000 ⟨((prows 9).flatten).map (vi .u64), true, 1⟩) 30000 ⟨(digs 256 32 x).map (vi .u8), true, 1⟩) 9000 ⟨(digs 4294967296 9 w).map (vi .u64), true, 1⟩) 10000 ⟨(digs 4294967296 9 y).map (vi .u64), true, 1⟩)⟩) (fm := []) (wk [0, 1, 6000, 30000, 9000, 10000]) ⟨256 * z + x / 256 ^ r % 256 * y, 9, ⟨Nat.le_refl _, (Nat.mod_eq_of_lt hv).symm⟩, rfl, rfl⟩ ?_
   rintro mm σ ⟨w, k, ⟨hk9, hw0⟩, rfl, rfl⟩
   refine zQ (zS ?_)
   refine yM ?_
   refine yP (PureOp.geP rfl rfl) ?_
   refine zN ?_
   refine zA (fun hb2 => ?_) (fun hb2 => ?_)
   ·
    have hp0 : 0 < k := by simpa using hb2
    obtain ⟨k, rfl⟩ : ∃ q, k = q + 1 := ⟨k - 1, by omega⟩
    rw [vp_succ]
    have hk2 : 21888242871839275222246405745257275088548364400416034343698204186575808495617 * 2 ^ k ≤ 21888242871839275222246405745257275088548364400416034343698204186575808495617 * 256 := Nat.mul_le_mul_left _ (show 2 ^ k ≤ 2 ^ 8 from Nat.pow_le_pow_right (by decide) (by omega))
    have hwv : w < 21888242871839275222246405745257275088548364400416034343698204186575808495617 * 512 := by rw [hw0]; exact Nat.lt_of_le_of_lt (Nat.mod_le _ _) (by omega)
    refine zK (zT (zQ (zB ?_)))
    refine AW.seqD mixed ?_
    refine AWo.loadAgg tbok (vs := (digs 4294967296 9 w).map (vi .u64)) rfl rfl rfl rfl (by (simp [digs_len]; done)) (ld9 (digs_len _ _)) rfl rfl ?_
    refine yM ?_
    refine yP (PureOp.arr tbok rfl rfl rfl rfl (by omega)) ?_
    refine AWo.loadAgg tbok (vs := (digs 4294967296 9 (21888242871839275222246405745257275088548364400416034343698204186575808495617 * 2 ^ k)).map (vi .u64)) rfl rfl rfl rfl (prow_room (by omega)) (prow_at (by omega) (by omega)) rfl rfl ?_
    refine yC (reaches_ctr (x := w) (y := 21888242871839275222246405745257275088548364400416034343698204186575808495617 * 2 ^ k) (h9 _ hwv) (h9 _ (by omega))) bd72 [] [] ?_
    refine zD ?_
    refine zA (fun hb3 => ?_) (fun hb3 => ?_)
    ·
     have hge : 21888242871839275222246405745257275088548364400416034343698204186575808495617 * 2 ^ k ≤ w := by simpa using hb3
     refine AW.draw mixed ?_
     refine AWo.loadAgg tbok (vs := (digs 4294967296 9 w).map (vi .u64)) rfl rfl rfl rfl (by (simp [digs_len]; done)) (ld9 (digs_len _ _)) rfl rfl ?_
     refine yM ?_
     refine yP (PureOp.arr tbok rfl rfl rfl rfl (by omega)) ?_
     refine AWo.loadAgg tbok (vs := (digs 4294967296 9 (21888242871839275222246405745257275088548364400416034343698204186575808495617 * 2 ^ k)).map (vi .u64)) rfl rfl rfl rfl (prow_room (by omega)) (prow_at (by omega) (by omega)) rfl rfl ?_
     refine yC (minus_ctr (x := w) (y := 21888242871839275222246405745257275088548364400416034343698204186575808495617 * 2 ^ k) (h9 _ hwv) hge) bd73 [] [] ?_
     refine AWo.storeAllN tbok (vs := (digs 4294967296 9 (w - 21888242871839275222246405745257275088548364400416034343698204186575808495617 * 2 ^ k)).map (vi .u64)) rfl rfl rfl rfl (by rw [List.length_map, digs_len]) (by (simp [digs_len]; done)) (oneM (fun _ => rfl) _) rfl ?_
     refine zD (zL (zT (zR ?_)))
     refine yM ?_
     refine yP (PureOp.subP rfl rfl (by omega)) ?_
     refine yA ?_
     refine zN (zT ?_)
     exact ⟨1 * k, [], _, by omega, wk [0, 1, 6000, 30000, 9000, 10000], w - 21888242871839275222246405745257275088548364400416034343698204186575808495617 * 2 ^ k, k, ⟨by omega, mod_hi hw0 hge⟩, rfl, rfl⟩
    ·
     have hlt : w < 21888242871839275222246405745257275088548364400416034343698204186575808495617 * 2 ^ k := by simpa using hb3
     refine zK (zL (zT (zR ?_)))
     refine yM ?_
     refine yP (PureOp.subP rfl rfl (by omega)) ?_
     refine yA ?_
     refine zN (zT ?_)
     exact ⟨1 * k, [], _, by omega, wk [0, 1, 6000, 30000, 9000, 10000], w, k, ⟨by omega, mod_lo hw0 hlt⟩, rfl, rfl⟩
   ·
    obtain rfl : k = 0 := by simpa using hb2
    have hw : w = x / 256 ^ r * y % 21888242871839275222246405745257275088548364400416034343698204186575808495617 := by rw [hw0, hz, Nat.pow_zero, Nat.mul_one]; exact mul_byte
    refine zX (zV (zV (zH (zL (zT (zR ?_))))))
    refine yM ?_
    refine yP (PureOp.subP rfl rfl (by omega)) ?_
    refine yA ?_
    refine zN (zT ?_)
    exact ⟨1 * r, [], _, by omega, wk [0, 1, 6000, 30000, 9000, 10000], w, r, ⟨by omega, hw⟩, rfl, rfl⟩
  ·
   obtain rfl : r = 0 := by simpa using hb1
   rw [Nat.pow_zero, Nat.div_one] at hz
   have hzP : z < 21888242871839275222246405745257275088548364400416034343698204186575808495617 := by rw [hz]; exact Nat.mod_lt _ (by decide)
   have hnz : num 4294967296 (digs 4294967296 9 z) = z := num_digs_lt (h9 _ (by omega))
   have hdz := digs_len (B := 4294967296) 9 z
   rw [← hz]
   refine zX (zV (zV (zH (zT (zS ?_)))))
   refine AWo.buildSlice tbok 60000 [] (out := []) rfl rfl (by decide) rfl rfl rfl (by decide) rfl rfl rfl rfl rfl ?_
   refine AWo.sliceA tbok rfl .none .none rfl rfl rfl rfl (by decide) (by decide) (.inl rfl) (by (simp; omega)) rfl rfl rfl ?_
   refine AWo.append tbok (all := (digs 4294967296 9 z).map (vi .u64)) 62000 rfl rfl rfl rfl (by rfl) rfl (by (simp; omega)) (by decide) rfl rfl rfl (by decide) rfl rfl rfl (by decide) (by decide) rfl rfl rfl rfl ?_
   refine yC (trim_ctr (a := digs 4294967296 9 z) (v := z) (n := 0 + 9) (digs_bd (by decide) _ _) hnz (digs_len _ _) (by rw [digs_len]; decide)) bd62 [(62000, 0)] [] ?_
   refine yA ?_
   refine zN (zE ?_)
   exact rq [62000] [.tmp 4] (hb := (OutL.flat rfl (by exact flatM flat_vi) (by intro h; exact h.elim id fun h => absurd h.1 (by simp)) (OutL.flat rfl (by exact flatM flat_vi) (by intro h; exact h.elim id fun h => absurd h.1 (by simp)) (OutL.part rfl (dpart (by decide) (digs_bd (by decide) 9 z) hnz) (flatM flat_vi) (fun _ => rfl) (dpart_len (by decide) (digs_bd (by decide) 9 z) hnz) trivial))))
set_option maxRecDepth 10000 in
theorem mod02_ctr {x : Nat} (hlx : (D 4294967296 x).length < 1000000) : GC Tryd.prog 36 [.slice (some ⟨0, 0, none⟩) (D 4294967296 x).length 0] [⟨(D 4294967296 x).map (vi .u64), false, 1⟩] [.slice (some ⟨1, 0, none⟩) (D 4294967296 (x % 21888242871839275222246405745257275088548364400416034343698204186575808495617)).length 0] [⟨(D 4294967296 x).map (vi .u64), false, 1⟩, ⟨(D 4294967296 (x % 21888242871839275222246405745257275088548364400416034343698204186575808495617)).map (vi .u64), true, 1⟩] := by
 refine gi Tryd.func36 ?_
 refine zS ?_
 refine yA ?_
 refine zN (zS ?_)
 refine yM ?_
 refine yC (p02D_ctr) bd61 [] [5000] ?_
 refine yC (modD_ctr (x := x) (N := 21888242871839275222246405745257275088548364400416034343698204186575808495617) (by decide) hlx (by rw [p02_digs]; decide)) bd60 [(0, 0), (5000, 0)] [6000] ?_
 refine yA ?_
 refine zN (zE ?_)
 exact rq [6000] [.tmp 2]
set_option maxRecDepth 10000 in
theorem add02_ctr {x y : Nat} (hx : x < 21888242871839275222246405745257275088548364400416034343698204186575808495617) (hy : y < 21888242871839275222246405745257275088548364400416034343698204186575808495617) : GC Tryd.prog 39 [.slice (some ⟨0, 0, none⟩) (D 4294967296 x).length 0, .slice (some ⟨1, 0, none⟩) (D 4294967296 y).length 0] [⟨(D 4294967296 x).map (vi .u64), false, 1⟩, ⟨(D 4294967296 y).map (vi .u64), false, 1⟩] [.slice (some ⟨2, 0, none⟩) (D 4294967296 ((x + y) % 21888242871839275222246405745257275088548364400416034343698204186575808495617)).length 0] [⟨(D 4294967296 x).map (vi .u64), false, 1⟩, ⟨(D 4294967296 y).map (vi .u64), false, 1⟩, ⟨(D 4294967296 ((x + y) % 21888242871839275222246405745257275088548364400416034343698204186575808495617)).map (vi .u64), true, 1⟩] := by
 refine gi Tryd.func39 ?_
 refine zS ?_
 refine yA ?_
 refine zN (zS ?_)
 refine yM ?_
 refine yM ?_
 refine yC (addD_ctr (x := x) (y := y) (Nat.lt_of_le_of_lt (dl9 (by omega)) (by decide)) (Nat.lt_of_le_of_lt (dl9 (by omega)) (by decide))) bd65 [(0, 0), (1, 0)] [9000] ?_
 refine yA ?_
 refine zN (zQ (zS ?_))
 refine yM ?_
 refine yC (p02D_ctr) bd61 [] [11000] ?_
 refine yC (cmpD_ctr (x := x + y) (y := 21888242871839275222246405745257275088548364400416034343698204186575808495617) (Nat.lt_of_le_of_lt (dl9 (by omega)) (by decide)) lenP) bd66 [(9000, 0), (11000, 0)] [] ?_
 refine yP (PureOp.bin rfl rfl rfl) ?_
 refine zN ?_
 refine zA (fun hb0 => ?_) (fun hb0 => ?_)
 ·
  have hge : 21888242871839275222246405745257275088548364400416034343698204186575808495617 ≤ x + y := ge_of_cmp (by simpa using hb0)
  obtain ⟨z, hz⟩ : ∃ z, z = x + y - 21888242871839275222246405745257275088548364400416034343698204186575808495617 := ⟨_, rfl⟩
  rw [show (x + y) % 21888242871839275222246405745257275088548364400416034343698204186575808495617 = z by omega]
  refine zS ?_
  refine yM ?_
  refine yC (p02D_ctr) bd61 [] [15000] ?_
  refine yC (subDz_ctr (x := x + y) (y := 21888242871839275222246405745257275088548364400416034343698204186575808495617) (z := z) hz (Nat.lt_of_le_of_lt (dl9 (by omega)) (by decide)) lenP hge) bd67 [(9000, 0), (15000, 0)] [16000] ?_
  refine yA ?_
  refine zN (zE (zU ?_))
  exact rq [16000] [.tmp 4]
 ·
  have hlt : x + y < 21888242871839275222246405745257275088548364400416034343698204186575808495617 := lt_of_cmp (by simpa using hb0)
  rw [Nat.mod_eq_of_lt hlt]
  refine zK (zT (zS ?_))
  refine yM ?_
  refine yA ?_
  refine zN (zE ?_)
  exact rq [9000] [.tmp 4]
set_option maxRecDepth 10000 in
theorem sub02_ctr {x y : Nat} (hx : x < 21888242871839275222246405745257275088548364400416034343698204186575808495617) (hy : y < 21888242871839275222246405745257275088548364400416034343698204186575808495617) : GC Tryd.prog 44 [.slice (some ⟨0, 0, none⟩) (D 4294967296 x).length 0, .slice (some ⟨1, 0, none⟩) (D 4294967296 y).length 0] [⟨(D 4294967296 x).map (vi .u64), false, 1⟩, ⟨(D 4294967296 y).map (vi .u64), false, 1⟩] [.slice (some ⟨2, 0, none⟩) (D 4294967296 ((x + (21888242871839275222246405745257275088548364400416034343698204186575808495617 - y)) % 21888242871839275222246405745257275088548364400416034343698204186575808495617)).length 0] [⟨(D 4294967296 x).map (vi .u64), false, 1⟩, ⟨(D 4294967296 y).map (vi .u64), false, 1⟩, ⟨(D 4294967296 ((x + (21888242871839275222246405745257275088548364400416034343698204186575808495617 - y)) % 21888242871839275222246405745257275088548364400416034343698204186575808495617)).map (vi .u64), true, 1⟩] := by
 refine gi Tryd.func44 ?_
 refine zS ?_
 refine yA ?_
 refine zN (zQ (zS ?_))
 refine yM ?_
 refine yM ?_
 refine yC (cmpD_ctr (x := x) (y := y) (Nat.lt_of_le_of_lt (dl9 (by omega)) (by decide)) (Nat.lt_of_le_of_lt (dl9 (by omega)) (by decide))) bd66 [(0, 0), (1, 0)] [] ?_
 refine yP (PureOp.bin rfl rfl rfl) ?_
 refine zN ?_
 refine zA (fun hb0 => ?_) (fun hb0 => ?_)
 ·
  have hge : y ≤ x := ge_of_cmp (by simpa using hb0)
  rw [show (x + (21888242871839275222246405745257275088548364400416034343698204186575808495617 - y)) % 21888242871839275222246405745257275088548364400416034343698204186575808495617 = x - y by omega]
  refine zS ?_
  refine yM ?_
  refine yM ?_
  refine yC (subD_ctr (x := x) (y := y) (Nat.lt_of_le_of_lt (dl9 (by omega)) (by decide)) (Nat.lt_of_le_of_lt (dl9 (by omega)) (by decide)) hge) bd67 [(0, 0), (1, 0)] [12000] ?_
  refine yA ?_
  refine zN (zE (zU ?_))
  exact rq [12000] [.tmp 4]
 ·
  have hlt : x < y := lt_of_cmp (by simpa using hb0)
  rw [show (x + (21888242871839275222246405745257275088548364400416034343698204186575808495617 - y)) % 21888242871839275222246405745257275088548364400416034343698204186575808495617 = x + 21888242871839275222246405745257275088548364400416034343698204186575808495617 - y by omega]
  refine zK (zT (zS ?_))
  refine yM ?_
  refine yC (p02D_ctr) bd61 [] [14000] ?_
  refine yC (addD_ctr (x := x) (y := 21888242871839275222246405745257275088548364400416034343698204186575808495617) (Nat.lt_of_le_of_lt (dl9 (by omega)) (by decide)) lenP) bd65 [(0, 0), (14000, 0)] [15000] ?_
  refine yM ?_
  refine yC (subD_ctr (x := x + 21888242871839275222246405745257275088548364400416034343698204186575808495617) (y := y) (Nat.lt_of_le_of_lt (dl9 (by omega)) (by decide)) (Nat.lt_of_le_of_lt (dl9 (by omega)) (by decide)) (by omega)) bd67 [(15000, 0), (1, 0)] [17000] ?_
  refine yA ?_
  refine zN (zE ?_)
  exact rq [17000] [.tmp 4]
set_option maxRecDepth 10000 in
theorem bytes02_ctr {x : Nat} (hx : x < 18446744073709551616 ^ 4) : GC Tryd.prog 43 [.slice (some ⟨0, 0, none⟩) (D 4294967296 x).length 0] [⟨(D 4294967296 x).map (vi .u64), false, 1⟩] [.slice (some ⟨1, 0, none⟩) 32 0] [⟨(D 4294967296 x).map (vi .u64), false, 1⟩, ⟨(digs 256 32 x).map (vi .u8), true, 1⟩] := by
 refine gi Tryd.func43 ?_
 refine zS ?_
 refine yA ?_
 refine zN (zS ?_)
 refine yM ?_
 refine yC (wordsD_ctr (x := x) (n := 4) (by decide)) bd71 [(0, 0)] [5000] ?_
 refine yC (rb4_ctr hx) bd70 [(5000, 0)] [6000] ?_
 refine yA ?_
 refine zN (zE ?_)
 exact rq [6000] [.tmp 2]
end Go.Proofs.YteeifahhejangaaDoor
namespace Go.Proofs.YteeifahhejangaaDoor
open Go Sim
def pw : List Nat := digs 18446744073709551616 4 21888242871839275222246405745257275088548364400416034343698204186575808495617
theorem pw_len : pw.length = 4 := digs_len _ _
theorem pw_num : num 18446744073709551616 pw = 21888242871839275222246405745257275088548364400416034343698204186575808495617 := num_digs_lt (by decide)
theorem pw_bd : bd 18446744073709551616 pw := digs_bd (by decide) _ _
theorem pwOk : MwOk pw := ⟨pw_bd, by rw [pw_len]; decide, by rw [pw_len]; decide, by rw [pw_num]; decide⟩
theorem pw_0 : pw.getD 0 0 = 4891460686036598785 := by kernel_rfl
theorem pw_3 : pw.getD (pw.length - 1) 0 = 3486998266802970665 := by rw [pw_len]; kernel_rfl
theorem newP_ctr : GC Tryd.prog 47 [.slice (some ⟨0, 0, none⟩) pw.length 0] [⟨pw.map (vi .u64), false, 1⟩] [.pointer (some ⟨1, 0, none⟩), .int .i64 0] [⟨pw.map (vi .u64), false, 1⟩, ⟨[.slice (some ⟨2, 0, none⟩) pw.length 0, vi .u64 (ninvR (pw.getD 0 0)), .slice (some ⟨3, 0, none⟩) pw.length 0], true, 1⟩, ⟨(pw).map (vi .u64), true, 1⟩, ⟨(digs 18446744073709551616 pw.length (18446744073709551616 ^ pw.length * 18446744073709551616 ^ pw.length % num 18446744073709551616 pw)).map (vi .u64), true, 1⟩] := lnew_ctr pw_bd (by rw [pw_len]; decide) (by rw [pw_len]; decide) (by rw [pw_0]) (by rw [pw_3]; decide) (by rw [pw_len]; decide)
theorem redP_ctr {a : List Nat} {sq : List Nat} {iv ns na xa : Nat} (hna : a.length = na) (hxa : num 18446744073709551616 a = xa) (ha : bd 18446744073709551616 a) (hla : na ≤ 1000) : GC Tryd.prog 49 [.pointer (some ⟨0, 0, none⟩), .slice (some ⟨3, 0, none⟩) na 0] [⟨[.slice (some ⟨1, 0, none⟩) pw.length 0, vi .u64 iv, .slice (some ⟨2, 0, none⟩) ns 0], false, 1⟩, ⟨(pw).map (vi .u64), false, 1⟩, ⟨(sq).map (vi .u64), false, 1⟩, ⟨a.map (vi .u64), false, 1⟩] [.slice (some ⟨4, 0, none⟩) 4 0] [⟨[.slice (some ⟨1, 0, none⟩) pw.length 0, vi .u64 iv, .slice (some ⟨2, 0, none⟩) ns 0], false, 1⟩, ⟨(pw).map (vi .u64), false, 1⟩, ⟨(sq).map (vi .u64), false, 1⟩, ⟨a.map (vi .u64), false, 1⟩, ⟨(digs 18446744073709551616 4 (xa % 21888242871839275222246405745257275088548364400416034343698204186575808495617)).map (vi .u64), true, 1⟩] := by
 have h := reduce_ctr (mw := pw) (iv := iv) (sq := sq) (ns := ns) pwOk ha (by omega)
 rw [pw_len, pw_num, hna, hxa] at h
 rw [pw_len]
 exact h
theorem rest4 {x : Nat} : num 18446744073709551616 (digs 18446744073709551616 4 (x % 21888242871839275222246405745257275088548364400416034343698204186575808495617)) = x % 21888242871839275222246405745257275088548364400416034343698204186575808495617 := num_digs_lt (Nat.lt_trans (Nat.mod_lt _ (by decide)) (by decide))
theorem fsum_room {vs : List Nat} {i : Nat} (hi : i < vs.length) : 0 + i * 4 + 4 ≤ (((vs.map fel).flatten).map (vi .u64)).length := by
 rw [List.length_map, flat_len (n := 4) (fun x hx => by obtain ⟨y, _, rfl⟩ := List.mem_map.1 hx; exact fel_len y), List.length_map]
 omega
theorem fsum_at {vs : List Nat} {i : Nat} (hi : i < vs.length) : ((((vs.map fel).flatten).map (vi .u64)).drop (0 + i * 4)).take 4 = (fel (vs.getD i 0)).map (vi .u64) := by
 rw [Nat.zero_add, flat_take_map (n := 4) (fun x hx => by obtain ⟨y, _, rfl⟩ := List.mem_map.1 hx; exact fel_len y) (by rw [List.length_map]; exact hi)]
 rw [List.getD_eq_getElem?_getD, List.getD_eq_getElem?_getD, List.getElem?_map, List.getElem?_eq_getElem hi]
 rfl
theorem fsum_next {vs : List Nat} {i : Nat} (hi : i < vs.length) : (vs.take (i + 1)).foldl (fun a b => (a + b) % 21888242871839275222246405745257275088548364400416034343698204186575808495617) 0 = ((vs.take i).foldl (fun a b => (a + b) % 21888242871839275222246405745257275088548364400416034343698204186575808495617) 0 + vs.getD i 0) % 21888242871839275222246405745257275088548364400416034343698204186575808495617 := by
 rw [List.take_succ_eq_append_getElem hi, List.foldl_append, List.getD_eq_getElem?_getD, List.getElem?_eq_getElem hi]
 rfl
theorem emulP_ctr {u v : Nat} : GC Tryd.prog 25 [.agg ((fel u).map (vi .u64)).toArray, .agg ((fel v).map (vi .u64)).toArray] [] [.agg ((fel (u * v % 21888242871839275222246405745257275088548364400416034343698204186575808495617)).map (vi .u64)).toArray] [] := by
 have h := emul_ctr (u := u) (v := v)
 rw [← fel_mod (u * v)] at h
 exact h
theorem add_fel {u v : Nat} : digs 18446744073709551616 4 (num 18446744073709551616 (digs 18446744073709551616 4 (num 18446744073709551616 (fel u) + num 18446744073709551616 (fel v))) % 21888242871839275222246405745257275088548364400416034343698204186575808495617) = fel ((u + v) % 21888242871839275222246405745257275088548364400416034343698204186575808495617) := by
 have h1 := fel_lt u
 have h2 := fel_lt v
 rw [num_digs_lt (by omega), num_fel, num_fel, fel_mod, fel, ← Nat.add_mod, Nat.add_mul]
theorem sub_fel {u v : Nat} (hv : v < 21888242871839275222246405745257275088548364400416034343698204186575808495617) : (u + (21888242871839275222246405745257275088548364400416034343698204186575808495617 - v)) * 18446744073709551616 ^ 4 % 21888242871839275222246405745257275088548364400416034343698204186575808495617 = (num 18446744073709551616 (fel u) + (21888242871839275222246405745257275088548364400416034343698204186575808495617 - num 18446744073709551616 (fel v))) % 21888242871839275222246405745257275088548364400416034343698204186575808495617 := by
 have h1 := fel_lt u
 have h2 := fel_lt v
 have h3 : ((u + (21888242871839275222246405745257275088548364400416034343698204186575808495617 - v)) * 18446744073709551616 ^ 4 % 21888242871839275222246405745257275088548364400416034343698204186575808495617 + num 18446744073709551616 (fel v)) % 21888242871839275222246405745257275088548364400416034343698204186575808495617 = num 18446744073709551616 (fel u) := by
  rw [num_fel, num_fel, ← Nat.add_mod, ← Nat.add_mul, show u + (21888242871839275222246405745257275088548364400416034343698204186575808495617 - v) + v = u + 21888242871839275222246405745257275088548364400416034343698204186575808495617 by omega, Nat.add_mul, Nat.add_mul_mod_self_left]
 have h4 := Nat.mod_lt ((u + (21888242871839275222246405745257275088548364400416034343698204186575808495617 - v)) * 18446744073709551616 ^ 4) (show 0 < 21888242871839275222246405745257275088548364400416034343698204186575808495617 by decide)
 omega
theorem sub_fel_ge {u v : Nat} (hv : v < 21888242871839275222246405745257275088548364400416034343698204186575808495617) (h : num 18446744073709551616 (fel v) ≤ num 18446744073709551616 (fel u)) : digs 18446744073709551616 4 (num 18446744073709551616 (fel u) + 18446744073709551616 ^ 4 - num 18446744073709551616 (fel v)) = fel ((u + (21888242871839275222246405745257275088548364400416034343698204186575808495617 - v)) % 21888242871839275222246405745257275088548364400416034343698204186575808495617) := by
 have h1 := fel_lt u
 refine num_inj (digs_bd (by decide) _ _) (bd_fel _) (by rw [digs_len, fel_len]) ?_
 rw [num_digs, num_fel ((u + (21888242871839275222246405745257275088548364400416034343698204186575808495617 - v)) % 21888242871839275222246405745257275088548364400416034343698204186575808495617), Nat.mod_mul_mod, sub_fel hv]
 omega
theorem sub_fel_lt {u v : Nat} (hv : v < 21888242871839275222246405745257275088548364400416034343698204186575808495617) (h : num 18446744073709551616 (fel u) < num 18446744073709551616 (fel v)) : digs 18446744073709551616 4 (num 18446744073709551616 (digs 18446744073709551616 4 (num 18446744073709551616 (fel u) + 18446744073709551616 ^ 4 - num 18446744073709551616 (fel v))) + num 18446744073709551616 (digs 18446744073709551616 4 21888242871839275222246405745257275088548364400416034343698204186575808495617)) = fel ((u + (21888242871839275222246405745257275088548364400416034343698204186575808495617 - v)) % 21888242871839275222246405745257275088548364400416034343698204186575808495617) := by
 have h1 := fel_lt u
 have h2 := fel_lt v
 refine num_inj (digs_bd (by decide) _ _) (bd_fel _) (by rw [digs_len, fel_len]) ?_
 rw [num_digs, num_fel ((u + (21888242871839275222246405745257275088548364400416034343698204186575808495617 - v)) % 21888242871839275222246405745257275088548364400416034343698204186575808495617), Nat.mod_mul_mod, sub_fel hv, num_digs, num_digs]
 omega
theorem one_word {x : Nat} (hx : x < 18446744073709551616) : digs 18446744073709551616 4 x = [x, 0, 0, 0] := by
 simp only [digs, Nat.mod_eq_of_lt hx, Nat.div_eq_of_lt hx]
set_option maxRecDepth 10000 in
theorem eaddP_ctr {u v : Nat} : GC Tryd.prog 23 [.agg ((fel u).map (vi .u64)).toArray, .agg ((fel v).map (vi .u64)).toArray] [] [.agg ((fel ((u + v) % 21888242871839275222246405745257275088548364400416034343698204186575808495617)).map (vi .u64)).toArray] [] := by
 refine gi Tryd.func23 ?_
 have hd1 := fel_len u
 have hd2 := fel_len v
 have hd3 := fel_len ((u + v) % 21888242871839275222246405745257275088548364400416034343698204186575808495617)
 have h1 := fel_lt u
 have h2 := fel_lt v
 have hds := digs_len (B := 18446744073709551616) 4 (num 18446744073709551616 (fel u) + num 18446744073709551616 (fel v))
 refine zS ?_
 refine yO 3000 1 ((fel u).map (vi .u64)) ?_
 refine yO 4000 1 ((fel v).map (vi .u64)) ?_
 refine yN 5000 1 _ ?_
 refine zN (zS ?_)
 refine yP pF ?_
 refine AWo.loadAgg tbok (vs := (fel u).map (vi .u64)) rfl rfl rfl rfl (by simp [fel_len]) (ld4 (fel_len _)) rfl rfl ?_
 refine yP pF ?_
 refine AWo.loadAgg tbok (vs := (fel v).map (vi .u64)) rfl rfl rfl rfl (by simp [fel_len]) (ld4 (fel_len _)) rfl rfl ?_
 refine yC (plus_ctr (bd_fel u) (bd_fel v) (fel_len u) (fel_len v)) bd52 [] [] ?_
 refine yC (below_ctr (a := digs 18446744073709551616 4 (num 18446744073709551616 (fel u) + num 18446744073709551616 (fel v))) (digs_bd (by decide) _ _) (digs_len _ _) (by rw [num_digs_lt (by omega)]; omega)) bd51 [] [] ?_
 rw [add_fel]
 refine yP (build50 (by exact digs_len _ _) rfl) ?_
 refine ySA ?_
 refine zN (zE ?_)
 exact rq [] [.cell 4 43]
set_option maxRecDepth 10000 in
theorem esubP_ctr {u v : Nat} (hv : v < 21888242871839275222246405745257275088548364400416034343698204186575808495617) : GC Tryd.prog 26 [.agg ((fel u).map (vi .u64)).toArray, .agg ((fel v).map (vi .u64)).toArray] [] [.agg ((fel ((u + (21888242871839275222246405745257275088548364400416034343698204186575808495617 - v)) % 21888242871839275222246405745257275088548364400416034343698204186575808495617)).map (vi .u64)).toArray] [] := by
 refine gi Tryd.func26 ?_
 have hd1 := fel_len u
 have hd2 := fel_len v
 have hd3 := fel_len ((u + (21888242871839275222246405745257275088548364400416034343698204186575808495617 - v)) % 21888242871839275222246405745257275088548364400416034343698204186575808495617)
 have hd4 := digs_len (B := 18446744073709551616) 4 (num 18446744073709551616 (fel u) + 18446744073709551616 ^ 4 - num 18446744073709551616 (fel v))
 have hd5 := digs_len (B := 18446744073709551616) 4 (num 18446744073709551616 (digs 18446744073709551616 4 (num 18446744073709551616 (fel u) + 18446744073709551616 ^ 4 - num 18446744073709551616 (fel v))) + num 18446744073709551616 (digs 18446744073709551616 4 21888242871839275222246405745257275088548364400416034343698204186575808495617))
 have hsub := sub_fel (u := u) hv
 refine zS ?_
 refine yO 3000 1 ((fel u).map (vi .u64)) ?_
 refine yO 4000 1 ((fel v).map (vi .u64)) ?_
 refine yN 5000 1 _ ?_
 refine zN (zS ?_)
 refine yP pF ?_
 refine AWo.loadAgg tbok (vs := (fel u).map (vi .u64)) rfl rfl rfl rfl (by simp [fel_len]) (ld4 (fel_len _)) rfl rfl ?_
 refine yP pF ?_
 refine AWo.loadAgg tbok (vs := (fel v).map (vi .u64)) rfl rfl rfl rfl (by simp [fel_len]) (ld4 (fel_len _)) rfl rfl ?_
 refine yC (borrow_ctr (bd_fel u) (bd_fel v) (fel_len u) (fel_len v)) bd54 [] [] ?_
 refine yM ?_
 refine yP pX ?_
 refine yP pX ?_
 refine yN 6000 1 ((List.replicate 4 0).map (vi .u64)) ?_
 refine ySA ?_
 refine yA ?_
 refine zN (zQ (zS ?_))
 refine yM ?_
 refine yP (pNe (b := 0)) ?_
 refine zN ?_
 refine zA (fun hb0 => ?_) (fun hb0 => ?_)
 ·
  have hlt : num 18446744073709551616 (fel u) < num 18446744073709551616 (fel v) := by
   rcases Nat.lt_or_ge (num 18446744073709551616 (fel u)) (num 18446744073709551616 (fel v)) with h | h
   · exact h
   · rw [if_neg (by omega)] at hb0; simp at hb0
  refine AW.draw mixed ?_
  refine AWo.loadAgg tbok (vs := (digs 18446744073709551616 4 (num 18446744073709551616 (fel u) + 18446744073709551616 ^ 4 - num 18446744073709551616 (fel v))).map (vi .u64)) rfl rfl rfl rfl (by simp [digs_len]) (ld4 (digs_len _ _)) rfl rfl ?_
  refine yC (prime_ctr) bd46 [] [] ?_
  refine yC (plus_ctr (a := digs 18446744073709551616 4 (num 18446744073709551616 (fel u) + 18446744073709551616 ^ 4 - num 18446744073709551616 (fel v))) (b := digs 18446744073709551616 4 21888242871839275222246405745257275088548364400416034343698204186575808495617) (digs_bd (by decide) _ _) (digs_bd (by decide) _ _) (digs_len _ _) (digs_len _ _)) bd52 [] [] ?_
  rw [sub_fel_lt hv hlt]
  refine ySA ?_
  refine zD (zT (zS ?_))
  refine AWo.loadAgg tbok (vs := (fel ((u + (21888242871839275222246405745257275088548364400416034343698204186575808495617 - v)) % 21888242871839275222246405745257275088548364400416034343698204186575808495617)).map (vi .u64)) rfl rfl rfl rfl (by simp [fel_len]) (ld4 (fel_len _)) rfl rfl ?_
  refine yP (build50 (by exact digs_len _ _) rfl) ?_
  refine ySA ?_
  refine zN (zE ?_)
  exact rq [] [.cell 4 43]
 ·
  have hge : num 18446744073709551616 (fel v) ≤ num 18446744073709551616 (fel u) := by
   rcases Nat.lt_or_ge (num 18446744073709551616 (fel u)) (num 18446744073709551616 (fel v)) with h | h
   · rw [if_pos h] at hb0; simp at hb0
   · exact h
  rw [sub_fel_ge hv hge]
  refine zK (zT (zS ?_))
  refine AWo.loadAgg tbok (vs := (fel ((u + (21888242871839275222246405745257275088548364400416034343698204186575808495617 - v)) % 21888242871839275222246405745257275088548364400416034343698204186575808495617)).map (vi .u64)) rfl rfl rfl rfl (by simp [fel_len]) (ld4 (fel_len _)) rfl rfl ?_
  refine yP (build50 (by exact digs_len _ _) rfl) ?_
  refine ySA ?_
  refine zN (zE ?_)
  exact rq [] [.cell 4 43]
set_option maxRecDepth 10000 in
theorem fromuP_ctr {x : Nat} (hx : x < 18446744073709551616) : GC Tryd.prog 22 [vi .u64 (x)] [] [.agg ((fel x).map (vi .u64)).toArray] [] := by
 refine gi Tryd.func22 ?_
 have hd1 := fel_len (num 18446744073709551616 (digs 18446744073709551616 4 x))
 have hd2 := fel_len x
 have h4 : x < 18446744073709551616 ^ 4 := Nat.lt_of_lt_of_le hx (by decide)
 refine zS ?_
 refine yN 3000 1 _ ?_
 refine zN (zS ?_)
 refine yM ?_
 refine yP ((PureOp.buildArr tbok [(0, vi .u64 x)] rfl rfl rfl (by decide) rfl rfl).mono (v' := .agg ((digs 18446744073709551616 4 x).map (vi .u64)).toArray) (by rw [one_word hx]; rfl)) ?_
 refine yC (enter_ctr (a := digs 18446744073709551616 4 x) (digs_bd (by decide) _ _) (digs_len _ _) (by rw [num_digs_lt h4]; exact Nat.lt_trans hx (by decide))) bd48 [] [] ?_
 rw [num_digs_lt h4]
 refine ySA ?_
 refine zN (zE ?_)
 exact rq [] [.cell 2 43]
set_option maxRecDepth 10000 in
theorem fromwide_ctr {b : List Nat} (hb : bd 256 b) (hlb : b.length ≤ 1000) : GC Tryd.prog 21 [.slice (some ⟨0, 0, none⟩) b.length 0] [⟨b.map (vi .u8), false, 1⟩] [.agg ((fel (num 256 b % 21888242871839275222246405745257275088548364400416034343698204186575808495617)).map (vi .u64)).toArray] [⟨b.map (vi .u8), false, 1⟩] := by
 refine gi Tryd.func21 ?_
 have h8 := reads_num hb
 have hd4 := fel_len (num 18446744073709551616 (digs 18446744073709551616 4 (num 256 b % 21888242871839275222246405745257275088548364400416034343698204186575808495617)))
 have hl4 := digs_len (B := 18446744073709551616) 4 21888242871839275222246405745257275088548364400416034343698204186575808495617
 refine zS ?_
 refine yN 3000 1 _ ?_
 refine zN (zS ?_)
 refine yC (prime_ctr) bd46 [] [] ?_
 refine yN 4000 1 ((List.replicate 4 0).map (vi .u64)) ?_
 refine ySA ?_
 refine zN (zS ?_)
 refine AWo.sliceA tbok (h := 4) rfl .none .none rfl rfl rfl rfl (by decide) (by decide) (.inl rfl) (by simp [digs_len]) rfl rfl rfl ?_
 refine yC (newP_ctr) bd47 [(4000, 0)] [10000, 10001, 10002] ?_
 refine yM ?_
 refine yP pX ?_
 refine yP pX ?_
 refine yA ?_
 refine yA ?_
 refine zN (zS ?_)
 refine yM ?_
 refine yM ?_
 refine yC (lwords_ctr hb (by omega)) bd50 [(0, 0)] [15000] ?_
 refine yC (redP_ctr (a := digs 18446744073709551616 ((b.length + 7) / 8) (num 256 b)) (na := (b.length + 7) / 8) (xa := num 256 b) (digs_len _ _) h8 (digs_bd (by decide) _ _) (by omega)) bd49 [(10000, 0), (10001, 0), (10002, 0), (15000, 0)] [16000] ?_
 refine yP (PureOp.toArrT tbok rfl rfl (by decide) (by decide)) ?_
 refine AWo.loadAgg tbok (vs := (digs 18446744073709551616 4 (num 256 b % 21888242871839275222246405745257275088548364400416034343698204186575808495617)).map (vi .u64)) rfl rfl rfl rfl (by show 0 + 4 ≤ _; simp [digs_len]) (ld4 (digs_len _ _)) rfl rfl ?_
 refine yC (enter_ctr (a := digs 18446744073709551616 4 (num 256 b % 21888242871839275222246405745257275088548364400416034343698204186575808495617)) (digs_bd (by decide) _ _) (digs_len _ _) (by rw [rest4]; exact Nat.mod_lt _ (by decide))) bd48 [] [] ?_
 refine ySA ?_
 refine zN (zE ?_)
 rw [rest4]
 exact rq [] [.cell 2 43]
set_option maxRecDepth 10000 in
theorem fsum_ctr {vs : List Nat} (hvl : vs.length < 1000000000) : GC Tryd.prog 45 [.slice (some ⟨0, 0, none⟩) vs.length 0] [⟨((vs.map fel).flatten).map (vi .u64), false, 4⟩] [.agg ((fel (vs.foldl (fun a b => (a + b) % 21888242871839275222246405745257275088548364400416034343698204186575808495617) 0)).map (vi .u64)).toArray] [⟨((vs.map fel).flatten).map (vi .u64), false, 4⟩] := by
 refine gi Tryd.func45 ?_
 refine zS ?_
 refine yN 3000 1 _ ?_
 refine zN (zS ?_)
 refine yN 4000 1 _ ?_
 refine zN (zQ (zS ?_))
 refine yM ?_
 refine yP pL ?_
 refine yM ?_
 refine zN (zB ?_)
 refine AW.loopw (fun mm σ => ∃ i, ∃ z, ∃ (y : List Nat), (i ≤ vs.length ∧ z = (vs.take i).foldl (fun a b => (a + b) % 21888242871839275222246405745257275088548364400416034343698204186575808495617) 0) ∧ mm = vs.length - i ∧ σ = ⟨(upd (upd (upd (upd (upd emp 2 (.pointer (some ⟨3000, 0, none⟩))) 3 (.pointer (some ⟨4000, 0, none⟩))) 6 (.slice (some ⟨0, 0, none⟩) vs.length 0)) 7 (vi .i64 vs.length)) 8 (vi .i64 i)), (upd (upd (upd emp 0 ⟨((vs.map fel).flatten).map (vi .u64), false, 4⟩) 3000 ⟨(List.replicate 4 0).map (vi .u64), true, 1⟩) 4000 ⟨(fel z).map (vi .u64), true, 1⟩)⟩) (fm := []) (wk [0, 3000, 4000]) ⟨0, 0, [], ⟨Nat.zero_le _, rfl⟩, rfl, rfl⟩ ?_
 rintro mm σ ⟨i, z, y, ⟨hi0, hz⟩, rfl, rfl⟩
 have hdz := fel_len z
 have hdv := fel_len (vs.getD i 0)
 have hdz2 := fel_len ((z + vs.getD i 0) % 21888242871839275222246405745257275088548364400416034343698204186575808495617)
 refine zS ?_
 refine yP pLt ?_
 refine zN (zQ ?_)
 refine zA (fun hb0 => ?_) (fun hb0 => ?_)
 ·
  have hi : i < vs.length := by simpa using hb0
  refine zK (zT (zQ (zB (zS ?_))))
  refine yP (PureOp.idxN tbok (j := i) rfl rfl rfl rfl hi) ?_
  refine AWo.loadAgg tbok (vs := (fel (vs.getD i 0)).map (vi .u64)) rfl rfl rfl rfl (fsum_room hi) (fsum_at hi) rfl rfl ?_
  refine yN 6000 1 _ ?_
  refine ySA ?_
  refine zN (zR ?_)
  refine AWo.loadAgg tbok (vs := (fel z).map (vi .u64)) rfl rfl rfl rfl (by simp [fel_len]) (ld4 (fel_len _)) rfl rfl ?_
  refine AWo.loadAgg tbok (vs := (fel (vs.getD i 0)).map (vi .u64)) rfl rfl rfl rfl (by simp [fel_len]) (ld4 (fel_len _)) rfl rfl ?_
  refine yC (eaddP_ctr (u := z) (v := vs.getD i 0)) bd23 [] [] ?_
  refine ySA ?_
  refine zN (zL (zT (zR ?_)))
  refine yP (pAdd (b := 1)) ?_
  refine yM ?_
  refine zN (zT ?_)
  exact ⟨vs.length - (i + 1), [], _, by omega, wk [0, 3000, 4000], i + 1, (z + vs.getD i 0) % 21888242871839275222246405745257275088548364400416034343698204186575808495617, [], ⟨by omega, by rw [fsum_next hi, ← hz]⟩, rfl, rfl⟩
 ·
  have hi : i = vs.length := by simp at hb0; omega
  rw [hi, List.take_length] at hz
  rw [← hz]
  refine zX (zV (zV (zH (zT (zS ?_)))))
  refine AWo.loadAgg tbok (vs := (fel z).map (vi .u64)) rfl rfl rfl rfl (by simp [fel_len]) (ld4 (fel_len _)) rfl rfl ?_
  refine ySA ?_
  refine zN (zE ?_)
  exact rq [] [.cell 2 43]
set_option maxRecDepth 10000 in
theorem isT_ctr {v : Nat} (hv : v < 21888242871839275222246405745257275088548364400416034343698204186575808495617) : GC Tryd.prog 15 [.agg ((fel v).map (vi .u64)).toArray, .slice (some ⟨0, 0, none⟩) (D 4294967296 v).length 0] [⟨(D 4294967296 v).map (vi .u64), false, 1⟩] [.bool true] [⟨(D 4294967296 v).map (vi .u64), false, 1⟩] := by
 refine gi Tryd.func15 ?_
 have hd4 := fel_len v
 have hd7 := digs_len (B := 256) 32 v
 refine zS ?_
 refine yO 3000 1 ((fel v).map (vi .u64)) ?_
 refine yA ?_
 refine zN (zS ?_)
 refine AWo.loadAgg tbok (vs := (fel v).map (vi .u64)) rfl rfl rfl rfl (by simp [fel_len]) (ld4 (fel_len _)) rfl rfl ?_
 refine yC (ebytes_ctr hv) bd42 [] [] ?_
 refine yN 6000 1 ((List.replicate 32 0).map (vi .u8)) ?_
 refine ySA ?_
 refine zN ?_
 refine AW.seqD mixed ?_
 refine AWo.sliceA tbok (h := 32) rfl .none .none rfl rfl rfl rfl (by decide) (by decide) (.inl rfl) (by simp [digs_len]) rfl rfl rfl ?_
 refine AWo.bytesStr tbok (digs 256 32 v) rfl rfl (List.take_of_length_le (by simp [digs_len])) (digs_len _ _) rfl Tryd.underlying5 Tryd.underlying9 rfl rfl ?_
 refine yM ?_
 refine yC (bytes02_ctr (Nat.lt_trans hv (by decide))) bd43 [(0, 0)] [12000] ?_
 refine AWo.bytesStr tbok (digs 256 32 v) rfl rfl (List.take_of_length_le (by simp [digs_len])) (digs_len _ _) rfl Tryd.underlying5 Tryd.underlying9 rfl rfl ?_
 refine yP (PureOp.sameStr rfl rfl) ?_
 refine yA ?_
 refine zD (zE ?_)
 exact rq [] [.tmp 4]
end Go.Proofs.YteeifahhejangaaDoor
namespace Go.Proofs.YteeifahhejangaaDoor.Rg
variable {n : Nat} [NeZero n] {x y z u v w : Fin n}
theorem add_comm (x y : Fin n) : x + y = y + x := by grind
theorem mul_comm (x y : Fin n) : x * y = y * x := by grind
theorem mul_assoc (x y z : Fin n) : x * (y * z) = x * y * z := by grind
theorem mul_add (x y z : Fin n) : x * (y + z) = x * y + x * z := by grind
theorem mul_one (x : Fin n) : x * 1 = x := by grind
theorem one_mul (x : Fin n) : 1 * x = x := by grind
theorem sub_self (x : Fin n) : x - x = 0 := by grind
theorem zero_mul (x : Fin n) : 0 * x = 0 := by grind
theorem mul_zero (x : Fin n) : x * 0 = 0 := by grind
theorem add_zero (x : Fin n) : x + 0 = x := by grind
theorem zero_add (x : Fin n) : 0 + x = x := by grind
theorem add_assoc (x y z : Fin n) : x + y + z = x + (y + z) := by grind
end Go.Proofs.YteeifahhejangaaDoor.Rg
namespace Go.Proofs.YteeifahhejangaaDoor
open Go Sim
abbrev Fp := Fin 21888242871839275222246405745257275088548364400416034343698204186575808495617
def fe (x : Fp) : List Nat := fel x.val
def fp (v : Nat) : Fp := ⟨v % 21888242871839275222246405745257275088548364400416034343698204186575808495617, Nat.mod_lt _ (by decide)⟩
def fsumL (xs : List Fp) : Fp := xs.foldl (· + ·) 0
@[simp] theorem fe_len (x : Fp) : (fe x).length = 4 := fel_len _
theorem fe_inj {x y : Fp} (h : fe x = fe y) : x = y := Fin.ext (fel_inj x.isLt y.isLt h)
theorem fe_eq {x y : Fp} : fe x = fe y ↔ x = y := ⟨fe_inj, fun h => by rw [h]⟩
theorem fe_zero : fe 0 = List.replicate 4 0 := fel_zero
theorem addF_ctr {x y : Fp} : GC Tryd.prog 23 [.agg ((fe x).map (vi .u64)).toArray, .agg ((fe y).map (vi .u64)).toArray] [] [.agg ((fe (x + y)).map (vi .u64)).toArray] [] := eaddP_ctr (u := x.val) (v := y.val)
theorem subF_ctr {x y : Fp} : GC Tryd.prog 26 [.agg ((fe x).map (vi .u64)).toArray, .agg ((fe y).map (vi .u64)).toArray] [] [.agg ((fe (x - y)).map (vi .u64)).toArray] [] := by
  have h := esubP_ctr (u := x.val) (v := y.val) y.isLt
  rwa [Nat.add_comm x.val] at h
theorem mulF_ctr {x y : Fp} : GC Tryd.prog 25 [.agg ((fe x).map (vi .u64)).toArray, .agg ((fe y).map (vi .u64)).toArray] [] [.agg ((fe (x * y)).map (vi .u64)).toArray] [] := emulP_ctr (u := x.val) (v := y.val)
theorem equalF_ctr {x y : Fp} : GC Tryd.prog 24 [.agg ((fe x).map (vi .u64)).toArray, .agg ((fe y).map (vi .u64)).toArray] [] [.bool (decide (x = y))] [] := by
  have h := equal_ctr (a := fe x) (b := fe y) (fe_len x) (fe_len y)
  rwa [show decide (fe x = fe y) = decide (x = y) from decide_eq_decide.2 fe_eq] at h
theorem iszeroF_ctr {x : Fp} : GC Tryd.prog 35 [.agg ((fe x).map (vi .u64)).toArray] [] [.bool (decide (x = 0))] [] := by
  have h := iszero_ctr (a := fe x) (fe_len x)
  rwa [show decide (fe x = List.replicate 4 0) = decide (x = 0) from decide_eq_decide.2 (by rw [← fe_zero, fe_eq])] at h
theorem fromuF_ctr {v : Nat} (hv : v < 18446744073709551616) : GC Tryd.prog 22 [vi .u64 (v)] [] [.agg ((fe (fp v)).map (vi .u64)).toArray] [] := by
  have h := fromuP_ctr hv
  rwa [← fel_mod] at h
theorem fromwideF_ctr {b : List Nat} (hb : bd 256 b) (hlb : b.length ≤ 1000) : GC Tryd.prog 21 [.slice (some ⟨0, 0, none⟩) b.length 0] [⟨b.map (vi .u8), false, 1⟩] [.agg ((fe (fp (num 256 b))).map (vi .u64)).toArray] [⟨b.map (vi .u8), false, 1⟩] := fromwide_ctr hb hlb
theorem fsum_val : ∀ (xs : List Fp) (a : Fp), (xs.foldl (· + ·) a).val = (xs.map (·.val)).foldl (fun a b => (a + b) % 21888242871839275222246405745257275088548364400416034343698204186575808495617) a.val
  | [], _ => rfl
  | x :: xs, a => fsum_val xs (a + x)
theorem sumF_ctr {xs : List Fp} (hl : xs.length < 1000000000) : GC Tryd.prog 45 [.slice (some ⟨0, 0, none⟩) xs.length 0] [⟨((xs.map fe).flatten).map (vi .u64), false, 4⟩] [.agg ((fe (fsumL xs)).map (vi .u64)).toArray] [⟨((xs.map fe).flatten).map (vi .u64), false, 4⟩] := by
  have h := fsum_ctr (vs := xs.map (·.val)) (by simpa using hl)
  rw [List.map_map, List.length_map] at h
  have e := fsum_val xs 0
  rw [show ((0 : Fp)).val = 0 from rfl] at e
  rw [← e] at h
  exact h
theorem isF_ctr {x : Fp} : GC Tryd.prog 15 [.agg ((fe x).map (vi .u64)).toArray, .slice (some ⟨0, 0, none⟩) (D 4294967296 x.val).length 0] [⟨(D 4294967296 x.val).map (vi .u64), false, 1⟩] [.bool true] [⟨(D 4294967296 x.val).map (vi .u64), false, 1⟩] := isT_ctr x.isLt
theorem addR_ctr {x y : Fp} : GC Tryd.prog 39 [.slice (some ⟨0, 0, none⟩) (D 4294967296 x.val).length 0, .slice (some ⟨1, 0, none⟩) (D 4294967296 y.val).length 0] [⟨(D 4294967296 x.val).map (vi .u64), false, 1⟩, ⟨(D 4294967296 y.val).map (vi .u64), false, 1⟩] [.slice (some ⟨2, 0, none⟩) (D 4294967296 ((x + y).val)).length 0] [⟨(D 4294967296 x.val).map (vi .u64), false, 1⟩, ⟨(D 4294967296 y.val).map (vi .u64), false, 1⟩, ⟨(D 4294967296 ((x + y).val)).map (vi .u64), true, 1⟩] := add02_ctr (x := x.val) (y := y.val) x.isLt y.isLt
theorem subR_ctr {x y : Fp} : GC Tryd.prog 44 [.slice (some ⟨0, 0, none⟩) (D 4294967296 x.val).length 0, .slice (some ⟨1, 0, none⟩) (D 4294967296 y.val).length 0] [⟨(D 4294967296 x.val).map (vi .u64), false, 1⟩, ⟨(D 4294967296 y.val).map (vi .u64), false, 1⟩] [.slice (some ⟨2, 0, none⟩) (D 4294967296 ((x - y).val)).length 0] [⟨(D 4294967296 x.val).map (vi .u64), false, 1⟩, ⟨(D 4294967296 y.val).map (vi .u64), false, 1⟩, ⟨(D 4294967296 ((x - y).val)).map (vi .u64), true, 1⟩] := by
  have h := sub02_ctr (x := x.val) (y := y.val) x.isLt y.isLt
  rwa [Nat.add_comm x.val] at h
theorem mulR_ctr {x y : Fp} : GC Tryd.prog 40 [.slice (some ⟨0, 0, none⟩) (D 4294967296 x.val).length 0, .slice (some ⟨1, 0, none⟩) (D 4294967296 y.val).length 0] [⟨(D 4294967296 x.val).map (vi .u64), false, 1⟩, ⟨(D 4294967296 y.val).map (vi .u64), false, 1⟩] [.slice (some ⟨2, 0, none⟩) (D 4294967296 ((x * y).val)).length 0] [⟨(D 4294967296 x.val).map (vi .u64), false, 1⟩, ⟨(D 4294967296 y.val).map (vi .u64), false, 1⟩, ⟨(D 4294967296 ((x * y).val)).map (vi .u64), true, 1⟩] := mul02_ctr (x := x.val) (y := y.val) x.isLt y.isLt
theorem modR_ctr {v : Nat} (hl : (D 4294967296 v).length < 1000000) : GC Tryd.prog 36 [.slice (some ⟨0, 0, none⟩) (D 4294967296 v).length 0] [⟨(D 4294967296 v).map (vi .u64), false, 1⟩] [.slice (some ⟨1, 0, none⟩) (D 4294967296 ((fp v).val)).length 0] [⟨(D 4294967296 v).map (vi .u64), false, 1⟩, ⟨(D 4294967296 ((fp v).val)).map (vi .u64), true, 1⟩] := mod02_ctr hl
section
variable {ops : Array Oper} {n i : Nat} {os : List Oper} {E : Env} {M : Mem} {D : List Eff → Prop} {K : ASt → Prop}
  {d : Tmp} {ty : TypeId} {ps : String} {af : Array Edge} {g : Option (Nat × Bool)} {t : TypeId} {a : Operand}
theorem yLE {x : Fp} {id sz : Nat} {rw : Bool} {es : Nat} (hr : AWo Tryd.prog ops n (i + 1) os ⟨upd E d (.agg ((fe x).map (vi .u64)).toArray), M⟩ (fun es => D (⟨[id], []⟩ :: es)) K)
    (ha : aev E a = some (.pointer (some ⟨id, 0, none⟩)) := by exact rfl) (hb : M id = some ⟨(fe x).map (vi .u64), rw, es⟩ := by exact rfl)
    (ht : Tb.agg.lookup t = some true := by exact rfl) (hs : Tb.sz.lookup t = some sz := by exact rfl) (hl : 4 = sz := by exact rfl) (hw : wantA ops E ⟨some d, .load t a, ty, ps, af, g⟩ = some true := by exact rfl) (hd : Nat.blt d n = true := by exact rfl) :
    AWo Tryd.prog ops n i (⟨some d, .load t a, ty, ps, af, g⟩ :: os) ⟨E, M⟩ D K := AWo.loadAll tbok ha hb ht hs (by simpa using hl) hw hd hr
theorem yLEi {xs : List Fp} {id j sz : Nat} {rw : Bool} {es : Nat} (hr : AWo Tryd.prog ops n (i + 1) os ⟨upd E d (.agg ((fe (xs.getD j 0)).map (vi .u64)).toArray), M⟩ (fun es => D (⟨[id], []⟩ :: es)) K)
    (ha : aev E a = some (.pointer (some ⟨id, 0 + j * 4, none⟩)) := by exact rfl) (hb : M id = some ⟨((xs.map fe).flatten).map (vi .u64), rw, es⟩ := by exact rfl) (hj : j < xs.length := by first | decide | omega)
    (ht : Tb.agg.lookup t = some true := by exact rfl) (hs : Tb.sz.lookup t = some sz := by exact rfl) (hl : 4 = sz := by exact rfl) (hw : wantA ops E ⟨some d, .load t a, ty, ps, af, g⟩ = some true := by exact rfl) (hd : Nat.blt d n = true := by exact rfl) :
    AWo Tryd.prog ops n i (⟨some d, .load t a, ty, ps, af, g⟩ :: os) ⟨E, M⟩ D K := by
  subst hl
  have hlen : ∀ x ∈ xs.map fe, x.length = 4 := fun x hx => by obtain ⟨y, _, rfl⟩ := List.mem_map.1 hx; exact fe_len y
  refine AWo.loadAgg tbok (vs := (fe (xs.getD j 0)).map (vi .u64)) ha hb ht hs ?_ ?_ hw hd hr
  · rw [List.length_map, flat_len hlen, List.length_map]; omega
  · rw [Nat.zero_add, flat_take_map hlen (by rw [List.length_map]; exact hj)]
    congr 1
    rw [List.getD_eq_getElem?_getD, List.getElem?_map, List.getElem?_eq_getElem hj, List.getD_eq_getElem?_getD, List.getElem?_eq_getElem hj]
    rfl
end
end Go.Proofs.YteeifahhejangaaDoor
namespace Go.Proofs.YteeifahhejangaaDoor
open Go Sim
abbrev dd (v : Nat) : Value := deep (D 4294967296 v).length 1 ((D 4294967296 v).map (vi .u64))
abbrev dv (x : Fp) : Value := dd x.val
abbrev db (b : List Nat) : Value := deep b.length 1 (b.map (vi .u8))
theorem cloA {α : Type} {f : α → Value} {l : List α} (hf : ∀ x, flatV (f x) = true) : cloV (.agg (l.map f).toArray) = true := by
  simp only [cloV, List.all_eq_true]
  intro x hx
  obtain ⟨y, _, rfl⟩ := List.mem_map.1 (by simpa using hx)
  simp [clo1, hf y]
theorem addRd {x y : Fp} : GC Tryd.prog 39 [dv x, dv y] [] [dv (x + y)] [] := GC.deepen (addR_ctr (x := x) (y := y)) (.deep (.deep .nil)) (.new (Nat.le_refl _) rfl (by simp) (cloM fun _ => rfl) .nil)
theorem subRd {x y : Fp} : GC Tryd.prog 44 [dv x, dv y] [] [dv (x - y)] [] := GC.deepen (subR_ctr (x := x) (y := y)) (.deep (.deep .nil)) (.new (Nat.le_refl _) rfl (by simp) (cloM fun _ => rfl) .nil)
theorem mulRd {x y : Fp} : GC Tryd.prog 40 [dv x, dv y] [] [dv (x * y)] [] := GC.deepen (mulR_ctr (x := x) (y := y)) (.deep (.deep .nil)) (.new (Nat.le_refl _) rfl (by simp) (cloM fun _ => rfl) .nil)
theorem modRd {v : Nat} (hl : (D 4294967296 v).length < 1000000) : GC Tryd.prog 36 [dd v] [] [dv (fp v)] [] := GC.deepen (modR_ctr hl) (.deep .nil) (.new (Nat.le_refl _) rfl (by simp) (cloM fun _ => rfl) .nil)
theorem isFd {x : Fp} : GC Tryd.prog 15 [.agg ((fe x).map (vi .u64)).toArray, dv x] [] [.bool true] [] := GC.deepen (isF_ctr (x := x)) (.pure (cloA flat_vi) (.deep .nil)) (.pure rfl .nil)
theorem fromwideFd {b : List Nat} (hb : bd 256 b) (hlb : b.length ≤ 1000) : GC Tryd.prog 21 [db b] [] [.agg ((fe (fp (num 256 b))).map (vi .u64)).toArray] [] := GC.deepen (fromwideF_ctr hb hlb) (.deep .nil) (.pure (cloA flat_vi) .nil)
theorem ofbd {a : List Nat} (ha : bd 256 a) (hl : a.length < 100000000) : GC Tryd.prog 37 [db a] [] [dd (num 256 a)] [] := GC.deepen (ofb_ctr ha hl) (.deep .nil) (.new (Nat.le_refl _) rfl (by simp) (cloM fun _ => rfl) .nil)
end Go.Proofs.YteeifahhejangaaDoor
namespace Go.Proofs.YteeifahhejangaaDoor
open Go Sim
def blk (L : List (List Nat)) (c : Nat) : List Nat := L.getD (c % L.length) []
end Go.Proofs.YteeifahhejangaaDoor
namespace Go.Proofs.YteeifahhejangaaDoor
open Go Sim
theorem setL_eq : ∀ (vs cells : List Value) (o : Nat), o + vs.length ≤ cells.length → setL cells o vs = cells.take o ++ vs ++ cells.drop (o + vs.length) := by
 intro vs
 induction vs with
 | nil => intro cells o _; simp [setL]
 | cons v vs ih =>
  intro cells o h
  simp only [List.length_cons] at h
  simp only [setL]
  rw [ih (cells.set o v) (o + 1) (by simp; omega), List.drop_set_of_lt (by omega)]
  have h1 : (cells.set o v).take (o + 1) = cells.take o ++ [v] := by
   rw [List.take_add_one, List.take_set_of_le (by omega), List.getElem?_set_self (by omega)]
   rfl
  rw [h1]
  simp [Nat.add_assoc, Nat.add_comm 1]
theorem fillB1 {b : List Nat} {c : Value} {k : IntKind} {n : Nat} (h : b.length = n) : fillL (fun i => some (i * n, n)) (List.replicate (1 * n) c) [(0, .agg (b.map (vi k)).toArray)] = some ([b].flatten.map (vi k)) := by
 simp only [fillL]
 rw [if_neg (by simp [Value.cells, h])]
 simp only [Value.cells]
 rw [setL_eq _ _ _ (by simp [h])]
 simp [h]
end Go.Proofs.YteeifahhejangaaDoor
namespace Go.Proofs.YteeifahhejangaaDoor
open Go Sim
attribute [local simp] digs_len
def bstr (xs : List Fp) (i : Nat) : Nat := (digs 256 32 (xs.getD (i / 31 % xs.length) 0).val).getD (i % 31) 0
def bts (xs : List Fp) (n : Nat) : List Nat := (List.range n).map (bstr xs)
@[simp] theorem bts_len (xs : List Fp) (n : Nat) : (bts xs n).length = n := by simp [bts]
theorem bts_step {xs : List Fp} {k n : Nat} (h : 31 * k < n) : bts xs (min (31 * k) n) ++ (digs 256 32 (xs.getD (k % xs.length) 0).val).take (min 31 (n - min (31 * k) n)) = bts xs (min (31 * (k + 1)) n) := by
  have h1 : min (31 * k) n = 31 * k := by omega
  rw [h1]
  obtain ⟨m, hm⟩ : ∃ m, m = min 31 (n - 31 * k) := ⟨_, rfl⟩
  rw [← hm, show min (31 * (k + 1)) n = 31 * k + m by omega]
  apply List.ext_getElem?
  intro i
  have hl : ((digs 256 32 (xs.getD (k % xs.length) 0).val).take m).length = m := by rw [List.length_take, digs_len]; omega
  rcases Nat.lt_or_ge i (31 * k) with hi | hi
  · rw [List.getElem?_append_left (by simpa using hi)]
    simp only [bts, List.getElem?_map, List.getElem?_range hi, List.getElem?_range (show i < 31 * k + m by omega)]
  · rw [List.getElem?_append_right (by simpa using hi), bts_len]
    rcases Nat.lt_or_ge i (31 * k + m) with hj | hj
    · simp only [bts, List.getElem?_map, List.getElem?_range hj, Option.map_some, bstr]
      rw [List.getElem?_take, if_pos (by omega), List.getElem?_eq_getElem (by rw [digs_len]; omega), show i / 31 = k by omega, show i % 31 = i - 31 * k by omega, List.getD_eq_getElem?_getD (i := i - 31 * k), List.getElem?_eq_getElem (by rw [digs_len]; omega)]
      rfl
    · rw [List.getElem?_eq_none (by omega), List.getElem?_eq_none (by simpa using hj)]
end Go.Proofs.YteeifahhejangaaDoor
namespace Go.Proofs.YteeifahhejangaaDoor
open Go Sim
theorem fe_flat (xs : List Fp) : ((xs.map fe).flatten).length = xs.length * 4 := by
 have := flat_len (L := xs.map fe) (n := 4) (fun x hx => by obtain ⟨y, _, rfl⟩ := List.mem_map.1 hx; exact fe_len y)
 rwa [List.length_map] at this
end Go.Proofs.YteeifahhejangaaDoor
namespace Go.Proofs.YteeifahhejangaaDoor
open Go Sim
theorem sumN_ctr {xs : List Fp} {n : Nat} {s : Fp} (hn : xs.length = n) (hl : n < 1000000000) (hs : fsumL xs = s) : GC Tryd.prog 45 [.slice (some ⟨0, 0, none⟩) n 0] [⟨((xs.map fe).flatten).map (vi .u64), false, 4⟩] [.agg ((fe s).map (vi .u64)).toArray] [⟨((xs.map fe).flatten).map (vi .u64), false, 4⟩] := by
 subst hn hs; exact sumF_ctr hl
theorem fsumL_from (xs : List Fp) : ∀ a : Fp, xs.foldl (· + ·) a = a + fsumL xs := by
 induction xs with
 | nil => intro a; exact (Rg.add_zero a).symm
 | cons x xs ih =>
  intro a
  rw [List.foldl_cons, ih, show fsumL (x :: xs) = (0 + x) + fsumL xs from ih (0 + x), Rg.zero_add, Rg.add_assoc]
theorem fsumL_app (xs ys : List Fp) : fsumL (xs ++ ys) = fsumL xs + fsumL ys := by
 rw [fsumL, List.foldl_append, fsumL_from ys]; rfl
end Go.Proofs.YteeifahhejangaaDoor
namespace Go.Proofs.YteeifahhejangaaDoor
open Go Sim
abbrev FF (xs : List Fp) : List Value := ((xs.map fe).flatten).map (vi .u64)
theorem FF_len (xs : List Fp) : (FF xs).length = xs.length * 4 := by rw [List.length_map, fe_flat]
theorem FF_app (xs ys : List Fp) : FF (xs ++ ys) = FF xs ++ FF ys := by simp
theorem FF_cons (x : Fp) (xs : List Fp) : FF (x :: xs) = (fe x).map (vi .u64) ++ FF xs := by simp
theorem FF_drop (xs : List Fp) (j : Nat) : (FF xs).drop (j * 4) = FF (xs.drop j) := by
  by_cases h : j ≤ xs.length
  · have e : FF xs = FF (xs.take j) ++ FF (xs.drop j) := by rw [← FF_app, List.take_append_drop]
    have hl : (FF (xs.take j)).length = j * 4 := by rw [FF_len, List.length_take, Nat.min_eq_left h]
    rw [e, ← hl, List.drop_left]
  · rw [List.drop_eq_nil_of_le (by rw [FF_len]; omega), List.drop_eq_nil_of_le (by omega)]; rfl
theorem FF_take (xs : List Fp) (j : Nat) : (FF xs).take (j * 4) = FF (xs.take j) := by
  by_cases h : j ≤ xs.length
  · have e : FF xs = FF (xs.take j) ++ FF (xs.drop j) := by rw [← FF_app, List.take_append_drop]
    have hl : (FF (xs.take j)).length = j * 4 := by rw [FF_len, List.length_take, Nat.min_eq_left h]
    rw [e, ← hl, List.take_left]
  · rw [List.take_of_length_le (by rw [FF_len]; omega), List.take_of_length_le (by omega)]
theorem setL_app : ∀ (a b c : List Value) (o : Nat), setL c o (a ++ b) = setL (setL c o a) (o + a.length) b
  | [], b, c, o => rfl
  | v :: a, b, c, o => by
    show setL (c.set o v) (o + 1) (a ++ b) = setL (setL (c.set o v) (o + 1) a) (o + (a.length + 1)) b
    rw [setL_app a b, show o + 1 + a.length = o + (a.length + 1) by omega]
theorem setL_FF {xs : List Fp} {j : Nat} {x : Fp} (h : j < xs.length) : setL (FF xs) (j * 4) ((fe x).map (vi .u64)) = FF (xs.set j x) := by
  rw [setL_eq _ _ _ (by rw [List.length_map, fe_len, FF_len]; omega), List.length_map, fe_len, show j * 4 + 4 = (j + 1) * 4 by omega, FF_drop, FF_take, List.set_eq_take_append_cons_drop, if_pos h, FF_app, FF_cons, List.append_assoc]
def setE (xs : List Fp) (j : Nat) : List Fp → List Fp
  | [] => xs
  | v :: vs => setE (xs.set j v) (j + 1) vs
theorem setE_len : ∀ (vs xs : List Fp) (j : Nat), (setE xs j vs).length = xs.length
  | [], _, _ => rfl
  | v :: vs, xs, j => by rw [setE, setE_len vs, List.length_set]
theorem setL_FFs : ∀ (vs xs : List Fp) (j : Nat), j + vs.length ≤ xs.length → setL (FF xs) (j * 4) (FF vs) = FF (setE xs j vs)
  | [], _, _, _ => rfl
  | v :: vs, xs, j, h => by
    simp only [List.length_cons] at h
    rw [FF_cons, setL_app, setL_FF (by omega), List.length_map, fe_len, show j * 4 + 4 = (j + 1) * 4 by omega, setL_FFs vs _ _ (by rw [List.length_set]; omega)]
    rfl
theorem setL_at {A vs : List Value} {c : Value} {k : Nat} : setL (A ++ List.replicate (vs.length + k) c) A.length vs = (A ++ vs) ++ List.replicate k c := by
  rw [setL_eq _ _ _ (by simp), List.take_left, List.drop_append, List.drop_of_length_le (by omega), List.nil_append, List.drop_replicate, show vs.length + k - (A.length + vs.length - A.length) = k by omega]
theorem fill4 {c : Value} {x : Fp} {A : List Value} {i k n : Nat} {vals : List (Nat × Value)} {out : List Value} (hA : A.length = i * 4) (hk : n = 4 + k) (h : fillL (fun i => some (i * 4, 4)) ((A ++ (fe x).map (vi .u64)) ++ List.replicate k c) vals = some out) :
    fillL (fun i => some (i * 4, 4)) (A ++ List.replicate n c) ((i, .agg ((fe x).map (vi .u64)).toArray) :: vals) = some out := by
  subst hk
  simp only [fillL]
  have hl : ((fe x).map (vi .u64)).length = 4 := by rw [List.length_map, fe_len]
  rw [if_neg (by
    simp only [Value.cells, List.size_toArray, hl, List.length_append, List.length_replicate, hA]
    intro hh
    rcases hh with hh | hh <;> omega)]
  have := setL_at (A := A) (vs := (fe x).map (vi .u64)) (c := c) (k := k)
  rw [hl, hA] at this
  simp only [Value.cells]
  rw [this]; exact h
theorem zeroFF (n : Nat) : FF (List.replicate n 0) = List.replicate (n * 4) (vi .u64 0) := by
  induction n with
  | zero => rfl
  | succ n ih => rw [List.replicate_succ, FF_cons, ih, fe_zero, List.map_replicate, List.replicate_append_replicate, show 4 + n * 4 = (n + 1) * 4 by omega]
theorem ptr_off {E : Env} {a : Operand} {id o o' : Nat} (h : aev E a = some (.pointer (some ⟨id, o, none⟩))) (e : o = o') : aev E a = some (.pointer (some ⟨id, o', none⟩)) := e ▸ h
section
variable {ops : Array Oper} {n i : Nat} {os : List Oper} {E : Env} {M : Mem} {D : List Eff → Prop} {K : ASt → Prop}
  {d : Tmp} {ty : TypeId} {ps : String} {af : Array Edge} {g : Option (Nat × Bool)} {t : TypeId} {a x : Operand}
theorem yLJ {xs : List Fp} {id sz o : Nat} {rw : Bool} {es : Nat} (j : Nat) (hr : AWo Tryd.prog ops n (i + 1) os ⟨upd E d (.agg ((fe (xs.getD j 0)).map (vi .u64)).toArray), M⟩ (fun es => D (⟨[id], []⟩ :: es)) K)
        (ha : aev E a = some (.pointer (some ⟨id, o, none⟩)) := by exact rfl) (hb : M id = some ⟨((xs.map fe).flatten).map (vi .u64), rw, es⟩ := by exact rfl)
    (ht : Tb.agg.lookup t = some true := by exact rfl) (hs : Tb.sz.lookup t = some sz := by exact rfl) (hl : 4 = sz := by exact rfl) (hw : wantA ops E ⟨some d, .load t a, ty, ps, af, g⟩ = some true := by exact rfl) (hd : Nat.blt d n = true := by exact rfl) (hj : j < xs.length := by first | decide | omega | (simp only [List.length_cons, List.length_nil]; omega)) (ho : o = j * 4 := by omega) :
    AWo Tryd.prog ops n i (⟨some d, .load t a, ty, ps, af, g⟩ :: os) ⟨E, M⟩ D K :=
  yLEi (xs := xs) (j := j) hr (ptr_off ha (by omega)) hb hj ht hs hl hw hd
theorem ySE {xs vs : List Fp} {id o sz es : Nat} (j : Nat) (hr' : AWo Tryd.prog ops n (i + 1) os ⟨E, upd M id ⟨(((setE xs j vs).map fe).flatten).map (vi .u64), true, es⟩⟩ (fun es' => D (⟨[id], [(id, ⟨(((setE xs j vs).map fe).flatten).map (vi .u64), true, es⟩)]⟩ :: es')) K)
        (ha : aev E a = some (.pointer (some ⟨id, o, none⟩)) := by exact rfl) (hx : aev E x = some (.agg (((vs.map fe).flatten).map (vi .u64)).toArray) := by exact rfl) (hb : M id = some ⟨((xs.map fe).flatten).map (vi .u64), true, es⟩ := by exact rfl)
    (hs : Tb.sz.lookup t = some sz := by exact rfl) (hl : vs.length * 4 = sz := by exact rfl) (hw : wantA ops E ⟨none, .store t a x, ty, ps, af, g⟩ = some true := by exact rfl) (hj : j + vs.length ≤ xs.length := by first | decide | omega | (simp only [List.length_cons, List.length_nil, List.length_replicate, List.length_set, setE_len]; omega)) (ho : o = j * 4 := by omega) :
    AWo Tryd.prog ops n i (⟨none, .store t a x, ty, ps, af, g⟩ :: os) ⟨E, M⟩ D K := by
  subst ho
  have hl2 : (FF vs).length = sz := by rw [FF_len]; exact hl
  refine AWo.store tbok ha hx hb rfl (by show Tb.sz.lookup t = some (FF vs).toArray.size; rw [List.size_toArray, hl2]; exact hs) ?_ (by show (FF vs).all _ = true; exact oneM (fun _ => rfl) _) (setL_FFs vs xs j hj) hw hr'
  show j * 4 + (FF vs).toArray.size ≤ (FF xs).length
  rw [List.size_toArray, FF_len, FF_len]; omega
theorem ySJ {xs : List Fp} {y : Fp} {id o sz es : Nat} (j : Nat) (hr' : AWo Tryd.prog ops n (i + 1) os ⟨E, upd M id ⟨(((xs.set j y).map fe).flatten).map (vi .u64), true, es⟩⟩ (fun es' => D (⟨[id], [(id, ⟨(((xs.set j y).map fe).flatten).map (vi .u64), true, es⟩)]⟩ :: es')) K)
        (ha : aev E a = some (.pointer (some ⟨id, o, none⟩)) := by exact rfl) (hx : aev E x = some (.agg ((fe y).map (vi .u64)).toArray) := by exact rfl) (hb : M id = some ⟨((xs.map fe).flatten).map (vi .u64), true, es⟩ := by exact rfl)
    (hs : Tb.sz.lookup t = some sz := by exact rfl) (hl : 4 = sz := by exact rfl) (hw : wantA ops E ⟨none, .store t a x, ty, ps, af, g⟩ = some true := by exact rfl) (hj : j < xs.length := by first | decide | omega | (simp only [List.length_cons, List.length_nil, List.length_replicate, List.length_set, setE_len]; omega)) (ho : o = j * 4 := by omega) :
    AWo Tryd.prog ops n i (⟨none, .store t a x, ty, ps, af, g⟩ :: os) ⟨E, M⟩ D K :=
  ySE (vs := [y]) j hr' ha (by rw [hx]; simp) hb hs hl hw (by simp only [List.length_cons, List.length_nil]; omega) ho
end
end Go.Proofs.YteeifahhejangaaDoor
namespace Go.Proofs.YteeifahhejangaaDoor
open Go Sim Go.RowKit
theorem Sim.Rep.sub {C : Ctx} {ρ : Rho} {E E' : Env} {M : Mem} {a : Act} {w : World} (h : Rep C ρ ⟨E, M⟩ a w) (hE : ∀ t v, E' t = some v → E t = some v) : Rep C ρ ⟨E', M⟩ a w :=
  ⟨h.size, h.defers, fun t v ht => h.env t v (hE t v ht), h.mem, h.agree, h.low, h.own, h.frame, h.im, h.imsub, h.imnew, h.gl⟩
end Go.Proofs.YteeifahhejangaaDoor
namespace Go.Proofs.YteeifahhejangaaDoor
open Go Sim
def hiN (xs : List Fp) : Nat → Nat
  | 0 => 0
  | n + 1 => if xs.getD n 0 = 0 then hiN xs n else n + 1
end Go.Proofs.YteeifahhejangaaDoor
namespace Go.Proofs.YteeifahhejangaaDoor.Po
variable {n : Nat} [NeZero n]
def co (p : List (Fin n)) (i : Nat) : Fin n := p.getD i 0
def ev (x : Fin n) : List (Fin n) → Fin n
  | [] => 0
  | a :: p => ev x p * x + a
theorem co_lt {p : List (Fin n)} {i : Nat} (h : i < p.length) : co p i = p[i] := by simp [co, List.getD_eq_getElem?_getD, h]
theorem ext {p q : List (Fin n)} (hl : p.length = q.length) (h : ∀ i, co p i = co q i) : p = q :=
  List.ext_getElem hl fun i h1 h2 => by rw [← co_lt h1, ← co_lt h2, h]
def ps (c : Fin n) (p : List (Fin n)) : List (Fin n) := p.map (· * c)
theorem ring9 (t : Fin n) (b : Fin n) : 0 * t + b = b := by grind
end Go.Proofs.YteeifahhejangaaDoor.Po
namespace Go.Proofs.YteeifahhejangaaDoor
open Go Sim
theorem few_step {Ls : List (List Nat)} {i : Nat} (hi : i < Ls.length) (hs : ∀ b ∈ Ls.take i, b.length ≤ 40) (hle : (Ls.getD i []).length ≤ 40) : ∀ b ∈ Ls.take (i + 1), b.length ≤ 40 := by
  intro b hb
  rw [List.take_add_one, List.mem_append] at hb
  rcases hb with hb | hb
  · exact hs b hb
  · rw [List.getElem?_eq_getElem hi] at hb
    rw [List.getD_eq_getElem?_getD, List.getElem?_eq_getElem hi] at hle
    obtain rfl : b = Ls[i] := by simpa using hb
    exact hle
end Go.Proofs.YteeifahhejangaaDoor
namespace Go.Proofs.YteeifahhejangaaDoor
open Go Sim
theorem fillB2 {c : Value} {x y : Fp} : fillL (fun i => some (i * 4, 4)) (List.replicate (2 * 4) c) [(0, .agg ((fe x).map (vi .u64)).toArray), (1, .agg ((fe y).map (vi .u64)).toArray)] = some (FF [x, y]) := by
  have hl : ∀ x : Fp, ((fe x).map (vi .u64)).length = 4 := fun x => by rw [List.length_map, fe_len]
  refine fill4 (A := []) (k := 4) rfl rfl (fill4 (k := 0) (by simp [hl]) rfl ?_)
  simp [fillL]
theorem AWd.ghost {P : Program} {n m : Nat} {c : Code} {E : Env} {M : Mem} {Q : Exit → ASt → Prop} {z : Bool} {id es : Nat} (hid : M id = none) (h : AWd z P n m c ⟨E, Sim.upd M id ⟨[], true, es⟩⟩ Q) : AWd z P n m c ⟨E, M⟩ Q :=
  fun C hn hm ds _ a w hz hst hR => let ⟨ρ', hR'⟩ := hR.2.ghost es hid; h C hn hm ds ρ' a w hz hst ⟨hR.1, hR'⟩
end Go.Proofs.YteeifahhejangaaDoor
namespace Go.Proofs.YteeifahhejangaaDoor
open Go Sim
def nb (b : List Nat) : Fp := fp (num 256 b)
theorem nb_step {Ls : List (List Nat)} {i : Nat} (h : i < Ls.length) : (Ls.take i).map nb ++ [nb (Ls.getD i [])] = (Ls.take (i + 1)).map nb := by
  rw [List.take_succ_eq_append_getElem h, List.map_append, List.getD_eq_getElem?_getD, List.getElem?_eq_getElem h]; rfl
def fewB (Ls : List (List Nat)) (most : Nat) : Bool := (Ls.all fun b => decide (b.length ≤ 40)) && decide (Ls.length ≤ most)
theorem fewB_ok {Ls : List (List Nat)} {most : Nat} (h : ∀ b ∈ Ls, b.length ≤ 40) : fewB Ls most = decide (Ls.length ≤ most) := by
  rw [fewB, List.all_eq_true.2 fun b hb => decide_eq_true (h b hb), Bool.true_and]
theorem fewB_bad {Ls : List (List Nat)} {most i : Nat} (hi : i < Ls.length) (h : 40 < (Ls.getD i []).length) : fewB Ls most = false := by
  have : (Ls.all fun b => decide (b.length ≤ 40)) = false := by
    rw [← Bool.not_eq_true, List.all_eq_true]
    intro hh
    have h2 := of_decide_eq_true (hh (Ls.getD i []) (by rw [List.getD_eq_getElem?_getD, List.getElem?_eq_getElem hi]; exact List.getElem_mem _))
    omega
  rw [fewB, this, Bool.false_and]
theorem fewB_get {Ls : List (List Nat)} {most : Nat} (h : fewB Ls most = true) : (∀ b ∈ Ls, b.length ≤ 40) ∧ Ls.length ≤ most := by
  rw [fewB, Bool.and_eq_true, List.all_eq_true] at h
  exact ⟨fun b hb => of_decide_eq_true (h.1 b hb), of_decide_eq_true h.2⟩
theorem ofb_short {b : List Nat} (h : bd 256 b) (hl : b.length ≤ 40) : (D 4294967296 (num 256 b)).length < 1000000 := by
  have h1 : num 256 b < 256 ^ 40 := Nat.lt_of_lt_of_le (num_lt h) (Nat.pow_le_pow_right (by decide) hl)
  have h2 := (D_len_le (B := 4294967296) (by decide) (num 256 b) 10).2 (Nat.lt_of_lt_of_le h1 (by decide))
  omega
theorem few22_ctr {Ls : List (List Nat)} {most : Nat} (hl : Ls.length ≤ 9223372036854775807) (hm : most < 100000000) : GC Tryd.prog 8 [.slice (some ⟨0, 0, none⟩) Ls.length 0, vi .i64 (most)] [⟨Ls.map (db), false, 1⟩] [.bool (fewB Ls most)] [⟨Ls.map (db), false, 1⟩] := by
  refine GC.intro Tryd.func8 rfl (by show 2 ≤ 21; decide) (by first | exact Nat.le_refl _ | decide | simp) ?_
  refine AW.seqR ?_
  refine AWo.pure (PureOp.assign rfl) rfl rfl ?_
  refine AWo.nil trivial ?_
  refine AW.seq ?_
  refine AW.seqR ?_
  refine AWo.pure (PureOp.move rfl) rfl rfl ?_
  first | refine AWo.pure (PureOp.lenS tbok rfl rfl) rfl rfl ?_ | refine AWo.pure (PureOp.lenD tbok rfl rfl) rfl rfl ?_
  refine AWo.pure (PureOp.move rfl) rfl rfl ?_
  refine AWo.nil trivial ?_
  refine AW.block ?_
  refine AW.loopw (fun mm σ => ∃ i, (i ≤ Ls.length ∧ ∀ b ∈ Ls.take i, b.length ≤ 40) ∧ mm = Ls.length - i ∧ σ = ⟨(upd (upd (upd (upd (upd emp 0 (.slice (some ⟨0, 0, none⟩) Ls.length 0)) 1 (vi .i64 most)) 7 (.slice (some ⟨0, 0, none⟩) Ls.length 0)) 8 (vi .i64 Ls.length)) 9 (vi .i64 i)), (upd emp 0 ⟨Ls.map db, false, 1⟩)⟩) (fm := []) ?_ ⟨0, ⟨Nat.zero_le _, fun b hb => by simp at hb⟩, rfl, rfl⟩ ?_
  ·
    refine Wk.of [0] ?_ ?_ ?_ (by decide) rfl
    ·
      refine WkE.upd rfl (by first | exact VR.flat _ rfl | exact VR.eqv (vp_succ _) rfl | exact VR.eqv (vp_succ _).symm rfl | exact VR.eqv (by first | rfl | (congr 1; omega) | (simp; done) | (simp; omega)) rfl) ?_
      refine WkE.upd rfl (by first | exact VR.flat _ rfl | exact VR.eqv (vp_succ _) rfl | exact VR.eqv (vp_succ _).symm rfl | exact VR.eqv (by first | rfl | (congr 1; omega) | (simp; done) | (simp; omega)) rfl) ?_
      refine WkE.upd rfl (.slice (0) 0 _ 0 ⟨_, rfl⟩ (by simp) (by simp)) ?_
      refine WkE.upd rfl (by first | exact VR.flat _ rfl | exact VR.eqv (vp_succ _) rfl | exact VR.eqv (vp_succ _).symm rfl | exact VR.eqv (by first | rfl | (congr 1; omega) | (simp; done) | (simp; omega)) rfl) ?_
      refine WkE.upd rfl (.slice (0) 0 _ 0 ⟨_, rfl⟩ (by simp) (by simp)) ?_
      exact WkE.emp
    ·
      refine WkM.cloM rfl rfl (fun _ => rfl) (fun h => h) ?_
      exact WkM.emp
    ·
      repeat (refine dom_upd_mem (by decide) ?_)
      exact dom_emp
  ·
    rintro mm σ ⟨i, ⟨hi0, hs⟩, rfl, rfl⟩
    refine AW.seqR ?_
    first | refine AWo.pure (PureOp.ltN rfl rfl) rfl rfl ?_ | refine AWo.pure (PureOp.bin rfl rfl rfl) rfl rfl ?_
    refine AWo.nil trivial ?_
    refine AW.seq ?_
    refine AW.cond rfl (fun hb0 => ?_) (fun hb0 => ?_)
    ·
      have hi : i < Ls.length := by simpa using hb0
      refine AW.skip ?_
      refine thenA_normal ?_
      refine AW.seq ?_
      refine AW.block ?_
      refine AW.seqR ?_
      refine AWo.pure (PureOp.idx1 tbok (j := i) rfl rfl rfl rfl hi) rfl rfl ?_
      refine AWo.loadM tbok (f := db) [] rfl rfl rfl hi rfl rfl ?_
      refine AWo.pure (PureOp.assign rfl) rfl rfl ?_
      refine AWo.nil trivial ?_
      refine AW.seqR ?_
      refine AWo.pure (PureOp.move rfl) rfl rfl ?_
      first | refine AWo.pure (PureOp.lenS tbok rfl rfl) rfl rfl ?_ | refine AWo.pure (PureOp.lenD tbok rfl rfl) rfl rfl ?_
      first | refine AWo.pure (PureOp.gtN (b := 40) rfl rfl) rfl rfl ?_ | refine AWo.pure (PureOp.bin rfl rfl rfl) rfl rfl ?_
      refine AWo.nil trivial ?_
      refine AW.cond rfl (fun hb1 => ?_) (fun hb1 => ?_)
      ·
        have hgt : 40 < (Ls.getD i []).length := by simpa using hb1
        rw [fewB_bad hi hgt]
        refine AW.seqR ?_
        refine AWo.pure (PureOp.assign rfl) rfl rfl ?_
        refine AWo.nil trivial ?_
        refine AW.ret ?_
        refine inBlockA_ret ?_
        refine thenA_ret ?_
        refine thenA_ret ?_
        refine inBlockA_ret ?_
        refine thenA_ret ?_
        refine RetQ.gc [_] [] [.tmp 4] (.inl rfl) rfl (.tmp rfl .nil) rfl (.cons rfl rfl .nil) (OutL.clo rfl (cloM fun _ => rfl) (by intro h; first | rfl | exact h.elim id fun h => absurd h.1 (by simp)) trivial) (by decide) rfl
      ·
        have hle : (Ls.getD i []).length ≤ 40 := by simpa using hb1
        refine AW.skip ?_
        refine inBlockA_normal ?_
        refine thenA_normal ?_
        refine AW.region ?_
        first | refine AWo.pure (PureOp.addI (b := 1) rfl rfl (by first | decide | omega)) rfl rfl ?_ | refine AWo.pure (PureOp.bin rfl rfl rfl) rfl rfl ?_
        refine AWo.pure (PureOp.move rfl) rfl rfl ?_
        refine AWo.nil trivial ?_
        refine thenA_normal ?_
        refine ⟨Ls.length - (i + 1), [], _, by omega, ?_, i + 1, ⟨by omega, few_step hi hs hle⟩, rfl, rfl⟩
        refine Wk.of [0] ?_ ?_ ?_ (by decide) rfl
        ·
          refine WkE.upd rfl (by first | exact VR.flat _ rfl | exact VR.eqv (vp_succ _) rfl | exact VR.eqv (vp_succ _).symm rfl | exact VR.eqv (by first | rfl | (congr 1; omega) | (simp; done) | (simp; omega)) rfl) ?_
          refine WkE.upd rfl (by first | exact VR.flat _ rfl | exact VR.eqv (vp_succ _) rfl | exact VR.eqv (vp_succ _).symm rfl | exact VR.eqv (by first | rfl | (congr 1; omega) | (simp; done) | (simp; omega)) rfl) ?_
          refine WkE.upd rfl (.slice (0) 0 _ 0 ⟨_, rfl⟩ (by simp) (by simp)) ?_
          refine WkE.upd rfl (by first | exact VR.flat _ rfl | exact VR.eqv (vp_succ _) rfl | exact VR.eqv (vp_succ _).symm rfl | exact VR.eqv (by first | rfl | (congr 1; omega) | (simp; done) | (simp; omega)) rfl) ?_
          refine WkE.upd rfl (.slice (0) 0 _ 0 ⟨_, rfl⟩ (by simp) (by simp)) ?_
          exact WkE.emp
        ·
          refine WkM.cloM rfl rfl (fun _ => rfl) (fun h => h) ?_
          exact WkM.emp
        ·
          repeat (refine dom_upd_mem (by decide) ?_)
          exact dom_emp
    ·
      obtain rfl : i = Ls.length := by simp at hb0; omega
      rw [List.take_length] at hs
      rw [fewB_ok hs]
      refine AW.exit ?_
      refine thenA_exit ?_
      refine thenA_exit ?_
      refine inBlockA_hit ?_
      refine thenA_normal ?_
      refine AW.seqR ?_
      refine AWo.pure (PureOp.move rfl) rfl rfl ?_
      first | refine AWo.pure (PureOp.lenS tbok rfl rfl) rfl rfl ?_ | refine AWo.pure (PureOp.lenD tbok rfl rfl) rfl rfl ?_
      refine AWo.pure (PureOp.move rfl) rfl rfl ?_
      first | refine AWo.pure (PureOp.leN rfl rfl) rfl rfl ?_ | refine AWo.pure (PureOp.bin rfl rfl rfl) rfl rfl ?_
      refine AWo.pure (PureOp.assign rfl) rfl rfl ?_
      refine AWo.nil trivial ?_
      refine AW.ret ?_
      refine RetQ.gc [_] [] [.tmp 4] (.inl rfl) rfl (.tmp rfl .nil) rfl (.cons rfl rfl .nil) (OutL.clo rfl (cloM fun _ => rfl) (by intro h; first | rfl | exact h.elim id fun h => absurd h.1 (by simp)) trivial) (by decide) rfl
theorem of22_ctr {Ls : List (List Nat)} (hB : ∀ b ∈ Ls, bd 256 b) (hS : ∀ b ∈ Ls, b.length ≤ 40) (hl : Ls.length < 1000000) : GC Tryd.prog 10 [.slice (some ⟨0, 0, none⟩) Ls.length 0] [⟨Ls.map (db), false, 1⟩] [.slice (some ⟨1, 0, none⟩) Ls.length 0, .slice (some ⟨2, 0, none⟩) Ls.length 0] [⟨Ls.map (db), false, 1⟩, ⟨(((Ls.map nb).map fe).flatten).map (vi .u64), true, 4⟩, ⟨(Ls.map nb).map dv, true, 1⟩] := by
  refine GC.intro Tryd.func10 rfl (by show 1 ≤ 29; decide) (by first | exact Nat.le_refl _ | decide | simp) ?_
  refine AW.seqR ?_
  refine AWo.pure (PureOp.assign rfl) rfl rfl ?_
  refine AWo.pure (PureOp.assign rfl) rfl rfl ?_
  refine AWo.nil trivial ?_
  refine AW.seqR ?_
  refine AWo.pure (PureOp.assign rfl) rfl rfl ?_
  refine AWo.nil trivial ?_
  refine AW.seqR ?_
  refine AWo.buildSlice tbok 9000 [] (out := []) rfl rfl (by decide) rfl rfl rfl (by decide) rfl rfl rfl rfl rfl ?_
  refine AWo.pure (PureOp.assign rfl) rfl rfl ?_
  refine AWo.nil trivial ?_
  refine AW.seq ?_
  refine AW.seqR ?_
  refine AWo.pure (PureOp.move rfl) rfl rfl ?_
  first | refine AWo.pure (PureOp.lenS tbok rfl rfl) rfl rfl ?_ | refine AWo.pure (PureOp.lenD tbok rfl rfl) rfl rfl ?_
  refine AWo.pure (PureOp.move rfl) rfl rfl ?_
  refine AWo.nil trivial ?_
  refine AW.block ?_
  refine AW.ghost 77000 4 rfl ?_
  refine AW.loopw (fun mm σ => ∃ i, (i ≤ Ls.length) ∧ mm = Ls.length - i ∧ σ = ⟨(upd (upd (upd (upd (upd emp 4 (.slice (some ⟨77000, 0, none⟩) i 0)) 5 (.slice (some ⟨77001, 0, none⟩) i 0)) 9 (.slice (some ⟨0, 0, none⟩) Ls.length 0)) 10 (vi .i64 Ls.length)) 11 (vi .i64 i)), (upd (upd (upd emp 0 ⟨Ls.map db, false, 1⟩) 77000 ⟨((((Ls.take i).map nb).map fe).flatten).map (vi .u64), true, 4⟩) 77001 ⟨((Ls.take i).map nb).map dv, true, 1⟩)⟩) (fm := [(77001, 9000)]) ?_ ⟨0, Nat.zero_le _, rfl, rfl⟩ ?_
  ·
    refine Wk.of [0, 77000, 77001] ?_ ?_ ?_ (by decide) rfl
    ·
      refine WkE.upd rfl (by first | exact VR.flat _ rfl | exact VR.eqv (vp_succ _) rfl | exact VR.eqv (vp_succ _).symm rfl | exact VR.eqv (by first | rfl | (congr 1; omega) | (simp; done) | (simp; omega)) rfl) ?_
      refine WkE.upd rfl (by first | exact VR.flat _ rfl | exact VR.eqv (vp_succ _) rfl | exact VR.eqv (vp_succ _).symm rfl | exact VR.eqv (by first | rfl | (congr 1; omega) | (simp; done) | (simp; omega)) rfl) ?_
      refine WkE.upd rfl (.slice (0) 0 _ 0 ⟨_, rfl⟩ (by simp) (by simp)) ?_
      refine WkE.upd rfl (by first | exact .nilS _ (by simp) | exact .slice (77001) 0 _ 0 ⟨_, rfl⟩ (by simp) (by simp)) ?_
      refine WkE.upd rfl (by first | exact .nilS _ (by simp) | exact .slice (77000) 0 _ 0 ⟨_, rfl⟩ (by simp) (by simp)) ?_
      exact WkE.emp
    ·
      refine WkM.cloM rfl rfl (fun _ => rfl) (fun h => h) ?_
      refine WkM.flat rfl (flatM flat_vi) (fun h => h) ?_
      refine WkM.cloM rfl rfl (fun _ => rfl) (fun h => h) ?_
      exact WkM.emp
    ·
      repeat (refine dom_upd_mem (by decide) ?_)
      exact dom_emp
  ·
    rintro mm σ ⟨i, hinv, rfl, rfl⟩
    refine AW.seqR ?_
    first | refine AWo.pure (PureOp.ltN rfl rfl) rfl rfl ?_ | refine AWo.pure (PureOp.bin rfl rfl rfl) rfl rfl ?_
    refine AWo.nil trivial ?_
    refine AW.seq ?_
    refine AW.cond rfl (fun hb0 => ?_) (fun hb0 => ?_)
    ·
      have hi : i < Ls.length := by simpa using hb0
      have hbm : Ls.getD i [] ∈ Ls := by rw [List.getD_eq_getElem?_getD, List.getElem?_eq_getElem hi]; exact List.getElem_mem _
      have hbb := hB _ hbm
      have hbl := hS _ hbm
      refine AW.skip ?_
      refine thenA_normal ?_
      refine AW.seq ?_
      refine AW.block ?_
      refine AW.seqR ?_
      refine AWo.pure (PureOp.idx1 tbok (j := i) rfl rfl rfl rfl hi) rfl rfl ?_
      refine AWo.loadM tbok (f := db) [] rfl rfl rfl hi rfl rfl ?_
      refine AWo.pure (PureOp.assign rfl) rfl rfl ?_
      refine AWo.nil trivial ?_
      refine AW.seqR ?_
      refine AWo.pure (PureOp.move rfl) rfl rfl ?_
      refine AWo.pure (PureOp.move rfl) rfl rfl ?_
      refine AWo.callX (fromwideFd (b := Ls.getD i []) hbb (by omega)) bd21 [] [] rfl (.cons rfl .nil) rfl (.cons rfl rfl .nil) .nil rfl .nil frN (by decide) (.pure (by first | rfl | exact pure_aggM flat_vi | exact pure_aggM flat_bool) .nil) rfl rfl rfl rfl ?_
      refine AWo.buildSlice tbok 19000 [(0, .agg ((fe (nb (Ls.getD i []))).map (vi .u64)).toArray)] (out := [fe (nb (Ls.getD i []))].flatten.map (vi .u64)) rfl rfl (by decide) rfl rfl rfl (by decide) rfl (fillB1 (fe_len _)) rfl rfl rfl ?_
      refine AWo.append tbok (all := ((((Ls.take (i + 1)).map nb).map fe).flatten).map (vi .u64)) (news := [fe (nb (Ls.getD i []))].flatten.map (vi .u64)) 20000 rfl rfl rfl rfl (by show (FF _).length = _; rw [FF_len, List.length_map, List.length_take, Nat.min_eq_left hinv]) (by show List.take _ (List.drop 0 _) = _; rw [List.drop_zero]; exact List.take_of_length_le (by simp)) (by simp; done) (by decide) rfl rfl rfl (by first | decide | exact Nat.one_ne_zero) rfl rfl rfl (by first | decide | omega) (by first | decide | omega) (by first | exact oneM (fun _ => rfl) _ | (simp; done)) (by show FF _ ++ FF [_] = FF _; rw [← FF_app, nb_step hi]) rfl rfl ?_
      refine AWo.pure (PureOp.assign rfl) rfl rfl ?_
      refine AWo.nil trivial ?_
      refine AW.region ?_
      refine AWo.pure (PureOp.move rfl) rfl rfl ?_
      refine AWo.pure (PureOp.move rfl) rfl rfl ?_
      refine AWo.callX (ofbd (a := Ls.getD i []) hbb (by omega)) bd37 [] [] rfl (.cons rfl .nil) rfl (.cons rfl rfl .nil) .nil rfl .nil frN (by decide) (.cons rfl rfl .nil) rfl rfl rfl rfl ?_
      refine AWo.callX (modRd (v := num 256 (Ls.getD i [])) (ofb_short hbb hbl)) bd36 [] [] rfl (.cons rfl .nil) rfl (.cons rfl rfl .nil) .nil rfl .nil frN (by decide) (.cons rfl rfl .nil) rfl rfl rfl rfl ?_
      refine AWo.buildSlice tbok 25000 [(0, dv (nb (Ls.getD i [])))] (out := [dv (nb (Ls.getD i []))]) rfl rfl (by decide) rfl rfl rfl (by decide) rfl rfl rfl rfl rfl ?_
      refine AWo.append tbok (all := ((Ls.take (i + 1)).map nb).map dv) (news := [dv (nb (Ls.getD i []))]) 26000 rfl rfl rfl rfl (by simp; omega) (by show List.take _ (List.drop 0 _) = _; rw [List.drop_zero]; exact List.take_of_length_le (by simp)) (by first | decide | (simp; done) | (simp; omega)) (by decide) rfl rfl rfl (by first | decide | exact Nat.one_ne_zero) rfl rfl rfl (by first | decide | omega) (by first | decide | omega) (by rfl) (by rw [← nb_step hi, List.map_append]; rfl) rfl rfl ?_
      refine AWo.pure (PureOp.assign rfl) rfl rfl ?_
      refine AWo.nil trivial ?_
      refine inBlockA_normal ?_
      refine thenA_normal ?_
      refine AW.region ?_
      first | refine AWo.pure (PureOp.addI (b := 1) rfl rfl (by first | decide | omega)) rfl rfl ?_ | refine AWo.pure (PureOp.bin rfl rfl rfl) rfl rfl ?_
      refine AWo.pure (PureOp.move rfl) rfl rfl ?_
      refine AWo.nil trivial ?_
      refine thenA_normal ?_
      refine ⟨Ls.length - (i + 1), [(77000, 20000), (77001, 26000)], _, by omega, ?_, i + 1, by omega, rfl, rfl⟩
      refine Wk.of [0, 77000, 77001] ?_ ?_ ?_ (by decide) rfl
      ·
        refine WkE.upd rfl (by first | exact VR.flat _ rfl | exact VR.eqv (vp_succ _) rfl | exact VR.eqv (vp_succ _).symm rfl | exact VR.eqv (by first | rfl | (congr 1; omega) | (simp; done) | (simp; omega)) rfl) ?_
        refine WkE.upd rfl (by first | exact VR.flat _ rfl | exact VR.eqv (vp_succ _) rfl | exact VR.eqv (vp_succ _).symm rfl | exact VR.eqv (by first | rfl | (congr 1; omega) | (simp; done) | (simp; omega)) rfl) ?_
        refine WkE.upd rfl (.slice (0) 0 _ 0 ⟨_, rfl⟩ (by simp) (by simp)) ?_
        refine WkE.upd rfl (by first | exact .nilS _ (by simp) | exact .slice (77001) 0 _ 0 ⟨_, rfl⟩ (by simp) (by simp)) ?_
        refine WkE.upd rfl (by first | exact .nilS _ (by simp) | exact .slice (77000) 0 _ 0 ⟨_, rfl⟩ (by simp) (by simp)) ?_
        exact WkE.emp
      ·
        refine WkM.cloM rfl rfl (fun _ => rfl) (fun h => h) ?_
        refine WkM.flat rfl (flatM flat_vi) (fun h => h) ?_
        refine WkM.cloM rfl rfl (fun _ => rfl) (fun h => h) ?_
        exact WkM.emp
      ·
        repeat (refine dom_upd_mem (by decide) ?_)
        exact dom_emp
    ·
      obtain rfl : i = Ls.length := by simp at hb0; omega
      simp only [List.take_length]
      refine AW.exit ?_
      refine thenA_exit ?_
      refine thenA_exit ?_
      refine inBlockA_hit ?_
      refine thenA_normal ?_
      refine AW.seqR ?_
      refine AWo.pure (PureOp.move rfl) rfl rfl ?_
      refine AWo.pure (PureOp.move rfl) rfl rfl ?_
      refine AWo.pure (PureOp.assign rfl) rfl rfl ?_
      refine AWo.pure (PureOp.assign rfl) rfl rfl ?_
      refine AWo.nil trivial ?_
      refine AW.ret ?_
      refine RetQ.gc [_, _] [77000, 77001] [.tmp 2, .tmp 3] (.inl rfl) rfl (.tmp rfl (.tmp rfl .nil)) rfl (.cons rfl rfl (.cons rfl rfl .nil)) (OutL.clo rfl (cloM fun _ => rfl) (by intro h; first | rfl | exact h.elim id fun h => absurd h.1 (by simp)) (OutL.flat rfl (flatM flat_vi) (by intro h; first | rfl | exact h.elim id fun h => absurd h.1 (by simp)) (OutL.clo rfl (cloM fun _ => rfl) (by intro h; first | rfl | exact h.elim id fun h => absurd h.1 (by simp)) trivial))) (by decide) rfl
end Go.Proofs.YteeifahhejangaaDoor
namespace Go.Proofs.YteeifahhejangaaDoor
open Go Sim
theorem ringD (x a : Fp) : x * fp 1 + a = a + x := by rw [Rg.add_comm]; congr 1; exact Rg.mul_one x
theorem ev_at1 : ∀ xs : List Fp, Po.ev (fp 1) xs = fsumL xs
  | [] => rfl
  | a :: p => by
    rw [Po.ev, ev_at1 p, ringD]
    have := fsumL_app [a] p
    rw [List.singleton_append] at this
    rw [this, show fsumL [a] = a from Rg.zero_add a]
end Go.Proofs.YteeifahhejangaaDoor
namespace Go.Proofs.YteeifahhejangaaDoor
open Go Sim
theorem are_get {xs zs : List Fp} {i : Nat} (hz : zs.take xs.length = xs) (hi : i < xs.length) : zs.getD i 0 = xs.getD i 0 := by
  have h := congrArg (fun l => l.getD i 0) hz
  simp only [List.getD_eq_getElem?_getD] at h ⊢
  rw [List.getElem?_take, if_pos hi] at h
  exact h
theorem are_ctr {xs zs : List Fp} {n m : Nat} (hn : xs.length = n) (hm : xs.length = m) (hz : zs.take xs.length = xs) (hx : n < 1000000) : GC Tryd.prog 16 [.slice (some ⟨0, 0, none⟩) n 0, .slice (some ⟨1, 0, none⟩) m 0] [⟨((xs.map fe).flatten).map (vi .u64), false, 4⟩, ⟨zs.map (dv), false, 1⟩] [.bool true] [⟨((xs.map fe).flatten).map (vi .u64), false, 4⟩, ⟨zs.map (dv), false, 1⟩] := by
  refine GC.intro Tryd.func16 rfl (by show 2 ≤ 27; decide) (by first | exact Nat.le_refl _ | decide | simp) ?_
  subst hn
  subst hm
  refine AW.seqR ?_
  refine AWo.pure (PureOp.assign rfl) rfl rfl ?_
  refine AWo.nil trivial ?_
  refine AW.seq ?_
  refine AW.seqR ?_
  refine AWo.pure (PureOp.move rfl) rfl rfl ?_
  first | refine AWo.pure (PureOp.lenS tbok rfl rfl) rfl rfl ?_ | refine AWo.pure (PureOp.lenD tbok rfl rfl) rfl rfl ?_
  refine AWo.pure (PureOp.move rfl) rfl rfl ?_
  first | refine AWo.pure (PureOp.lenS tbok rfl rfl) rfl rfl ?_ | refine AWo.pure (PureOp.lenD tbok rfl rfl) rfl rfl ?_
  first | refine AWo.pure ((PureOp.neN rfl rfl).mono (v' := .bool false) (congrArg Value.bool (by simp))) rfl rfl ?_ | refine AWo.pure ((PureOp.bin rfl rfl rfl).mono (v' := .bool false) (congrArg Value.bool (by simp))) rfl rfl ?_
  refine AWo.nil trivial ?_
  refine AW.condF rfl ?_
  refine AW.skip ?_
  refine thenA_normal ?_
  refine AW.seq ?_
  refine AW.seqR ?_
  refine AWo.pure (PureOp.move rfl) rfl rfl ?_
  first | refine AWo.pure (PureOp.lenS tbok rfl rfl) rfl rfl ?_ | refine AWo.pure (PureOp.lenD tbok rfl rfl) rfl rfl ?_
  refine AWo.pure (PureOp.move rfl) rfl rfl ?_
  refine AWo.nil trivial ?_
  refine AW.block ?_
  refine AW.loopw (fun mm σ => ∃ i, (i ≤ xs.length) ∧ mm = xs.length - i ∧ σ = ⟨(upd (upd (upd (upd emp 0 (.slice (some ⟨0, 0, none⟩) xs.length 0)) 1 (.slice (some ⟨1, 0, none⟩) xs.length 0)) 12 (vi .i64 xs.length)) 13 (vi .i64 i)), (upd (upd emp 0 ⟨((xs.map fe).flatten).map (vi .u64), false, 4⟩) 1 ⟨zs.map dv, false, 1⟩)⟩) (fm := []) ?_ ⟨0, Nat.zero_le _, rfl, rfl⟩ ?_
  ·
    refine Wk.of [0, 1] ?_ ?_ ?_ (by decide) rfl
    ·
      refine WkE.upd rfl (by first | exact VR.flat _ rfl | exact VR.eqv (vp_succ _) rfl | exact VR.eqv (vp_succ _).symm rfl | exact VR.eqv (by first | rfl | (congr 1; omega) | (simp; done) | (simp; omega)) rfl) ?_
      refine WkE.upd rfl (by first | exact VR.flat _ rfl | exact VR.eqv (vp_succ _) rfl | exact VR.eqv (vp_succ _).symm rfl | exact VR.eqv (by first | rfl | (congr 1; omega) | (simp; done) | (simp; omega)) rfl) ?_
      refine WkE.upd rfl (.slice (1) 0 _ 0 ⟨_, rfl⟩ (by simp) (by simp)) ?_
      refine WkE.upd rfl (.slice (0) 0 _ 0 ⟨_, rfl⟩ (by simp) (by simp)) ?_
      exact WkE.emp
    ·
      refine WkM.cloM rfl rfl (fun _ => rfl) (fun h => h) ?_
      refine WkM.flat rfl (flatM flat_vi) (fun h => h) ?_
      exact WkM.emp
    ·
      repeat (refine dom_upd_mem (by decide) ?_)
      exact dom_emp
  ·
    rintro mm σ ⟨i, hinv, rfl, rfl⟩
    refine AW.seqR ?_
    first | refine AWo.pure (PureOp.ltN rfl rfl) rfl rfl ?_ | refine AWo.pure (PureOp.bin rfl rfl rfl) rfl rfl ?_
    refine AWo.nil trivial ?_
    refine AW.seq ?_
    refine AW.cond rfl (fun hb0 => ?_) (fun hb0 => ?_)
    ·
      have hi : i < xs.length := by simpa using hb0
      refine AW.skip ?_
      refine thenA_normal ?_
      refine AW.seq ?_
      refine AW.block ?_
      refine AW.seqR ?_
      refine AWo.pure (PureOp.move rfl) rfl rfl ?_
      refine AWo.pure (PureOp.assign rfl) rfl rfl ?_
      refine AWo.nil trivial ?_
      refine AW.seqD mixed ?_
      refine AWo.pure (PureOp.move rfl) rfl rfl ?_
      refine AWo.pure (PureOp.move rfl) rfl rfl ?_
      first | refine AWo.pure (PureOp.idx1 tbok rfl rfl rfl rfl (by first | decide | omega)) rfl rfl ?_ | refine AWo.pure (PureOp.idx tbok rfl rfl rfl rfl (by first | decide | omega)) rfl rfl ?_
      refine yLJ (xs := xs) i ?_
      refine AWo.pure (PureOp.move rfl) rfl rfl ?_
      refine AWo.pure (PureOp.move rfl) rfl rfl ?_
      refine AWo.pure (PureOp.idx1 tbok (j := i) rfl rfl rfl rfl hi) rfl rfl ?_
      refine AWo.loadM tbok (f := dv) 0 rfl rfl rfl (by rw [← hz] at hi; rw [List.length_take] at hi; omega) rfl rfl ?_
      rw [show zs.getD i 0 = xs.getD i 0 from are_get hz hi]
      refine AWo.callX (isFd (x := xs.getD i 0)) bd15 [] [] rfl (.cons rfl (.cons rfl .nil)) rfl (.pure (by first | rfl | exact pure_aggM flat_vi | exact pure_aggM flat_bool) (.cons rfl rfl .nil)) .nil rfl .nil frN (by decide) (.cons rfl rfl .nil) rfl rfl rfl rfl ?_
      refine AWo.pure (PureOp.not rfl) rfl rfl ?_
      refine AWo.nil (by kernel_rfl) ?_
      refine AW.condF rfl ?_
      refine AW.skip ?_
      refine inBlockA_normal ?_
      refine thenA_normal ?_
      refine AW.region ?_
      first | refine AWo.pure (PureOp.addI (b := 1) rfl rfl (by first | decide | omega)) rfl rfl ?_ | refine AWo.pure (PureOp.bin rfl rfl rfl) rfl rfl ?_
      refine AWo.pure (PureOp.move rfl) rfl rfl ?_
      refine AWo.nil trivial ?_
      refine thenA_normal ?_
      refine ⟨xs.length - (i + 1), [], _, by omega, ?_, i + 1, by omega, rfl, rfl⟩
      refine Wk.of [0, 1] ?_ ?_ ?_ (by decide) rfl
      ·
        refine WkE.upd rfl (by first | exact VR.flat _ rfl | exact VR.eqv (vp_succ _) rfl | exact VR.eqv (vp_succ _).symm rfl | exact VR.eqv (by first | rfl | (congr 1; omega) | (simp; done) | (simp; omega)) rfl) ?_
        refine WkE.upd rfl (by first | exact VR.flat _ rfl | exact VR.eqv (vp_succ _) rfl | exact VR.eqv (vp_succ _).symm rfl | exact VR.eqv (by first | rfl | (congr 1; omega) | (simp; done) | (simp; omega)) rfl) ?_
        refine WkE.upd rfl (.slice (1) 0 _ 0 ⟨_, rfl⟩ (by simp) (by simp)) ?_
        refine WkE.upd rfl (.slice (0) 0 _ 0 ⟨_, rfl⟩ (by simp) (by simp)) ?_
        exact WkE.emp
      ·
        refine WkM.cloM rfl rfl (fun _ => rfl) (fun h => h) ?_
        refine WkM.flat rfl (flatM flat_vi) (fun h => h) ?_
        exact WkM.emp
      ·
        repeat (refine dom_upd_mem (by decide) ?_)
        exact dom_emp
    ·
      obtain rfl : i = xs.length := by simp at hb0; omega
      refine AW.exit ?_
      refine thenA_exit ?_
      refine thenA_exit ?_
      refine inBlockA_hit ?_
      refine thenA_normal ?_
      refine AW.seqR ?_
      refine AWo.pure (PureOp.assign rfl) rfl rfl ?_
      refine AWo.nil trivial ?_
      refine AW.ret ?_
      refine RetQ.gc [_] [] [.tmp 4] (.inl rfl) rfl (.tmp rfl .nil) rfl (.cons rfl rfl .nil) (OutL.flat rfl (flatM flat_vi) (by intro h; first | rfl | exact h.elim id fun h => absurd h.1 (by simp)) (OutL.clo rfl (cloM fun _ => rfl) (by intro h; first | rfl | exact h.elim id fun h => absurd h.1 (by simp)) trivial)) (by decide) rfl
end Go.Proofs.YteeifahhejangaaDoor
namespace Go.Proofs.YteeifahhejangaaDoor
open Go Sim
def px (x : Fp) : Nat → Fp
  | 0 => 1
  | i + 1 => px x i * x
theorem ev_app (x : Fp) (a : Fp) : ∀ xs : List Fp, Po.ev x (xs ++ [a]) = Po.ev x xs + a * px x xs.length
  | [] => by
    show (0 : Fp) * x + a = 0 + a * 1
    rw [Po.ring9, Rg.mul_one, Rg.zero_add]
  | b :: xs => by
    rw [List.cons_append, Po.ev, ev_app x a xs, Po.ev, List.length_cons, px]
    exact ev_ring _ _ _ _ _
where
  ev_ring (e a p x b : Fp) : (e + a * p) * x + b = e * x + b + a * (p * x) := by grind
theorem ev_step {x : Fp} {xs : List Fp} {i : Nat} (hi : i < xs.length) : Po.ev x (xs.take (i + 1)) = Po.ev x (xs.take i) + xs.getD i 0 * px x i := by
  rw [List.take_succ_eq_append_getElem hi, ev_app, List.length_take, Nat.min_eq_left (by omega), List.getD_eq_getElem?_getD, List.getElem?_eq_getElem hi]; rfl
theorem rev_ctr {xs : List Fp} {x : Fp} {n : Nat} (hn : xs.length = n) (hx : n < 1000000) : GC Tryd.prog 20 [.slice (some ⟨0, 0, none⟩) n 0, dv (x)] [⟨xs.map (dv), false, 1⟩] [dv (Po.ev x xs)] [⟨xs.map (dv), false, 1⟩] := by
  refine GC.intro Tryd.func20 rfl (by show 2 ≤ 28; decide) (by first | exact Nat.le_refl _ | decide | simp) ?_
  subst hn
  refine AW.seqR ?_
  refine yP (PureOp.nilDeep 1) ?_
  refine AWo.nil trivial ?_
  refine AW.seqR ?_
  refine AWo.buildSlice tbok 9000 [] (out := []) rfl rfl (by decide) rfl rfl rfl (by decide) rfl rfl rfl rfl rfl ?_
  refine AWo.pure (PureOp.assign rfl) rfl rfl ?_
  refine AWo.nil trivial ?_
  refine AW.seqR ?_
  refine AWo.buildSlice tbok 10000 [(0, vi .u64 1)] (out := [vi .u64 1]) rfl rfl (by decide) rfl rfl rfl (by decide) rfl rfl rfl rfl rfl ?_
  refine AWo.pure (PureOp.assign rfl) rfl rfl ?_
  refine AWo.nil trivial ?_
  refine AW.seq ?_
  refine AW.freeze 5 9000 ([] : List Value) ?_ rfl rfl (by simp) (by simp) rfl
  rw [show deep 0 1 ([] : List Value) = dv (Po.ev x (xs.take 0)) from rfl]
  refine AW.freeze 6 10000 [vi .u64 1] ?_ rfl rfl (fun v hv => by simp at hv; subst hv; rfl) (by decide) rfl
  rw [show deep 1 1 [vi .u64 1] = dv (px x 0) from rfl]
  refine AW.seqR ?_
  refine AWo.pure (PureOp.assign rfl) rfl rfl ?_
  refine AWo.nil trivial ?_
  refine AW.block ?_
  refine AW.loopw (fun mm σ => ∃ i, (i ≤ xs.length) ∧ mm = xs.length - i ∧ σ = ⟨(upd (upd (upd (upd (upd emp 0 (.slice (some ⟨0, 0, none⟩) xs.length 0)) 1 (dv x)) 5 (dv (Po.ev x (xs.take i)))) 6 (dv (px x i))) 7 (vi .i64 i)), (upd emp 0 ⟨xs.map dv, false, 1⟩)⟩) (fm := []) ?_ ⟨0, Nat.zero_le _, rfl, rfl⟩ ?_
  ·
    refine Wk.of [0] ?_ ?_ ?_ (by decide) rfl
    ·
      refine WkE.upd rfl (by first | exact VR.flat _ rfl | exact VR.eqv (vp_succ _) rfl | exact VR.eqv (vp_succ _).symm rfl | exact VR.eqv (by first | rfl | (congr 1; omega) | (simp; done) | (simp; omega)) rfl) ?_
      refine WkE.upd rfl (clo_refl (by simp) rfl) ?_
      refine WkE.upd rfl (clo_refl (by simp) rfl) ?_
      refine WkE.upd rfl (clo_refl (by simp) rfl) ?_
      refine WkE.upd rfl (.slice (0) 0 _ 0 ⟨_, rfl⟩ (by simp) (by simp)) ?_
      exact WkE.emp
    ·
      refine WkM.cloM rfl rfl (fun _ => rfl) (fun h => h) ?_
      exact WkM.emp
    ·
      repeat (refine dom_upd_mem (by decide) ?_)
      exact dom_emp
  ·
    rintro mm σ ⟨i, hinv, rfl, rfl⟩
    refine AW.seq ?_
    refine AW.seqR ?_
    refine AWo.pure (PureOp.move rfl) rfl rfl ?_
    refine AWo.pure (PureOp.move rfl) rfl rfl ?_
    first | refine AWo.pure (PureOp.lenS tbok rfl rfl) rfl rfl ?_ | refine AWo.pure (PureOp.lenD tbok rfl rfl) rfl rfl ?_
    first | refine AWo.pure (PureOp.ltN rfl rfl) rfl rfl ?_ | refine AWo.pure (PureOp.bin rfl rfl rfl) rfl rfl ?_
    refine AWo.nil trivial ?_
    refine AW.cond rfl (fun hb0 => ?_) (fun hb0 => ?_)
    ·
      have hi : i < xs.length := by simpa using hb0
      refine AW.skip ?_
      refine thenA_normal ?_
      refine AW.seq ?_
      refine AW.block ?_
      refine AW.seqR ?_
      refine AWo.pure (PureOp.move rfl) rfl rfl ?_
      refine AWo.pure (PureOp.move rfl) rfl rfl ?_
      refine AWo.pure (PureOp.move rfl) rfl rfl ?_
      refine AWo.pure (PureOp.idx1 tbok (j := i) rfl rfl rfl rfl hi) rfl rfl ?_
      refine AWo.loadM tbok (f := dv) 0 rfl rfl rfl hi rfl rfl ?_
      refine AWo.pure (PureOp.move rfl) rfl rfl ?_
      refine AWo.callX (mulRd (x := xs.getD i 0) (y := px x i)) bd40 [] [] rfl (.cons rfl (.cons rfl .nil)) rfl (.cons rfl rfl (.cons rfl rfl .nil)) .nil rfl .nil frN (by decide) (.cons rfl rfl .nil) rfl rfl rfl rfl ?_
      refine AWo.callX (v := dv (Po.ev x (xs.take (i + 1)))) (addRd (x := Po.ev x (xs.take i)) (y := xs.getD i 0 * px x i)) bd39 [] [] rfl (.cons rfl (.cons rfl .nil)) rfl (.cons rfl rfl (.cons rfl rfl .nil)) .nil rfl .nil frN (by decide) (.cons rfl rfl .nil) (by rw [ev_step hi]; rfl) rfl rfl rfl ?_
      refine AWo.pure (PureOp.assign rfl) rfl rfl ?_
      refine AWo.nil trivial ?_
      refine AW.region ?_
      refine AWo.pure (PureOp.move rfl) rfl rfl ?_
      refine AWo.pure (PureOp.move rfl) rfl rfl ?_
      refine AWo.callX (v := dv (px x (i + 1))) (mulRd (x := px x i) (y := x)) bd40 [] [] rfl (.cons rfl (.cons rfl .nil)) rfl (.cons rfl rfl (.cons rfl rfl .nil)) .nil rfl .nil frN (by decide) (.cons rfl rfl .nil) rfl rfl rfl rfl ?_
      refine AWo.pure (PureOp.assign rfl) rfl rfl ?_
      refine AWo.nil trivial ?_
      refine inBlockA_normal ?_
      refine thenA_normal ?_
      refine AW.region ?_
      refine AWo.pure (PureOp.move rfl) rfl rfl ?_
      first | refine AWo.pure (PureOp.addI (b := 1) rfl rfl (by first | decide | omega)) rfl rfl ?_ | refine AWo.pure (PureOp.bin rfl rfl rfl) rfl rfl ?_
      refine AWo.pure (PureOp.assign rfl) rfl rfl ?_
      refine AWo.nil trivial ?_
      refine thenA_normal ?_
      refine ⟨xs.length - (i + 1), [], _, by omega, ?_, i + 1, by omega, rfl, rfl⟩
      refine Wk.of [0] ?_ ?_ ?_ (by decide) rfl
      ·
        refine WkE.upd rfl (by first | exact VR.flat _ rfl | exact VR.eqv (vp_succ _) rfl | exact VR.eqv (vp_succ _).symm rfl | exact VR.eqv (by first | rfl | (congr 1; omega) | (simp; done) | (simp; omega)) rfl) ?_
        refine WkE.upd rfl (clo_refl (by simp) rfl) ?_
        refine WkE.upd rfl (clo_refl (by simp) rfl) ?_
        refine WkE.upd rfl (clo_refl (by simp) rfl) ?_
        refine WkE.upd rfl (.slice (0) 0 _ 0 ⟨_, rfl⟩ (by simp) (by simp)) ?_
        exact WkE.emp
      ·
        refine WkM.cloM rfl rfl (fun _ => rfl) (fun h => h) ?_
        exact WkM.emp
      ·
        repeat (refine dom_upd_mem (by decide) ?_)
        exact dom_emp
    ·
      obtain rfl : i = xs.length := by simp at hb0; omega
      rw [List.take_length]
      refine AW.exit ?_
      refine thenA_exit ?_
      refine thenA_exit ?_
      refine inBlockA_hit ?_
      refine thenA_normal ?_
      refine AW.seqR ?_
      refine AWo.pure (PureOp.move rfl) rfl rfl ?_
      refine yA ?_
      refine AWo.nil trivial ?_
      refine AW.ret ?_
      refine RetQ.gc [_] [] [.tmp 4] (.inl rfl) rfl (.tmp rfl .nil) rfl (.cons rfl rfl .nil) (OutL.clo rfl (cloM fun _ => rfl) (by intro h; first | rfl | exact h.elim id fun h => absurd h.1 (by simp)) trivial) (by decide) rfl
end Go.Proofs.YteeifahhejangaaDoor
namespace Go.Proofs.YteeifahhejangaaDoor
open Go Sim
def isV (n : Nat) : Bool := n != 0 && (n &&& (n - 1)) == 0 && decide (n ≤ 4096)
def vN (n : Nat) : Nat := if isV n then Lib.ctz 64 n else 0
def vC (n : Nat) : Int := if isV n then 0 else 7
def vAll : Bool := (List.range 4097).all fun n => !isV n || (2 ^ Lib.ctz 64 n == n && decide (Lib.ctz 64 n ≤ 12))
theorem vAll_t : vAll = true := by decide +kernel
theorem isV_pow {n : Nat} (h : isV n = true) : n = 2 ^ vN n ∧ vN n ≤ 12 := by
  have h4 : n ≤ 4096 := by
    simp only [isV, Bool.and_eq_true] at h
    exact of_decide_eq_true h.2
  have h1 := List.all_eq_true.1 vAll_t n (List.mem_range.2 (by omega))
  rw [h] at h1
  simp only [Bool.not_true, Bool.false_or, Bool.and_eq_true, beq_iff_eq, decide_eq_true_eq] at h1
  rw [vN, if_pos h]
  exact ⟨h1.1.symm, h1.2⟩
def pAll : Bool := (List.range 13).all fun k => isV (2 ^ k) && vN (2 ^ k) == k
theorem pAll_t : pAll = true := by decide +kernel
theorem pow_isV {k : Nat} (hk : k ≤ 12) : isV (2 ^ k) = true ∧ vN (2 ^ k) = k := by
  have h1 := List.all_eq_true.1 pAll_t k (List.mem_range.2 (by omega))
  simpa using h1
theorem vC_ok {n : Nat} (h : isV n = true) : vC n = 0 := if_pos h
theorem vC_no {n : Nat} (h : isV n = false) : vC n = 7 := if_neg (by rw [h]; decide)
theorem vN_no {n : Nat} (h : isV n = false) : vN n = 0 := if_neg (by rw [h]; decide)
theorem vC_iff {n : Nat} : vC n = 0 ↔ isV n = true := by
  cases h : isV n with
  | true => simp [vC_ok h]
  | false => simp [vC_no h]
theorem no_pow {n : Nat} (h : ∀ k, k ≤ 12 → n ≠ 2 ^ k) : isV n = false := by
  cases hv : isV n with
  | false => rfl
  | true => exact absurd (isV_pow hv).1 (h _ (isV_pow hv).2)
def fixL (xs : List Fp) (x : Fp) : List Fp := (List.range (xs.length / 2)).map fun i => xs.getD i 0 + x * (xs.getD (xs.length / 2 + i) 0 - xs.getD i 0)
def fixB (n : Nat) : Bool := isV n && decide (0 < vN n)
def fixT (xs : List Fp) (x : Fp) : List Fp := if fixB xs.length then fixL xs x else []
theorem fixL_len (xs : List Fp) (x : Fp) : (fixL xs x).length = xs.length / 2 := by simp [fixL]
theorem fixL_at {xs : List Fp} {x : Fp} {i : Nat} (h : i < xs.length / 2) : (fixL xs x).getD i 0 = xs.getD i 0 + x * (xs.getD (xs.length / 2 + i) 0 - xs.getD i 0) := by
  rw [fixL, List.getD_eq_getElem?_getD, List.getElem?_map, List.getElem?_range h]; rfl
theorem fixT_len (xs : List Fp) (x : Fp) : (fixT xs x).length ≤ xs.length / 2 := by
  unfold fixT; split
  · rw [fixL_len]; exact Nat.le_refl _
  · exact Nat.zero_le _
theorem fixB_pow {k : Nat} (hk : k + 1 ≤ 12) : fixB (2 ^ (k + 1)) = true := by
  have h := pow_isV hk
  rw [fixB, h.1, h.2]; simp
theorem pow_half (k : Nat) : 2 ^ (k + 1) / 2 = 2 ^ k := by rw [Nat.pow_succ, Nat.mul_div_cancel _ (by decide)]
theorem fix_eq {xs : List Fp} {x : Fp} {k : Nat} (hl : xs.length = 2 ^ (k + 1)) (hk : k + 1 ≤ 12) : fixT xs x = fixL xs x ∧ (fixT xs x).length = 2 ^ k := by
  have h : fixT xs x = fixL xs x := if_pos (by rw [hl]; exact fixB_pow hk)
  exact ⟨h, by rw [h, fixL_len, hl, pow_half]⟩
theorem fix_ring (a b x : Fp) : a * (1 - x) + b * x = a + x * (b - a) := by grind
def evF (xs : List Fp) (ps : List Fp) : List Fp := ps.foldl fixT xs
def evV (xs : List Fp) (ps : List Fp) : Fp := (evF xs ps).getD 0 0
def evB (n k : Nat) : Bool := isV n && decide (vN n = k)
def eT (xs ps : List Fp) : Fp := if evB xs.length ps.length then evV xs ps else 0
def eC (xs ps : List Fp) : Int := if isV xs.length then (if vN xs.length = ps.length then 0 else 1) else 7
theorem evF_len : ∀ (ps xs : List Fp), xs.length = 2 ^ ps.length → ps.length ≤ 12 → (evF xs ps).length = 1
  | [], xs, h, _ => h
  | x :: ps, xs, h, hk => by
    simp only [List.length_cons] at h hk
    have h1 := fix_eq (x := x) h hk
    exact evF_len ps (fixT xs x) h1.2 (by omega)
theorem evB_spec {n k : Nat} (h : evB n k = true) : n = 2 ^ k ∧ k ≤ 12 := by
  simp only [evB, Bool.and_eq_true, decide_eq_true_eq] at h
  have := isV_pow h.1
  rw [h.2] at this
  exact this
theorem eC_B {xs ps : List Fp} : eC xs ps = 0 ↔ evB xs.length ps.length = true := by
  unfold eC evB
  cases isV xs.length <;> simp
def smN (f : Nat → Fp) : Nat → Fp
  | 0 => 0
  | n + 1 => smN f n + f n
theorem smN_congr {f g : Nat → Fp} : ∀ {n}, (∀ i, i < n → f i = g i) → smN f n = smN g n
  | 0, _ => rfl
  | n + 1, h => by rw [smN, smN, smN_congr fun i hi => h i (by omega), h n (by omega)]
theorem smN_add (f : Nat → Fp) (m : Nat) : ∀ n, smN f (m + n) = smN f m + smN (fun i => f (m + i)) n
  | 0 => by rw [smN, Nat.add_zero, Rg.add_zero]
  | n + 1 => by rw [← Nat.add_assoc, smN, smN_add f m n, smN, Rg.add_assoc]
theorem smN_sum (f g : Nat → Fp) : ∀ n, smN f n + smN g n = smN (fun i => f i + g i) n
  | 0 => Rg.add_zero _
  | n + 1 => by
    rw [smN, smN, smN, ← smN_sum f g n]
    exact ring4s _ _ _ _
where
  ring4s (a b c d : Fp) : a + b + (c + d) = a + c + (b + d) := by grind
def wtS (ps : List Fp) (i : Nat) : Nat → Fp
  | 0 => 1
  | j + 1 => wtS ps i j * (if i / 2 ^ j % 2 = 0 then 1 - ps.getD (ps.length - 1 - j) 0 else ps.getD (ps.length - 1 - j) 0)
def wt (ps : List Fp) (i : Nat) : Fp := wtS ps i ps.length
theorem wtS_cons (x : Fp) (ps : List Fp) (i : Nat) : ∀ j, j ≤ ps.length → wtS (x :: ps) i j = wtS ps i j
  | 0, _ => rfl
  | j + 1, h => by
    rw [wtS, wtS, wtS_cons x ps i j (by omega), List.length_cons, show ps.length + 1 - 1 - j = (ps.length - 1 - j) + 1 by omega, List.getD_cons_succ]
theorem wtS_mod (ps : List Fp) (i k : Nat) : ∀ j, j ≤ k → wtS ps (2 ^ k + i) j = wtS ps i j
  | 0, _ => rfl
  | j + 1, h => by
    rw [wtS, wtS, wtS_mod ps i k j (by omega)]
    have e : (2 ^ k + i) / 2 ^ j % 2 = i / 2 ^ j % 2 := by
      rw [show 2 ^ k = 2 ^ j * (2 * 2 ^ (k - (j + 1))) by rw [← Nat.mul_assoc, ← Nat.pow_succ, ← Nat.pow_add]; congr 1; omega, Nat.mul_add_div (Nat.pow_pos (by decide)), Nat.mul_add_mod]
    rw [e]
theorem wt_lo (x : Fp) (ps : List Fp) {i : Nat} (h : i < 2 ^ ps.length) : wt (x :: ps) i = wt ps i * (1 - x) := by
  rw [wt, List.length_cons, wtS, wtS_cons x ps i _ (Nat.le_refl _), Nat.div_eq_of_lt h, if_pos (by decide), List.length_cons, show ps.length + 1 - 1 - ps.length = 0 by omega]; rfl
theorem wt_hi (x : Fp) (ps : List Fp) {i : Nat} (h : i < 2 ^ ps.length) : wt (x :: ps) (2 ^ ps.length + i) = wt ps i * x := by
  have e : (2 ^ ps.length + i) / 2 ^ ps.length % 2 = 1 := by
    rw [Nat.add_div_left _ (Nat.pow_pos (by decide)), Nat.div_eq_of_lt h]
  rw [wt, List.length_cons, wtS, wtS_cons x ps _ _ (Nat.le_refl _), wtS_mod ps i _ _ (Nat.le_refl _), e, if_neg (by decide), List.length_cons, show ps.length + 1 - 1 - ps.length = 0 by omega]; rfl
theorem ring_w (a b w x : Fp) : a * (w * (1 - x)) + b * (w * x) = (a + x * (b - a)) * w := by grind
theorem ev_sum : ∀ (ps xs : List Fp), xs.length = 2 ^ ps.length → ps.length ≤ 12 → smN (fun i => xs.getD i 0 * wt ps i) xs.length = evV xs ps
  | [], xs, h, _ => by
    rw [h]
    show 0 + xs.getD 0 0 * 1 = xs.getD 0 0
    rw [Rg.zero_add, Rg.mul_one]
  | x :: ps, xs, h, hk => by
    simp only [List.length_cons] at h hk
    have h1 := fix_eq (x := x) h hk
    have ih := ev_sum ps (fixT xs x) h1.2 (by omega)
    rw [show evV xs (x :: ps) = evV (fixT xs x) ps from rfl, ← ih, h, show 2 ^ (ps.length + 1) = 2 ^ ps.length + 2 ^ ps.length by rw [Nat.pow_succ]; omega, smN_add, smN_sum, h1.2]
    refine smN_congr fun i hi => ?_
    have hh : xs.length / 2 = 2 ^ ps.length := by rw [h, pow_half]
    rw [wt_lo x ps hi, wt_hi x ps hi, ring_w, h1.1, fixL_at (by rw [hh]; exact hi), hh]
end Go.Proofs.YteeifahhejangaaDoor
namespace Go.Proofs.YteeifahhejangaaDoor
open Go Sim
theorem isV_zero {n : Nat} (h : n = 0) : isV n = false := by rw [h]; rfl
theorem isV_and {n : Nat} (h : ¬ n &&& (n - 1) = 0) : isV n = false := by
  unfold isV; rw [show ((n &&& (n - 1)) == 0) = false from beq_eq_false_iff_ne.2 h, Bool.and_false, Bool.false_and]
theorem isV_gt {n : Nat} (h : 4096 < n) : isV n = false := by
  unfold isV; rw [decide_eq_false (show ¬ n ≤ 4096 by omega), Bool.and_false]
theorem isV_ok {n : Nat} (h0 : ¬ n = 0) (h1 : n &&& (n - 1) = 0) (h2 : n ≤ 4096) : isV n = true := by
  unfold isV; rw [h1, decide_eq_true h2]; simp [h0]
theorem fixB_no {n : Nat} (h : ¬ isV n = true) : fixB n = false := by
  unfold fixB; rw [Bool.eq_false_iff.2 h]; rfl
theorem fixB_n0 {n : Nat} (h : vN n = 0) : fixB n = false := by unfold fixB; rw [h]; simp
theorem fixB_ok {n : Nat} (hv : isV n = true) (h : ¬ vN n = 0) : fixB n = true := by
  unfold fixB; rw [hv, decide_eq_true (by omega)]; rfl
def fxp (xs : List Fp) (x : Fp) (i : Nat) : List Fp := (List.range (xs.length / 2)).map fun j => if j < i then (fixL xs x).getD j 0 else 0
theorem fxp_len (xs : List Fp) (x : Fp) (i : Nat) : (fxp xs x i).length = xs.length / 2 := by simp [fxp]
theorem fxp_zero (xs : List Fp) (x : Fp) : fxp xs x 0 = List.replicate (xs.length / 2) 0 := by
  refine List.ext_getElem (by simp [fxp]) fun i h1 h2 => ?_
  simp [fxp]
theorem fxp_all {xs : List Fp} {x : Fp} : fxp xs x (xs.length / 2) = fixL xs x := by
  refine List.ext_getElem (by simp [fxp, fixL_len]) fun i h1 h2 => ?_
  rw [fxp_len] at h1
  simp [fxp, h1, List.getElem?_eq_getElem h2]
theorem fxp_set {xs : List Fp} {x : Fp} {i : Nat} (hi : i < xs.length / 2) : (fxp xs x i).set i (xs.getD i 0 + x * (xs.getD (xs.length / 2 + i) 0 - xs.getD i 0)) = fxp xs x (i + 1) := by
  refine List.ext_getElem (by simp [fxp]) fun j h1 h2 => ?_
  simp only [fxp, List.getElem_set, List.getElem_map, List.getElem_range]
  by_cases h : i = j
  · subst h; rw [if_pos rfl, if_pos (Nat.lt_succ_self i), fixL_at hi]
  · rw [if_neg h]
    by_cases hj : j < i
    · rw [if_pos hj, if_pos (by omega)]
    · rw [if_neg hj, if_neg (by omega)]
theorem fixL_step {xs : List Fp} {x : Fp} {i : Nat} (hi : i < xs.length / 2) : (fixL xs x).take i ++ [xs.getD i 0 * (1 - x) + xs.getD (xs.length / 2 + i) 0 * x] = (fixL xs x).take (i + 1) := by
  rw [List.take_succ_eq_append_getElem (by rw [fixL_len]; exact hi)]
  congr 2
  have := fixL_at (xs := xs) (x := x) hi
  rw [List.getD_eq_getElem?_getD, List.getElem?_eq_getElem (by rw [fixL_len]; exact hi)] at this
  rw [fix_ring]
  exact this.symm
theorem vars_ctr {xs : List Fp} {n : Nat} (hn : xs.length = n) (hx : n < 1000000) : GC Tryd.prog 11 [.slice (some ⟨0, 0, none⟩) n 0] [⟨((xs.map fe).flatten).map (vi .u64), false, 4⟩] [vi .i64 (vN n), .int .i64 (vC n)] [⟨((xs.map fe).flatten).map (vi .u64), false, 4⟩] := by
  refine GC.intro Tryd.func11 rfl (by show 1 ≤ 23; decide) (by first | exact Nat.le_refl _ | decide | simp) ?_
  refine AW.seqR ?_
  refine AWo.pure (PureOp.assign rfl) rfl rfl ?_
  refine AWo.pure (PureOp.assign rfl) rfl rfl ?_
  refine AWo.nil trivial ?_
  refine AW.seqR ?_
  refine AWo.pure (PureOp.move rfl) rfl rfl ?_
  first | refine AWo.pure (PureOp.lenS tbok rfl rfl) rfl rfl ?_ | refine AWo.pure (PureOp.lenD tbok rfl rfl) rfl rfl ?_
  refine AWo.pure (PureOp.assign rfl) rfl rfl ?_
  refine AWo.nil trivial ?_
  refine AW.seq ?_
  refine AW.seqR ?_
  refine AWo.pure (PureOp.move rfl) rfl rfl ?_
  first | refine AWo.pureB (PureOp.eqN (b := 0) rfl rfl) rfl rfl (fun hb0 => ?_) (fun hb0 => ?_) | refine AWo.pureB (PureOp.bin rfl rfl rfl) rfl rfl (fun hb0 => ?_) (fun hb0 => ?_)
  ·
    have hv : isV n = false := isV_zero (by simpa using hb0)
    refine AWo.pure (PureOp.move rfl) rfl rfl ?_
    refine AWo.skipped rfl rfl ?_
    refine AWo.skipped rfl rfl ?_
    refine AWo.skipped rfl rfl ?_
    refine AWo.skipped rfl rfl ?_
    refine AWo.skipped rfl rfl ?_
    refine AWo.pure (PureOp.pickT rfl rfl) rfl rfl ?_
    refine AWo.pure (PureOp.move rfl) rfl rfl ?_
    refine AWo.skipped rfl rfl ?_
    refine AWo.skipped rfl rfl ?_
    refine AWo.pure (PureOp.pickT rfl rfl) rfl rfl ?_
    refine AWo.nil trivial ?_
    refine AW.condT rfl ?_
    refine AW.seqR ?_
    refine AWo.pure (PureOp.assign rfl) rfl rfl ?_
    refine AWo.pure (PureOp.assign rfl) rfl rfl ?_
    refine AWo.nil trivial ?_
    refine AW.ret ?_
    refine thenA_ret ?_
    rw [vC_no hv, vN_no hv]
    refine RetQ.gc [_, _] [] [.tmp 2, .tmp 3] (.inl rfl) rfl (.tmp rfl (.tmp rfl .nil)) rfl (.pure rfl (.pure rfl .nil)) (OutL.flat rfl (flatM flat_vi) (by intro h; exact h.elim id fun h => absurd h.1 (by simp)) trivial) (by decide) rfl
  ·
    have h8 : ¬ n = 0 := by simpa using hb0
    refine AWo.pure (PureOp.move rfl) rfl rfl ?_
    refine AWo.pure (PureOp.move rfl) rfl rfl ?_
    refine AWo.pure (PureOp.move rfl) rfl rfl ?_
    first | refine AWo.pure (PureOp.subI (b := 1) rfl rfl (by first | decide | omega) (by first | decide | omega)) rfl rfl ?_ | refine AWo.pure (PureOp.subP rfl rfl (by first | decide | omega)) rfl rfl ?_ | refine AWo.pure (PureOp.bin rfl rfl rfl) rfl rfl ?_
    first | refine AWo.pure (PureOp.andN 9223372036854775808 rfl rfl (by decide) (by decide) (by first | decide | omega) (by first | decide | omega)) rfl rfl ?_ | refine AWo.pure (PureOp.bin rfl rfl rfl) rfl rfl ?_
    first | refine AWo.pureB (PureOp.neN (b := 0) rfl rfl) rfl rfl (fun hb1 => ?_) (fun hb1 => ?_) | refine AWo.pureB (PureOp.bin rfl rfl rfl) rfl rfl (fun hb1 => ?_) (fun hb1 => ?_)
    ·
      have hv : isV n = false := isV_and (by simpa using hb1)
      refine AWo.pure (PureOp.pickF rfl rfl) rfl rfl ?_
      refine AWo.pure (PureOp.move rfl) rfl rfl ?_
      refine AWo.skipped rfl rfl ?_
      refine AWo.skipped rfl rfl ?_
      refine AWo.pure (PureOp.pickT rfl rfl) rfl rfl ?_
      refine AWo.nil trivial ?_
      refine AW.condT rfl ?_
      refine AW.seqR ?_
      refine AWo.pure (PureOp.assign rfl) rfl rfl ?_
      refine AWo.pure (PureOp.assign rfl) rfl rfl ?_
      refine AWo.nil trivial ?_
      refine AW.ret ?_
      refine thenA_ret ?_
      rw [vC_no hv, vN_no hv]
      refine RetQ.gc [_, _] [] [.tmp 2, .tmp 3] (.inl rfl) rfl (.tmp rfl (.tmp rfl .nil)) rfl (.pure rfl (.pure rfl .nil)) (OutL.flat rfl (flatM flat_vi) (by intro h; exact h.elim id fun h => absurd h.1 (by simp)) trivial) (by decide) rfl
    ·
      have h14 : n &&& (n - 1) = 0 := by simpa using hb1
      refine AWo.pure (PureOp.pickF rfl rfl) rfl rfl ?_
      refine AWo.pure (PureOp.move rfl) rfl rfl ?_
      refine AWo.pure (PureOp.move rfl) rfl rfl ?_
      first | refine AWo.pure (PureOp.gtN (b := 4096) rfl rfl) rfl rfl ?_ | refine AWo.pure (PureOp.bin rfl rfl rfl) rfl rfl ?_
      refine AWo.pure (PureOp.pickF rfl rfl) rfl rfl ?_
      refine AWo.nil trivial ?_
      refine AW.cond rfl (fun hb2 => ?_) (fun hb2 => ?_)
      ·
        have hv : isV n = false := isV_gt (of_decide_eq_true hb2)
        refine AW.seqR ?_
        refine AWo.pure (PureOp.assign rfl) rfl rfl ?_
        refine AWo.pure (PureOp.assign rfl) rfl rfl ?_
        refine AWo.nil trivial ?_
        refine AW.ret ?_
        refine thenA_ret ?_
        rw [vC_no hv, vN_no hv]
        refine RetQ.gc [_, _] [] [.tmp 2, .tmp 3] (.inl rfl) rfl (.tmp rfl (.tmp rfl .nil)) rfl (.pure rfl (.pure rfl .nil)) (OutL.flat rfl (flatM flat_vi) (by intro h; exact h.elim id fun h => absurd h.1 (by simp)) trivial) (by decide) rfl
      ·
        have hv : isV n = true := isV_ok h8 h14 (by have := of_decide_eq_false hb2; omega)
        refine AW.skip ?_
        refine thenA_normal ?_
        refine AW.seqR ?_
        refine AWo.pure (PureOp.move rfl) rfl rfl ?_
        first | refine AWo.pure (PureOp.cvtN tbok 18446744073709551616 rfl rfl rfl (by decide) (by decide) (by first | decide | omega)) rfl rfl ?_ | refine AWo.pure (PureOp.cvtU tbok 18446744073709551616 rfl rfl rfl rfl rfl) rfl rfl ?_ | refine AWo.pure (PureOp.cvt tbok rfl rfl rfl) rfl rfl ?_
        refine AWo.callX (tz_ctr (x := n) (by omega) h8) bd38 [] [] rfl (.cons rfl .nil) rfl (.cons rfl rfl .nil) .nil rfl .nil frN (by decide) (.cons rfl rfl .nil) rfl rfl rfl rfl ?_
        refine AWo.pure (PureOp.assign rfl) rfl rfl ?_
        refine AWo.pure (PureOp.assign rfl) rfl rfl ?_
        refine AWo.nil trivial ?_
        refine AW.ret ?_
        rw [vC_ok hv, show vN n = Lib.ctz 64 n from if_pos hv]
        refine RetQ.gc [_, _] [] [.tmp 2, .tmp 3] (.inl rfl) rfl (.tmp rfl (.tmp rfl .nil)) rfl (.cons rfl rfl (.cons rfl rfl .nil)) (OutL.flat rfl (flatM flat_vi) (by intro h; exact h.elim id fun h => absurd h.1 (by simp)) trivial) (by decide) rfl
theorem rvars_ctr {xs : List Fp} {n : Nat} (hn : xs.length = n) (hx : n < 1000000) : GC Tryd.prog 12 [.slice (some ⟨0, 0, none⟩) n 0] [⟨xs.map (dv), false, 1⟩] [vi .i64 (vN n), .int .i64 (vC n)] [⟨xs.map (dv), false, 1⟩] := by
  refine GC.intro Tryd.func12 rfl (by show 1 ≤ 17; decide) (by first | exact Nat.le_refl _ | decide | simp) ?_
  refine AW.seqR ?_
  refine AWo.pure (PureOp.assign rfl) rfl rfl ?_
  refine AWo.pure (PureOp.assign rfl) rfl rfl ?_
  refine AWo.nil trivial ?_
  refine AW.seqR ?_
  refine AWo.pure (PureOp.assign rfl) rfl rfl ?_
  refine AWo.nil trivial ?_
  refine AW.seq ?_
  refine AW.seqR ?_
  refine AWo.pure (PureOp.assign rfl) rfl rfl ?_
  refine AWo.nil trivial ?_
  refine AW.block ?_
  refine AW.loopw (fun mm σ => ∃ k, (k ≤ 13 ∧ ∀ j, j < k → n ≠ 2 ^ j) ∧ mm = 13 - k ∧ σ = ⟨(upd (upd (upd emp 0 (.slice (some ⟨0, 0, none⟩) n 0)) 4 (vi .i64 (2 ^ k))) 5 (vi .i64 k)), (upd emp 0 ⟨xs.map dv, false, 1⟩)⟩) (fm := []) ?_ ⟨0, ⟨by decide, fun j hj => absurd hj (Nat.not_lt_zero j)⟩, rfl, rfl⟩ ?_
  ·
    refine Wk.of [0] ?_ ?_ ?_ (by decide) rfl
    ·
      refine WkE.upd rfl (by first | exact VR.flat _ rfl | exact VR.eqv (vp_succ _) rfl | exact VR.eqv (vp_succ _).symm rfl | exact VR.eqv (by first | rfl | (congr 1; omega) | (simp; done) | (simp; omega)) rfl) ?_
      refine WkE.upd rfl (by first | exact VR.flat _ rfl | exact VR.eqv (vp_succ _) rfl | exact VR.eqv (vp_succ _).symm rfl | exact VR.eqv (by first | rfl | (congr 1; omega) | (simp; done) | (simp; omega)) rfl) ?_
      refine WkE.upd rfl (.slice (0) 0 _ 0 ⟨_, rfl⟩ (by simp) (by simp)) ?_
      exact WkE.emp
    ·
      refine WkM.cloM rfl rfl (fun _ => rfl) (fun h => h) ?_
      exact WkM.emp
    ·
      repeat (refine dom_upd_mem (by decide) ?_)
      exact dom_emp
  ·
    rintro mm σ ⟨k, ⟨hk0, hno⟩, rfl, rfl⟩
    have h2k : 2 ^ k ≤ 8192 := Nat.le_trans (Nat.pow_le_pow_right (by decide) hk0) (by decide)
    refine AW.seq ?_
    refine AW.seqR ?_
    refine AWo.pure (PureOp.move rfl) rfl rfl ?_
    first | refine AWo.pure (PureOp.leN (b := 12) rfl rfl) rfl rfl ?_ | refine AWo.pure (PureOp.bin rfl rfl rfl) rfl rfl ?_
    refine AWo.nil trivial ?_
    refine AW.cond rfl (fun hb0 => ?_) (fun hb0 => ?_)
    ·
      have hk : k ≤ 12 := of_decide_eq_true hb0
      refine AW.skip ?_
      refine thenA_normal ?_
      refine AW.seq ?_
      refine AW.block ?_
      refine AW.seq ?_
      refine AW.seqR ?_
      refine AWo.pure (PureOp.move rfl) rfl rfl ?_
      first | refine AWo.pure (PureOp.lenS tbok rfl rfl) rfl rfl ?_ | refine AWo.pure (PureOp.lenD tbok rfl rfl) rfl rfl ?_
      refine AWo.pure (PureOp.move rfl) rfl rfl ?_
      first | refine AWo.pure (PureOp.eqN rfl rfl) rfl rfl ?_ | refine AWo.pure (PureOp.bin rfl rfl rfl) rfl rfl ?_
      refine AWo.nil trivial ?_
      refine AW.cond rfl (fun hb1 => ?_) (fun hb1 => ?_)
      ·
        have h13 : n = 2 ^ k := by simpa using hb1
        refine AW.seqR ?_
        refine AWo.pure (PureOp.move rfl) rfl rfl ?_
        refine AWo.pure (PureOp.assign rfl) rfl rfl ?_
        refine AWo.pure (PureOp.assign rfl) rfl rfl ?_
        refine AWo.nil trivial ?_
        refine AW.ret ?_
        refine thenA_ret ?_
        refine inBlockA_ret ?_
        refine thenA_ret ?_
        refine thenA_ret ?_
        refine inBlockA_ret ?_
        refine thenA_ret ?_
        have hv := pow_isV (show k ≤ 12 by omega)
        rw [h13, vC_ok hv.1, hv.2]
        refine RetQ.gc [_, _] [] [.tmp 2, .tmp 3] (.inl rfl) rfl (.tmp rfl (.tmp rfl .nil)) rfl (.cons rfl rfl (.pure rfl .nil)) (OutL.clo rfl (cloM fun _ => rfl) (by intro h; exact h.elim id fun h => absurd h.1 (by simp)) trivial) (by decide) rfl
      ·
        have h13 : n ≠ 2 ^ k := by simpa using hb1
        refine AW.skip ?_
        refine thenA_normal ?_
        refine AW.region ?_
        refine AWo.pure (PureOp.move rfl) rfl rfl ?_
        first | refine AWo.pure ((PureOp.mulI (b := 2) rfl rfl (by first | decide | omega)).mono (v' := vi .i64 (2 ^ (k + 1))) (congrArg (vi .i64) (Nat.pow_succ ..).symm)) rfl rfl ?_ | refine AWo.pure ((PureOp.bin rfl rfl rfl).mono (v' := vi .i64 (2 ^ (k + 1))) (congrArg (vi .i64) (Nat.pow_succ ..).symm)) rfl rfl ?_
        refine AWo.pure (PureOp.assign rfl) rfl rfl ?_
        refine AWo.nil trivial ?_
        refine inBlockA_normal ?_
        refine thenA_normal ?_
        refine AW.region ?_
        refine AWo.pure (PureOp.move rfl) rfl rfl ?_
        first | refine AWo.pure (PureOp.addI (b := 1) rfl rfl (by first | decide | omega)) rfl rfl ?_ | refine AWo.pure (PureOp.bin rfl rfl rfl) rfl rfl ?_
        refine AWo.pure (PureOp.assign rfl) rfl rfl ?_
        refine AWo.nil trivial ?_
        refine thenA_normal ?_
        refine ⟨13 - (k + 1), [], _, by omega, ?_, k + 1, ⟨by omega, fun j hj => (Nat.lt_succ_iff_lt_or_eq.1 hj).elim (hno j) (fun e => e ▸ h13)⟩, rfl, rfl⟩
        refine Wk.of [0] ?_ ?_ ?_ (by decide) rfl
        ·
          refine WkE.upd rfl (by first | exact VR.flat _ rfl | exact VR.eqv (vp_succ _) rfl | exact VR.eqv (vp_succ _).symm rfl | exact VR.eqv (by first | rfl | (congr 1; omega) | (simp; done) | (simp; omega)) rfl) ?_
          refine WkE.upd rfl (by first | exact VR.flat _ rfl | exact VR.eqv (vp_succ _) rfl | exact VR.eqv (vp_succ _).symm rfl | exact VR.eqv (by first | rfl | (congr 1; omega) | (simp; done) | (simp; omega)) rfl) ?_
          refine WkE.upd rfl (.slice (0) 0 _ 0 ⟨_, rfl⟩ (by simp) (by simp)) ?_
          exact WkE.emp
        ·
          refine WkM.cloM rfl rfl (fun _ => rfl) (fun h => h) ?_
          exact WkM.emp
        ·
          repeat (refine dom_upd_mem (by decide) ?_)
          exact dom_emp
    ·
      have hk : ¬ k ≤ 12 := of_decide_eq_false hb0
      refine AW.exit ?_
      refine thenA_exit ?_
      refine thenA_exit ?_
      refine inBlockA_hit ?_
      refine thenA_normal ?_
      refine AW.seqR ?_
      refine AWo.pure (PureOp.assign rfl) rfl rfl ?_
      refine AWo.pure (PureOp.assign rfl) rfl rfl ?_
      refine AWo.nil trivial ?_
      refine AW.ret ?_
      have hv := no_pow (n := n) (fun j hj => hno j (by omega))
      rw [vC_no hv, vN_no hv]
      refine RetQ.gc [_, _] [] [.tmp 2, .tmp 3] (.inl rfl) rfl (.tmp rfl (.tmp rfl .nil)) rfl (.pure rfl (.pure rfl .nil)) (OutL.clo rfl (cloM fun _ => rfl) (by intro h; exact h.elim id fun h => absurd h.1 (by simp)) trivial) (by decide) rfl
theorem fix_ctr {xs : List Fp} {x : Fp} {n : Nat} (hn : xs.length = n) (hx : n < 1000000) : GC Tryd.prog 17 [.slice (some ⟨0, 0, none⟩) n 0, .agg ((fe x).map (vi .u64)).toArray] [⟨((xs.map fe).flatten).map (vi .u64), false, 4⟩] [.slice (some ⟨1, 0, none⟩) (fixT xs x).length 0] [⟨((xs.map fe).flatten).map (vi .u64), false, 4⟩, ⟨(((fixT xs x).map fe).flatten).map (vi .u64), true, 4⟩] := by
  refine GC.intro Tryd.func17 rfl (by show 2 ≤ 54; decide) (by first | exact Nat.le_refl _ | decide | simp) ?_
  subst hn
  refine AW.seqR ?_
  refine AWo.box 4000 1 _ rfl rfl rfl rfl rfl ?_
  refine AWo.pure (PureOp.assign rfl) rfl rfl ?_
  refine AWo.nil trivial ?_
  refine AW.seqR ?_
  refine AWo.pure (PureOp.move rfl) rfl rfl ?_
  refine AWo.callX (vars_ctr (xs := xs) (n := xs.length) rfl hx) bd11 [(0, 0)] [] rfl (.cons rfl .nil) rfl (.cons rfl rfl .nil) (.flat rfl (flatM flat_vi) (by intro h; first | exact h | rfl) .nil) rfl (.keep rfl .nil) frN (by decide) (.cons rfl rfl (.cons rfl rfl .nil)) rfl rfl rfl rfl ?_
  refine AWo.pure (PureOp.move rfl) rfl rfl ?_
  refine AWo.pure (PureOp.extract rfl rfl) rfl rfl ?_
  refine AWo.pure (PureOp.extract rfl rfl) rfl rfl ?_
  refine AWo.pure (PureOp.assign rfl) rfl rfl ?_
  refine AWo.pure (PureOp.assign rfl) rfl rfl ?_
  refine AWo.nil trivial ?_
  refine AW.seq ?_
  refine AW.seqR ?_
  refine AWo.pure (PureOp.move rfl) rfl rfl ?_
  first | refine AWo.pureB (PureOp.neN (b := 0) rfl rfl) rfl rfl (fun hb0 => ?_) (fun hb0 => ?_) | refine AWo.pureB (PureOp.bin rfl rfl rfl) rfl rfl (fun hb0 => ?_) (fun hb0 => ?_)
  ·
    have hv : ¬ vC xs.length = 0 := by simpa using hb0
    have hfb : fixB xs.length = false := fixB_no (fun h => hv (vC_iff.2 h))
    refine AWo.pure (PureOp.move rfl) rfl rfl ?_
    refine AWo.skipped rfl rfl ?_
    refine AWo.skipped rfl rfl ?_
    refine AWo.pure (PureOp.pickT rfl rfl) rfl rfl ?_
    refine AWo.nil trivial ?_
    refine AW.condT rfl ?_
    refine AW.ghost 77000 4 rfl ?_
    refine AW.seqR ?_
    refine AWo.pure (PureOp.assign rfl) rfl rfl ?_
    refine AWo.nil trivial ?_
    refine AW.ret ?_
    refine thenA_ret ?_
    have e : fixT xs x = [] := if_neg (by rw [hfb]; decide)
    rw [e]
    refine RetQ.gc [_] [77000] [.tmp 4] (.inl rfl) rfl (.tmp rfl .nil) rfl (.nilS .nil) (OutL.flat rfl (flatM flat_vi) (by intro h; exact h.elim id fun h => absurd h.1 (by simp)) (OutL.flat rfl (flatM flat_vi) (fun _ => rfl) trivial)) (by decide) rfl
  ·
    have hv : isV xs.length = true := vC_iff.1 (by simpa using hb0)
    refine AWo.pure (PureOp.move rfl) rfl rfl ?_
    refine AWo.pure (PureOp.move rfl) rfl rfl ?_
    first | refine AWo.pure (PureOp.eqN (b := 0) rfl rfl) rfl rfl ?_ | refine AWo.pure (PureOp.bin rfl rfl rfl) rfl rfl ?_
    refine AWo.pure (PureOp.pickF rfl rfl) rfl rfl ?_
    refine AWo.nil trivial ?_
    refine AW.cond rfl (fun hb1 => ?_) (fun hb1 => ?_)
    ·
      have h0 : vN xs.length = 0 := by simpa using hb1
      have hfb : fixB xs.length = false := fixB_n0 h0
      refine AW.ghost 77000 4 rfl ?_
      refine AW.seqR ?_
      refine AWo.pure (PureOp.assign rfl) rfl rfl ?_
      refine AWo.nil trivial ?_
      refine AW.ret ?_
      refine thenA_ret ?_
      have e : fixT xs x = [] := if_neg (by rw [hfb]; decide)
      rw [e]
      refine RetQ.gc [_] [77000] [.tmp 4] (.inl rfl) rfl (.tmp rfl .nil) rfl (.nilS .nil) (OutL.flat rfl (flatM flat_vi) (by intro h; exact h.elim id fun h => absurd h.1 (by simp)) (OutL.flat rfl (flatM flat_vi) (fun _ => rfl) trivial)) (by decide) rfl
    ·
      have h0 : ¬ vN xs.length = 0 := by simpa using hb1
      have hfb : fixB xs.length = true := fixB_ok hv h0
      refine AW.skip ?_
      refine thenA_normal ?_
      refine AW.seqR ?_
      refine AWo.pure (PureOp.move rfl) rfl rfl ?_
      first | refine AWo.pure (PureOp.lenS tbok rfl rfl) rfl rfl ?_ | refine AWo.pure (PureOp.lenD tbok rfl rfl) rfl rfl ?_
      first | refine AWo.pure (PureOp.quoN (b := 2) 9223372036854775808 rfl rfl (by decide) (by decide) (by first | decide | omega) (by first | decide | omega)) rfl rfl ?_ | refine AWo.pure (PureOp.quo rfl rfl (by first | decide | omega)) rfl rfl ?_
      refine AWo.pure (PureOp.assign rfl) rfl rfl ?_
      refine AWo.nil trivial ?_
      refine AW.seqR ?_
      refine AWo.pure (PureOp.move rfl) rfl rfl ?_
      refine AWo.makeSliceC tbok 26000 ((((List.replicate (xs.length / 2) (0 : Fp)).map fe).flatten).map (vi .u64)) rfl rfl (Nat.le_refl _) rfl rfl (by decide) rfl rfl rfl rfl (by omega) (by omega) (zeroFF _).symm rfl rfl rfl ?_
      rw [show List.replicate (xs.length / 2) (0 : Fp) = fxp xs x 0 from (fxp_zero xs x).symm]
      refine AWo.pure (PureOp.assign rfl) rfl rfl ?_
      refine AWo.nil trivial ?_
      refine AW.seq ?_
      refine AW.seqR ?_
      refine AWo.pure (PureOp.move rfl) rfl rfl ?_
      first | refine AWo.pure (PureOp.lenS tbok rfl rfl) rfl rfl ?_ | refine AWo.pure (PureOp.lenD tbok rfl rfl) rfl rfl ?_
      refine AWo.pure (PureOp.move rfl) rfl rfl ?_
      refine AWo.nil trivial ?_
      refine AW.block ?_
      refine AW.loopw (fun mm σ => ∃ i, (i ≤ (xs.length / 2)) ∧ mm = (xs.length / 2) - i ∧ σ = ⟨(upd (upd (upd (upd (upd (upd emp 0 (.slice (some ⟨0, 0, none⟩) xs.length 0)) 3 (.pointer (some ⟨4000, 0, none⟩))) 7 (vi .i64 (xs.length / 2))) 8 (.slice (some ⟨26000, 0, none⟩) (xs.length / 2) 0)) 27 (vi .i64 (xs.length / 2))) 28 (vi .i64 i)), (upd (upd (upd emp 0 ⟨((xs.map fe).flatten).map (vi .u64), false, 4⟩) 4000 ⟨(fe x).map (vi .u64), true, 1⟩) 26000 ⟨(((fxp xs x i).map fe).flatten).map (vi .u64), true, 4⟩)⟩) (fm := []) ?_ ⟨0, Nat.zero_le _, rfl, rfl⟩ ?_
      ·
        refine Wk.of [0, 4000, 26000] ?_ ?_ ?_ (by decide) rfl
        ·
          refine WkE.upd rfl (by first | exact VR.flat _ rfl | exact VR.eqv (vp_succ _) rfl | exact VR.eqv (vp_succ _).symm rfl | exact VR.eqv (by first | rfl | (congr 1; omega) | (simp; done) | (simp; omega)) rfl) ?_
          refine WkE.upd rfl (by first | exact VR.flat _ rfl | exact VR.eqv (vp_succ _) rfl | exact VR.eqv (vp_succ _).symm rfl | exact VR.eqv (by first | rfl | (congr 1; omega) | (simp; done) | (simp; omega)) rfl) ?_
          refine WkE.upd rfl (.slice (26000) 0 _ 0 ⟨_, rfl⟩ (by simp) (by simp)) ?_
          refine WkE.upd rfl (by first | exact VR.flat _ rfl | exact VR.eqv (vp_succ _) rfl | exact VR.eqv (vp_succ _).symm rfl | exact VR.eqv (by first | rfl | (congr 1; omega) | (simp; done) | (simp; omega)) rfl) ?_
          refine WkE.upd rfl (.ptr (4000) 0 ⟨_, rfl⟩) ?_
          refine WkE.upd rfl (.slice (0) 0 _ 0 ⟨_, rfl⟩ (by simp) (by simp)) ?_
          exact WkE.emp
        ·
          refine WkM.flat rfl (flatM flat_vi) (fun h => h) ?_
          refine WkM.flat rfl (flatM flat_vi) (fun h => h) ?_
          refine WkM.flat rfl (flatM flat_vi) (fun h => h) ?_
          exact WkM.emp
        ·
          repeat (refine dom_upd_mem (by decide) ?_)
          exact dom_emp
      ·
        rintro mm σ ⟨i, hinv, rfl, rfl⟩
        have hfl := fxp_len xs x i
        refine AW.seqR ?_
        first | refine AWo.pure (PureOp.ltN rfl rfl) rfl rfl ?_ | refine AWo.pure (PureOp.bin rfl rfl rfl) rfl rfl ?_
        refine AWo.nil trivial ?_
        refine AW.seq ?_
        refine AW.cond rfl (fun hb2 => ?_) (fun hb2 => ?_)
        ·
          have hi : i < (xs.length / 2) := by simpa using hb2
          refine AW.skip ?_
          refine thenA_normal ?_
          refine AW.seq ?_
          refine AW.block ?_
          refine AW.seqR ?_
          refine AWo.pure (PureOp.move rfl) rfl rfl ?_
          refine AWo.pure (PureOp.assign rfl) rfl rfl ?_
          refine AWo.nil trivial ?_
          refine AW.draw mixed ?_
          refine AWo.pure (PureOp.move rfl) rfl rfl ?_
          refine AWo.pure (PureOp.move rfl) rfl rfl ?_
          refine AWo.pure (PureOp.move rfl) rfl rfl ?_
          refine AWo.pure (PureOp.move rfl) rfl rfl ?_
          first | refine AWo.pure (PureOp.idx1 tbok rfl rfl rfl rfl (by first | decide | omega)) rfl rfl ?_ | refine AWo.pure (PureOp.idx tbok rfl rfl rfl rfl (by first | decide | omega)) rfl rfl ?_
          refine yLJ (xs := xs) i ?_
          first | refine yLE ?_ | refine yLEi ?_
          refine AWo.pure (PureOp.move rfl) rfl rfl ?_
          refine AWo.pure (PureOp.move rfl) rfl rfl ?_
          refine AWo.pure (PureOp.move rfl) rfl rfl ?_
          first | refine AWo.pure (PureOp.addI rfl rfl (by first | decide | omega)) rfl rfl ?_ | refine AWo.pure (PureOp.bin rfl rfl rfl) rfl rfl ?_
          first | refine AWo.pure (PureOp.idx1 tbok rfl rfl rfl rfl (by first | decide | omega)) rfl rfl ?_ | refine AWo.pure (PureOp.idx tbok rfl rfl rfl rfl (by first | decide | omega)) rfl rfl ?_
          refine yLJ (xs := xs) (xs.length / 2 + i) ?_
          refine AWo.pure (PureOp.move rfl) rfl rfl ?_
          refine AWo.pure (PureOp.move rfl) rfl rfl ?_
          first | refine AWo.pure (PureOp.idx1 tbok rfl rfl rfl rfl (by first | decide | omega)) rfl rfl ?_ | refine AWo.pure (PureOp.idx tbok rfl rfl rfl rfl (by first | decide | omega)) rfl rfl ?_
          refine yLJ (xs := xs) i ?_
          refine AWo.callX (subF_ctr (x := xs.getD (xs.length / 2 + i) 0) (y := xs.getD i 0)) bd26 [] [] rfl (.cons rfl (.cons rfl .nil)) rfl (.pure (by first | rfl | exact pure_aggM flat_vi | exact pure_aggM flat_bool) (.pure (by first | rfl | exact pure_aggM flat_vi | exact pure_aggM flat_bool) .nil)) .nil rfl .nil frN (by decide) (.pure (by first | rfl | exact pure_aggM flat_vi | exact pure_aggM flat_bool) .nil) rfl rfl rfl rfl ?_
          refine AWo.callX (mulF_ctr (x := x) (y := xs.getD (xs.length / 2 + i) 0 - xs.getD i 0)) bd25 [] [] rfl (.cons rfl (.cons rfl .nil)) rfl (.pure (by first | rfl | exact pure_aggM flat_vi | exact pure_aggM flat_bool) (.pure (by first | rfl | exact pure_aggM flat_vi | exact pure_aggM flat_bool) .nil)) .nil rfl .nil frN (by decide) (.pure (by first | rfl | exact pure_aggM flat_vi | exact pure_aggM flat_bool) .nil) rfl rfl rfl rfl ?_
          refine AWo.callX (addF_ctr (x := xs.getD i 0) (y := x * (xs.getD (xs.length / 2 + i) 0 - xs.getD i 0))) bd23 [] [] rfl (.cons rfl (.cons rfl .nil)) rfl (.pure (by first | rfl | exact pure_aggM flat_vi | exact pure_aggM flat_bool) (.pure (by first | rfl | exact pure_aggM flat_vi | exact pure_aggM flat_bool) .nil)) .nil rfl .nil frN (by decide) (.pure (by first | rfl | exact pure_aggM flat_vi | exact pure_aggM flat_bool) .nil) rfl rfl rfl rfl ?_
          first | refine AWo.pure (PureOp.idx1 tbok rfl rfl rfl rfl (by first | decide | omega)) rfl rfl ?_ | refine AWo.pure (PureOp.idx tbok rfl rfl rfl rfl (by first | decide | omega)) rfl rfl ?_
          refine ySJ (xs := fxp xs x i) (y := (xs.getD i 0 + x * (xs.getD (xs.length / 2 + i) 0 - xs.getD i 0))) i ?_
          rw [fxp_set hi]
          refine AWo.nil (by kernel_rfl) ?_
          refine inBlockA_normal ?_
          refine thenA_normal ?_
          refine AW.region ?_
          first | refine AWo.pure (PureOp.addI (b := 1) rfl rfl (by first | decide | omega)) rfl rfl ?_ | refine AWo.pure (PureOp.bin rfl rfl rfl) rfl rfl ?_
          refine AWo.pure (PureOp.move rfl) rfl rfl ?_
          refine AWo.nil trivial ?_
          refine thenA_normal ?_
          refine ⟨(xs.length / 2) - (i + 1), [], _, by omega, ?_, i + 1, by omega, rfl, rfl⟩
          refine Wk.of [0, 4000, 26000] ?_ ?_ ?_ (by decide) rfl
          ·
            refine WkE.upd rfl (by first | exact VR.flat _ rfl | exact VR.eqv (vp_succ _) rfl | exact VR.eqv (vp_succ _).symm rfl | exact VR.eqv (by first | rfl | (congr 1; omega) | (simp; done) | (simp; omega)) rfl) ?_
            refine WkE.upd rfl (by first | exact VR.flat _ rfl | exact VR.eqv (vp_succ _) rfl | exact VR.eqv (vp_succ _).symm rfl | exact VR.eqv (by first | rfl | (congr 1; omega) | (simp; done) | (simp; omega)) rfl) ?_
            refine WkE.upd rfl (.slice (26000) 0 _ 0 ⟨_, rfl⟩ (by simp) (by simp)) ?_
            refine WkE.upd rfl (by first | exact VR.flat _ rfl | exact VR.eqv (vp_succ _) rfl | exact VR.eqv (vp_succ _).symm rfl | exact VR.eqv (by first | rfl | (congr 1; omega) | (simp; done) | (simp; omega)) rfl) ?_
            refine WkE.upd rfl (.ptr (4000) 0 ⟨_, rfl⟩) ?_
            refine WkE.upd rfl (.slice (0) 0 _ 0 ⟨_, rfl⟩ (by simp) (by simp)) ?_
            exact WkE.emp
          ·
            refine WkM.flat rfl (flatM flat_vi) (fun h => h) ?_
            refine WkM.flat rfl (flatM flat_vi) (fun h => h) ?_
            refine WkM.flat rfl (flatM flat_vi) (fun h => h) ?_
            exact WkM.emp
          ·
            repeat (refine dom_upd_mem (by decide) ?_)
            exact dom_emp
        ·
          obtain rfl : i = (xs.length / 2) := by simp at hb2; omega
          refine AW.exit ?_
          refine thenA_exit ?_
          refine thenA_exit ?_
          refine inBlockA_hit ?_
          refine thenA_normal ?_
          refine AW.seqR ?_
          refine AWo.pure (PureOp.move rfl) rfl rfl ?_
          refine AWo.pure (PureOp.assign rfl) rfl rfl ?_
          refine AWo.nil trivial ?_
          refine AW.ret ?_
          have e : fixT xs x = fixL xs x := if_pos hfb
          rw [e, fixL_len, fxp_all]
          refine RetQ.gc [_] [26000] [.tmp 4] (.inl rfl) rfl (.tmp rfl .nil) rfl (.cons rfl rfl .nil) (OutL.flat rfl (flatM flat_vi) (by intro h; exact h.elim id fun h => absurd h.1 (by simp)) (OutL.flat rfl (flatM flat_vi) (fun _ => rfl) trivial)) (by decide) rfl
theorem rfix_ctr {xs : List Fp} {x : Fp} {n : Nat} (hn : xs.length = n) (hx : n < 1000000) : GC Tryd.prog 18 [.slice (some ⟨0, 0, none⟩) n 0, dv (x)] [⟨xs.map (dv), false, 1⟩] [.slice (some ⟨1, 0, none⟩) (fixT xs x).length 0] [⟨xs.map (dv), false, 1⟩, ⟨(fixT xs x).map dv, true, 1⟩] := by
  refine GC.intro Tryd.func18 rfl (by show 2 ≤ 53; decide) (by first | exact Nat.le_refl _ | decide | simp) ?_
  subst hn
  refine AW.seqR ?_
  refine AWo.pure (PureOp.assign rfl) rfl rfl ?_
  refine AWo.nil trivial ?_
  refine AW.seqR ?_
  refine AWo.pure (PureOp.move rfl) rfl rfl ?_
  refine AWo.callX (rvars_ctr (xs := xs) (n := xs.length) rfl hx) bd12 [(0, 0)] [] rfl (.cons rfl .nil) rfl (.cons rfl rfl .nil) (.clo rfl (cloM fun _ => rfl) (by intro h; first | exact h | rfl) .nil) rfl (.keep rfl .nil) frN (by decide) (.cons rfl rfl (.cons rfl rfl .nil)) rfl rfl rfl rfl ?_
  refine AWo.pure (PureOp.move rfl) rfl rfl ?_
  refine AWo.pure (PureOp.extract rfl rfl) rfl rfl ?_
  refine AWo.pure (PureOp.extract rfl rfl) rfl rfl ?_
  refine AWo.pure (PureOp.assign rfl) rfl rfl ?_
  refine AWo.pure (PureOp.assign rfl) rfl rfl ?_
  refine AWo.nil trivial ?_
  refine AW.seq ?_
  refine AW.seqR ?_
  refine AWo.pure (PureOp.move rfl) rfl rfl ?_
  first | refine AWo.pureB (PureOp.neN (b := 0) rfl rfl) rfl rfl (fun hb0 => ?_) (fun hb0 => ?_) | refine AWo.pureB (PureOp.bin rfl rfl rfl) rfl rfl (fun hb0 => ?_) (fun hb0 => ?_)
  ·
    have hv : ¬ vC xs.length = 0 := by simpa using hb0
    have hfb : fixB xs.length = false := fixB_no (fun h => hv (vC_iff.2 h))
    refine AWo.pure (PureOp.move rfl) rfl rfl ?_
    refine AWo.skipped rfl rfl ?_
    refine AWo.skipped rfl rfl ?_
    refine AWo.pure (PureOp.pickT rfl rfl) rfl rfl ?_
    refine AWo.nil trivial ?_
    refine AW.condT rfl ?_
    refine AW.ghost 77000 1 rfl ?_
    refine AW.seqR ?_
    refine AWo.pure (PureOp.assign rfl) rfl rfl ?_
    refine AWo.nil trivial ?_
    refine AW.ret ?_
    refine thenA_ret ?_
    have e : fixT xs x = [] := if_neg (by rw [hfb]; decide)
    rw [e]
    refine RetQ.gc [_] [77000] [.tmp 4] (.inl rfl) rfl (.tmp rfl .nil) rfl (.nilS .nil) (OutL.clo rfl (cloM fun _ => rfl) (by intro h; exact h.elim id fun h => absurd h.1 (by simp)) (OutL.clo rfl (cloM fun _ => rfl) (fun _ => rfl) trivial)) (by decide) rfl
  ·
    have hv : isV xs.length = true := vC_iff.1 (by simpa using hb0)
    refine AWo.pure (PureOp.move rfl) rfl rfl ?_
    refine AWo.pure (PureOp.move rfl) rfl rfl ?_
    first | refine AWo.pure (PureOp.eqN (b := 0) rfl rfl) rfl rfl ?_ | refine AWo.pure (PureOp.bin rfl rfl rfl) rfl rfl ?_
    refine AWo.pure (PureOp.pickF rfl rfl) rfl rfl ?_
    refine AWo.nil trivial ?_
    refine AW.cond rfl (fun hb1 => ?_) (fun hb1 => ?_)
    ·
      have h0 : vN xs.length = 0 := by simpa using hb1
      have hfb : fixB xs.length = false := fixB_n0 h0
      refine AW.ghost 77000 1 rfl ?_
      refine AW.seqR ?_
      refine AWo.pure (PureOp.assign rfl) rfl rfl ?_
      refine AWo.nil trivial ?_
      refine AW.ret ?_
      refine thenA_ret ?_
      have e : fixT xs x = [] := if_neg (by rw [hfb]; decide)
      rw [e]
      refine RetQ.gc [_] [77000] [.tmp 4] (.inl rfl) rfl (.tmp rfl .nil) rfl (.nilS .nil) (OutL.clo rfl (cloM fun _ => rfl) (by intro h; exact h.elim id fun h => absurd h.1 (by simp)) (OutL.clo rfl (cloM fun _ => rfl) (fun _ => rfl) trivial)) (by decide) rfl
    ·
      have h0 : ¬ vN xs.length = 0 := by simpa using hb1
      have hfb : fixB xs.length = true := fixB_ok hv h0
      refine AW.skip ?_
      refine thenA_normal ?_
      refine AW.seqR ?_
      refine AWo.pure (PureOp.move rfl) rfl rfl ?_
      first | refine AWo.pure (PureOp.lenS tbok rfl rfl) rfl rfl ?_ | refine AWo.pure (PureOp.lenD tbok rfl rfl) rfl rfl ?_
      first | refine AWo.pure (PureOp.quoN (b := 2) 9223372036854775808 rfl rfl (by decide) (by decide) (by first | decide | omega) (by first | decide | omega)) rfl rfl ?_ | refine AWo.pure (PureOp.quo rfl rfl (by first | decide | omega)) rfl rfl ?_
      refine AWo.pure (PureOp.assign rfl) rfl rfl ?_
      refine AWo.nil trivial ?_
      refine AW.seqR ?_
      refine AWo.buildSlice tbok 26000 [] (out := []) rfl rfl (by decide) rfl rfl rfl (by decide) rfl rfl rfl rfl rfl ?_
      refine AWo.pure (PureOp.assign rfl) rfl rfl ?_
      refine AWo.nil trivial ?_
      refine AW.seq ?_
      refine AW.seqR ?_
      refine AWo.pure (PureOp.assign rfl) rfl rfl ?_
      refine AWo.nil trivial ?_
      refine AW.block ?_
      refine AW.loopw (fun mm σ => ∃ i, (i ≤ (xs.length / 2)) ∧ mm = (xs.length / 2) - i ∧ σ = ⟨(upd (upd (upd (upd (upd emp 0 (.slice (some ⟨0, 0, none⟩) xs.length 0)) 1 (dv x)) 7 (vi .i64 (xs.length / 2))) 8 (.slice (some ⟨77000, 0, none⟩) i 0)) 9 (vi .i64 i)), (upd (upd emp 0 ⟨xs.map dv, false, 1⟩) 77000 ⟨((fixL xs x).take i).map dv, true, 1⟩)⟩) (fm := [(77000, 26000)]) ?_ ⟨0, Nat.zero_le _, rfl, rfl⟩ ?_
      ·
        refine Wk.of [0, 77000] ?_ ?_ ?_ (by decide) rfl
        ·
          refine WkE.upd rfl (by first | exact VR.flat _ rfl | exact VR.eqv (vp_succ _) rfl | exact VR.eqv (vp_succ _).symm rfl | exact VR.eqv (by first | rfl | (congr 1; omega) | (simp; done) | (simp; omega)) rfl) ?_
          refine WkE.upd rfl (by first | exact .nilS _ (by simp) | exact .slice (77000) 0 _ 0 ⟨_, rfl⟩ (by simp) (by simp)) ?_
          refine WkE.upd rfl (by first | exact VR.flat _ rfl | exact VR.eqv (vp_succ _) rfl | exact VR.eqv (vp_succ _).symm rfl | exact VR.eqv (by first | rfl | (congr 1; omega) | (simp; done) | (simp; omega)) rfl) ?_
          refine WkE.upd rfl (clo_refl (by simp) rfl) ?_
          refine WkE.upd rfl (.slice (0) 0 _ 0 ⟨_, rfl⟩ (by simp) (by simp)) ?_
          exact WkE.emp
        ·
          refine WkM.cloM rfl rfl (fun _ => rfl) (fun h => h) ?_
          refine WkM.cloM rfl rfl (fun _ => rfl) (fun h => h) ?_
          exact WkM.emp
        ·
          repeat (refine dom_upd_mem (by decide) ?_)
          exact dom_emp
      ·
        rintro mm σ ⟨i, hinv, rfl, rfl⟩
        refine AW.seq ?_
        refine AW.seqR ?_
        refine AWo.pure (PureOp.move rfl) rfl rfl ?_
        refine AWo.pure (PureOp.move rfl) rfl rfl ?_
        first | refine AWo.pure (PureOp.ltN rfl rfl) rfl rfl ?_ | refine AWo.pure (PureOp.bin rfl rfl rfl) rfl rfl ?_
        refine AWo.nil trivial ?_
        refine AW.cond rfl (fun hb2 => ?_) (fun hb2 => ?_)
        ·
          have hi : i < (xs.length / 2) := by simpa using hb2
          refine AW.skip ?_
          refine thenA_normal ?_
          refine AW.seq ?_
          refine AW.block ?_
          refine AW.seqD mixed ?_
          refine AWo.pure (PureOp.move rfl) rfl rfl ?_
          refine AWo.pure (PureOp.move rfl) rfl rfl ?_
          refine AWo.pure (PureOp.idx1 tbok (j := i) rfl rfl rfl rfl (by omega)) rfl rfl ?_
          refine AWo.loadM tbok (f := dv) 0 rfl rfl rfl (by omega) rfl rfl ?_
          refine AWo.buildSliceF tbok 36000 [(0, vi .u64 1)] (out := [vi .u64 1]) rfl rfl (by decide) rfl rfl rfl (by decide) rfl rfl rfl rfl (fun x hx => by simp at hx; subst hx; rfl) rfl rfl ?_
          rw [show deep 1 1 [vi .u64 1] = dv 1 from rfl]
          refine AWo.pure (PureOp.move rfl) rfl rfl ?_
          refine AWo.callX (subRd (x := 1) (y := x)) bd44 [] [] rfl (.cons rfl (.cons rfl .nil)) rfl (.cons rfl rfl (.cons rfl rfl .nil)) .nil rfl .nil frN (by decide) (.cons rfl rfl .nil) rfl rfl rfl rfl ?_
          refine AWo.callX (mulRd (x := xs.getD i 0) (y := 1 - x)) bd40 [] [] rfl (.cons rfl (.cons rfl .nil)) rfl (.cons rfl rfl (.cons rfl rfl .nil)) .nil rfl .nil frN (by decide) (.cons rfl rfl .nil) rfl rfl rfl rfl ?_
          refine AWo.pure (PureOp.assign rfl) rfl rfl ?_
          refine AWo.nil (by kernel_rfl) ?_
          refine AW.region ?_
          refine AWo.pure (PureOp.move rfl) rfl rfl ?_
          refine AWo.pure (PureOp.move rfl) rfl rfl ?_
          refine AWo.pure (PureOp.move rfl) rfl rfl ?_
          refine AWo.pure (PureOp.move rfl) rfl rfl ?_
          refine AWo.pure (PureOp.move rfl) rfl rfl ?_
          first | refine AWo.pure (PureOp.addI rfl rfl (by first | decide | omega)) rfl rfl ?_ | refine AWo.pure (PureOp.bin rfl rfl rfl) rfl rfl ?_
          refine AWo.pure (PureOp.idx1 tbok (j := xs.length / 2 + i) rfl rfl rfl rfl (by omega)) rfl rfl ?_
          refine AWo.loadM tbok (f := dv) 0 rfl rfl rfl (by omega) rfl rfl ?_
          refine AWo.pure (PureOp.move rfl) rfl rfl ?_
          refine AWo.callX (mulRd (x := xs.getD (xs.length / 2 + i) 0) (y := x)) bd40 [] [] rfl (.cons rfl (.cons rfl .nil)) rfl (.cons rfl rfl (.cons rfl rfl .nil)) .nil rfl .nil frN (by decide) (.cons rfl rfl .nil) rfl rfl rfl rfl ?_
          refine AWo.callX (addRd (x := xs.getD i 0 * (1 - x)) (y := xs.getD (xs.length / 2 + i) 0 * x)) bd39 [] [] rfl (.cons rfl (.cons rfl .nil)) rfl (.cons rfl rfl (.cons rfl rfl .nil)) .nil rfl .nil frN (by decide) (.cons rfl rfl .nil) rfl rfl rfl rfl ?_
          refine AWo.buildSlice tbok 51000 [(0, dv (xs.getD i 0 * (1 - x) + xs.getD (xs.length / 2 + i) 0 * x))] (out := [dv (xs.getD i 0 * (1 - x) + xs.getD (xs.length / 2 + i) 0 * x)]) rfl rfl (by decide) rfl rfl rfl (by decide) rfl rfl rfl rfl rfl ?_
          refine AWo.append tbok (all := ((fixL xs x).take (i + 1)).map dv) (news := [dv (xs.getD i 0 * (1 - x) + xs.getD (xs.length / 2 + i) 0 * x)]) 52000 rfl rfl rfl rfl (by simp [fixL_len]; omega) (by show List.take _ (List.drop 0 _) = _; rw [List.drop_zero]; exact List.take_of_length_le (by simp)) (by first | decide | (simp; done) | (simp; omega)) (by decide) rfl rfl rfl (by first | decide | exact Nat.one_ne_zero) rfl rfl rfl (by first | decide | omega) (by first | decide | omega) (by rfl) (by rw [← fixL_step hi, List.map_append]; rfl) rfl rfl ?_
          refine AWo.pure (PureOp.assign rfl) rfl rfl ?_
          refine AWo.nil trivial ?_
          refine inBlockA_normal ?_
          refine thenA_normal ?_
          refine AW.region ?_
          refine AWo.pure (PureOp.move rfl) rfl rfl ?_
          first | refine AWo.pure (PureOp.addI (b := 1) rfl rfl (by first | decide | omega)) rfl rfl ?_ | refine AWo.pure (PureOp.bin rfl rfl rfl) rfl rfl ?_
          refine AWo.pure (PureOp.assign rfl) rfl rfl ?_
          refine AWo.nil trivial ?_
          refine thenA_normal ?_
          refine ⟨(xs.length / 2) - (i + 1), [(77000, 52000)], _, by omega, ?_, i + 1, by omega, rfl, rfl⟩
          refine Wk.of [0, 77000] ?_ ?_ ?_ (by decide) rfl
          ·
            refine WkE.upd rfl (by first | exact VR.flat _ rfl | exact VR.eqv (vp_succ _) rfl | exact VR.eqv (vp_succ _).symm rfl | exact VR.eqv (by first | rfl | (congr 1; omega) | (simp; done) | (simp; omega)) rfl) ?_
            refine WkE.upd rfl (by first | exact .nilS _ (by simp) | exact .slice (77000) 0 _ 0 ⟨_, rfl⟩ (by simp) (by simp)) ?_
            refine WkE.upd rfl (by first | exact VR.flat _ rfl | exact VR.eqv (vp_succ _) rfl | exact VR.eqv (vp_succ _).symm rfl | exact VR.eqv (by first | rfl | (congr 1; omega) | (simp; done) | (simp; omega)) rfl) ?_
            refine WkE.upd rfl (clo_refl (by simp) rfl) ?_
            refine WkE.upd rfl (.slice (0) 0 _ 0 ⟨_, rfl⟩ (by simp) (by simp)) ?_
            exact WkE.emp
          ·
            refine WkM.cloM rfl rfl (fun _ => rfl) (fun h => h) ?_
            refine WkM.cloM rfl rfl (fun _ => rfl) (fun h => h) ?_
            exact WkM.emp
          ·
            repeat (refine dom_upd_mem (by decide) ?_)
            exact dom_emp
        ·
          obtain rfl : i = (xs.length / 2) := by simp at hb2; omega
          refine AW.exit ?_
          refine thenA_exit ?_
          refine thenA_exit ?_
          refine inBlockA_hit ?_
          refine thenA_normal ?_
          refine AW.seqR ?_
          refine AWo.pure (PureOp.move rfl) rfl rfl ?_
          refine AWo.pure (PureOp.assign rfl) rfl rfl ?_
          refine AWo.nil trivial ?_
          refine AW.ret ?_
          have e : fixT xs x = fixL xs x := if_pos hfb
          rw [e, fixL_len, List.take_of_length_le (by rw [fixL_len]; exact Nat.le_refl _)]
          refine RetQ.gc [_] [77000] [.tmp 4] (.inl rfl) rfl (.tmp rfl .nil) rfl (.cons rfl rfl .nil) (OutL.clo rfl (cloM fun _ => rfl) (by intro h; exact h.elim id fun h => absurd h.1 (by simp)) (OutL.clo rfl (cloM fun _ => rfl) (fun _ => rfl) trivial)) (by decide) rfl
theorem sumT_ctr {xs : List Fp} {n : Nat} (hn : xs.length = n) (hx : n < 1000000) : GC Tryd.prog 19 [.slice (some ⟨0, 0, none⟩) n 0] [⟨((xs.map fe).flatten).map (vi .u64), false, 4⟩] [.agg ((fe (fsumL xs)).map (vi .u64)).toArray] [⟨((xs.map fe).flatten).map (vi .u64), false, 4⟩] := by
  refine GC.intro Tryd.func19 rfl (by show 1 ≤ 5; decide) (by first | exact Nat.le_refl _ | decide | simp) ?_
  refine AW.seqR ?_
  refine AWo.alloc tbok 3000 1 _ rfl rfl rfl rfl rfl rfl ?_
  refine AWo.nil trivial ?_
  refine AW.seqR ?_
  refine AWo.pure (PureOp.move rfl) rfl rfl ?_
  refine AWo.callX (sumN_ctr (xs := xs) (n := n) (s := fsumL xs) hn (by omega) rfl) bd45 [(0, 0)] [] rfl (.cons rfl .nil) rfl (.cons rfl rfl .nil) (.flat rfl (by first | exact flatM flat_vi | exact flatM flat_bool | (simp [flatV, flat_vi]; done)) (by intro h; first | exact h | rfl) .nil) rfl (.keep rfl .nil) frN (by decide) (.pure (by first | rfl | exact pure_aggM flat_vi | exact pure_aggM flat_bool) .nil) rfl rfl rfl rfl ?_
  refine AWo.storeAllN tbok rfl rfl rfl rfl (by first | (simp [*]; done) | rfl) (by first | (simp [*]; done) | rfl) (by first | exact oneM (fun _ => rfl) _ | rfl | (simp; done)) rfl ?_
  refine AWo.nil trivial ?_
  refine AW.ret ?_
  refine RetQ.gc [_] [] [.cell 2 43] (.inl rfl) rfl (.val (RVal.cellAll tbok rfl rfl rfl rfl (by first | (simp [*]; done) | rfl)) .nil) rfl (.pure (by first | rfl | exact pure_aggM flat_vi | exact pure_aggM flat_bool) .nil) (OutL.flat rfl (flatM flat_vi) (by intro h; first | rfl | exact h.elim id fun h => absurd h.1 (by simp)) trivial) (by decide) rfl
end Go.Proofs.YteeifahhejangaaDoor
namespace Go.Proofs.YteeifahhejangaaDoor
open Go Sim
theorem wtS_lo {ps : List Fp} {i j q : Nat} (hq : ps.length - j = q + 1) (h : i / 2 ^ j % 2 = 0) : wtS ps i j * (1 - ps.getD q 0) = wtS ps i (j + 1) := by
  rw [wtS, if_pos h, show ps.length - 1 - j = q by omega]
theorem wtS_hi {ps : List Fp} {i j q : Nat} (hq : ps.length - j = q + 1) (h : ¬ i / 2 ^ j % 2 = 0) : wtS ps i j * ps.getD q 0 = wtS ps i (j + 1) := by
  rw [wtS, if_neg h, show ps.length - 1 - j = q by omega]
theorem evF_step {xs ps : List Fp} {i : Nat} (hi : i < ps.length) : fixT (evF xs (ps.take i)) (ps.getD i 0) = evF xs (ps.take (i + 1)) := by
  rw [List.take_succ_eq_append_getElem hi, evF, evF, List.foldl_append, List.getD_eq_getElem?_getD, List.getElem?_eq_getElem hi]; rfl
theorem evF_le : ∀ (xs ps : List Fp), (evF xs ps).length ≤ xs.length
  | _, [] => Nat.le_refl _
  | xs, x :: ps => by
    have h1 := evF_le (fixT xs x) ps
    have h2 := fixT_len xs x
    show (evF (fixT xs x) ps).length ≤ _
    omega
theorem sp_val : eT [fp 1, fp 2, fp 3, fp 4] [fp 1, fp 0] = fp 3 := by decide +kernel
theorem sp_code : eC [fp 1, fp 2, fp 3, fp 4] [fp 1, fp 0] = 0 := by decide +kernel
theorem sp_ne : ¬ eT [fp 1, fp 2, fp 3, fp 4] [fp 1, fp 0] = 0 := by decide +kernel
theorem fillB4 {c : Value} {x y z u : Fp} : fillL (fun i => some (i * 4, 4)) (List.replicate (4 * 4) c) [(0, .agg ((fe x).map (vi .u64)).toArray), (1, .agg ((fe y).map (vi .u64)).toArray), (2, .agg ((fe z).map (vi .u64)).toArray), (3, .agg ((fe u).map (vi .u64)).toArray)] = some (FF [x, y, z, u]) := by
  have hl : ∀ x : Fp, ((fe x).map (vi .u64)).length = 4 := fun x => by rw [List.length_map, fe_len]
  refine fill4 (A := []) (k := 12) rfl rfl (fill4 (k := 8) (by simp [hl]) rfl (fill4 (k := 4) (by simp [hl]) rfl (fill4 (k := 0) (by simp [hl]) rfl ?_)))
  simp [fillL]
theorem wgt_ctr {ps : List Fp} {i k : Nat} (hk : ps.length = k) (hi : i < 1000000) (hy : k < 1000000) : GC Tryd.prog 41 [vi .i64 (i), .slice (some ⟨0, 0, none⟩) k 0] [⟨ps.map (dv), false, 1⟩] [dv (wt ps i)] [⟨ps.map (dv), false, 1⟩] := by
  refine GC.intro Tryd.func41 rfl (by show 2 ≤ 32; decide) (by first | exact Nat.le_refl _ | decide | simp) ?_
  subst hk
  refine AW.seqR ?_
  refine yP (PureOp.nilDeep 1) ?_
  refine AWo.nil trivial ?_
  refine AW.seqR ?_
  refine AWo.buildSlice tbok 9000 [(0, vi .u64 1)] (out := [vi .u64 1]) rfl rfl (by decide) rfl rfl rfl (by decide) rfl rfl rfl rfl rfl ?_
  refine AWo.pure (PureOp.assign rfl) rfl rfl ?_
  refine AWo.nil trivial ?_
  refine AW.seq ?_
  refine AW.freeze 5 9000 [vi .u64 1] ?_ rfl rfl (fun v hv => by simp at hv; subst hv; rfl) (by decide) rfl
  rw [show deep 1 1 [vi .u64 1] = dv (wtS ps i 0) from rfl]
  refine AW.seqR ?_
  refine AWo.pure (PureOp.move rfl) rfl rfl ?_
  first | refine AWo.pure (PureOp.lenS tbok rfl rfl) rfl rfl ?_ | refine AWo.pure (PureOp.lenD tbok rfl rfl) rfl rfl ?_
  refine yP (PureOp.subP (a := ps.length) rfl rfl (by omega)) ?_
  refine AWo.pure (PureOp.assign rfl) rfl rfl ?_
  refine AWo.nil trivial ?_
  refine AW.block ?_
  refine AW.loopw (fun mm σ => ∃ j, (j ≤ ps.length) ∧ mm = ps.length - j ∧ σ = ⟨(upd (upd (upd (upd emp 0 (vi .i64 (i / 2 ^ j))) 1 (.slice (some ⟨0, 0, none⟩) ps.length 0)) 5 (dv (wtS ps i j))) 6 (vp (ps.length - j))), (upd emp 0 ⟨ps.map dv, false, 1⟩)⟩) (fm := []) ?_ ⟨0, Nat.zero_le _, rfl, rfl⟩ ?_
  ·
    refine Wk.of [0] ?_ ?_ ?_ (by decide) rfl
    ·
      refine WkE.upd rfl (by first | exact VR.flat _ rfl | exact VR.eqv (vp_succ _) rfl | exact VR.eqv (vp_succ _).symm rfl | exact VR.eqv (by first | rfl | (congr 1; omega) | (simp; done) | (simp; omega)) rfl) ?_
      refine WkE.upd rfl (clo_refl (by simp) rfl) ?_
      refine WkE.upd rfl (.slice (0) 0 _ 0 ⟨_, rfl⟩ (by simp) (by simp)) ?_
      refine WkE.upd rfl (by first | exact VR.flat _ rfl | exact VR.eqv (congrArg (vi .i64) (by simp)) rfl) ?_
      exact WkE.emp
    ·
      refine WkM.cloM rfl rfl (fun _ => rfl) (fun h => h) ?_
      exact WkM.emp
    ·
      repeat (refine dom_upd_mem (by decide) ?_)
      exact dom_emp
  ·
    rintro mm σ ⟨j, hinv, rfl, rfl⟩
    have hij : i / 2 ^ j ≤ i := Nat.div_le_self _ _
    refine AW.seq ?_
    refine AW.seqR ?_
    refine AWo.pure (PureOp.move rfl) rfl rfl ?_
    refine yP (PureOp.geP (r := ps.length - j) rfl rfl) ?_
    refine AWo.nil trivial ?_
    refine AW.cond rfl (fun hb0 => ?_) (fun hb0 => ?_)
    ·
      have h13 : 0 < ps.length - j := of_decide_eq_true hb0
      obtain ⟨q, hq⟩ : ∃ q, ps.length - j = q + 1 := ⟨ps.length - j - 1, by omega⟩
      rw [hq, vp_succ]
      refine AW.skip ?_
      refine thenA_normal ?_
      refine AW.seq ?_
      refine AW.block ?_
      refine AW.seqR ?_
      refine AWo.pure (PureOp.move rfl) rfl rfl ?_
      refine AWo.pure (PureOp.move rfl) rfl rfl ?_
      refine AWo.pure (PureOp.idx1 tbok (j := q) rfl rfl rfl rfl (by omega)) rfl rfl ?_
      refine AWo.loadM tbok (f := dv) 0 rfl rfl rfl (by omega) rfl rfl ?_
      refine AWo.pure (PureOp.assign rfl) rfl rfl ?_
      refine AWo.nil trivial ?_
      refine AW.seq ?_
      refine AW.seqR ?_
      refine AWo.pure (PureOp.move rfl) rfl rfl ?_
      refine yP (PureOp.remN (a := i / 2 ^ j) (b := 2) rfl rfl (by decide)) ?_
      first | refine AWo.pure (PureOp.eqN (b := 0) rfl rfl) rfl rfl ?_ | refine AWo.pure (PureOp.bin rfl rfl rfl) rfl rfl ?_
      refine AWo.nil trivial ?_
      refine AW.cond rfl (fun hb1 => ?_) (fun hb1 => ?_)
      ·
        have h22 : i / 2 ^ j % 2 = 0 := by simpa using hb1
        refine AW.region ?_
        refine AWo.buildSliceF tbok 24000 [(0, vi .u64 1)] (out := [vi .u64 1]) rfl rfl (by decide) rfl rfl rfl (by decide) rfl rfl rfl rfl (fun x hx => by simp at hx; subst hx; rfl) rfl rfl ?_
        rw [show deep 1 1 [vi .u64 1] = dv 1 from rfl]
        refine AWo.pure (PureOp.move rfl) rfl rfl ?_
        refine AWo.callX (subRd (x := 1) (y := ps.getD q 0)) bd44 [] [] rfl (.cons rfl (.cons rfl .nil)) rfl (.cons rfl rfl (.cons rfl rfl .nil)) .nil rfl .nil frN (by decide) (.cons rfl rfl .nil) rfl rfl rfl rfl ?_
        refine AWo.pure (PureOp.assign rfl) rfl rfl ?_
        refine AWo.nil trivial ?_
        refine thenA_normal ?_
        refine AW.seqR ?_
        refine AWo.pure (PureOp.move rfl) rfl rfl ?_
        refine AWo.pure (PureOp.move rfl) rfl rfl ?_
        refine AWo.callX (v := dv (wtS ps i (j + 1))) (mulRd (x := wtS ps i j) (y := (1 - ps.getD q 0))) bd40 [] [] rfl (.cons rfl (.cons rfl .nil)) rfl (.cons rfl rfl (.cons rfl rfl .nil)) .nil rfl .nil frN (by decide) (.cons rfl rfl .nil) (by rw [wtS_lo hq h22]; rfl) rfl rfl rfl ?_
        refine AWo.pure (PureOp.assign rfl) rfl rfl ?_
        refine AWo.nil trivial ?_
        refine AW.region ?_
        refine AWo.pure (PureOp.move rfl) rfl rfl ?_
        refine AWo.pure ((PureOp.quoN (a := i / 2 ^ j) (b := 2) 9223372036854775808 rfl rfl (by decide) (by decide) (by omega) (by omega)).mono (v' := vi .i64 (i / 2 ^ (j + 1))) (congrArg (vi .i64) (by rw [Nat.div_div_eq_div_mul, ← Nat.pow_succ]))) rfl rfl ?_
        refine AWo.pure (PureOp.assign rfl) rfl rfl ?_
        refine AWo.nil trivial ?_
        refine inBlockA_normal ?_
        refine thenA_normal ?_
        refine AW.region ?_
        refine AWo.pure (PureOp.move rfl) rfl rfl ?_
        refine yP (PureOp.subP (a := q) rfl rfl (by omega)) ?_
        refine AWo.pure (PureOp.assign rfl) rfl rfl ?_
        refine AWo.nil trivial ?_
        refine thenA_normal ?_
        rw [show q = ps.length - (j + 1) by omega]
        refine ⟨ps.length - (j + 1), [], _, by omega, ?_, j + 1, by omega, rfl, rfl⟩
        refine Wk.of [0] ?_ ?_ ?_ (by decide) rfl
        ·
          refine WkE.upd rfl (by first | exact VR.flat _ rfl | exact VR.eqv (vp_succ _) rfl | exact VR.eqv (vp_succ _).symm rfl | exact VR.eqv (by first | rfl | (congr 1; omega) | (simp; done) | (simp; omega)) rfl) ?_
          refine WkE.upd rfl (clo_refl (by simp) rfl) ?_
          refine WkE.upd rfl (.slice (0) 0 _ 0 ⟨_, rfl⟩ (by simp) (by simp)) ?_
          refine WkE.upd rfl (by first | exact VR.flat _ rfl | exact VR.eqv (congrArg (vi .i64) (by simp)) rfl) ?_
          exact WkE.emp
        ·
          refine WkM.cloM rfl rfl (fun _ => rfl) (fun h => h) ?_
          exact WkM.emp
        ·
          repeat (refine dom_upd_mem (by decide) ?_)
          exact dom_emp
      ·
        have h22 : ¬ i / 2 ^ j % 2 = 0 := by simpa using hb1
        refine AW.skip ?_
        refine thenA_normal ?_
        refine AW.seqR ?_
        refine AWo.pure (PureOp.move rfl) rfl rfl ?_
        refine AWo.pure (PureOp.move rfl) rfl rfl ?_
        refine AWo.callX (v := dv (wtS ps i (j + 1))) (mulRd (x := wtS ps i j) (y := (ps.getD q 0))) bd40 [] [] rfl (.cons rfl (.cons rfl .nil)) rfl (.cons rfl rfl (.cons rfl rfl .nil)) .nil rfl .nil frN (by decide) (.cons rfl rfl .nil) (by rw [wtS_hi hq h22]; rfl) rfl rfl rfl ?_
        refine AWo.pure (PureOp.assign rfl) rfl rfl ?_
        refine AWo.nil trivial ?_
        refine AW.region ?_
        refine AWo.pure (PureOp.move rfl) rfl rfl ?_
        refine AWo.pure ((PureOp.quoN (a := i / 2 ^ j) (b := 2) 9223372036854775808 rfl rfl (by decide) (by decide) (by omega) (by omega)).mono (v' := vi .i64 (i / 2 ^ (j + 1))) (congrArg (vi .i64) (by rw [Nat.div_div_eq_div_mul, ← Nat.pow_succ]))) rfl rfl ?_
        refine AWo.pure (PureOp.assign rfl) rfl rfl ?_
        refine AWo.nil trivial ?_
        refine inBlockA_normal ?_
        refine thenA_normal ?_
        refine AW.region ?_
        refine AWo.pure (PureOp.move rfl) rfl rfl ?_
        refine yP (PureOp.subP (a := q) rfl rfl (by omega)) ?_
        refine AWo.pure (PureOp.assign rfl) rfl rfl ?_
        refine AWo.nil trivial ?_
        refine thenA_normal ?_
        rw [show q = ps.length - (j + 1) by omega]
        refine ⟨ps.length - (j + 1), [], _, by omega, ?_, j + 1, by omega, rfl, rfl⟩
        refine Wk.of [0] ?_ ?_ ?_ (by decide) rfl
        ·
          refine WkE.upd rfl (by first | exact VR.flat _ rfl | exact VR.eqv (vp_succ _) rfl | exact VR.eqv (vp_succ _).symm rfl | exact VR.eqv (by first | rfl | (congr 1; omega) | (simp; done) | (simp; omega)) rfl) ?_
          refine WkE.upd rfl (clo_refl (by simp) rfl) ?_
          refine WkE.upd rfl (.slice (0) 0 _ 0 ⟨_, rfl⟩ (by simp) (by simp)) ?_
          refine WkE.upd rfl (by first | exact VR.flat _ rfl | exact VR.eqv (congrArg (vi .i64) (by simp)) rfl) ?_
          exact WkE.emp
        ·
          refine WkM.cloM rfl rfl (fun _ => rfl) (fun h => h) ?_
          exact WkM.emp
        ·
          repeat (refine dom_upd_mem (by decide) ?_)
          exact dom_emp
    ·
      have h13 : ¬ 0 < ps.length - j := of_decide_eq_false hb0
      obtain rfl : j = ps.length := by omega
      refine AW.exit ?_
      refine thenA_exit ?_
      refine thenA_exit ?_
      refine inBlockA_hit ?_
      refine thenA_normal ?_
      refine AW.seqR ?_
      refine AWo.pure (PureOp.move rfl) rfl rfl ?_
      refine yA ?_
      refine AWo.nil trivial ?_
      refine AW.ret ?_
      refine RetQ.gc [_] [] [.tmp 4] (.inl rfl) rfl (.tmp rfl .nil) rfl (.cons rfl rfl .nil) (OutL.clo rfl (cloM fun _ => rfl) (by intro h; first | rfl | exact h.elim id fun h => absurd h.1 (by simp)) trivial) (by decide) rfl
theorem revT_ctr {xs ps : List Fp} {n k : Nat} (hn : xs.length = n) (hk : ps.length = k) (hx : n < 1000000) (hy : k < 1000000) : GC Tryd.prog 14 [.slice (some ⟨0, 0, none⟩) n 0, .slice (some ⟨1, 0, none⟩) k 0] [⟨xs.map (dv), false, 1⟩, ⟨ps.map (dv), false, 1⟩] [dv (eT xs ps), .int .i64 (eC xs ps)] [⟨xs.map (dv), false, 1⟩, ⟨ps.map (dv), false, 1⟩] := by
  refine GC.intro Tryd.func14 rfl (by show 2 ≤ 40; decide) (by first | exact Nat.le_refl _ | decide | simp) ?_
  subst hn
  subst hk
  refine AW.seqR ?_
  refine yP (PureOp.nilDeep 1) ?_
  refine AWo.pure (PureOp.assign rfl) rfl rfl ?_
  refine AWo.nil trivial ?_
  refine AW.seqR ?_
  refine AWo.pure (PureOp.move rfl) rfl rfl ?_
  refine AWo.callX (rvars_ctr (xs := xs) (n := xs.length) rfl hx) bd12 [(0, 0)] [] rfl (.cons rfl .nil) rfl (.cons rfl rfl .nil) (.clo rfl (cloM fun _ => rfl) (by intro h; first | exact h | rfl) .nil) rfl (.keep rfl .nil) frN (by decide) (.cons rfl rfl (.cons rfl rfl .nil)) rfl rfl rfl rfl ?_
  refine AWo.pure (PureOp.move rfl) rfl rfl ?_
  refine AWo.pure (PureOp.extract rfl rfl) rfl rfl ?_
  refine AWo.pure (PureOp.extract rfl rfl) rfl rfl ?_
  refine AWo.pure (PureOp.assign rfl) rfl rfl ?_
  refine AWo.pure (PureOp.assign rfl) rfl rfl ?_
  refine AWo.nil trivial ?_
  refine AW.seq ?_
  refine AW.seqR ?_
  refine AWo.pure (PureOp.move rfl) rfl rfl ?_
  first | refine AWo.pure (PureOp.neN (b := 0) rfl rfl) rfl rfl ?_ | refine AWo.pure (PureOp.bin rfl rfl rfl) rfl rfl ?_
  refine AWo.nil trivial ?_
  refine AW.cond rfl (fun hb0 => ?_) (fun hb0 => ?_)
  ·
    have h16 : ¬ vC xs.length = 0 := by simpa using hb0
    refine AW.seqR ?_
    refine AWo.pure (PureOp.move rfl) rfl rfl ?_
    refine yP (PureOp.nilDeep 1) ?_
    refine AWo.pure (PureOp.assign rfl) rfl rfl ?_
    refine AWo.nil trivial ?_
    refine AW.ret ?_
    refine thenA_ret ?_
    have hv : isV xs.length = false := Bool.eq_false_iff.2 fun h => h16 (vC_iff.2 h)
    rw [show eT xs ps = 0 from if_neg (by rw [evB, hv, Bool.false_and]; decide), show eC xs ps = 7 from if_neg (by rw [hv]; decide), vC_no hv]
    refine RetQ.gc [_, _] [] [.tmp 4, .tmp 5] (.inl rfl) rfl (.tmp rfl (.tmp rfl .nil)) rfl (.cons rfl rfl (.pure rfl .nil)) (OutL.clo rfl (cloM fun _ => rfl) (by intro h; exact h.elim id fun h => absurd h.1 (by simp)) (OutL.clo rfl (cloM fun _ => rfl) (by intro h; exact h.elim id fun h => absurd h.1 (by simp)) trivial)) (by decide) rfl
  ·
    have hv : isV xs.length = true := vC_iff.1 (by simpa using hb0)
    refine AW.skip ?_
    refine thenA_normal ?_
    refine AW.seq ?_
    refine AW.seqR ?_
    refine AWo.pure (PureOp.move rfl) rfl rfl ?_
    refine AWo.pure (PureOp.move rfl) rfl rfl ?_
    first | refine AWo.pure (PureOp.lenS tbok rfl rfl) rfl rfl ?_ | refine AWo.pure (PureOp.lenD tbok rfl rfl) rfl rfl ?_
    first | refine AWo.pure (PureOp.neN rfl rfl) rfl rfl ?_ | refine AWo.pure (PureOp.bin rfl rfl rfl) rfl rfl ?_
    refine AWo.nil trivial ?_
    refine AW.cond rfl (fun hb1 => ?_) (fun hb1 => ?_)
    ·
      have h21 : ¬ vN xs.length = ps.length := by simpa using hb1
      refine AW.seqR ?_
      refine yP (PureOp.nilDeep 1) ?_
      refine AWo.pure (PureOp.assign rfl) rfl rfl ?_
      refine AWo.nil trivial ?_
      refine AW.ret ?_
      refine thenA_ret ?_
      rw [show eT xs ps = 0 from if_neg (by rw [evB, decide_eq_false h21, Bool.and_false]; decide), show eC xs ps = 1 by rw [eC, if_pos hv, if_neg h21]]
      refine RetQ.gc [_, _] [] [.tmp 4, .tmp 5] (.inl rfl) rfl (.tmp rfl (.tmp rfl .nil)) rfl (.cons rfl rfl (.pure rfl .nil)) (OutL.clo rfl (cloM fun _ => rfl) (by intro h; exact h.elim id fun h => absurd h.1 (by simp)) (OutL.clo rfl (cloM fun _ => rfl) (by intro h; exact h.elim id fun h => absurd h.1 (by simp)) trivial)) (by decide) rfl
    ·
      have h21 : vN xs.length = ps.length := by simpa using hb1
      refine AW.skip ?_
      refine thenA_normal ?_
      refine AW.seqR ?_
      refine AWo.buildSlice tbok 23000 [] (out := []) rfl rfl (by decide) rfl rfl rfl (by decide) rfl rfl rfl rfl rfl ?_
      refine AWo.pure (PureOp.assign rfl) rfl rfl ?_
      refine AWo.nil trivial ?_
      refine AW.seq ?_
      refine AW.freeze 8 23000 ([] : List Value) ?_ rfl rfl (by simp) (by simp) rfl
      rw [show deep 0 1 ([] : List Value) = dv (smN (fun i => xs.getD i 0 * wt ps i) 0) from rfl]
      refine AW.seqR ?_
      refine AWo.pure (PureOp.assign rfl) rfl rfl ?_
      refine AWo.nil trivial ?_
      refine AW.block ?_
      refine AW.loopw (fun mm σ => ∃ i, (i ≤ xs.length) ∧ mm = xs.length - i ∧ σ = ⟨(upd (upd (upd (upd emp 0 (.slice (some ⟨0, 0, none⟩) xs.length 0)) 1 (.slice (some ⟨1, 0, none⟩) ps.length 0)) 8 (dv (smN (fun i => xs.getD i 0 * wt ps i) i))) 9 (vi .i64 i)), (upd (upd emp 0 ⟨xs.map dv, false, 1⟩) 1 ⟨ps.map dv, false, 1⟩)⟩) (fm := []) ?_ ⟨0, Nat.zero_le _, rfl, rfl⟩ ?_
      ·
        refine Wk.of [0, 1] ?_ ?_ ?_ (by decide) rfl
        ·
          refine WkE.upd rfl (by first | exact VR.flat _ rfl | exact VR.eqv (vp_succ _) rfl | exact VR.eqv (vp_succ _).symm rfl | exact VR.eqv (by first | rfl | (congr 1; omega) | (simp; done) | (simp; omega)) rfl) ?_
          refine WkE.upd rfl (clo_refl (by simp) rfl) ?_
          refine WkE.upd rfl (.slice (1) 0 _ 0 ⟨_, rfl⟩ (by simp) (by simp)) ?_
          refine WkE.upd rfl (.slice (0) 0 _ 0 ⟨_, rfl⟩ (by simp) (by simp)) ?_
          exact WkE.emp
        ·
          refine WkM.cloM rfl rfl (fun _ => rfl) (fun h => h) ?_
          refine WkM.cloM rfl rfl (fun _ => rfl) (fun h => h) ?_
          exact WkM.emp
        ·
          repeat (refine dom_upd_mem (by decide) ?_)
          exact dom_emp
      ·
        rintro mm σ ⟨i, hinv, rfl, rfl⟩
        refine AW.seq ?_
        refine AW.seqR ?_
        refine AWo.pure (PureOp.move rfl) rfl rfl ?_
        refine AWo.pure (PureOp.move rfl) rfl rfl ?_
        first | refine AWo.pure (PureOp.lenS tbok rfl rfl) rfl rfl ?_ | refine AWo.pure (PureOp.lenD tbok rfl rfl) rfl rfl ?_
        first | refine AWo.pure (PureOp.ltN rfl rfl) rfl rfl ?_ | refine AWo.pure (PureOp.bin rfl rfl rfl) rfl rfl ?_
        refine AWo.nil trivial ?_
        refine AW.cond rfl (fun hb2 => ?_) (fun hb2 => ?_)
        ·
          have hi : i < xs.length := by simpa using hb2
          refine AW.skip ?_
          refine thenA_normal ?_
          refine AW.seq ?_
          refine AW.block ?_
          refine AW.draw mixed ?_
          refine AWo.pure (PureOp.move rfl) rfl rfl ?_
          refine AWo.pure (PureOp.move rfl) rfl rfl ?_
          refine AWo.pure (PureOp.move rfl) rfl rfl ?_
          refine AWo.pure (PureOp.idx1 tbok (j := i) rfl rfl rfl rfl hi) rfl rfl ?_
          refine AWo.loadM tbok (f := dv) 0 rfl rfl rfl hi rfl rfl ?_
          refine AWo.pure (PureOp.move rfl) rfl rfl ?_
          refine AWo.pure (PureOp.move rfl) rfl rfl ?_
          refine AWo.callX (wgt_ctr (ps := ps) (i := i) (k := ps.length) rfl (by omega) hy) bd41 [(1, 0)] [] rfl (.cons rfl (.cons rfl .nil)) rfl (.cons rfl rfl (.cons rfl rfl .nil)) (.clo rfl (cloM fun _ => rfl) (by intro h; first | exact h | rfl) .nil) rfl (.keep rfl .nil) frN (by decide) (.cons rfl rfl .nil) rfl rfl rfl rfl ?_
          refine AWo.callX (mulRd (x := xs.getD i 0) (y := wt ps i)) bd40 [] [] rfl (.cons rfl (.cons rfl .nil)) rfl (.cons rfl rfl (.cons rfl rfl .nil)) .nil rfl .nil frN (by decide) (.cons rfl rfl .nil) rfl rfl rfl rfl ?_
          refine AWo.callX (v := dv (smN (fun i => xs.getD i 0 * wt ps i) (i + 1))) (addRd (x := (smN (fun i => xs.getD i 0 * wt ps i) i)) (y := xs.getD i 0 * wt ps i)) bd39 [] [] rfl (.cons rfl (.cons rfl .nil)) rfl (.cons rfl rfl (.cons rfl rfl .nil)) .nil rfl .nil frN (by decide) (.cons rfl rfl .nil) rfl rfl rfl rfl ?_
          refine AWo.pure (PureOp.assign rfl) rfl rfl ?_
          refine AWo.nil (by kernel_rfl) ?_
          refine inBlockA_normal ?_
          refine thenA_normal ?_
          refine AW.region ?_
          refine AWo.pure (PureOp.move rfl) rfl rfl ?_
          first | refine AWo.pure (PureOp.addI (b := 1) rfl rfl (by first | decide | omega)) rfl rfl ?_ | refine AWo.pure (PureOp.bin rfl rfl rfl) rfl rfl ?_
          refine AWo.pure (PureOp.assign rfl) rfl rfl ?_
          refine AWo.nil trivial ?_
          refine thenA_normal ?_
          refine ⟨xs.length - (i + 1), [], _, by omega, ?_, i + 1, by omega, rfl, rfl⟩
          refine Wk.of [0, 1] ?_ ?_ ?_ (by decide) rfl
          ·
            refine WkE.upd rfl (by first | exact VR.flat _ rfl | exact VR.eqv (vp_succ _) rfl | exact VR.eqv (vp_succ _).symm rfl | exact VR.eqv (by first | rfl | (congr 1; omega) | (simp; done) | (simp; omega)) rfl) ?_
            refine WkE.upd rfl (clo_refl (by simp) rfl) ?_
            refine WkE.upd rfl (.slice (1) 0 _ 0 ⟨_, rfl⟩ (by simp) (by simp)) ?_
            refine WkE.upd rfl (.slice (0) 0 _ 0 ⟨_, rfl⟩ (by simp) (by simp)) ?_
            exact WkE.emp
          ·
            refine WkM.cloM rfl rfl (fun _ => rfl) (fun h => h) ?_
            refine WkM.cloM rfl rfl (fun _ => rfl) (fun h => h) ?_
            exact WkM.emp
          ·
            repeat (refine dom_upd_mem (by decide) ?_)
            exact dom_emp
        ·
          obtain rfl : i = xs.length := by simp at hb2; omega
          refine AW.exit ?_
          refine thenA_exit ?_
          refine thenA_exit ?_
          refine inBlockA_hit ?_
          refine thenA_normal ?_
          refine AW.seqR ?_
          refine AWo.pure (PureOp.move rfl) rfl rfl ?_
          refine yA ?_
          refine AWo.pure (PureOp.assign rfl) rfl rfl ?_
          refine AWo.nil trivial ?_
          refine AW.ret ?_
          have hb : evB xs.length ps.length = true := by rw [evB, hv, decide_eq_true h21]; rfl
          rw [show eC xs ps = 0 from eC_B.2 hb, ev_sum ps xs (evB_spec hb).1 (evB_spec hb).2, show eT xs ps = evV xs ps from if_pos hb]
          refine RetQ.gc [_, _] [] [.tmp 4, .tmp 5] (.inl rfl) rfl (.tmp rfl (.tmp rfl .nil)) rfl (.cons rfl rfl (.pure rfl .nil)) (OutL.clo rfl (cloM fun _ => rfl) (by intro h; exact h.elim id fun h => absurd h.1 (by simp)) (OutL.clo rfl (cloM fun _ => rfl) (by intro h; exact h.elim id fun h => absurd h.1 (by simp)) trivial)) (by decide) rfl
theorem evT_ctr {xs ps : List Fp} {n k : Nat} (hn : xs.length = n) (hk : ps.length = k) (hx : n < 1000000) (hy : k < 1000000) : GC Tryd.prog 13 [.slice (some ⟨0, 0, none⟩) n 0, .slice (some ⟨1, 0, none⟩) k 0] [⟨((xs.map fe).flatten).map (vi .u64), false, 4⟩, ⟨((ps.map fe).flatten).map (vi .u64), false, 4⟩] [.agg ((fe (eT xs ps)).map (vi .u64)).toArray, .int .i64 (eC xs ps)] [⟨((xs.map fe).flatten).map (vi .u64), false, 4⟩, ⟨((ps.map fe).flatten).map (vi .u64), false, 4⟩] := by
  refine GC.intro Tryd.func13 rfl (by show 2 ≤ 39; decide) (by first | exact Nat.le_refl _ | decide | simp) ?_
  subst hn
  subst hk
  refine AW.seqR ?_
  refine yN 5000 1 ((fe 0).map (vi .u64)) ?_ (hc := by rw [fe_zero]; rfl)
  refine AWo.pure (PureOp.assign rfl) rfl rfl ?_
  refine AWo.nil trivial ?_
  refine AW.seqR ?_
  refine AWo.pure (PureOp.move rfl) rfl rfl ?_
  refine AWo.callX (vars_ctr (xs := xs) (n := xs.length) rfl hx) bd11 [(0, 0)] [] rfl (.cons rfl .nil) rfl (.cons rfl rfl .nil) (.flat rfl (flatM flat_vi) (by intro h; first | exact h | rfl) .nil) rfl (.keep rfl .nil) frN (by decide) (.cons rfl rfl (.cons rfl rfl .nil)) rfl rfl rfl rfl ?_
  refine AWo.pure (PureOp.move rfl) rfl rfl ?_
  refine AWo.pure (PureOp.extract rfl rfl) rfl rfl ?_
  refine AWo.pure (PureOp.extract rfl rfl) rfl rfl ?_
  refine AWo.pure (PureOp.assign rfl) rfl rfl ?_
  refine AWo.pure (PureOp.assign rfl) rfl rfl ?_
  refine AWo.nil trivial ?_
  refine AW.seq ?_
  refine AW.block ?_
  refine AW.seqR ?_
  refine AWo.pure (PureOp.move rfl) rfl rfl ?_
  first | refine AWo.pure (PureOp.neN (b := 0) rfl rfl) rfl rfl ?_ | refine AWo.pure (PureOp.bin rfl rfl rfl) rfl rfl ?_
  refine AWo.pure (PureOp.assign rfl) rfl rfl ?_
  refine AWo.nil trivial ?_
  refine AW.cond rfl (fun hb0 => ?_) (fun hb0 => ?_)
  ·
    have h16 : ¬ vC xs.length = 0 := by simpa using hb0
    refine AW.seqR ?_
    refine AWo.pure ((PureOp.buildStruct [] pl43.choose_spec.1 zr43 (by decide) pl43.choose_spec.2 rfl rfl).mono (v' := .agg ((fe 0).map (vi .u64)).toArray) (by kernel_rfl)) rfl rfl ?_
    refine AWo.pure (PureOp.move rfl) rfl rfl ?_
    refine AWo.storeAllN tbok rfl rfl rfl rfl (by first | (simp [*]; done) | rfl) (by first | (simp [*]; done) | rfl) (by first | exact oneM (fun _ => rfl) _ | rfl | (simp; done)) rfl ?_
    refine AWo.pure (PureOp.assign rfl) rfl rfl ?_
    refine AWo.nil trivial ?_
    refine AW.ret ?_
    refine inBlockA_ret ?_
    refine thenA_ret ?_
    have hv : isV xs.length = false := Bool.eq_false_iff.2 fun h => h16 (vC_iff.2 h)
    rw [show eT xs ps = 0 from if_neg (by rw [evB, hv, Bool.false_and]; decide), show eC xs ps = 7 from if_neg (by rw [hv]; decide), vC_no hv]
    refine RetQ.gc [_, _] [] [.cell 4 43, .tmp 5] (.inl rfl) rfl (.val (RVal.cellAll tbok rfl rfl rfl rfl (by first | (simp [*]; done) | rfl)) (.tmp rfl .nil)) rfl (.pure (pure_aggM flat_vi) (.pure rfl .nil)) (OutL.flat rfl (flatM flat_vi) (by intro h; exact h.elim id fun h => absurd h.1 (by simp)) (OutL.flat rfl (flatM flat_vi) (by intro h; exact h.elim id fun h => absurd h.1 (by simp)) trivial)) (by decide) rfl
  ·
    have hv : isV xs.length = true := vC_iff.1 (by simpa using hb0)
    refine AW.seqR ?_
    refine AWo.pure (PureOp.move rfl) rfl rfl ?_
    refine AWo.pure (PureOp.move rfl) rfl rfl ?_
    first | refine AWo.pure (PureOp.lenS tbok rfl rfl) rfl rfl ?_ | refine AWo.pure (PureOp.lenD tbok rfl rfl) rfl rfl ?_
    first | refine AWo.pure (PureOp.neN rfl rfl) rfl rfl ?_ | refine AWo.pure (PureOp.bin rfl rfl rfl) rfl rfl ?_
    refine AWo.pure (PureOp.assign rfl) rfl rfl ?_
    refine AWo.nil trivial ?_
    refine AW.cond rfl (fun hb1 => ?_) (fun hb1 => ?_)
    ·
      have h21 : ¬ vN xs.length = ps.length := by simpa using hb1
      refine AW.seqR ?_
      refine AWo.pure ((PureOp.buildStruct [] pl43.choose_spec.1 zr43 (by decide) pl43.choose_spec.2 rfl rfl).mono (v' := .agg ((fe 0).map (vi .u64)).toArray) (by kernel_rfl)) rfl rfl ?_
      refine AWo.storeAllN tbok rfl rfl rfl rfl (by first | (simp [*]; done) | rfl) (by first | (simp [*]; done) | rfl) (by first | exact oneM (fun _ => rfl) _ | rfl | (simp; done)) rfl ?_
      refine AWo.pure (PureOp.assign rfl) rfl rfl ?_
      refine AWo.nil trivial ?_
      refine AW.ret ?_
      refine inBlockA_ret ?_
      refine thenA_ret ?_
      rw [show eT xs ps = 0 from if_neg (by rw [evB, decide_eq_false h21, Bool.and_false]; decide), show eC xs ps = 1 by rw [eC, if_pos hv, if_neg h21]]
      refine RetQ.gc [_, _] [] [.cell 4 43, .tmp 5] (.inl rfl) rfl (.val (RVal.cellAll tbok rfl rfl rfl rfl (by first | (simp [*]; done) | rfl)) (.tmp rfl .nil)) rfl (.pure (pure_aggM flat_vi) (.pure rfl .nil)) (OutL.flat rfl (flatM flat_vi) (by intro h; exact h.elim id fun h => absurd h.1 (by simp)) (OutL.flat rfl (flatM flat_vi) (by intro h; exact h.elim id fun h => absurd h.1 (by simp)) trivial)) (by decide) rfl
    ·
      have h21 : vN xs.length = ps.length := by simpa using hb1
      refine AW.skip ?_
      refine inBlockA_normal ?_
      refine thenA_normal ?_
      refine AW.seq ?_
      refine AW.seqR ?_
      refine AWo.pure (PureOp.move rfl) rfl rfl ?_
      first | refine AWo.pure (PureOp.lenS tbok rfl rfl) rfl rfl ?_ | refine AWo.pure (PureOp.lenD tbok rfl rfl) rfl rfl ?_
      refine AWo.pure (PureOp.move rfl) rfl rfl ?_
      refine AWo.nil trivial ?_
      refine AW.block ?_
      refine AW.alias 0 0 76000 rfl rfl rfl ?_
      refine AW.loopw (fun mm σ => ∃ i, (i ≤ ps.length) ∧ mm = ps.length - i ∧ σ = ⟨(upd (upd (upd (upd (upd (upd emp 0 (.slice (some ⟨76000, 0, none⟩) (evF xs (ps.take i)).length 0)) 1 (.slice (some ⟨1, 0, none⟩) ps.length 0)) 4 (.pointer (some ⟨5000, 0, none⟩))) 26 (.slice (some ⟨1, 0, none⟩) ps.length 0)) 27 (vi .i64 ps.length)) 28 (vi .i64 i)), (upd (upd (upd (upd emp 0 ⟨((xs.map fe).flatten).map (vi .u64), false, 4⟩) 1 ⟨((ps.map fe).flatten).map (vi .u64), false, 4⟩) 5000 ⟨(fe 0).map (vi .u64), true, 1⟩) 76000 ⟨(((evF xs (ps.take i)).map fe).flatten).map (vi .u64), false, 4⟩)⟩) (fm := []) ?_ ⟨0, Nat.zero_le _, rfl, rfl⟩ ?_
      ·
        refine Wk.of [0, 1, 5000, 76000] ?_ ?_ ?_ (by decide) rfl
        ·
          refine WkE.upd rfl (by first | exact VR.flat _ rfl | exact VR.eqv (vp_succ _) rfl | exact VR.eqv (vp_succ _).symm rfl | exact VR.eqv (by first | rfl | (congr 1; omega) | (simp; done) | (simp; omega)) rfl) ?_
          refine WkE.upd rfl (by first | exact VR.flat _ rfl | exact VR.eqv (vp_succ _) rfl | exact VR.eqv (vp_succ _).symm rfl | exact VR.eqv (by first | rfl | (congr 1; omega) | (simp; done) | (simp; omega)) rfl) ?_
          refine WkE.upd rfl (.slice (1) 0 _ 0 ⟨_, rfl⟩ (by simp) (by simp)) ?_
          refine WkE.upd rfl (.ptr (5000) 0 ⟨_, rfl⟩) ?_
          refine WkE.upd rfl (.slice (1) 0 _ 0 ⟨_, rfl⟩ (by simp) (by simp)) ?_
          refine WkE.upd rfl (.slice (76000) 0 _ 0 ⟨_, rfl⟩ (by simp) (by simp)) ?_
          exact WkE.emp
        ·
          refine WkM.flat rfl (flatM flat_vi) (fun h => by cases h) ?_
          refine WkM.flat rfl (flatM flat_vi) (fun h => h) ?_
          refine WkM.flat rfl (flatM flat_vi) (fun h => h) ?_
          refine WkM.flat rfl (flatM flat_vi) (fun h => h) ?_
          exact WkM.emp
        ·
          repeat (refine dom_upd_mem (by decide) ?_)
          exact dom_emp
      ·
        rintro mm σ ⟨i, hinv, rfl, rfl⟩
        have hel := evF_le xs (ps.take i)
        refine AW.seqR ?_
        first | refine AWo.pure (PureOp.ltN rfl rfl) rfl rfl ?_ | refine AWo.pure (PureOp.bin rfl rfl rfl) rfl rfl ?_
        refine AWo.nil trivial ?_
        refine AW.seq ?_
        refine AW.cond rfl (fun hb2 => ?_) (fun hb2 => ?_)
        ·
          have hi : i < ps.length := by simpa using hb2
          refine AW.skip ?_
          refine thenA_normal ?_
          refine AW.seq ?_
          refine AW.block ?_
          refine AW.seqR ?_
          first | refine AWo.pure (PureOp.idx1 tbok rfl rfl rfl rfl (by first | decide | omega)) rfl rfl ?_ | refine AWo.pure (PureOp.idx tbok rfl rfl rfl rfl (by first | decide | omega)) rfl rfl ?_
          refine yLJ (xs := ps) i ?_
          refine AWo.alloc tbok 10000 1 _ rfl rfl rfl rfl rfl rfl ?_
          refine AWo.storeAllN tbok rfl rfl rfl rfl (by first | (simp [*]; done) | rfl) (by first | (simp [*]; done) | rfl) (by first | exact oneM (fun _ => rfl) _ | rfl | (simp; done)) rfl ?_
          refine AWo.nil trivial ?_
          refine AW.region ?_
          refine AWo.pure (PureOp.move rfl) rfl rfl ?_
          first | refine yLE ?_ | refine yLEi ?_
          refine AWo.callX (fix_ctr (xs := (evF xs (ps.take i))) (x := ps.getD i 0) (n := (evF xs (ps.take i)).length) rfl (by omega)) bd17 [(76000, 0)] [35000] rfl (.cons rfl (.cons rfl .nil)) rfl (.cons rfl rfl (.pure (by first | rfl | exact pure_aggM flat_vi | exact pure_aggM flat_bool) .nil)) (.flat rfl (flatM flat_vi) (by intro h; first | exact h | rfl) .nil) rfl (.keep rfl (.new (flat_map_ren (flatM flat_vi)) (OkL.flat (flatM flat_vi)) .nil)) (frC rfl frN) (by decide) (.cons rfl rfl .nil) rfl rfl rfl rfl ?_
          refine AWo.pure (PureOp.assign rfl) rfl rfl ?_
          refine AWo.nil trivial ?_
          refine inBlockA_normal ?_
          refine thenA_normal ?_
          refine AW.region ?_
          first | refine AWo.pure (PureOp.addI (b := 1) rfl rfl (by first | decide | omega)) rfl rfl ?_ | refine AWo.pure (PureOp.bin rfl rfl rfl) rfl rfl ?_
          refine AWo.pure (PureOp.move rfl) rfl rfl ?_
          refine AWo.nil trivial ?_
          refine thenA_normal ?_
          rw [evF_step hi]
          refine ⟨ps.length - (i + 1), [(76000, 35000)], _, by omega, ?_, i + 1, by omega, rfl, rfl⟩
          refine Wk.of [0, 1, 5000, 76000] ?_ ?_ ?_ (by decide) rfl
          ·
            refine WkE.upd rfl (by first | exact VR.flat _ rfl | exact VR.eqv (vp_succ _) rfl | exact VR.eqv (vp_succ _).symm rfl | exact VR.eqv (by first | rfl | (congr 1; omega) | (simp; done) | (simp; omega)) rfl) ?_
            refine WkE.upd rfl (by first | exact VR.flat _ rfl | exact VR.eqv (vp_succ _) rfl | exact VR.eqv (vp_succ _).symm rfl | exact VR.eqv (by first | rfl | (congr 1; omega) | (simp; done) | (simp; omega)) rfl) ?_
            refine WkE.upd rfl (.slice (1) 0 _ 0 ⟨_, rfl⟩ (by simp) (by simp)) ?_
            refine WkE.upd rfl (.ptr (5000) 0 ⟨_, rfl⟩) ?_
            refine WkE.upd rfl (.slice (1) 0 _ 0 ⟨_, rfl⟩ (by simp) (by simp)) ?_
            refine WkE.upd rfl (.slice (76000) 0 _ 0 ⟨_, rfl⟩ (by simp) (by simp)) ?_
            exact WkE.emp
          ·
            refine WkM.flat rfl (flatM flat_vi) (fun h => by cases h) ?_
            refine WkM.flat rfl (flatM flat_vi) (fun h => h) ?_
            refine WkM.flat rfl (flatM flat_vi) (fun h => h) ?_
            refine WkM.flat rfl (flatM flat_vi) (fun h => h) ?_
            exact WkM.emp
          ·
            repeat (refine dom_upd_mem (by decide) ?_)
            exact dom_emp
        ·
          obtain rfl : i = ps.length := by simp at hb2; omega
          have hb : evB xs.length ps.length = true := by rw [evB, hv, decide_eq_true h21]; rfl
          have hl1 : (evF xs ps).length = 1 := evF_len ps xs (evB_spec hb).1 (evB_spec hb).2
          rw [List.take_length]
          refine AW.exit ?_
          refine thenA_exit ?_
          refine thenA_exit ?_
          refine inBlockA_hit ?_
          refine thenA_normal ?_
          refine AW.seqR ?_
          refine AWo.pure (PureOp.move rfl) rfl rfl ?_
          first | refine AWo.pure (PureOp.idx1 (j := 0) tbok rfl rfl rfl rfl (by first | decide | omega)) rfl rfl ?_ | refine AWo.pure (PureOp.idx (j := 0) tbok rfl rfl rfl rfl (by first | decide | omega)) rfl rfl ?_
          refine yLJ (xs := evF xs ps) 0 ?_
          refine AWo.storeAllN tbok rfl rfl rfl rfl (by first | (simp [*]; done) | rfl) (by first | (simp [*]; done) | rfl) (by first | exact oneM (fun _ => rfl) _ | rfl | (simp; done)) rfl ?_
          refine AWo.pure (PureOp.assign rfl) rfl rfl ?_
          refine AWo.nil trivial ?_
          refine AW.ret ?_
          rw [show eC xs ps = 0 from eC_B.2 hb, show eT xs ps = (evF xs ps).getD 0 0 from if_pos hb]
          refine RetQ.gc [_, _] [] [.cell 4 43, .tmp 5] (.inl rfl) rfl (.val (RVal.cellAll tbok rfl rfl rfl rfl (by first | (simp [*]; done) | rfl)) (.tmp rfl .nil)) rfl (.pure (pure_aggM flat_vi) (.pure rfl .nil)) (OutL.flat rfl (flatM flat_vi) (by intro h; exact h.elim id fun h => absurd h.1 (by simp)) (OutL.flat rfl (flatM flat_vi) (by intro h; exact h.elim id fun h => absurd h.1 (by simp)) trivial)) (by decide) rfl
theorem of23_ctr {Ls : List (List Nat)} (hB : ∀ b ∈ Ls, bd 256 b) (hS : ∀ b ∈ Ls, b.length ≤ 40) (hL : Ls.length < 1000000) : GC Tryd.prog 9 [.slice (some ⟨0, 0, none⟩) Ls.length 0] [⟨Ls.map (db), false, 1⟩] [.slice (some ⟨1, 0, none⟩) Ls.length 0, .slice (some ⟨2, 0, none⟩) Ls.length 0] [⟨Ls.map (db), false, 1⟩, ⟨(((Ls.map nb).map fe).flatten).map (vi .u64), true, 4⟩, ⟨(Ls.map nb).map dv, true, 1⟩] := by
  refine GC.intro Tryd.func9 rfl (by show 1 ≤ 13; decide) (by first | exact Nat.le_refl _ | decide | simp) ?_
  refine AW.seqR ?_
  refine AWo.pure (PureOp.assign rfl) rfl rfl ?_
  refine AWo.pure (PureOp.assign rfl) rfl rfl ?_
  refine AWo.nil trivial ?_
  refine AW.seqR ?_
  refine AWo.pure (PureOp.move rfl) rfl rfl ?_
  refine AWo.callX (of22_ctr (Ls := Ls) hB hS hL) bd10 [(0, 0)] [9000, 9001] rfl (.cons rfl .nil) rfl (.cons rfl rfl .nil) (.clo rfl (cloM fun _ => rfl) (by intro h; first | exact h | rfl) .nil) rfl (.keep rfl (.new (flat_map_ren (flatM flat_vi)) (OkL.flat (flatM flat_vi)) (.new (clo_map_ren (cloM fun _ => rfl)) (OkL.clo (cloM fun _ => rfl)) .nil))) (frC rfl (frC rfl frN)) (by decide) (.cons rfl rfl (.cons rfl rfl .nil)) rfl rfl rfl rfl ?_
  refine AWo.pure (PureOp.move rfl) rfl rfl ?_
  refine AWo.pure (PureOp.extract rfl rfl) rfl rfl ?_
  refine AWo.pure (PureOp.extract rfl rfl) rfl rfl ?_
  refine AWo.pure (PureOp.assign rfl) rfl rfl ?_
  refine AWo.pure (PureOp.assign rfl) rfl rfl ?_
  refine AWo.nil trivial ?_
  refine AW.seqR ?_
  refine AWo.pure (PureOp.move rfl) rfl rfl ?_
  refine AWo.pure (PureOp.move rfl) rfl rfl ?_
  refine AWo.pure (PureOp.assign rfl) rfl rfl ?_
  refine AWo.pure (PureOp.assign rfl) rfl rfl ?_
  refine AWo.nil trivial ?_
  refine AW.ret ?_
  refine RetQ.gc [_, _] [9000, 9001] [.tmp 2, .tmp 3] (.inl rfl) rfl (.tmp rfl (.tmp rfl .nil)) rfl (.cons rfl rfl (.cons rfl rfl .nil)) (OutL.clo rfl (cloM fun _ => rfl) (by intro h; first | rfl | exact h.elim id fun h => absurd h.1 (by simp)) (OutL.flat rfl (flatM flat_vi) (by intro h; first | rfl | exact h.elim id fun h => absurd h.1 (by simp)) (OutL.clo rfl (cloM fun _ => rfl) (by intro h; first | rfl | exact h.elim id fun h => absurd h.1 (by simp)) trivial))) (by decide) rfl
theorem speaks23_ctr : GC Tryd.prog 7 [] [] [.bool true] [] := by
  refine GC.intro Tryd.func7 rfl (by show 0 ≤ 35; decide) (by first | exact Nat.le_refl _ | decide | simp) ?_
  refine AW.seqR ?_
  refine AWo.pure (PureOp.assign rfl) rfl rfl ?_
  refine AWo.nil trivial ?_
  refine AW.seqR ?_
  refine AWo.pure (PureOp.assign rfl) rfl rfl ?_
  refine AWo.nil trivial ?_
  refine AW.seqR ?_
  refine AWo.pure (PureOp.move rfl) rfl rfl ?_
  refine AWo.callX (fromuF_ctr (v := 1) (by decide)) bd22 [] [] rfl (.cons rfl .nil) rfl (.cons rfl rfl .nil) .nil rfl .nil frN (by decide) (.pure (by first | rfl | exact pure_aggM flat_vi | exact pure_aggM flat_bool) .nil) rfl rfl rfl rfl ?_
  refine AWo.pure (PureOp.move rfl) rfl rfl ?_
  refine AWo.callX (fromuF_ctr (v := 2) (by decide)) bd22 [] [] rfl (.cons rfl .nil) rfl (.cons rfl rfl .nil) .nil rfl .nil frN (by decide) (.pure (by first | rfl | exact pure_aggM flat_vi | exact pure_aggM flat_bool) .nil) rfl rfl rfl rfl ?_
  refine AWo.pure (PureOp.move rfl) rfl rfl ?_
  refine AWo.callX (fromuF_ctr (v := 3) (by decide)) bd22 [] [] rfl (.cons rfl .nil) rfl (.cons rfl rfl .nil) .nil rfl .nil frN (by decide) (.pure (by first | rfl | exact pure_aggM flat_vi | exact pure_aggM flat_bool) .nil) rfl rfl rfl rfl ?_
  refine AWo.pure (PureOp.move rfl) rfl rfl ?_
  refine AWo.callX (fromuF_ctr (v := 4) (by decide)) bd22 [] [] rfl (.cons rfl .nil) rfl (.cons rfl rfl .nil) .nil rfl .nil frN (by decide) (.pure (by first | rfl | exact pure_aggM flat_vi | exact pure_aggM flat_bool) .nil) rfl rfl rfl rfl ?_
  refine AWo.buildSlice tbok 14000 [(0, .agg ((fe (fp 1)).map (vi .u64)).toArray), (1, .agg ((fe (fp 2)).map (vi .u64)).toArray), (2, .agg ((fe (fp 3)).map (vi .u64)).toArray), (3, .agg ((fe (fp 4)).map (vi .u64)).toArray)] (out := FF [fp 1, fp 2, fp 3, fp 4]) rfl rfl (by decide) rfl rfl rfl (by decide) rfl fillB4 rfl rfl rfl ?_
  refine AWo.pure (PureOp.move rfl) rfl rfl ?_
  refine AWo.callX (fromuF_ctr (v := 1) (by decide)) bd22 [] [] rfl (.cons rfl .nil) rfl (.cons rfl rfl .nil) .nil rfl .nil frN (by decide) (.pure (by first | rfl | exact pure_aggM flat_vi | exact pure_aggM flat_bool) .nil) rfl rfl rfl rfl ?_
  refine AWo.pure (PureOp.move rfl) rfl rfl ?_
  refine AWo.callX (fromuF_ctr (v := 0) (by decide)) bd22 [] [] rfl (.cons rfl .nil) rfl (.cons rfl rfl .nil) .nil rfl .nil frN (by decide) (.pure (by first | rfl | exact pure_aggM flat_vi | exact pure_aggM flat_bool) .nil) rfl rfl rfl rfl ?_
  refine AWo.buildSlice tbok 19000 [(0, .agg ((fe (fp 1)).map (vi .u64)).toArray), (1, .agg ((fe (fp 0)).map (vi .u64)).toArray)] (out := FF [fp 1, fp 0]) rfl rfl (by decide) rfl rfl rfl (by decide) rfl fillB2 rfl rfl rfl ?_
  refine AWo.callX (evT_ctr (xs := [fp 1, fp 2, fp 3, fp 4]) (ps := [fp 1, fp 0]) (n := 4) (k := 2) rfl rfl (by decide) (by decide)) bd13 [(14000, 0), (19000, 0)] [] rfl (.cons rfl (.cons rfl .nil)) rfl (.cons rfl rfl (.cons rfl rfl .nil)) (.flat rfl (flatM flat_vi) (by intro h; first | exact h | rfl) (.flat rfl (flatM flat_vi) (by intro h; first | exact h | rfl) .nil)) rfl (.keep rfl (.keep rfl .nil)) frN (by decide) (.pure (by first | rfl | exact pure_aggM flat_vi | exact pure_aggM flat_bool) (.cons rfl rfl .nil)) rfl rfl rfl rfl ?_
  refine AWo.pure (PureOp.move rfl) rfl rfl ?_
  refine AWo.pure (PureOp.extract rfl rfl) rfl rfl ?_
  refine AWo.pure (PureOp.extract rfl rfl) rfl rfl ?_
  refine AWo.alloc tbok 3000 1 _ rfl rfl rfl rfl rfl rfl ?_
  refine AWo.storeAllN tbok rfl rfl rfl rfl (by first | (simp [*]; done) | rfl) (by first | (simp [*]; done) | rfl) (by first | exact oneM (fun _ => rfl) _ | rfl | (simp; done)) rfl ?_
  refine AWo.pure (PureOp.assign rfl) rfl rfl ?_
  refine AWo.nil trivial ?_
  refine AW.seqD mixed ?_
  refine AWo.pure (PureOp.move rfl) rfl rfl ?_
  first | refine AWo.pure ((PureOp.eqN (b := 0) rfl rfl).mono (v' := .bool true) (congrArg Value.bool (by rw [sp_code]; rfl))) rfl rfl ?_ | refine AWo.pure ((PureOp.bin rfl rfl rfl).mono (v' := .bool true) (congrArg Value.bool (by rw [sp_code]; rfl))) rfl rfl ?_
  refine AWo.pure (PureOp.move rfl) rfl rfl ?_
  first | refine yLE ?_ | refine yLEi ?_
  refine AWo.pure (PureOp.move rfl) rfl rfl ?_
  refine AWo.callX (fromuF_ctr (v := 3) (by decide)) bd22 [] [] rfl (.cons rfl .nil) rfl (.cons rfl rfl .nil) .nil rfl .nil frN (by decide) (.pure (by first | rfl | exact pure_aggM flat_vi | exact pure_aggM flat_bool) .nil) rfl rfl rfl rfl ?_
  refine AWo.callX (v := .bool true) (equalF_ctr (x := eT [fp 1, fp 2, fp 3, fp 4] [fp 1, fp 0]) (y := fp 3)) bd24 [] [] rfl (.cons rfl (.cons rfl .nil)) rfl (.pure (by first | rfl | exact pure_aggM flat_vi | exact pure_aggM flat_bool) (.pure (by first | rfl | exact pure_aggM flat_vi | exact pure_aggM flat_bool) .nil)) .nil rfl .nil frN (by decide) (.cons rfl rfl .nil) (congrArg Value.bool (decide_eq_true (sp_val))) rfl rfl rfl ?_
  refine AWo.pure (PureOp.pickT rfl rfl) rfl rfl ?_
  refine AWo.pure (PureOp.move rfl) rfl rfl ?_
  first | refine yLE ?_ | refine yLEi ?_
  refine AWo.callX (v := .bool false) (iszeroF_ctr (x := eT [fp 1, fp 2, fp 3, fp 4] [fp 1, fp 0])) bd35 [] [] rfl (.cons rfl .nil) rfl (.pure (by first | rfl | exact pure_aggM flat_vi | exact pure_aggM flat_bool) .nil) .nil rfl .nil frN (by decide) (.cons rfl rfl .nil) (congrArg Value.bool (decide_eq_false sp_ne)) rfl rfl rfl ?_
  refine AWo.pure (PureOp.not rfl) rfl rfl ?_
  refine AWo.pure (PureOp.pickT rfl rfl) rfl rfl ?_
  refine AWo.pure (PureOp.assign rfl) rfl rfl ?_
  refine AWo.nil (by kernel_rfl) ?_
  refine AW.ret ?_
  refine RetQ.gc [_] [] [.tmp 0] (.inl rfl) rfl (.tmp rfl .nil) rfl (.cons rfl rfl .nil) trivial (by decide) rfl
end Go.Proofs.YteeifahhejangaaDoor
