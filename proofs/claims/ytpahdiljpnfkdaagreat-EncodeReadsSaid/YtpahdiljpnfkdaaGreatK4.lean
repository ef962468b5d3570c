/- What the proof stands on, part 4: the walk of each function, and plain laws of numbers. -/
import Derived.Test.YtpahdiljpnfkdaaGreatK3
import Derived.KernelRfl
namespace Go.Proofs.YtpahdiljpnfkdaaGreat
open Go Sim
theorem addD_ctr {x y : Nat} (hlx : (D 4294967296 x).length < 100000000) (hly : (D 4294967296 y).length < 100000000) : GC Tryz.prog 68 [.slice (some ⟨0, 0, none⟩) (D 4294967296 x).length 0, .slice (some ⟨1, 0, none⟩) (D 4294967296 y).length 0] [⟨(D 4294967296 x).map (vi .u64), false, 1⟩, ⟨(D 4294967296 y).map (vi .u64), false, 1⟩] [.slice (some ⟨2, 0, none⟩) (D 4294967296 (x + y)).length 0] [⟨(D 4294967296 x).map (vi .u64), false, 1⟩, ⟨(D 4294967296 y).map (vi .u64), false, 1⟩, ⟨(D 4294967296 (x + y)).map (vi .u64), true, 1⟩] := by
 have h := radd_ctr (a := D 4294967296 x) (b := D 4294967296 y) (bd_D (by decide) _) (bd_D (by decide) _) hlx hly
 simp only [num_D (show 2 ≤ 4294967296 by decide)] at h
 exact h
theorem subD_ctr {x y : Nat} (hlx : (D 4294967296 x).length < 100000000) (hly : (D 4294967296 y).length < 100000000) (h : y ≤ x) : GC Tryz.prog 71 [.slice (some ⟨0, 0, none⟩) (D 4294967296 x).length 0, .slice (some ⟨1, 0, none⟩) (D 4294967296 y).length 0] [⟨(D 4294967296 x).map (vi .u64), false, 1⟩, ⟨(D 4294967296 y).map (vi .u64), false, 1⟩] [.slice (some ⟨2, 0, none⟩) (D 4294967296 (x - y)).length 0] [⟨(D 4294967296 x).map (vi .u64), false, 1⟩, ⟨(D 4294967296 y).map (vi .u64), false, 1⟩, ⟨(D 4294967296 (x - y)).map (vi .u64), true, 1⟩] := by
 have h := rsub_ctr (a := D 4294967296 x) (b := D 4294967296 y) (bd_D (by decide) _) (bd_D (by decide) _) hlx hly (by rw [num_D (by decide), num_D (by decide)]; exact h)
 simp only [num_D (show 2 ≤ 4294967296 by decide)] at h
 exact h
theorem cmpD_ctr {x y : Nat} (hlx : (D 4294967296 x).length < 100000000) (hly : (D 4294967296 y).length < 100000000) : GC Tryz.prog 70 [.slice (some ⟨0, 0, none⟩) (D 4294967296 x).length 0, .slice (some ⟨1, 0, none⟩) (D 4294967296 y).length 0] [⟨(D 4294967296 x).map (vi .u64), false, 1⟩, ⟨(D 4294967296 y).map (vi .u64), false, 1⟩] [.int .i64 (cmpI x y)] [⟨(D 4294967296 x).map (vi .u64), false, 1⟩, ⟨(D 4294967296 y).map (vi .u64), false, 1⟩] := by
 have h := rcmp_ctr (a := D 4294967296 x) (b := D 4294967296 y) (bd_D (by decide) _) (bd_D (by decide) _) (Nat.lt_trans hlx (by decide)) (Nat.lt_trans hly (by decide))
 simp only [num_D (show 2 ≤ 4294967296 by decide)] at h
 exact h
theorem shiftD_ctr {x k : Nat} (hlx : (D 4294967296 x).length < 100000000) (hk : k < 32) : GC Tryz.prog 67 [.slice (some ⟨0, 0, none⟩) (D 4294967296 x).length 0, vi .i64 (k)] [⟨(D 4294967296 x).map (vi .u64), false, 1⟩] [.slice (some ⟨1, 0, none⟩) (D 4294967296 (x * 2 ^ k)).length 0] [⟨(D 4294967296 x).map (vi .u64), false, 1⟩, ⟨(D 4294967296 (x * 2 ^ k)).map (vi .u64), true, 1⟩] := by
 have h := shift_ctr (a := D 4294967296 x) (k := k) (bd_D (by decide) _) hlx hk
 simp only [num_D (show 2 ≤ 4294967296 by decide)] at h
 exact h
theorem mul256_ctr {x : Nat} (hlx : (D 4294967296 x).length < 100000000) : GC Tryz.prog 69 [.slice (some ⟨0, 0, none⟩) (D 4294967296 x).length 0, .slice (some ⟨1, 0, none⟩) ([256]).length 0] [⟨(D 4294967296 x).map (vi .u64), false, 1⟩, ⟨([256]).map (vi .u64), false, 1⟩] [.slice (some ⟨2, 0, none⟩) (D 4294967296 (x * 256)).length 0] [⟨(D 4294967296 x).map (vi .u64), false, 1⟩, ⟨([256]).map (vi .u64), false, 1⟩, ⟨(D 4294967296 (x * 256)).map (vi .u64), true, 1⟩] := by
 have h := rmul_ctr (a := D 4294967296 x) (b := [256]) (bd_D (by decide) _) (fun y hy => by simp at hy; rw [hy]; decide) hlx (by decide)
 rw [num_D (by decide), show num 4294967296 [256] = 256 from rfl] at h
 exact h
theorem num_one {B : Nat} (x : Nat) : num B [x] = x := by simp [num]
theorem bd_byte (v : Nat) : bd 4294967296 [v % 256] := fun y hy => by simp at hy; rw [hy]; exact Nat.lt_trans (Nat.mod_lt _ (by decide)) (by decide)
theorem num_byte (v : Nat) : num 4294967296 [v % 256] = v % 256 := @num_one 4294967296 (v % 256)
theorem byteD (x r : Nat) : (D 4294967296 x).getD (r / 4) 0 / 256 ^ (r % 4) % 256 = x / 256 ^ r % 256 := by
 rw [D_getD (by decide)]
 have hd : x / 256 ^ r = x / 4294967296 ^ (r / 4) / 256 ^ (r % 4) := by
  rw [Nat.div_div_eq_div_mul, show (4294967296 : Nat) = 256 ^ 4 from by decide, ← Nat.pow_mul, ← Nat.pow_add, Nat.div_add_mod]
 rw [hd]
 generalize x / 4294967296 ^ (r / 4) = z
 have hj : r % 4 < 4 := Nat.mod_lt _ (by decide)
 generalize r % 4 = j at hj
 have e : 4294967296 = 256 ^ j * (256 * 256 ^ (3 - j)) := by
  rw [← Nat.mul_assoc, Nat.mul_right_comm, ← Nat.pow_add, show j + (3 - j) = 3 by omega]
 rw [e, Nat.mod_mul_right_div_self, Nat.mod_mul_right_mod]
theorem mod_room {N : Nat} (h : (D 4294967296 N).length < 1000000) : ∀ z, z < N * 512 → (D 4294967296 z).length < 100000000 := fun z hz => by
 have h1 : N < 4294967296 ^ (D 4294967296 N).length := (D_len_le (B := 4294967296) (by decide) N _).1 (Nat.le_refl _)
 have h2 : z < 4294967296 ^ ((D 4294967296 N).length + 1) := Nat.lt_of_lt_of_le hz (by rw [Nat.pow_succ]; exact Nat.mul_le_mul (Nat.le_of_lt h1) (by decide))
 have := (D_len_le (B := 4294967296) (by decide) z _).2 h2
 omega
theorem mod_top {N : Nat} (x : Nat) : x / 256 ^ (4 * (D 4294967296 x).length) % N = 0 := by
 have h1 : x < 4294967296 ^ (D 4294967296 x).length := (D_len_le (B := 4294967296) (by decide) x _).1 (Nat.le_refl _)
 rw [Nat.pow_mul, show (256 : Nat) ^ 4 = 4294967296 from by decide, Nat.div_eq_of_lt h1, Nat.zero_mod]
theorem mod_small {x y r N : Nat} (h : y < N) : y * 256 + x / 256 ^ r % 256 < N * 2 ^ 9 := by
 have h2 := Nat.mod_lt (x / 256 ^ r) (show 0 < 256 by decide)
 omega
theorem mod_two (v M : Nat) : v % (M * 2) = v % M + M * (v / M % 2) := Nat.mod_mul
theorem mod_lo {v N k z : Nat} (hz : z = v % (N * 2 ^ (k + 1))) (h : z < N * 2 ^ k) : z = v % (N * 2 ^ k) := by
 have h1 := mod_two v (N * 2 ^ k)
 rw [Nat.mul_assoc, ← Nat.pow_succ] at h1
 rw [h1] at hz
 rcases Nat.mod_two_eq_zero_or_one (v / (N * 2 ^ k)) with h2 | h2
 · rw [hz, h2]; rfl
 · rw [h2] at hz; omega
theorem mod_hi {v N k z : Nat} (hz : z = v % (N * 2 ^ (k + 1))) (h : N * 2 ^ k ≤ z) : z - N * 2 ^ k = v % (N * 2 ^ k) := by
  have h1 := mod_two v (N * 2 ^ k)
  rw [Nat.mul_assoc, ← Nat.pow_succ] at h1
  rw [h1] at hz
  rcases Nat.mod_two_eq_zero_or_one (v / (N * 2 ^ k)) with h2 | h2
  · rcases Nat.eq_zero_or_pos (N * 2 ^ k) with h3 | h3
    · rw [h3] at hz ⊢; rw [hz]; simp
    · have := Nat.mod_lt v h3
      rw [h2] at hz; omega
  · rw [h2] at hz; omega
theorem mod_byte {x r N : Nat} : (x / 256 ^ (r + 1) % N * 256 + x / 256 ^ r % 256) % N = x / 256 ^ r % N := by
 have e : x / 256 ^ r = x / 256 ^ (r + 1) * 256 + x / 256 ^ r % 256 := by
  rw [Nat.pow_succ, ← Nat.div_div_eq_div_mul]
  omega
 generalize x / 256 ^ r % 256 = b at *
 generalize x / 256 ^ (r + 1) = y at *
 rw [e, Nat.add_mod, Nat.mod_mul_mod, ← Nat.add_mod]
set_option maxRecDepth 10000 in
theorem modD_ctr {x N : Nat} (hN : 0 < N) (hlx : (D 4294967296 x).length < 1000000) (hlN : (D 4294967296 N).length < 1000000) : GC Tryz.prog 44 [.slice (some ⟨0, 0, none⟩) (D 4294967296 x).length 0, .slice (some ⟨1, 0, none⟩) (D 4294967296 N).length 0] [⟨(D 4294967296 x).map (vi .u64), false, 1⟩, ⟨(D 4294967296 N).map (vi .u64), false, 1⟩] [.slice (some ⟨2, 0, none⟩) (D 4294967296 (x % N)).length 0] [⟨(D 4294967296 x).map (vi .u64), false, 1⟩, ⟨(D 4294967296 N).map (vi .u64), false, 1⟩, ⟨(D 4294967296 (x % N)).map (vi .u64), true, 1⟩] := by
 refine gi Tryz.func44 ?_
 have hL := mod_room hlN
 refine zS ?_
 refine yA ?_
 refine zN (zS ?_)
 refine yP (PureOp.buildArr tbok [] rfl rfl rfl (by decide) rfl rfl) ?_
 refine yN 6000 1 _ ?_
 refine ySA ?_
 refine zN (zQ (zS ?_))
 refine yA ?_
 refine zN (zB ?_)
 refine AW.rounds 10 ?_
 refine roundsA_succ ?_
 refine zQ (zS ?_)
 refine yM ?_
 refine yP (pLt (b := 9)) ?_
 refine zN (zC (zK (zT (zQ (zB (zR ?_))))))
 refine yM ?_
 refine yM ?_
 refine yM ?_
 refine yC (shiftD_ctr (x := N) (k := 0) (Nat.lt_trans hlN (by decide)) (by decide)) bd67 [(1, 0)] [21000] ?_
 refine yP pA ?_
 refine AWo.store1 tbok rfl rfl rfl rfl rfl (by simp [Value.cells]) rfl rfl ?_
 refine zN (zL (zT (zR ?_)))
 refine yM ?_
 refine yP (pAdd (b := 1)) ?_
 refine yA ?_
 refine zN (zT ?_)
 refine roundsA_succ ?_
 refine zQ (zS ?_)
 refine yM ?_
 refine yP (pLt (b := 9)) ?_
 refine zN (zC (zK (zT (zQ (zB (zR ?_))))))
 refine yM ?_
 refine yM ?_
 refine yM ?_
 refine yC (shiftD_ctr (x := N) (k := 1) (Nat.lt_trans hlN (by decide)) (by decide)) bd67 [(1, 0)] [21001] ?_
 refine yP pA ?_
 refine AWo.store1 tbok rfl rfl rfl rfl rfl (by simp [Value.cells]) rfl rfl ?_
 refine zN (zL (zT (zR ?_)))
 refine yM ?_
 refine yP (pAdd (b := 1)) ?_
 refine yA ?_
 refine zN (zT ?_)
 refine roundsA_succ ?_
 refine zQ (zS ?_)
 refine yM ?_
 refine yP (pLt (b := 9)) ?_
 refine zN (zC (zK (zT (zQ (zB (zR ?_))))))
 refine yM ?_
 refine yM ?_
 refine yM ?_
 refine yC (shiftD_ctr (x := N) (k := 2) (Nat.lt_trans hlN (by decide)) (by decide)) bd67 [(1, 0)] [21002] ?_
 refine yP pA ?_
 refine AWo.store1 tbok rfl rfl rfl rfl rfl (by simp [Value.cells]) rfl rfl ?_
 refine zN (zL (zT (zR ?_)))
 refine yM ?_
 refine yP (pAdd (b := 1)) ?_
 refine yA ?_
 refine zN (zT ?_)
 refine roundsA_succ ?_
 refine zQ (zS ?_)
 refine yM ?_
 refine yP (pLt (b := 9)) ?_
 refine zN (zC (zK (zT (zQ (zB (zR ?_))))))
 refine yM ?_
 refine yM ?_
 refine yM ?_
 refine yC (shiftD_ctr (x := N) (k := 3) (Nat.lt_trans hlN (by decide)) (by decide)) bd67 [(1, 0)] [21003] ?_
 refine yP pA ?_
 refine AWo.store1 tbok rfl rfl rfl rfl rfl (by simp [Value.cells]) rfl rfl ?_
 refine zN (zL (zT (zR ?_)))
 refine yM ?_
 refine yP (pAdd (b := 1)) ?_
 refine yA ?_
 refine zN (zT ?_)
 refine roundsA_succ ?_
 refine zQ (zS ?_)
 refine yM ?_
 refine yP (pLt (b := 9)) ?_
 refine zN (zC (zK (zT (zQ (zB (zR ?_))))))
 refine yM ?_
 refine yM ?_
 refine yM ?_
 refine yC (shiftD_ctr (x := N) (k := 4) (Nat.lt_trans hlN (by decide)) (by decide)) bd67 [(1, 0)] [21004] ?_
 refine yP pA ?_
 refine AWo.store1 tbok rfl rfl rfl rfl rfl (by simp [Value.cells]) rfl rfl ?_
 refine zN (zL (zT (zR ?_)))
 refine yM ?_
 refine yP (pAdd (b := 1)) ?_
 refine yA ?_
 refine zN (zT ?_)
 refine roundsA_succ ?_
 refine zQ (zS ?_)
 refine yM ?_
 refine yP (pLt (b := 9)) ?_
 refine zN (zC (zK (zT (zQ (zB (zR ?_))))))
 refine yM ?_
 refine yM ?_
 refine yM ?_
 refine yC (shiftD_ctr (x := N) (k := 5) (Nat.lt_trans hlN (by decide)) (by decide)) bd67 [(1, 0)] [21005] ?_
 refine yP pA ?_
 refine AWo.store1 tbok rfl rfl rfl rfl rfl (by simp [Value.cells]) rfl rfl ?_
 refine zN (zL (zT (zR ?_)))
 refine yM ?_
 refine yP (pAdd (b := 1)) ?_
 refine yA ?_
 refine zN (zT ?_)
 refine roundsA_succ ?_
 refine zQ (zS ?_)
 refine yM ?_
 refine yP (pLt (b := 9)) ?_
 refine zN (zC (zK (zT (zQ (zB (zR ?_))))))
 refine yM ?_
 refine yM ?_
 refine yM ?_
 refine yC (shiftD_ctr (x := N) (k := 6) (Nat.lt_trans hlN (by decide)) (by decide)) bd67 [(1, 0)] [21006] ?_
 refine yP pA ?_
 refine AWo.store1 tbok rfl rfl rfl rfl rfl (by simp [Value.cells]) rfl rfl ?_
 refine zN (zL (zT (zR ?_)))
 refine yM ?_
 refine yP (pAdd (b := 1)) ?_
 refine yA ?_
 refine zN (zT ?_)
 refine roundsA_succ ?_
 refine zQ (zS ?_)
 refine yM ?_
 refine yP (pLt (b := 9)) ?_
 refine zN (zC (zK (zT (zQ (zB (zR ?_))))))
 refine yM ?_
 refine yM ?_
 refine yM ?_
 refine yC (shiftD_ctr (x := N) (k := 7) (Nat.lt_trans hlN (by decide)) (by decide)) bd67 [(1, 0)] [21007] ?_
 refine yP pA ?_
 refine AWo.store1 tbok rfl rfl rfl rfl rfl (by simp [Value.cells]) rfl rfl ?_
 refine zN (zL (zT (zR ?_)))
 refine yM ?_
 refine yP (pAdd (b := 1)) ?_
 refine yA ?_
 refine zN (zT ?_)
 refine roundsA_succ ?_
 refine zQ (zS ?_)
 refine yM ?_
 refine yP (pLt (b := 9)) ?_
 refine zN (zC (zK (zT (zQ (zB (zR ?_))))))
 refine yM ?_
 refine yM ?_
 refine yM ?_
 refine yC (shiftD_ctr (x := N) (k := 8) (Nat.lt_trans hlN (by decide)) (by decide)) bd67 [(1, 0)] [21008] ?_
 refine yP pA ?_
 refine AWo.store1 tbok rfl rfl rfl rfl rfl (by simp [Value.cells]) rfl rfl ?_
 refine zN (zL (zT (zR ?_)))
 refine yM ?_
 refine yP (pAdd (b := 1)) ?_
 refine yA ?_
 refine zN (zT ?_)
 refine roundsA_succ ?_
 refine zQ (zS ?_)
 refine yM ?_
 refine yP (pLt (b := 9)) ?_
 refine zN (zF (zX (zV (zV (zH (zT (zS ?_)))))))
 refine AWo.buildSlice tbok 23000 [] (out := []) rfl rfl (by decide) rfl rfl rfl (by decide) rfl rfl rfl rfl rfl ?_
 refine yA ?_
 refine zN (zQ (zS ?_))
 refine yM ?_
 refine yP pL ?_
 refine yP (PureOp.mulI (b := 4) rfl rfl (by omega)) ?_
 refine yP ((PureOp.subP rfl rfl (by omega)).mono (v' := vp (4 * (D 4294967296 x).length)) (by (simp only [vp]; congr 1; omega))) ?_
 refine yA ?_
 refine zN (zB ?_)
 refine AW.loopw (fun mm σ => ∃ y, ∃ r, (r ≤ 4 * (D 4294967296 x).length ∧ y = x / 256 ^ r % N) ∧ mm = 1 * r ∧ σ = ⟨(upd (upd (upd (upd emp 0 (.slice (some ⟨0, 0, none⟩) (D 4294967296 x).length 0)) 5 (.pointer (some ⟨6000, 0, none⟩))) 7 (.slice (some ⟨77000, 0, none⟩) (D 4294967296 (y)).length 0)) 8 (vp r)), (upd (upd (upd (upd (upd (upd (upd (upd (upd (upd (upd (upd (upd emp 0 ⟨(D 4294967296 x).map (vi .u64), false, 1⟩) 1 ⟨(D 4294967296 N).map (vi .u64), false, 1⟩) 6000 ⟨[.slice (some ⟨21000, 0, none⟩) (D 4294967296 (N * 2 ^ 0)).length 0, .slice (some ⟨21001, 0, none⟩) (D 4294967296 (N * 2 ^ 1)).length 0, .slice (some ⟨21002, 0, none⟩) (D 4294967296 (N * 2 ^ 2)).length 0, .slice (some ⟨21003, 0, none⟩) (D 4294967296 (N * 2 ^ 3)).length 0, .slice (some ⟨21004, 0, none⟩) (D 4294967296 (N * 2 ^ 4)).length 0, .slice (some ⟨21005, 0, none⟩) (D 4294967296 (N * 2 ^ 5)).length 0, .slice (some ⟨21006, 0, none⟩) (D 4294967296 (N * 2 ^ 6)).length 0, .slice (some ⟨21007, 0, none⟩) (D 4294967296 (N * 2 ^ 7)).length 0, .slice (some ⟨21008, 0, none⟩) (D 4294967296 (N * 2 ^ 8)).length 0], true, 1⟩) 21000 ⟨(D 4294967296 (N * 2 ^ 0)).map (vi .u64), true, 1⟩) 21001 ⟨(D 4294967296 (N * 2 ^ 1)).map (vi .u64), true, 1⟩) 21002 ⟨(D 4294967296 (N * 2 ^ 2)).map (vi .u64), true, 1⟩) 21003 ⟨(D 4294967296 (N * 2 ^ 3)).map (vi .u64), true, 1⟩) 21004 ⟨(D 4294967296 (N * 2 ^ 4)).map (vi .u64), true, 1⟩) 21005 ⟨(D 4294967296 (N * 2 ^ 5)).map (vi .u64), true, 1⟩) 21006 ⟨(D 4294967296 (N * 2 ^ 6)).map (vi .u64), true, 1⟩) 21007 ⟨(D 4294967296 (N * 2 ^ 7)).map (vi .u64), true, 1⟩) 21008 ⟨(D 4294967296 (N * 2 ^ 8)).map (vi .u64), true, 1⟩) 77000 ⟨(D 4294967296 (y)).map (vi .u64), true, 1⟩)⟩) (fm := [(77000, 23000)]) (wk [0, 1, 6000, 21000, 21001, 21002, 21003, 21004, 21005, 21006, 21007, 21008, 77000]) ⟨0, 4 * (D 4294967296 x).length, ⟨Nat.le_refl _, (mod_top x).symm⟩, rfl, rfl⟩ ?_
 rintro mm σ ⟨y, r, ⟨hr0, hy⟩, rfl, rfl⟩
 refine zQ (zS ?_)
 refine yM ?_
 refine yP (PureOp.geP rfl rfl) ?_
 refine zN ?_
 refine zA (fun hb0 => ?_) (fun hb0 => ?_)
 ·
  have hp0 : 0 < r := by simpa using hb0
  obtain ⟨r, rfl⟩ : ∃ q, r = q + 1 := ⟨r - 1, by omega⟩
  rw [vp_succ]
  have hr4 : r / 4 < (D 4294967296 x).length := by omega
  have hx := bd_getD (bd_D (B := 4294967296) (by decide) x) (by decide) (r / 4)
  have hyN : y < N := by rw [hy]; exact Nat.mod_lt _ hN
  have hv := mod_small (x := x) (r := r) hyN
  refine zK (zT (zQ (zB (zS ?_))))
  refine yM ?_
  refine yM ?_
  refine yP (PureOp.quoN (b := 4) 9223372036854775808 rfl rfl (by decide) (by decide) (by decide) (by omega)) ?_
  refine yP (PureOp.idxN tbok (j := r / 4) rfl rfl rfl rfl hr4) ?_
  refine yL 0 ?_
  refine yA ?_
  refine zN (zQ (zS ?_))
  refine yA ?_
  refine zN (zB ?_)
  refine AW.loopw (fun mm σ => ∃ j, (j ≤ r % 4) ∧ mm = r % 4 - j ∧ σ = ⟨(upd (upd (upd (upd (upd (upd emp 0 (.slice (some ⟨0, 0, none⟩) (D 4294967296 x).length 0)) 5 (.pointer (some ⟨6000, 0, none⟩))) 7 (.slice (some ⟨77000, 0, none⟩) (D 4294967296 (y)).length 0)) 8 (vi .i64 r)) 9 (vi .u64 ((D 4294967296 x).getD (r / 4) 0 / 256 ^ j))) 10 (vi .i64 j)), (upd (upd (upd (upd (upd (upd (upd (upd (upd (upd (upd (upd (upd emp 0 ⟨(D 4294967296 x).map (vi .u64), false, 1⟩) 1 ⟨(D 4294967296 N).map (vi .u64), false, 1⟩) 6000 ⟨[.slice (some ⟨21000, 0, none⟩) (D 4294967296 (N * 2 ^ 0)).length 0, .slice (some ⟨21001, 0, none⟩) (D 4294967296 (N * 2 ^ 1)).length 0, .slice (some ⟨21002, 0, none⟩) (D 4294967296 (N * 2 ^ 2)).length 0, .slice (some ⟨21003, 0, none⟩) (D 4294967296 (N * 2 ^ 3)).length 0, .slice (some ⟨21004, 0, none⟩) (D 4294967296 (N * 2 ^ 4)).length 0, .slice (some ⟨21005, 0, none⟩) (D 4294967296 (N * 2 ^ 5)).length 0, .slice (some ⟨21006, 0, none⟩) (D 4294967296 (N * 2 ^ 6)).length 0, .slice (some ⟨21007, 0, none⟩) (D 4294967296 (N * 2 ^ 7)).length 0, .slice (some ⟨21008, 0, none⟩) (D 4294967296 (N * 2 ^ 8)).length 0], true, 1⟩) 21000 ⟨(D 4294967296 (N * 2 ^ 0)).map (vi .u64), true, 1⟩) 21001 ⟨(D 4294967296 (N * 2 ^ 1)).map (vi .u64), true, 1⟩) 21002 ⟨(D 4294967296 (N * 2 ^ 2)).map (vi .u64), true, 1⟩) 21003 ⟨(D 4294967296 (N * 2 ^ 3)).map (vi .u64), true, 1⟩) 21004 ⟨(D 4294967296 (N * 2 ^ 4)).map (vi .u64), true, 1⟩) 21005 ⟨(D 4294967296 (N * 2 ^ 5)).map (vi .u64), true, 1⟩) 21006 ⟨(D 4294967296 (N * 2 ^ 6)).map (vi .u64), true, 1⟩) 21007 ⟨(D 4294967296 (N * 2 ^ 7)).map (vi .u64), true, 1⟩) 21008 ⟨(D 4294967296 (N * 2 ^ 8)).map (vi .u64), true, 1⟩) 77000 ⟨(D 4294967296 (y)).map (vi .u64), true, 1⟩)⟩) (fm := []) (wk [0, 1, 6000, 21000, 21001, 21002, 21003, 21004, 21005, 21006, 21007, 21008, 77000]) ⟨0, Nat.zero_le _, rfl, rfl⟩ ?_
  rintro mm σ ⟨j, hinv, rfl, rfl⟩
  refine zQ (zS ?_)
  refine yM ?_
  refine yM ?_
  refine yP ((PureOp.remN (b := 4) rfl rfl (by decide)).mono (v' := vi .i64 (r % 4)) rfl) ?_
  refine yP pLt ?_
  refine zN ?_
  refine zA (fun hb1 => ?_) (fun hb1 => ?_)
  ·
   have hj : j < r % 4 := by simpa using hb1
   refine zK (zT (zQ (zB (zR ?_))))
   refine yM ?_
   refine yP ((PureOp.quoN (b := 256) 18446744073709551616 rfl rfl (by decide) (by decide) (by decide) (Nat.lt_of_le_of_lt (Nat.div_le_self _ _) (Nat.lt_trans hx (by decide)))).mono (v' := vi .u64 ((D 4294967296 x).getD (r / 4) 0 / 256 ^ (j + 1))) (congrArg (vi .u64) (by rw [Nat.div_div_eq_div_mul, ← Nat.pow_succ]))) ?_
   refine yA ?_
   refine zN (zL (zT (zR ?_)))
   refine yM ?_
   refine yP (pAdd (b := 1)) ?_
   refine yA ?_
   refine zN (zT ?_)
   exact ⟨r % 4 - (j + 1), [], _, by omega, wk [0, 1, 6000, 21000, 21001, 21002, 21003, 21004, 21005, 21006, 21007, 21008, 77000], j + 1, by omega, rfl, rfl⟩
  ·
   obtain rfl : j = r % 4 := by simp at hb1; omega
   refine zX (zV (zV (zH (zT (zS ?_)))))
   refine yM ?_
   refine AWo.buildSlice tbok 46000 [(0, vi .u64 256)] (out := [vi .u64 256]) rfl rfl (by decide) rfl rfl rfl (by decide) rfl rfl rfl rfl rfl ?_
   refine yC (mul256_ctr (x := y) (hL _ (by omega))) bd69 [(77000, 0), (46000, 0)] [47000] ?_
   refine yM ?_
   refine yP ((PureOp.remN (b := 256) rfl rfl (by decide)).mono (v' := vi .u64 (x / 256 ^ r % 256)) (congrArg (vi .u64) (byteD x r))) ?_
   refine AWo.buildSlice tbok 50000 [(0, vi .u64 (x / 256 ^ r % 256))] (out := [vi .u64 (x / 256 ^ r % 256)]) rfl rfl (by decide) rfl rfl rfl (by decide) rfl rfl rfl rfl rfl ?_
   refine yC (trim_ctr (a := [x / 256 ^ r % 256]) (v := x / 256 ^ r % 256) (n := 1) (bd_byte _) (num_byte _) rfl (by simp)) bd26 [(50000, 0)] [] ?_
   refine yC (addD_ctr (x := y * 256) (y := x / 256 ^ r % 256) (hL _ (by omega)) (hL _ (by have := Nat.mod_lt (x / 256 ^ r) (show 0 < 256 by decide); omega))) bd68 [(47000, 0), (50000, 0)] [52000] ?_ (hfit := (.flat rfl (by exact flatM flat_vi) (by intro h; rfl) (.part rfl (dpart (by decide) (bd_byte _) (num_byte _)) (flatM flat_vi) (by rw [Nat.zero_add]; exact dpart_len (by decide) (bd_byte (x / 256 ^ r)) (num_byte _)) .nil)))
   refine yA ?_
   refine zN (zS ?_)
   refine yA ?_
   refine zN (zB ?_)
   refine AW.loopw (fun mm σ => ∃ z, ∃ k, (k ≤ 9 ∧ z = (y * 256 + x / 256 ^ r % 256) % (N * 2 ^ k)) ∧ mm = 1 * k ∧ σ = ⟨(upd (upd (upd (upd (upd emp 0 (.slice (some ⟨0, 0, none⟩) (D 4294967296 x).length 0)) 5 (.pointer (some ⟨6000, 0, none⟩))) 7 (.slice (some ⟨77000, 0, none⟩) (D 4294967296 (z)).length 0)) 8 (vi .i64 r)) 11 (vp k)), (upd (upd (upd (upd (upd (upd (upd (upd (upd (upd (upd (upd (upd emp 0 ⟨(D 4294967296 x).map (vi .u64), false, 1⟩) 1 ⟨(D 4294967296 N).map (vi .u64), false, 1⟩) 6000 ⟨[.slice (some ⟨21000, 0, none⟩) (D 4294967296 (N * 2 ^ 0)).length 0, .slice (some ⟨21001, 0, none⟩) (D 4294967296 (N * 2 ^ 1)).length 0, .slice (some ⟨21002, 0, none⟩) (D 4294967296 (N * 2 ^ 2)).length 0, .slice (some ⟨21003, 0, none⟩) (D 4294967296 (N * 2 ^ 3)).length 0, .slice (some ⟨21004, 0, none⟩) (D 4294967296 (N * 2 ^ 4)).length 0, .slice (some ⟨21005, 0, none⟩) (D 4294967296 (N * 2 ^ 5)).length 0, .slice (some ⟨21006, 0, none⟩) (D 4294967296 (N * 2 ^ 6)).length 0, .slice (some ⟨21007, 0, none⟩) (D 4294967296 (N * 2 ^ 7)).length 0, .slice (some ⟨21008, 0, none⟩) (D 4294967296 (N * 2 ^ 8)).length 0], true, 1⟩) 21000 ⟨(D 4294967296 (N * 2 ^ 0)).map (vi .u64), true, 1⟩) 21001 ⟨(D 4294967296 (N * 2 ^ 1)).map (vi .u64), true, 1⟩) 21002 ⟨(D 4294967296 (N * 2 ^ 2)).map (vi .u64), true, 1⟩) 21003 ⟨(D 4294967296 (N * 2 ^ 3)).map (vi .u64), true, 1⟩) 21004 ⟨(D 4294967296 (N * 2 ^ 4)).map (vi .u64), true, 1⟩) 21005 ⟨(D 4294967296 (N * 2 ^ 5)).map (vi .u64), true, 1⟩) 21006 ⟨(D 4294967296 (N * 2 ^ 6)).map (vi .u64), true, 1⟩) 21007 ⟨(D 4294967296 (N * 2 ^ 7)).map (vi .u64), true, 1⟩) 21008 ⟨(D 4294967296 (N * 2 ^ 8)).map (vi .u64), true, 1⟩) 77000 ⟨(D 4294967296 (z)).map (vi .u64), true, 1⟩)⟩) (fm := [(77000, 52000)]) (wk [0, 1, 6000, 21000, 21001, 21002, 21003, 21004, 21005, 21006, 21007, 21008, 77000]) ⟨y * 256 + x / 256 ^ r % 256, 9, ⟨by decide, (Nat.mod_eq_of_lt hv).symm⟩, rfl, rfl⟩ ?_
   rintro mm σ ⟨z, k, ⟨hk9, hz⟩, rfl, rfl⟩
   refine zQ (zS ?_)
   refine yM ?_
   refine yP (PureOp.geP rfl rfl) ?_
   refine zN ?_
   refine zA (fun hb2 => ?_) (fun hb2 => ?_)
   ·
    have hp0 : 0 < k := by simpa using hb2
    have hkc : k = 1 ∨ k = 2 ∨ k = 3 ∨ k = 4 ∨ k = 5 ∨ k = 6 ∨ k = 7 ∨ k = 8 ∨ k = 9 := by omega
    rcases hkc with rfl | rfl | rfl | rfl | rfl | rfl | rfl | rfl | rfl
    ·
     rw [show vp 1 = vi .i64 0 from rfl]
     have hzl : z < N * 2 ^ 1 := by rw [hz]; exact Nat.mod_lt _ (Nat.mul_pos hN (by decide))
     refine zK (zT (zQ (zB (zS ?_))))
     refine yM ?_
     refine yM ?_
     refine yP pA ?_
     refine yL1 ?_
     refine yC (cmpD_ctr (x := z) (y := N * 2 ^ 0) (hL _ (by omega)) (hL _ (by omega))) bd70 [(77000, 0), (21000, 0)] [] ?_
     refine yP (PureOp.bin rfl rfl rfl) ?_
     refine zN ?_
     refine zA (fun hb3 => ?_) (fun hb3 => ?_)
     ·
      have hge : N * 2 ^ 0 ≤ z := ge_of_cmp (by simpa using hb3)
      refine zR ?_
      refine yM ?_
      refine yM ?_
      refine yP pA ?_
      refine yL1 ?_
      refine yC (subD_ctr (x := z) (y := N * 2 ^ 0) (hL _ (by omega)) (hL _ (by omega)) hge) bd71 [(77000, 0), (21000, 0)] [67000] ?_
      refine yA ?_
      refine zN (zL (zT (zR ?_)))
      refine yM ?_
      refine yP (PureOp.subP rfl rfl (by decide)) ?_
      refine yA ?_
      refine zN (zT ?_)
      exact ⟨1 * 0, [(77000, 67000)], _, by omega, wk [0, 1, 6000, 21000, 21001, 21002, 21003, 21004, 21005, 21006, 21007, 21008, 77000], z - N * 2 ^ 0, 0, ⟨by decide, mod_hi hz hge⟩, rfl, rfl⟩
     ·
      have hlt : z < N * 2 ^ 0 := lt_of_cmp (by simpa using hb3)
      refine zK (zL (zT (zR ?_)))
      refine yM ?_
      refine yP (PureOp.subP rfl rfl (by decide)) ?_
      refine yA ?_
      refine zN (zT ?_)
      exact ⟨1 * 0, [(77000, 77000)], _, by omega, wk [0, 1, 6000, 21000, 21001, 21002, 21003, 21004, 21005, 21006, 21007, 21008, 77000], z, 0, ⟨by decide, mod_lo hz hlt⟩, rfl, rfl⟩
    ·
     rw [show vp 2 = vi .i64 1 from rfl]
     have hzl : z < N * 2 ^ 2 := by rw [hz]; exact Nat.mod_lt _ (Nat.mul_pos hN (by decide))
     refine zK (zT (zQ (zB (zS ?_))))
     refine yM ?_
     refine yM ?_
     refine yP pA ?_
     refine yL1 ?_
     refine yC (cmpD_ctr (x := z) (y := N * 2 ^ 1) (hL _ (by omega)) (hL _ (by omega))) bd70 [(77000, 0), (21001, 0)] [] ?_
     refine yP (PureOp.bin rfl rfl rfl) ?_
     refine zN ?_
     refine zA (fun hb4 => ?_) (fun hb4 => ?_)
     ·
      have hge : N * 2 ^ 1 ≤ z := ge_of_cmp (by simpa using hb4)
      refine zR ?_
      refine yM ?_
      refine yM ?_
      refine yP pA ?_
      refine yL1 ?_
      refine yC (subD_ctr (x := z) (y := N * 2 ^ 1) (hL _ (by omega)) (hL _ (by omega)) hge) bd71 [(77000, 0), (21001, 0)] [67000] ?_
      refine yA ?_
      refine zN (zL (zT (zR ?_)))
      refine yM ?_
      refine yP (pSub (b := 1)) ?_
      refine yA ?_
      refine zN (zT ?_)
      exact ⟨1 * 1, [(77000, 67000)], _, by omega, wk [0, 1, 6000, 21000, 21001, 21002, 21003, 21004, 21005, 21006, 21007, 21008, 77000], z - N * 2 ^ 1, 1, ⟨by decide, mod_hi hz hge⟩, rfl, rfl⟩
     ·
      have hlt : z < N * 2 ^ 1 := lt_of_cmp (by simpa using hb4)
      refine zK (zL (zT (zR ?_)))
      refine yM ?_
      refine yP (pSub (b := 1)) ?_
      refine yA ?_
      refine zN (zT ?_)
      exact ⟨1 * 1, [(77000, 77000)], _, by omega, wk [0, 1, 6000, 21000, 21001, 21002, 21003, 21004, 21005, 21006, 21007, 21008, 77000], z, 1, ⟨by decide, mod_lo hz hlt⟩, rfl, rfl⟩
    ·
     rw [show vp 3 = vi .i64 2 from rfl]
     have hzl : z < N * 2 ^ 3 := by rw [hz]; exact Nat.mod_lt _ (Nat.mul_pos hN (by decide))
     refine zK (zT (zQ (zB (zS ?_))))
     refine yM ?_
     refine yM ?_
     refine yP pA ?_
     refine yL1 ?_
     refine yC (cmpD_ctr (x := z) (y := N * 2 ^ 2) (hL _ (by omega)) (hL _ (by omega))) bd70 [(77000, 0), (21002, 0)] [] ?_
     refine yP (PureOp.bin rfl rfl rfl) ?_
     refine zN ?_
     refine zA (fun hb5 => ?_) (fun hb5 => ?_)
     ·
      have hge : N * 2 ^ 2 ≤ z := ge_of_cmp (by simpa using hb5)
      refine zR ?_
      refine yM ?_
      refine yM ?_
      refine yP pA ?_
      refine yL1 ?_
      refine yC (subD_ctr (x := z) (y := N * 2 ^ 2) (hL _ (by omega)) (hL _ (by omega)) hge) bd71 [(77000, 0), (21002, 0)] [67000] ?_
      refine yA ?_
      refine zN (zL (zT (zR ?_)))
      refine yM ?_
      refine yP (pSub (b := 1)) ?_
      refine yA ?_
      refine zN (zT ?_)
      exact ⟨1 * 2, [(77000, 67000)], _, by omega, wk [0, 1, 6000, 21000, 21001, 21002, 21003, 21004, 21005, 21006, 21007, 21008, 77000], z - N * 2 ^ 2, 2, ⟨by decide, mod_hi hz hge⟩, rfl, rfl⟩
     ·
      have hlt : z < N * 2 ^ 2 := lt_of_cmp (by simpa using hb5)
      refine zK (zL (zT (zR ?_)))
      refine yM ?_
      refine yP (pSub (b := 1)) ?_
      refine yA ?_
      refine zN (zT ?_)
      exact ⟨1 * 2, [(77000, 77000)], _, by omega, wk [0, 1, 6000, 21000, 21001, 21002, 21003, 21004, 21005, 21006, 21007, 21008, 77000], z, 2, ⟨by decide, mod_lo hz hlt⟩, rfl, rfl⟩
    ·
     rw [show vp 4 = vi .i64 3 from rfl]
     have hzl : z < N * 2 ^ 4 := by rw [hz]; exact Nat.mod_lt _ (Nat.mul_pos hN (by decide))
     refine zK (zT (zQ (zB (zS ?_))))
     refine yM ?_
     refine yM ?_
     refine yP pA ?_
     refine yL1 ?_
     refine yC (cmpD_ctr (x := z) (y := N * 2 ^ 3) (hL _ (by omega)) (hL _ (by omega))) bd70 [(77000, 0), (21003, 0)] [] ?_
     refine yP (PureOp.bin rfl rfl rfl) ?_
     refine zN ?_
     refine zA (fun hb6 => ?_) (fun hb6 => ?_)
     ·
      have hge : N * 2 ^ 3 ≤ z := ge_of_cmp (by simpa using hb6)
      refine zR ?_
      refine yM ?_
      refine yM ?_
      refine yP pA ?_
      refine yL1 ?_
      refine yC (subD_ctr (x := z) (y := N * 2 ^ 3) (hL _ (by omega)) (hL _ (by omega)) hge) bd71 [(77000, 0), (21003, 0)] [67000] ?_
      refine yA ?_
      refine zN (zL (zT (zR ?_)))
      refine yM ?_
      refine yP (pSub (b := 1)) ?_
      refine yA ?_
      refine zN (zT ?_)
      exact ⟨1 * 3, [(77000, 67000)], _, by omega, wk [0, 1, 6000, 21000, 21001, 21002, 21003, 21004, 21005, 21006, 21007, 21008, 77000], z - N * 2 ^ 3, 3, ⟨by decide, mod_hi hz hge⟩, rfl, rfl⟩
     ·
      have hlt : z < N * 2 ^ 3 := lt_of_cmp (by simpa using hb6)
      refine zK (zL (zT (zR ?_)))
      refine yM ?_
      refine yP (pSub (b := 1)) ?_
      refine yA ?_
      refine zN (zT ?_)
      exact ⟨1 * 3, [(77000, 77000)], _, by omega, wk [0, 1, 6000, 21000, 21001, 21002, 21003, 21004, 21005, 21006, 21007, 21008, 77000], z, 3, ⟨by decide, mod_lo hz hlt⟩, rfl, rfl⟩
    ·
     rw [show vp 5 = vi .i64 4 from rfl]
     have hzl : z < N * 2 ^ 5 := by rw [hz]; exact Nat.mod_lt _ (Nat.mul_pos hN (by decide))
     refine zK (zT (zQ (zB (zS ?_))))
     refine yM ?_
     refine yM ?_
     refine yP pA ?_
     refine yL1 ?_
     refine yC (cmpD_ctr (x := z) (y := N * 2 ^ 4) (hL _ (by omega)) (hL _ (by omega))) bd70 [(77000, 0), (21004, 0)] [] ?_
     refine yP (PureOp.bin rfl rfl rfl) ?_
     refine zN ?_
     refine zA (fun hb7 => ?_) (fun hb7 => ?_)
     ·
      have hge : N * 2 ^ 4 ≤ z := ge_of_cmp (by simpa using hb7)
      refine zR ?_
      refine yM ?_
      refine yM ?_
      refine yP pA ?_
      refine yL1 ?_
      refine yC (subD_ctr (x := z) (y := N * 2 ^ 4) (hL _ (by omega)) (hL _ (by omega)) hge) bd71 [(77000, 0), (21004, 0)] [67000] ?_
      refine yA ?_
      refine zN (zL (zT (zR ?_)))
      refine yM ?_
      refine yP (pSub (b := 1)) ?_
      refine yA ?_
      refine zN (zT ?_)
      exact ⟨1 * 4, [(77000, 67000)], _, by omega, wk [0, 1, 6000, 21000, 21001, 21002, 21003, 21004, 21005, 21006, 21007, 21008, 77000], z - N * 2 ^ 4, 4, ⟨by decide, mod_hi hz hge⟩, rfl, rfl⟩
     ·
      have hlt : z < N * 2 ^ 4 := lt_of_cmp (by simpa using hb7)
      refine zK (zL (zT (zR ?_)))
      refine yM ?_
      refine yP (pSub (b := 1)) ?_
      refine yA ?_
      refine zN (zT ?_)
      exact ⟨1 * 4, [(77000, 77000)], _, by omega, wk [0, 1, 6000, 21000, 21001, 21002, 21003, 21004, 21005, 21006, 21007, 21008, 77000], z, 4, ⟨by decide, mod_lo hz hlt⟩, rfl, rfl⟩
    ·
     rw [show vp 6 = vi .i64 5 from rfl]
     have hzl : z < N * 2 ^ 6 := by rw [hz]; exact Nat.mod_lt _ (Nat.mul_pos hN (by decide))
     refine zK (zT (zQ (zB (zS ?_))))
     refine yM ?_
     refine yM ?_
     refine yP pA ?_
     refine yL1 ?_
     refine yC (cmpD_ctr (x := z) (y := N * 2 ^ 5) (hL _ (by omega)) (hL _ (by omega))) bd70 [(77000, 0), (21005, 0)] [] ?_
     refine yP (PureOp.bin rfl rfl rfl) ?_
     refine zN ?_
     refine zA (fun hb8 => ?_) (fun hb8 => ?_)
     ·
      have hge : N * 2 ^ 5 ≤ z := ge_of_cmp (by simpa using hb8)
      refine zR ?_
      refine yM ?_
      refine yM ?_
      refine yP pA ?_
      refine yL1 ?_
      refine yC (subD_ctr (x := z) (y := N * 2 ^ 5) (hL _ (by omega)) (hL _ (by omega)) hge) bd71 [(77000, 0), (21005, 0)] [67000] ?_
      refine yA ?_
      refine zN (zL (zT (zR ?_)))
      refine yM ?_
      refine yP (pSub (b := 1)) ?_
      refine yA ?_
      refine zN (zT ?_)
      exact ⟨1 * 5, [(77000, 67000)], _, by omega, wk [0, 1, 6000, 21000, 21001, 21002, 21003, 21004, 21005, 21006, 21007, 21008, 77000], z - N * 2 ^ 5, 5, ⟨by decide, mod_hi hz hge⟩, rfl, rfl⟩
     ·
      have hlt : z < N * 2 ^ 5 := lt_of_cmp (by simpa using hb8)
      refine zK (zL (zT (zR ?_)))
      refine yM ?_
      refine yP (pSub (b := 1)) ?_
      refine yA ?_
      refine zN (zT ?_)
      exact ⟨1 * 5, [(77000, 77000)], _, by omega, wk [0, 1, 6000, 21000, 21001, 21002, 21003, 21004, 21005, 21006, 21007, 21008, 77000], z, 5, ⟨by decide, mod_lo hz hlt⟩, rfl, rfl⟩
    ·
     rw [show vp 7 = vi .i64 6 from rfl]
     have hzl : z < N * 2 ^ 7 := by rw [hz]; exact Nat.mod_lt _ (Nat.mul_pos hN (by decide))
     refine zK (zT (zQ (zB (zS ?_))))
     refine yM ?_
     refine yM ?_
     refine yP pA ?_
     refine yL1 ?_
     refine yC (cmpD_ctr (x := z) (y := N * 2 ^ 6) (hL _ (by omega)) (hL _ (by omega))) bd70 [(77000, 0), (21006, 0)] [] ?_
     refine yP (PureOp.bin rfl rfl rfl) ?_
     refine zN ?_
     refine zA (fun hb9 => ?_) (fun hb9 => ?_)
     ·
      have hge : N * 2 ^ 6 ≤ z := ge_of_cmp (by simpa using hb9)
      refine zR ?_
      refine yM ?_
      refine yM ?_
      refine yP pA ?_
      refine yL1 ?_
      refine yC (subD_ctr (x := z) (y := N * 2 ^ 6) (hL _ (by omega)) (hL _ (by omega)) hge) bd71 [(77000, 0), (21006, 0)] [67000] ?_
      refine yA ?_
      refine zN (zL (zT (zR ?_)))
      refine yM ?_
      refine yP (pSub (b := 1)) ?_
      refine yA ?_
      refine zN (zT ?_)
      exact ⟨1 * 6, [(77000, 67000)], _, by omega, wk [0, 1, 6000, 21000, 21001, 21002, 21003, 21004, 21005, 21006, 21007, 21008, 77000], z - N * 2 ^ 6, 6, ⟨by decide, mod_hi hz hge⟩, rfl, rfl⟩
     ·
      have hlt : z < N * 2 ^ 6 := lt_of_cmp (by simpa using hb9)
      refine zK (zL (zT (zR ?_)))
      refine yM ?_
      refine yP (pSub (b := 1)) ?_
      refine yA ?_
      refine zN (zT ?_)
      exact ⟨1 * 6, [(77000, 77000)], _, by omega, wk [0, 1, 6000, 21000, 21001, 21002, 21003, 21004, 21005, 21006, 21007, 21008, 77000], z, 6, ⟨by decide, mod_lo hz hlt⟩, rfl, rfl⟩
    ·
     rw [show vp 8 = vi .i64 7 from rfl]
     have hzl : z < N * 2 ^ 8 := by rw [hz]; exact Nat.mod_lt _ (Nat.mul_pos hN (by decide))
     refine zK (zT (zQ (zB (zS ?_))))
     refine yM ?_
     refine yM ?_
     refine yP pA ?_
     refine yL1 ?_
     refine yC (cmpD_ctr (x := z) (y := N * 2 ^ 7) (hL _ (by omega)) (hL _ (by omega))) bd70 [(77000, 0), (21007, 0)] [] ?_
     refine yP (PureOp.bin rfl rfl rfl) ?_
     refine zN ?_
     refine zA (fun hb10 => ?_) (fun hb10 => ?_)
     ·
      have hge : N * 2 ^ 7 ≤ z := ge_of_cmp (by simpa using hb10)
      refine zR ?_
      refine yM ?_
      refine yM ?_
      refine yP pA ?_
      refine yL1 ?_
      refine yC (subD_ctr (x := z) (y := N * 2 ^ 7) (hL _ (by omega)) (hL _ (by omega)) hge) bd71 [(77000, 0), (21007, 0)] [67000] ?_
      refine yA ?_
      refine zN (zL (zT (zR ?_)))
      refine yM ?_
      refine yP (pSub (b := 1)) ?_
      refine yA ?_
      refine zN (zT ?_)
      exact ⟨1 * 7, [(77000, 67000)], _, by omega, wk [0, 1, 6000, 21000, 21001, 21002, 21003, 21004, 21005, 21006, 21007, 21008, 77000], z - N * 2 ^ 7, 7, ⟨by decide, mod_hi hz hge⟩, rfl, rfl⟩
     ·
      have hlt : z < N * 2 ^ 7 := lt_of_cmp (by simpa using hb10)
      refine zK (zL (zT (zR ?_)))
      refine yM ?_
      refine yP (pSub (b := 1)) ?_
      refine yA ?_
      refine zN (zT ?_)
      exact ⟨1 * 7, [(77000, 77000)], _, by omega, wk [0, 1, 6000, 21000, 21001, 21002, 21003, 21004, 21005, 21006, 21007, 21008, 77000], z, 7, ⟨by decide, mod_lo hz hlt⟩, rfl, rfl⟩
    ·
     rw [show vp 9 = vi .i64 8 from rfl]
     have hzl : z < N * 2 ^ 9 := by rw [hz]; exact Nat.mod_lt _ (Nat.mul_pos hN (by decide))
     refine zK (zT (zQ (zB (zS ?_))))
     refine yM ?_
     refine yM ?_
     refine yP pA ?_
     refine yL1 ?_
     refine yC (cmpD_ctr (x := z) (y := N * 2 ^ 8) (hL _ (by omega)) (hL _ (by omega))) bd70 [(77000, 0), (21008, 0)] [] ?_
     refine yP (PureOp.bin rfl rfl rfl) ?_
     refine zN ?_
     refine zA (fun hb11 => ?_) (fun hb11 => ?_)
     ·
      have hge : N * 2 ^ 8 ≤ z := ge_of_cmp (by simpa using hb11)
      refine zR ?_
      refine yM ?_
      refine yM ?_
      refine yP pA ?_
      refine yL1 ?_
      refine yC (subD_ctr (x := z) (y := N * 2 ^ 8) (hL _ (by omega)) (hL _ (by omega)) hge) bd71 [(77000, 0), (21008, 0)] [67000] ?_
      refine yA ?_
      refine zN (zL (zT (zR ?_)))
      refine yM ?_
      refine yP (pSub (b := 1)) ?_
      refine yA ?_
      refine zN (zT ?_)
      exact ⟨1 * 8, [(77000, 67000)], _, by omega, wk [0, 1, 6000, 21000, 21001, 21002, 21003, 21004, 21005, 21006, 21007, 21008, 77000], z - N * 2 ^ 8, 8, ⟨by decide, mod_hi hz hge⟩, rfl, rfl⟩
     ·
      have hlt : z < N * 2 ^ 8 := lt_of_cmp (by simpa using hb11)
      refine zK (zL (zT (zR ?_)))
      refine yM ?_
      refine yP (pSub (b := 1)) ?_
      refine yA ?_
      refine zN (zT ?_)
      exact ⟨1 * 8, [(77000, 77000)], _, by omega, wk [0, 1, 6000, 21000, 21001, 21002, 21003, 21004, 21005, 21006, 21007, 21008, 77000], z, 8, ⟨by decide, mod_lo hz hlt⟩, rfl, rfl⟩
   ·
    obtain rfl : k = 0 := by simpa using hb2
    have hzy : z = x / 256 ^ r % N := by rw [hz, hy, Nat.pow_zero, Nat.mul_one]; exact mod_byte
    refine zX (zV (zV (zH (zL (zT (zR ?_))))))
    refine yM ?_
    refine yP (PureOp.subP rfl rfl (by omega)) ?_
    refine yA ?_
    refine zN (zT ?_)
    exact ⟨1 * r, [(77000, 77000)], _, by omega, wk [0, 1, 6000, 21000, 21001, 21002, 21003, 21004, 21005, 21006, 21007, 21008, 77000], z, r, ⟨by omega, hzy⟩, rfl, rfl⟩
 ·
  obtain rfl : r = 0 := by simpa using hb0
  rw [Nat.pow_zero, Nat.div_one] at hy
  subst hy
  refine zX (zV (zV (zH (zT (zS ?_)))))
  refine yM ?_
  refine yA ?_
  refine zN (zE ?_)
  exact rq [77000] [.tmp 4]
end Go.Proofs.YtpahdiljpnfkdaaGreat
namespace Go.Proofs.YtpahdiljpnfkdaaGreat
open Go Sim
theorem wordsD_ctr {x n : Nat} (hn : n < 100000000) : GC Tryz.prog 46 [.slice (some ⟨0, 0, none⟩) (D 4294967296 x).length 0, vi .i64 (n)] [⟨(D 4294967296 x).map (vi .u64), false, 1⟩] [.slice (some ⟨1, 0, none⟩) n 0] [⟨(D 4294967296 x).map (vi .u64), false, 1⟩, ⟨(digs 18446744073709551616 n x).map (vi .u64), true, 1⟩] := by
 have h := words_ctr (a := D 4294967296 x) (n := n) (bd_D (by decide) _) hn
 simp only [num_D (show 2 ≤ 4294967296 by decide), digs_len] at h
 exact h
end Go.Proofs.YtpahdiljpnfkdaaGreat
namespace Go.Proofs.YtpahdiljpnfkdaaGreat
open Go Sim
theorem lcmp_ctrV {a b : List Nat} {na xa nb xb : Nat} (hna : a.length = na) (hxa : num 18446744073709551616 a = xa) (hnb : b.length = nb) (hxb : num 18446744073709551616 b = xb) (ha : bd 18446744073709551616 a) (hb : bd 18446744073709551616 b) (hla : a.length < 100000000) (hlb : b.length < 100000000) : GC Tryz.prog 101 [.slice (some ⟨0, 0, none⟩) na 0, .slice (some ⟨1, 0, none⟩) nb 0] [⟨a.map (vi .u64), false, 1⟩, ⟨b.map (vi .u64), false, 1⟩] [.int .i64 (cmpI (xa) (xb))] [⟨a.map (vi .u64), false, 1⟩, ⟨b.map (vi .u64), false, 1⟩] := by
 subst hna hxa; subst hnb hxb
 exact lcmp_ctr ha hb hla hlb
end Go.Proofs.YtpahdiljpnfkdaaGreat
namespace Go.Proofs.YtpahdiljpnfkdaaGreat
open Go Sim
def pinv : Nat → Nat
 | 0 => 1
 | i + 1 => pinv i * ((2 + (18446744073709551616 - 4891460686036598785 * pinv i % 18446744073709551616)) % 18446744073709551616) % 18446744073709551616
theorem pinv_lt (i : Nat) : pinv i < 18446744073709551616 := by
 cases i with
 | zero => decide
 | succ i => exact Nat.mod_lt _ (by decide)
theorem below_ge {a : List Nat} (_ : bd 18446744073709551616 a) (_ : a.length = 4) (h : 21888242871839275222246405745257275088548364400416034343698204186575808495617 ≤ num 18446744073709551616 a) (h2 : num 18446744073709551616 a < 2 * 21888242871839275222246405745257275088548364400416034343698204186575808495617) : digs 18446744073709551616 4 (num 18446744073709551616 a % 21888242871839275222246405745257275088548364400416034343698204186575808495617) = digs 18446744073709551616 4 (num 18446744073709551616 a + 18446744073709551616 ^ 4 - 21888242871839275222246405745257275088548364400416034343698204186575808495617) := by
 refine num_inj (digs_bd (by decide) _ _) (digs_bd (by decide) _ _) (by simp [digs_len]) ?_
 rw [num_digs, num_digs]
 omega
theorem below_lt {a : List Nat} (ha : bd 18446744073709551616 a) (hl : a.length = 4) (h : num 18446744073709551616 a < 21888242871839275222246405745257275088548364400416034343698204186575808495617) : digs 18446744073709551616 4 (num 18446744073709551616 a % 21888242871839275222246405745257275088548364400416034343698204186575808495617) = a := by
 rw [Nat.mod_eq_of_lt h, ← hl, digs_num ha]
set_option maxRecDepth 10000 in
theorem prime_ctr : GC Tryz.prog 41 [] [] [.agg ((digs 18446744073709551616 4 21888242871839275222246405745257275088548364400416034343698204186575808495617).map (vi .u64)).toArray] [] := by
 refine gi Tryz.func41 ?_
 refine zS ?_
 refine yN 1000 1 ((List.replicate 4 0).map (vi .u64)) ?_
 refine zN (zS ?_)
 refine yP ((PureOp.buildArr tbok [(0, .int .u64 4891460686036598785), (1, .int .u64 2896914383306846353), (2, .int .u64 13281191951274694749), (3, .int .u64 3486998266802970665)] rfl rfl rfl (by decide) rfl rfl).mono (v' := .agg ((digs 18446744073709551616 4 21888242871839275222246405745257275088548364400416034343698204186575808495617).map (vi .u64)).toArray) (by kernel_rfl)) ?_
 refine ySA ?_
 refine zN (zE ?_)
 exact rq [] [.cell 0 40]
set_option maxRecDepth 10000 in
theorem inverse_ctr : GC Tryz.prog 86 [] [] [vi .u64 (14042775128853446655)] [] := by
 refine gi Tryz.func86 ?_
 refine zS ?_
 refine yA ?_
 refine zN (zS ?_)
 refine yC (prime_ctr) bd41 [] [] ?_
 refine yP ((PureOp.idxVM (j := 0) tbok 0 rfl rfl rfl rfl rfl (by decide) (digs_len _ _)).mono (v' := vi .u64 4891460686036598785) (by kernel_rfl)) ?_
 refine yA ?_
 refine yA ?_
 refine zN (zQ (zS ?_))
 refine yM ?_
 refine zN (zB ?_)
 refine AW.loopw (fun mm σ => ∃ i, (i ≤ 6) ∧ mm = 6 - i ∧ σ = ⟨(upd (upd (upd emp 1 (vi .u64 4891460686036598785)) 2 (vi .u64 (pinv i))) 5 (vi .i64 i)), emp⟩) (fm := []) (wk []) ⟨0, by decide, rfl, rfl⟩ ?_
 rintro mm σ ⟨i, hinv, rfl, rfl⟩
 have hpv := pinv_lt i
 refine zS ?_
 refine yP (pLt (b := 6)) ?_
 refine zN (zQ ?_)
 refine zA (fun hb0 => ?_) (fun hb0 => ?_)
 ·
  have hi : i < 6 := by simpa using hb0
  refine zK (zT (zQ (zB (zR ?_))))
  refine yM ?_
  refine yM ?_
  refine yM ?_
  refine yP (PureOp.mulU 18446744073709551616 rfl rfl rfl rfl) ?_
  refine yP (PureOp.subU (a := 2) 18446744073709551616 rfl rfl rfl rfl (by omega)) ?_
  refine yP (PureOp.mulU 18446744073709551616 rfl rfl rfl rfl) ?_
  refine yA ?_
  refine zN (zL (zT (zR ?_)))
  refine yP (pAdd (b := 1)) ?_
  refine yM ?_
  refine zN (zT ?_)
  exact ⟨6 - (i + 1), [], _, by omega, wk [], i + 1, by omega, rfl, rfl⟩
 ·
  obtain rfl : i = 6 := by simp at hb0; omega
  refine zX (zV (zV (zH (zT (zS ?_)))))
  refine yM ?_
  first | refine AWo.pure ((PureOp.negU 18446744073709551616 rfl rfl rfl (by decide)).mono (v' := vi .u64 14042775128853446655) (by kernel_rfl)) rfl rfl ?_
  refine yA ?_
  refine zN (zE ?_)
  exact rq [] [.tmp 0]
set_option maxRecDepth 10000 in
theorem plus_ctr {a b : List Nat} (ha : bd 18446744073709551616 a) (hb : bd 18446744073709551616 b) (hla : a.length = 4) (hlb : b.length = 4) : GC Tryz.prog 60 [.agg ((a).map (vi .u64)).toArray, .agg ((b).map (vi .u64)).toArray] [] [.agg ((digs 18446744073709551616 4 (num 18446744073709551616 a + num 18446744073709551616 b)).map (vi .u64)).toArray] [] := by
 refine gi Tryz.func60 ?_
 have hpa := num_lt ha
 rw [hla] at hpa
 have hpb := num_lt hb
 rw [hlb] at hpb
 refine zS ?_
 refine yO 3000 1 (a.map (vi .u64)) ?_
 refine yO 4000 1 (b.map (vi .u64)) ?_
 refine yN 5000 1 ((List.replicate 4 0).map (vi .u64)) ?_
 refine zN (zS ?_)
 refine yA ?_
 refine zN (zQ (zS ?_))
 refine yM ?_
 refine zN (zB ?_)
 refine AW.loopw (fun mm σ => ∃ i, ∃ (l : List Nat), ∃ c, (i ≤ 4 ∧ l.length = 4 ∧ bd 18446744073709551616 l ∧ c ≤ 1 ∧ num 18446744073709551616 (l.take i) + 18446744073709551616 ^ i * c = num 18446744073709551616 a % 18446744073709551616 ^ i + num 18446744073709551616 b % 18446744073709551616 ^ i) ∧ mm = 4 - i ∧ σ = ⟨(upd (upd (upd (upd (upd emp 2 (.pointer (some ⟨3000, 0, none⟩))) 3 (.pointer (some ⟨4000, 0, none⟩))) 4 (.pointer (some ⟨5000, 0, none⟩))) 5 (vi .u64 c)) 7 (vi .i64 i)), (upd (upd (upd emp 3000 ⟨a.map (vi .u64), true, 1⟩) 4000 ⟨b.map (vi .u64), true, 1⟩) 5000 ⟨l.map (vi .u64), true, 1⟩)⟩) (fm := []) (wk [3000, 4000, 5000]) ⟨0, List.replicate 4 0, 0, ⟨Nat.zero_le _, by simp, bd_replicate (by decide) _, by omega, by simp [num, Nat.mod_one]⟩, rfl, rfl⟩ ?_
 rintro mm σ ⟨i, l, c, ⟨hi0, hl2, hbl, hc, hnl⟩, rfl, rfl⟩
 have hx := bd_getD ha (by decide) i
 have hy := bd_getD hb (by decide) i
 refine zS ?_
 refine yP (pLt (b := 4)) ?_
 refine zN (zQ ?_)
 refine zA (fun hb0 => ?_) (fun hb0 => ?_)
 ·
  have hi : i < 4 := by simpa using hb0
  refine zK (zT (zQ (zB (zS ?_))))
  refine yM ?_
  refine yA ?_
  refine zN ?_
  refine AW.draw mixed ?_
  refine yM ?_
  refine yM ?_
  refine yP pA ?_
  refine yL 0 ?_
  refine yM ?_
  refine yP pA ?_
  refine yL 0 ?_
  refine yM ?_
  refine yP (add64 rfl rfl (by omega)) ?_
  refine yM ?_
  refine yP pX ?_
  refine yP pX ?_
  refine yP pA ?_
  refine yS (vi .u64) ?_
  refine yA ?_
  refine zD (zL (zT (zR ?_)))
  refine yP (pAdd (b := 1)) ?_
  refine yM ?_
  refine zN (zT ?_)
  exact ⟨4 - (i + 1), [], _, by omega, wk [3000, 4000, 5000], i + 1, l.set i ((a.getD i 0 + b.getD i 0 + c) % 18446744073709551616), (a.getD i 0 + b.getD i 0 + c) / 18446744073709551616, ⟨by omega, by simp [hl2], bd_set hbl (Nat.mod_lt _ (by decide)), by omega, by rw [take_set_succ (by omega)]; exact add_step (by simp [hl2]; omega) hnl (num_getD ha (by decide) i) (num_getD hb (by decide) i)⟩, rfl, rfl⟩
 ·
  obtain rfl : i = 4 := by simp at hb0; omega
  obtain ⟨e1, e2⟩ := sumL_end (by decide) hbl hl2 hnl hpa hpb
  subst e1
  have hd4 := digs_len (B := 18446744073709551616) 4 (num 18446744073709551616 a + num 18446744073709551616 b)
  refine zX (zV (zV (zH (zT (zS ?_)))))
  refine yLA ?_
  refine ySA ?_
  refine zN (zE ?_)
  exact rq [] [.cell 4 40]
set_option maxRecDepth 10000 in
theorem borrow_ctr {a b : List Nat} (ha : bd 18446744073709551616 a) (hb : bd 18446744073709551616 b) (hla : a.length = 4) (hlb : b.length = 4) : GC Tryz.prog 84 [.agg ((a).map (vi .u64)).toArray, .agg ((b).map (vi .u64)).toArray] [] [.agg ((digs 18446744073709551616 4 (num 18446744073709551616 a + 18446744073709551616 ^ 4 - num 18446744073709551616 b)).map (vi .u64)).toArray, vi .u64 (if num 18446744073709551616 a < num 18446744073709551616 b then 1 else 0)] [] := by
 refine gi Tryz.func84 ?_
 have hpa := num_lt ha
 rw [hla] at hpa
 have hpb := num_lt hb
 rw [hlb] at hpb
 refine zS ?_
 refine yO 3000 1 (a.map (vi .u64)) ?_
 refine yO 4000 1 (b.map (vi .u64)) ?_
 refine yN 5000 1 ((List.replicate 4 0).map (vi .u64)) ?_
 refine yA ?_
 refine zN (zQ (zS ?_))
 refine yM ?_
 refine zN (zB ?_)
 refine AW.loopw (fun mm σ => ∃ i, ∃ (l : List Nat), ∃ c, (i ≤ 4 ∧ l.length = 4 ∧ bd 18446744073709551616 l ∧ c ≤ 1 ∧ num 18446744073709551616 (l.take i) + num 18446744073709551616 b % 18446744073709551616 ^ i = num 18446744073709551616 a % 18446744073709551616 ^ i + 18446744073709551616 ^ i * c) ∧ mm = 4 - i ∧ σ = ⟨(upd (upd (upd (upd (upd emp 2 (.pointer (some ⟨3000, 0, none⟩))) 3 (.pointer (some ⟨4000, 0, none⟩))) 4 (.pointer (some ⟨5000, 0, none⟩))) 5 (vi .u64 c)) 7 (vi .i64 i)), (upd (upd (upd emp 3000 ⟨a.map (vi .u64), true, 1⟩) 4000 ⟨b.map (vi .u64), true, 1⟩) 5000 ⟨l.map (vi .u64), true, 1⟩)⟩) (fm := []) (wk [3000, 4000, 5000]) ⟨0, List.replicate 4 0, 0, ⟨Nat.zero_le _, by simp, bd_replicate (by decide) _, by omega, by simp [num, Nat.mod_one]⟩, rfl, rfl⟩ ?_
 rintro mm σ ⟨i, l, c, ⟨hi0, hl2, hbl, hc, hnl⟩, rfl, rfl⟩
 have hx := bd_getD ha (by decide) i
 have hy := bd_getD hb (by decide) i
 refine zS ?_
 refine yP (pLt (b := 4)) ?_
 refine zN (zQ ?_)
 refine zA (fun hb0 => ?_) (fun hb0 => ?_)
 ·
  have hi : i < 4 := by simpa using hb0
  refine zK (zT (zQ (zB (zS ?_))))
  refine yM ?_
  refine yA ?_
  refine zN ?_
  refine AW.draw mixed ?_
  refine yM ?_
  refine yM ?_
  refine yP pA ?_
  refine yL 0 ?_
  refine yM ?_
  refine yP pA ?_
  refine yL 0 ?_
  refine yM ?_
  refine yP (sub64 rfl rfl (by omega)) ?_
  refine yM ?_
  refine yP pX ?_
  refine yP pX ?_
  refine yP pA ?_
  refine yS (vi .u64) ?_
  refine yA ?_
  refine zD (zL (zT (zR ?_)))
  refine yP (pAdd (b := 1)) ?_
  refine yM ?_
  refine zN (zT ?_)
  exact ⟨4 - (i + 1), [], _, by omega, wk [3000, 4000, 5000], i + 1, l.set i ((a.getD i 0 + 18446744073709551616 - b.getD i 0 - c) % 18446744073709551616), (if a.getD i 0 < b.getD i 0 + c then 1 else 0), ⟨by omega, by simp [hl2], bd_set hbl (Nat.mod_lt _ (by decide)), by split <;> omega, by rw [take_set_succ (by omega)]; exact dif_step (by simp [hl2]; omega) hnl (num_getD ha (by decide) i) (num_getD hb (by decide) i) hx hy hc⟩, rfl, rfl⟩
 ·
  obtain rfl : i = 4 := by simp at hb0; omega
  obtain ⟨e1, e2⟩ := difL_end (by decide) hbl hl2 hnl hpa hpb hc
  subst e1; subst e2
  have hd4 := digs_len (B := 18446744073709551616) 4 (num 18446744073709551616 a + 18446744073709551616 ^ 4 - num 18446744073709551616 b)
  refine zX (zV (zV (zH (zT (zS ?_)))))
  refine yLA ?_
  refine yM ?_
  refine ySA ?_
  refine yA ?_
  refine zN (zE ?_)
  exact rq [] [.cell 4 40, .tmp 5]
set_option maxRecDepth 10000 in
theorem below_ctr {a : List Nat} (ha : bd 18446744073709551616 a) (hla : a.length = 4) (hlt2 : num 18446744073709551616 a < 2 * 21888242871839275222246405745257275088548364400416034343698204186575808495617) : GC Tryz.prog 59 [.agg ((a).map (vi .u64)).toArray] [] [.agg ((digs 18446744073709551616 4 (num 18446744073709551616 a % 21888242871839275222246405745257275088548364400416034343698204186575808495617)).map (vi .u64)).toArray] [] := by
 refine gi Tryz.func59 ?_
 have hpa := num_lt ha
 rw [hla] at hpa
 have hnp : num 18446744073709551616 (digs 18446744073709551616 4 21888242871839275222246405745257275088548364400416034343698204186575808495617) = 21888242871839275222246405745257275088548364400416034343698204186575808495617 := num_digs_lt (by decide)
 have hbp := digs_bd (B := 18446744073709551616) (by decide) 4 21888242871839275222246405745257275088548364400416034343698204186575808495617
 have hlp := digs_len (B := 18446744073709551616) 4 21888242871839275222246405745257275088548364400416034343698204186575808495617
 have hd4 := digs_len (B := 18446744073709551616) 4 (num 18446744073709551616 a + 18446744073709551616 ^ 4 - 21888242871839275222246405745257275088548364400416034343698204186575808495617)
 refine zS ?_
 refine yO 2000 1 (a.map (vi .u64)) ?_
 refine yN 3000 1 ((List.replicate 4 0).map (vi .u64)) ?_
 refine zN (zQ ?_)
 refine AW.seqD mixed ?_
 refine yLA ?_
 refine yC (prime_ctr) bd41 [] [] ?_
 refine yC (borrow_ctr (b := digs 18446744073709551616 4 21888242871839275222246405745257275088548364400416034343698204186575808495617) ha hbp hla hlp) bd84 [] [] ?_
 refine yM ?_
 first | refine AWo.pure ((PureOp.extract rfl rfl).mono (v' := .agg ((digs 18446744073709551616 4 (num 18446744073709551616 a + 18446744073709551616 ^ 4 - 21888242871839275222246405745257275088548364400416034343698204186575808495617)).map (vi .u64)).toArray) (by rw [hnp]; rfl)) rfl rfl ?_
 first | refine AWo.pure ((PureOp.extract rfl rfl).mono (v' := vi .u64 (if num 18446744073709551616 a < 21888242871839275222246405745257275088548364400416034343698204186575808495617 then 1 else 0)) (by rw [hnp]; rfl)) rfl rfl ?_
 refine yN 4000 1 ((List.replicate 4 0).map (vi .u64)) ?_
 refine ySA ?_
 refine yA ?_
 refine zD (zS ?_)
 refine yM ?_
 refine yP (pEq (b := 0)) ?_
 refine zN ?_
 refine zA (fun hb0 => ?_) (fun hb0 => ?_)
 ·
  have hge : 21888242871839275222246405745257275088548364400416034343698204186575808495617 ≤ num 18446744073709551616 a := by
   rcases Nat.lt_or_ge (num 18446744073709551616 a) 21888242871839275222246405745257275088548364400416034343698204186575808495617 with h | h
   · rw [if_pos h] at hb0; simp at hb0
   · exact h
  refine zS ?_
  refine yLA ?_
  refine ySA ?_
  refine zN (zE (zU ?_))
  rw [below_ge ha hla hge hlt2]
  exact rq [] [.cell 2 40]
 ·
  have hlt : num 18446744073709551616 a < 21888242871839275222246405745257275088548364400416034343698204186575808495617 := by
   rcases Nat.lt_or_ge (num 18446744073709551616 a) 21888242871839275222246405745257275088548364400416034343698204186575808495617 with h | h
   · exact h
   · rw [if_neg (by omega)] at hb0; simp at hb0
  refine zK (zT (zS ?_))
  refine yLA ?_
  refine ySA ?_
  refine zN (zE ?_)
  rw [below_lt ha hla hlt]
  exact rq [] [.cell 2 40]
end Go.Proofs.YtpahdiljpnfkdaaGreat
namespace Go.Proofs.YtpahdiljpnfkdaaGreat
open Go Sim
theorem mont_init {l q : List Nat} {k : Nat} (hl : bd 18446744073709551616 l) (hq : bd 18446744073709551616 q) (hi : (num 18446744073709551616 q * 14042775128853446655 + 1) % 18446744073709551616 = 0) (hk : k = l.getD 0 0 * 14042775128853446655 % 18446744073709551616) :
  18446744073709551616 * num 18446744073709551616 (l.take (1 - 1)) + (l.getD 0 0 + k * q.getD 0 0 + 0) / 18446744073709551616 * 18446744073709551616 ^ 1 = num 18446744073709551616 l % 18446744073709551616 ^ 1 + k * num 18446744073709551616 (q.take 1) := by
 have e1 : l.getD 0 0 = num 18446744073709551616 l % 18446744073709551616 := by rw [num_getD hl (by decide)]; simp
 have e2 : q.getD 0 0 = num 18446744073709551616 q % 18446744073709551616 := by rw [num_getD hq (by decide)]; simp
 have e3 : num 18446744073709551616 (q.take 1) = num 18446744073709551616 q % 18446744073709551616 := by rw [num_take hq, Nat.pow_one]
 have h := mont_low (by decide) hi (t := num 18446744073709551616 l) (k := k) (by rw [hk, e1])
 rw [e3, e1, e2, Nat.pow_one, Nat.add_zero]
 have h2 := Nat.mod_add_div (num 18446744073709551616 l % 18446744073709551616 + k * (num 18446744073709551616 q % 18446744073709551616)) 18446744073709551616
 rw [h, Nat.zero_add] at h2
 simp only [Nat.sub_self, List.take_zero, num, Nat.mul_zero, Nat.zero_add]
 rw [Nat.mul_comm]
 exact h2
set_option maxRecDepth 10000 in
theorem product_ctr {a b : List Nat} {r : Nat} (ha : bd 18446744073709551616 a) (hb : bd 18446744073709551616 b) (hla : a.length = 4) (hlb : b.length = 4) (hpb : num 18446744073709551616 b < 21888242871839275222246405745257275088548364400416034343698204186575808495617) (hr : r < 21888242871839275222246405745257275088548364400416034343698204186575808495617) (h : r * 18446744073709551616 ^ 4 % 21888242871839275222246405745257275088548364400416034343698204186575808495617 = num 18446744073709551616 a * num 18446744073709551616 b % 21888242871839275222246405745257275088548364400416034343698204186575808495617) : GC Tryz.prog 61 [.agg ((a).map (vi .u64)).toArray, .agg ((b).map (vi .u64)).toArray] [] [.agg ((digs 18446744073709551616 4 r).map (vi .u64)).toArray] [] := by
 refine gi Tryz.func61 ?_
 have hbp := digs_bd (B := 18446744073709551616) (by decide) 4 21888242871839275222246405745257275088548364400416034343698204186575808495617
 have hlp := digs_len (B := 18446744073709551616) 4 21888242871839275222246405745257275088548364400416034343698204186575808495617
 have hnp : num 18446744073709551616 (digs 18446744073709551616 4 21888242871839275222246405745257275088548364400416034343698204186575808495617) = 21888242871839275222246405745257275088548364400416034343698204186575808495617 := num_digs_lt (by decide)
 have hd4 := digs_len (B := 18446744073709551616) 4 r
 have hq4 : (digs 18446744073709551616 4 21888242871839275222246405745257275088548364400416034343698204186575808495617).take 4 = digs 18446744073709551616 4 21888242871839275222246405745257275088548364400416034343698204186575808495617 := List.take_of_length_le (by rw [digs_len]; exact Nat.le_refl _)
 have hb4 : b.take 4 = b := List.take_of_length_le (by rw [hlb]; exact Nat.le_refl _)
 refine zS ?_
 refine yO 3000 1 (a.map (vi .u64)) ?_
 refine yO 4000 1 (b.map (vi .u64)) ?_
 refine yN 5000 1 ((List.replicate 4 0).map (vi .u64)) ?_
 refine zN (zS ?_)
 refine yC (prime_ctr) bd41 [] [] ?_
 refine yC (inverse_ctr) bd86 [] [] ?_
 refine yN 6000 1 ((List.replicate 4 0).map (vi .u64)) ?_
 refine ySA ?_
 refine yA ?_
 refine zN (zS ?_)
 refine yN 8000 1 ((List.replicate 5 0).map (vi .u64)) ?_
 refine zN (zQ (zS ?_))
 refine yLA ?_
 refine yM ?_
 refine zN (zB ?_)
 refine AW.loopw (fun mm σ => ∃ i, ∃ (l : List Nat), (i ≤ 4 ∧ l.length = 5 ∧ bd 18446744073709551616 l ∧ num 18446744073709551616 l < 2 * 21888242871839275222246405745257275088548364400416034343698204186575808495617 ∧ num 18446744073709551616 l * 18446744073709551616 ^ i % 21888242871839275222246405745257275088548364400416034343698204186575808495617 = num 18446744073709551616 (a.take i) * num 18446744073709551616 b % 21888242871839275222246405745257275088548364400416034343698204186575808495617) ∧ mm = 4 - i ∧ σ = ⟨(upd (upd (upd (upd (upd (upd (upd (upd emp 2 (.pointer (some ⟨3000, 0, none⟩))) 3 (.pointer (some ⟨4000, 0, none⟩))) 4 (.pointer (some ⟨5000, 0, none⟩))) 5 (.pointer (some ⟨6000, 0, none⟩))) 6 (vi .u64 14042775128853446655)) 7 (.pointer (some ⟨8000, 0, none⟩))) 17 (.agg (a.map (vi .u64)).toArray)) 18 (vi .i64 i)), (upd (upd (upd (upd (upd emp 3000 ⟨a.map (vi .u64), true, 1⟩) 4000 ⟨b.map (vi .u64), true, 1⟩) 5000 ⟨(List.replicate 4 0).map (vi .u64), true, 1⟩) 6000 ⟨(digs 18446744073709551616 4 21888242871839275222246405745257275088548364400416034343698204186575808495617).map (vi .u64), true, 1⟩) 8000 ⟨l.map (vi .u64), true, 1⟩)⟩) (fm := []) (wk [3000, 4000, 5000, 6000, 8000]) ⟨0, List.replicate 5 0, ⟨Nat.zero_le _, by simp, bd_replicate (by decide) _, by rw [num_replicate]; decide, by simp [num, num_replicate]⟩, rfl, rfl⟩ ?_
 rintro mm σ ⟨i, l, ⟨hi0, hl2, hbl, hT, hTm⟩, rfl, rfl⟩
 refine zS ?_
 refine yP (pLt (b := 4)) ?_
 refine zN (zQ ?_)
 refine zA (fun hb0 => ?_) (fun hb0 => ?_)
 ·
  have hi : i < 4 := by simpa using hb0
  have hxa := bd_getD ha (by decide) i
  refine zK (zT (zQ (zB (zS ?_))))
  refine yP (PureOp.idxVM tbok 0 rfl rfl rfl rfl rfl (by omega) (by (simp [*]; done))) ?_
  refine yA ?_
  refine zN (zS ?_)
  refine yA ?_
  refine zN (zQ (zS ?_))
  refine yLA ?_
  refine yM ?_
  refine zN (zB ?_)
  refine AW.loopw (fun mm σ => ∃ j, ∃ (l2 : List Nat), ∃ c, (j ≤ 4 ∧ l2.length = 5 ∧ bd 18446744073709551616 l2 ∧ c < 18446744073709551616 ∧ num 18446744073709551616 l2 + c * 18446744073709551616 ^ j = num 18446744073709551616 l + a.getD i 0 * num 18446744073709551616 (b.take j) ∧ (∀ k, j ≤ k → l2.getD k 0 = l.getD k 0)) ∧ mm = 4 - j ∧ σ = ⟨(upd (upd (upd (upd (upd (upd (upd (upd (upd (upd (upd (upd emp 2 (.pointer (some ⟨3000, 0, none⟩))) 3 (.pointer (some ⟨4000, 0, none⟩))) 4 (.pointer (some ⟨5000, 0, none⟩))) 5 (.pointer (some ⟨6000, 0, none⟩))) 6 (vi .u64 14042775128853446655)) 7 (.pointer (some ⟨8000, 0, none⟩))) 17 (.agg (a.map (vi .u64)).toArray)) 18 (vi .i64 i)) 9 (vi .u64 (a.getD i 0))) 10 (vi .u64 c)) 21 (.agg (b.map (vi .u64)).toArray)) 22 (vi .i64 j)), (upd (upd (upd (upd (upd emp 3000 ⟨a.map (vi .u64), true, 1⟩) 4000 ⟨b.map (vi .u64), true, 1⟩) 5000 ⟨(List.replicate 4 0).map (vi .u64), true, 1⟩) 6000 ⟨(digs 18446744073709551616 4 21888242871839275222246405745257275088548364400416034343698204186575808495617).map (vi .u64), true, 1⟩) 8000 ⟨l2.map (vi .u64), true, 1⟩)⟩) (fm := []) (wk [3000, 4000, 5000, 6000, 8000]) ⟨0, l, 0, ⟨by omega, hl2, hbl, by decide, by simp [num], fun _ _ => rfl⟩, rfl, rfl⟩ ?_
  rintro mm σ ⟨j, l2, c, ⟨hj0, hk2, hbk, hc, hnk, hzk⟩, rfl, rfl⟩
  have hx := bd_getD ha (by decide) i
  have hy := bd_getD hb (by decide) j
  have he := bd_getD hbk (by decide) j
  have hlt := mad_lt he hx hy hc
  refine zS ?_
  refine yP (pLt (b := 4)) ?_
  refine zN (zQ ?_)
  refine zA (fun hb1 => ?_) (fun hb1 => ?_)
  ·
   have hj : j < 4 := by simpa using hb1
   refine zK (zT (zQ (zB (zS ?_))))
   refine yM ?_
   refine yP (PureOp.idxVM tbok 0 rfl rfl rfl rfl rfl (by omega) (by (simp [*]; done))) ?_
   refine yA ?_
   refine yA ?_
   refine zN (zR ?_)
   refine yM ?_
   refine yM ?_
   refine yP pA ?_
   refine yL 0 ?_
   refine yM ?_
   refine yM ?_
   refine yM ?_
   refine AWo.callX (line_ctr (by assumption) (by assumption) (by assumption) (by assumption)) bd87 [] [] rfl (.cons rfl (.cons rfl (.cons rfl (.cons rfl .nil)))) rfl (.cons rfl rfl (.cons rfl rfl (.cons rfl rfl (.cons rfl rfl .nil)))) .nil rfl .nil frN (by decide) (.cons rfl rfl (.cons rfl rfl .nil)) rfl rfl rfl rfl ?_
   refine yM ?_
   refine yP pX ?_
   refine yP pX ?_
   refine yP pA ?_
   refine yS (vi .u64) ?_
   refine yA ?_
   refine zN (zL (zT (zR ?_)))
   refine yP (pAdd (b := 1)) ?_
   refine yM ?_
   refine zN (zT ?_)
   refine ⟨4 - (j + 1), [], _, by omega, ?_, j + 1, l2.set j ((l2.getD j 0 + a.getD i 0 * b.getD j 0 + c) % 18446744073709551616), (l2.getD j 0 + a.getD i 0 * b.getD j 0 + c) / 18446744073709551616, ⟨by omega, by simp [hk2], bd_set hbk (Nat.mod_lt _ (by decide)), Nat.div_lt_of_lt_mul hlt, mad_step (by omega) hnk rfl, fun k hk => by rw [getD_set (by omega)]; exact hzk k (by omega)⟩, rfl, rfl⟩
   exact wk [3000, 4000, 5000, 6000, 8000]
  ·
   obtain rfl : j = 4 := by simp at hb1; omega
   rw [hb4] at hnk
   have h40 : l2.getD 4 0 = 0 := by
    rw [hzk 4 (Nat.le_refl _), num_getD hbl (by decide), Nat.div_eq_of_lt (by omega)]
   refine zX (zV (zV (zH (zT (zS ?_)))))
   refine yP (pA (j := 4)) ?_
   refine yL 0 ?_
   refine yM ?_
   refine yP ((PureOp.addU 18446744073709551616 rfl rfl rfl rfl).mono (v' := vi .u64 c) (congrArg (vi .u64) (by rw [h40, Nat.zero_add, Nat.mod_eq_of_lt hc]))) ?_
   refine yP (pA (j := 4)) ?_
   refine yS (vi .u64) ?_
   refine zN ?_
   obtain ⟨l3, hl3⟩ : ∃ l3, l3 = l2.set 4 c := ⟨_, rfl⟩
   rw [← hl3]
   have hb3 : bd 18446744073709551616 l3 := by rw [hl3]; exact bd_set hbk hc
   have hk3 : l3.length = 5 := by rw [hl3]; simp [hk2]
   have hS : num 18446744073709551616 l3 = num 18446744073709551616 l + a.getD i 0 * num 18446744073709551616 b := by
    have := num_set (B := 18446744073709551616) (l := l2) (k := 4) (v := c) (by omega)
    rw [h40, Nat.zero_mul, Nat.add_zero] at this
    rw [hl3, this, hnk]
   refine zS ?_
   refine yP (pA (j := 0)) ?_
   refine yL 0 ?_
   refine yM ?_
   refine yP (PureOp.mulU 18446744073709551616 rfl rfl rfl rfl) ?_
   refine yA ?_
   refine zN ?_
   obtain ⟨k, hkk⟩ : ∃ k, k = l3.getD 0 0 * 14042775128853446655 % 18446744073709551616 := ⟨_, rfl⟩
   rw [← hkk]
   have hk : k < 18446744073709551616 := by rw [hkk]; exact Nat.mod_lt _ (by decide)
   refine zS ?_
   refine yP (pA (j := 0)) ?_
   refine yL 0 ?_
   refine yM ?_
   refine yP (pA (j := 0)) ?_
   refine yL 0 ?_
   refine yC (line_ctr (c := 0) (bd_getD hb3 (by decide) 0) hk (bd_getD hbp (by decide) 0) (by decide)) bd87 [] [] ?_
   refine yM ?_
   refine yP pX ?_
   refine yP pX ?_
   refine yA ?_
   refine zN (zQ (zS ?_))
   refine yA ?_
   refine zN (zB ?_)
   refine AW.loopw (fun mm σ => ∃ j, ∃ (u : List Nat), ∃ c, ((1 ≤ j ∧ j ≤ 4) ∧ u.length = 5 ∧ bd 18446744073709551616 u ∧ c < 18446744073709551616 ∧ 18446744073709551616 * num 18446744073709551616 (u.take (j - 1)) + c * 18446744073709551616 ^ j = num 18446744073709551616 l3 % 18446744073709551616 ^ j + k * num 18446744073709551616 ((digs 18446744073709551616 4 21888242871839275222246405745257275088548364400416034343698204186575808495617).take j) ∧ (∀ m, j ≤ m → u.getD m 0 = num 18446744073709551616 l3 / 18446744073709551616 ^ m % 18446744073709551616)) ∧ mm = 4 - j ∧ σ = ⟨(upd (upd (upd (upd (upd (upd (upd (upd (upd (upd (upd emp 2 (.pointer (some ⟨3000, 0, none⟩))) 3 (.pointer (some ⟨4000, 0, none⟩))) 4 (.pointer (some ⟨5000, 0, none⟩))) 5 (.pointer (some ⟨6000, 0, none⟩))) 6 (vi .u64 14042775128853446655)) 7 (.pointer (some ⟨8000, 0, none⟩))) 17 (.agg (a.map (vi .u64)).toArray)) 18 (vi .i64 i)) 10 (vi .u64 c)) 13 (vi .u64 k)) 14 (vi .i64 j)), (upd (upd (upd (upd (upd emp 3000 ⟨a.map (vi .u64), true, 1⟩) 4000 ⟨b.map (vi .u64), true, 1⟩) 5000 ⟨(List.replicate 4 0).map (vi .u64), true, 1⟩) 6000 ⟨(digs 18446744073709551616 4 21888242871839275222246405745257275088548364400416034343698204186575808495617).map (vi .u64), true, 1⟩) 8000 ⟨u.map (vi .u64), true, 1⟩)⟩) (fm := []) (wk [3000, 4000, 5000, 6000, 8000]) ⟨1, l3, (l3.getD 0 0 + k * (digs 18446744073709551616 4 21888242871839275222246405745257275088548364400416034343698204186575808495617).getD 0 0 + 0) / 18446744073709551616, ⟨⟨by omega, by omega⟩, hk3, hb3, Nat.div_lt_of_lt_mul (mad_lt (bd_getD hb3 (by decide) 0) hk (bd_getD hbp (by decide) 0) (by decide)), mont_init hb3 hbp (by rw [hnp]) hkk, fun m _ => num_getD hb3 (by decide) m⟩, rfl, rfl⟩ ?_
   rintro mm σ ⟨j, u, c, ⟨⟨hj1, hj0⟩, hku, hbu, hc, hred, hum⟩, rfl, rfl⟩
   have he := bd_getD hbu (by decide) j
   have hq := bd_getD hbp (by decide) j
   have hlt2 := mad_lt he hk hq hc
   have hu4 := bd_getD hbu (by decide) 4
   refine zQ (zS ?_)
   refine yM ?_
   refine yP (pLt (b := 4)) ?_
   refine zN ?_
   refine zA (fun hb2 => ?_) (fun hb2 => ?_)
   ·
    have hj : j < 4 := by simpa using hb2
    refine zK (zT (zQ (zB ?_)))
    refine AW.draw mixed ?_
    refine yM ?_
    refine yP (pSub (b := 1)) ?_
    refine yM ?_
    refine yP pA ?_
    refine yL 0 ?_
    refine yM ?_
    refine yM ?_
    refine yP pA ?_
    refine yL 0 ?_
    refine yM ?_
    refine AWo.callX (line_ctr (by assumption) (by assumption) (by assumption) (by assumption)) bd87 [] [] rfl (.cons rfl (.cons rfl (.cons rfl (.cons rfl .nil)))) rfl (.cons rfl rfl (.cons rfl rfl (.cons rfl rfl (.cons rfl rfl .nil)))) .nil rfl .nil frN (by decide) (.cons rfl rfl (.cons rfl rfl .nil)) rfl rfl rfl rfl ?_
    refine yM ?_
    refine yP pX ?_
    refine yP pX ?_
    refine yP pA ?_
    refine yS (vi .u64) ?_
    refine yA ?_
    refine zD (zL (zT (zR ?_)))
    refine yM ?_
    refine yP (pAdd (b := 1)) ?_
    refine yA ?_
    refine zN (zT ?_)
    refine ⟨4 - (j + 1), [], _, by omega, ?_, j + 1, u.set (j - 1) ((u.getD j 0 + k * (digs 18446744073709551616 4 21888242871839275222246405745257275088548364400416034343698204186575808495617).getD j 0 + c) % 18446744073709551616), (u.getD j 0 + k * (digs 18446744073709551616 4 21888242871839275222246405745257275088548364400416034343698204186575808495617).getD j 0 + c) / 18446744073709551616, ⟨⟨by omega, by omega⟩, by simp [hku], bd_set hbu (Nat.mod_lt _ (by decide)), Nat.div_lt_of_lt_mul hlt2, red_step (by omega) (by omega) hred rfl (hum j (Nat.le_refl _)), fun m hm => by rw [getD_set (by omega)]; exact hum m (by omega)⟩, rfl, rfl⟩
    exact wk [3000, 4000, 5000, 6000, 8000]
   ·
    obtain rfl : j = 4 := by simp at hb2; omega
    rw [hq4, hnp] at hred
    have hfin := red_end (n := 3) hku hred (by
     rw [hum 4 (Nat.le_refl _), Nat.mod_eq_of_lt]
     have := num_lt hb3
     rw [hk3] at this
     omega)
    rw [hS] at hfin
    have hdv : (u.getD 4 0 + c) / 18446744073709551616 < 18446744073709551616 := Nat.div_lt_of_lt_mul (Nat.lt_of_lt_of_le (Nat.add_lt_add hu4 hc) (by decide))
    refine zX (zV (zV (zH (zT (zS ?_)))))
    refine yP (pA (j := 4)) ?_
    refine yL 0 ?_
    refine yM ?_
    refine yP (add64 (c := 0) rfl rfl (by decide)) ?_
    refine yM ?_
    refine yP pX ?_
    refine yP pX ?_
    refine yP (pA (j := 3)) ?_
    refine yS (vi .u64) ?_
    refine yA ?_
    refine zN (zR ?_)
    refine yM ?_
    refine yP (pA (j := 4)) ?_
    refine AWo.storeM (f := (vi .u64)) tbok rfl rfl rfl rfl (by simp [hku]) rfl rfl ?_
    refine zN (zL (zT (zR ?_)))
    refine yP (pAdd (b := 1)) ?_
    refine yM ?_
    refine zN (zT ?_)
    exact ⟨4 - (i + 1), [], _, by omega, wk [3000, 4000, 5000, 6000, 8000], i + 1, (u.set 3 ((u.getD 4 0 + c) % 18446744073709551616)).set 4 ((u.getD 4 0 + c) / 18446744073709551616), ⟨by omega, by simp [hku], bd_set (bd_set hbu (Nat.mod_lt _ (by decide))) hdv, mont_lt hfin hT hxa hpb hk, by rw [num_take_succ]; exact mont_mod hfin hTm⟩, rfl, rfl⟩
 ·
  obtain rfl : i = 4 := by simp at hb0; omega
  refine zX (zV (zV (zH (zT ?_))))
  have hT4 : num 18446744073709551616 (l.take 4) = num 18446744073709551616 l := by rw [num_take hbl, Nat.mod_eq_of_lt (by omega)]
  have hres : num 18446744073709551616 (l.take 4) % 21888242871839275222246405745257275088548364400416034343698204186575808495617 = r := by
   rw [hT4]
   refine mont_uniq (R := 18446744073709551616 ^ 4) (by decide) (Nat.mod_lt _ (by decide)) hr ?_
   rw [Nat.mod_mul_mod, hTm, h, ← hla, take_all]
  refine zS ?_
  refine AWo.sliceA tbok rfl .none (.some rfl) rfl rfl rfl rfl (by decide) (by decide) (.inl rfl) (by (simp; omega)) rfl rfl rfl ?_
  refine yP (PureOp.toArrT tbok rfl rfl (by decide) (by decide)) ?_
  refine AWo.loadAgg tbok (vs := (l.take 4).map (vi .u64)) rfl rfl rfl rfl (by simp [hl2]) (by simp [List.map_take]) rfl rfl ?_
  refine yC (below_ctr (a := l.take 4) (bd_take hbl 4) (by simp [hl2]) (by rw [hT4]; exact hT)) bd59 [] [] ?_
  refine ySA ?_
  refine zN (zE ?_)
  rw [hres]
  exact rq [] [.cell 4 40]
end Go.Proofs.YtpahdiljpnfkdaaGreat
namespace Go.Proofs.YtpahdiljpnfkdaaGreat
open Go Sim
def fel (v : Nat) : List Nat := digs 18446744073709551616 4 (v * 18446744073709551616 ^ 4 % 21888242871839275222246405745257275088548364400416034343698204186575808495617)
theorem fel_len (v : Nat) : (fel v).length = 4 := digs_len _ _
theorem bd_fel (v : Nat) : bd 18446744073709551616 (fel v) := digs_bd (by decide) _ _
theorem num_fel (v : Nat) : num 18446744073709551616 (fel v) = v * 18446744073709551616 ^ 4 % 21888242871839275222246405745257275088548364400416034343698204186575808495617 := num_digs_lt (Nat.lt_of_lt_of_le (Nat.mod_lt _ (by decide)) (by decide))
theorem fel_mod (v : Nat) : fel (v % 21888242871839275222246405745257275088548364400416034343698204186575808495617) = fel v := by simp only [fel]; rw [Nat.mod_mul_mod]
theorem fel_zero : fel 0 = List.replicate 4 0 := by kernel_rfl
theorem ld4 {l : List Nat} (h : l.length = 4) : ((l.map (vi .u64)).drop 0).take 4 = l.map (vi .u64) := List.take_of_length_le (by simp [h])
theorem four_nat : ∀ {l : List Nat}, l.length = 4 → ∃ a b c d, l = [a, b, c, d]
 | [a, b, c, d], _ => ⟨a, b, c, d, rfl⟩
theorem build50 {E : Env} {x : Operand} {l : List Nat} (hl : l.length = 4) (h : aev E x = some (.agg (l.map (vi .u64)).toArray)) : PureOp Tryz.prog (.build 42 #[(0, x)]) E (.agg (l.map (vi .u64)).toArray) := by
 obtain ⟨a, b, c, d, rfl⟩ := four_nat hl
 exact PureOp.buildStruct [(0, .agg ([a, b, c, d].map (vi .u64)).toArray)] pl42.choose_spec.1 zr42 (by decide) pl42.choose_spec.2 (by simp [h]) rfl
def sq2 : Nat → Nat
 | 0 => 1
 | i + 1 => 2 * sq2 i % 21888242871839275222246405745257275088548364400416034343698204186575808495617
theorem sq2_lt (i : Nat) : sq2 i < 21888242871839275222246405745257275088548364400416034343698204186575808495617 := by
 cases i with
 | zero => decide
 | succ i => exact Nat.mod_lt _ (by decide)
theorem sq2_pow (i : Nat) : sq2 i = 2 ^ i % 21888242871839275222246405745257275088548364400416034343698204186575808495617 := by
 induction i with
 | zero => rfl
 | succ i ih => rw [sq2, ih, Nat.pow_succ, Nat.mul_mod_mod, Nat.mul_comm]
theorem pow_512 (a b c : Nat) : 2 ^ (a * (b + c)) = (2 ^ a) ^ b * (2 ^ a) ^ c := by rw [Nat.pow_mul, Nat.pow_add]
theorem sq2_512 {i : Nat} (h : i = 512) : sq2 i = 18446744073709551616 ^ 4 * 18446744073709551616 ^ 4 % 21888242871839275222246405745257275088548364400416034343698204186575808495617 := by
 have h2 : i = 64 * (4 + 4) := by omega
 have e : 2 ^ i = (2 ^ 64) ^ 4 * (2 ^ 64) ^ 4 := (congrArg (fun n => 2 ^ n) h2).trans (pow_512 64 4 4)
 exact (sq2_pow i).trans (congrArg (fun n => n % 21888242871839275222246405745257275088548364400416034343698204186575808495617) e)
theorem dbl_pre (i : Nat) : bd 18446744073709551616 (digs 18446744073709551616 4 (num 18446744073709551616 (digs 18446744073709551616 4 (sq2 i)) + num 18446744073709551616 (digs 18446744073709551616 4 (sq2 i)))) ∧ (digs 18446744073709551616 4 (num 18446744073709551616 (digs 18446744073709551616 4 (sq2 i)) + num 18446744073709551616 (digs 18446744073709551616 4 (sq2 i)))).length = 4 ∧
  num 18446744073709551616 (digs 18446744073709551616 4 (num 18446744073709551616 (digs 18446744073709551616 4 (sq2 i)) + num 18446744073709551616 (digs 18446744073709551616 4 (sq2 i)))) < 2 * 21888242871839275222246405745257275088548364400416034343698204186575808495617 := by
 have h := sq2_lt i
 have e : num 18446744073709551616 (digs 18446744073709551616 4 (sq2 i)) = sq2 i := num_digs_lt (by omega)
 refine ⟨digs_bd (by decide) _ _, digs_len _ _, ?_⟩
 rw [e, num_digs_lt (by omega)]
 omega
theorem dbl_step (i : Nat) : digs 18446744073709551616 4 (sq2 (i + 1)) = digs 18446744073709551616 4 (num 18446744073709551616 (digs 18446744073709551616 4 (num 18446744073709551616 (digs 18446744073709551616 4 (sq2 i)) + num 18446744073709551616 (digs 18446744073709551616 4 (sq2 i)))) % 21888242871839275222246405745257275088548364400416034343698204186575808495617) := by
 have h := sq2_lt i
 have e : num 18446744073709551616 (digs 18446744073709551616 4 (sq2 i)) = sq2 i := num_digs_lt (by omega)
 rw [e, num_digs_lt (by omega), sq2]
 congr 2
 omega
theorem rsq_num : num 18446744073709551616 (digs 18446744073709551616 4 (18446744073709551616 ^ 4 * 18446744073709551616 ^ 4 % 21888242871839275222246405745257275088548364400416034343698204186575808495617)) = 18446744073709551616 ^ 4 * 18446744073709551616 ^ 4 % 21888242871839275222246405745257275088548364400416034343698204186575808495617 := num_digs_lt (Nat.lt_of_lt_of_le (Nat.mod_lt _ (by decide)) (by decide))
theorem enter_modG (a w p : Nat) : a * w % p * w % p = a * (w * w % p) % p := by
 rw [Nat.mod_mul_mod, Nat.mul_mod_mod, Nat.mul_assoc]
theorem enter_mod (a : Nat) : a * 18446744073709551616 ^ 4 % 21888242871839275222246405745257275088548364400416034343698204186575808495617 * 18446744073709551616 ^ 4 % 21888242871839275222246405745257275088548364400416034343698204186575808495617 = a * num 18446744073709551616 (digs 18446744073709551616 4 (18446744073709551616 ^ 4 * 18446744073709551616 ^ 4 % 21888242871839275222246405745257275088548364400416034343698204186575808495617)) % 21888242871839275222246405745257275088548364400416034343698204186575808495617 := by
 have h := enter_modG a (18446744073709551616 ^ 4) 21888242871839275222246405745257275088548364400416034343698204186575808495617
 have e := rsq_num
 generalize num 18446744073709551616 (digs 18446744073709551616 4 (18446744073709551616 ^ 4 * 18446744073709551616 ^ 4 % 21888242871839275222246405745257275088548364400416034343698204186575808495617)) = z at *
 rw [h, e]
theorem mul_modG (u v w p : Nat) : u * v * w % p * w % p = u * w % p * (v * w % p) % p := by
 rw [Nat.mod_mul_mod, ← Nat.mul_mod]
 congr 1
 grind
theorem mul_mod (u v : Nat) : u * v * 18446744073709551616 ^ 4 % 21888242871839275222246405745257275088548364400416034343698204186575808495617 * 18446744073709551616 ^ 4 % 21888242871839275222246405745257275088548364400416034343698204186575808495617 = num 18446744073709551616 (fel u) * num 18446744073709551616 (fel v) % 21888242871839275222246405745257275088548364400416034343698204186575808495617 := by
 rw [num_fel, num_fel]
 exact mul_modG u v (18446744073709551616 ^ 4) 21888242871839275222246405745257275088548364400416034343698204186575808495617
set_option maxRecDepth 10000 in
theorem enter_ctr {a : List Nat} (ha : bd 18446744073709551616 a) (hla : a.length = 4) (_ : num 18446744073709551616 a < 21888242871839275222246405745257275088548364400416034343698204186575808495617) : GC Tryz.prog 36 [.agg ((a).map (vi .u64)).toArray] [] [.agg ((fel (num 18446744073709551616 a)).map (vi .u64)).toArray] [] := by
 refine gi Tryz.func36 ?_
 have hd4 := fel_len (num 18446744073709551616 a)
 refine zS ?_
 refine yO 2000 1 ((a).map (vi .u64)) ?_
 refine yN 3000 1 _ ?_
 refine zN (zS ?_)
 refine yP ((PureOp.buildArr tbok [(0, .int .u64 1)] rfl rfl rfl (by decide) rfl rfl).mono (v' := .agg ((digs 18446744073709551616 4 (sq2 0)).map (vi .u64)).toArray) (by kernel_rfl)) ?_
 refine yN 4000 1 ((List.replicate 4 0).map (vi .u64)) ?_
 refine ySA ?_
 refine zN (zQ (zS ?_))
 refine yM ?_
 refine zN (zB ?_)
 refine AW.loopw (fun mm σ => ∃ i, (i ≤ 512) ∧ mm = 512 - i ∧ σ = ⟨(upd (upd (upd (upd emp 1 (.pointer (some ⟨2000, 0, none⟩))) 2 (.pointer (some ⟨3000, 0, none⟩))) 3 (.pointer (some ⟨4000, 0, none⟩))) 5 (vi .i64 i)), (upd (upd (upd emp 2000 ⟨a.map (vi .u64), true, 1⟩) 3000 ⟨(List.replicate 4 0).map (vi .u64), true, 1⟩) 4000 ⟨(digs 18446744073709551616 4 (sq2 i)).map (vi .u64), true, 1⟩)⟩) (fm := []) (wk [2000, 3000, 4000]) ⟨0, by decide, rfl, rfl⟩ ?_
 rintro mm σ ⟨i, hinv, rfl, rfl⟩
 have hb2 := digs_bd (B := 18446744073709551616) (by decide) 4 (sq2 i)
 have hl2 := digs_len (B := 18446744073709551616) 4 (sq2 i)
 obtain ⟨hb3, hl3, hn3⟩ := dbl_pre i
 have hl4 := digs_len (B := 18446744073709551616) 4 (num 18446744073709551616 (digs 18446744073709551616 4 (num 18446744073709551616 (digs 18446744073709551616 4 (sq2 i)) + num 18446744073709551616 (digs 18446744073709551616 4 (sq2 i)))) % 21888242871839275222246405745257275088548364400416034343698204186575808495617)
 refine zS ?_
 refine yP (pLt (b := 512)) ?_
 refine zN (zQ ?_)
 refine zA (fun hb0 => ?_) (fun hb0 => ?_)
 ·
  have hi : i < 512 := by simpa using hb0
  refine zK (zT (zQ (zB (zR ?_))))
  refine yLA ?_
  refine yLA ?_
  refine yC (plus_ctr hb2 hb2 hl2 hl2) bd60 [] [] ?_
  refine yC (below_ctr hb3 hl3 hn3) bd59 [] [] ?_
  refine ySA ?_
  refine zN (zL (zT (zR ?_)))
  refine yP (pAdd (b := 1)) ?_
  refine yM ?_
  refine zN (zT ?_)
  refine ⟨512 - (i + 1), [], _, by omega, ?_, i + 1, by omega, rfl, rfl⟩
  refine Wk.of [2000, 3000, 4000] ?_ ?_ ?_ (by decide) rfl
  ·
   refine WkE.upd rfl (by exact VR.flat _ rfl) ?_
   refine WkE.upd rfl (.ptr (4000) 0 ⟨_, rfl⟩) ?_
   refine WkE.upd rfl (.ptr (3000) 0 ⟨_, rfl⟩) ?_
   refine WkE.upd rfl (.ptr (2000) 0 ⟨_, rfl⟩) ?_
   exact WkE.emp
  ·
   refine WkM.flatM rfl (by exact dbl_step i) flat_vi (fun h => h) ?_
   refine WkM.flat rfl (flatM flat_vi) (fun h => h) ?_
   refine WkM.flatM rfl (by rfl) (fun _ => rfl) (fun h => h) ?_
   exact WkM.emp
  ·
   repeat (refine dom_upd_mem (by decide) ?_)
   exact dom_emp
 ·
  have hi : i = 512 := by simp at hb0; omega
  have hsq := sq2_512 hi
  rw [hsq] at hb2 hl2
  rw [hsq]
  refine zX (zV (zV (zH (zT (zS ?_)))))
  refine yLA ?_
  refine yLA ?_
  refine yC (product_ctr (r := num 18446744073709551616 a * 18446744073709551616 ^ 4 % 21888242871839275222246405745257275088548364400416034343698204186575808495617) ha hb2 hla hl2 (by rw [rsq_num]; exact Nat.mod_lt _ (by decide)) (Nat.mod_lt _ (by decide)) (enter_mod _)) bd61 [] [] ?_
  refine yP (build50 (by exact digs_len _ _) rfl) ?_
  refine ySA ?_
  refine zN (zE ?_)
  exact rq [] [.cell 2 42]
set_option maxRecDepth 10000 in
theorem leave_ctr {v : Nat} (hv : v < 21888242871839275222246405745257275088548364400416034343698204186575808495617) : GC Tryz.prog 62 [.agg ((fel v).map (vi .u64)).toArray] [] [.agg ((digs 18446744073709551616 4 v).map (vi .u64)).toArray] [] := by
 refine gi Tryz.func62 ?_
 have hd4 := fel_len v
 have hd5 := digs_len (B := 18446744073709551616) 4 v
 refine zS ?_
 refine yO 2000 1 ((fel v).map (vi .u64)) ?_
 refine yN 3000 1 ((List.replicate 4 0).map (vi .u64)) ?_
 refine zN (zS ?_)
 refine yP pF ?_
 refine AWo.loadAgg tbok (vs := (fel v).map (vi .u64)) rfl rfl rfl rfl (by simp [fel_len]) (ld4 (fel_len _)) rfl rfl ?_
 refine yP ((PureOp.buildArr tbok [(0, .int .u64 1)] rfl rfl rfl (by decide) rfl rfl).mono (v' := .agg ((digs 18446744073709551616 4 1).map (vi .u64)).toArray) (by kernel_rfl)) ?_
 refine yC (product_ctr (r := v) (bd_fel v) (digs_bd (by decide) 4 1) (fel_len v) (digs_len 4 1) (by decide) hv (by rw [num_fel, show num 18446744073709551616 (digs 18446744073709551616 4 1) = 1 from by kernel_rfl, Nat.mul_one, Nat.mod_mod])) bd61 [] [] ?_
 refine ySA ?_
 refine zN (zE ?_)
 exact rq [] [.cell 2 40]
set_option maxRecDepth 10000 in
theorem ebytes_ctr {v : Nat} (hv : v < 21888242871839275222246405745257275088548364400416034343698204186575808495617) : GC Tryz.prog 37 [.agg ((fel v).map (vi .u64)).toArray] [] [.agg ((digs 256 32 v).map (vi .u8)).toArray] [] := by
 refine gi Tryz.func37 ?_
 have hd4 := fel_len v
 have hd5 := digs_len (B := 18446744073709551616) 4 v
 have hn5 : num 18446744073709551616 (digs 18446744073709551616 4 v) = v := num_digs_lt (by omega)
 have hb5 := digs_bd (B := 18446744073709551616) (by decide) 4 v
 have hd6 := digs_len (B := 256) (8 * (digs 18446744073709551616 4 v).length) (num 18446744073709551616 (digs 18446744073709551616 4 v))
 have hd7 := digs_len (B := 256) 32 v
 refine zS ?_
 refine yO 2000 1 ((fel v).map (vi .u64)) ?_
 refine yN 3000 1 ((List.replicate 32 0).map (vi .u8)) ?_
 refine zN (zS ?_)
 refine yLA ?_
 refine yC (leave_ctr (by assumption)) bd62 [] [] ?_
 refine yN 4000 1 ((List.replicate 4 0).map (vi .u64)) ?_
 refine ySA ?_
 refine zN (zS ?_)
 refine AWo.sliceA tbok (h := 4) rfl .none .none rfl rfl rfl rfl (by decide) (by decide) (.inl rfl) (by simp [digs_len]) rfl rfl rfl ?_
 refine yC (lbytes_ctr hb5 (by rw [hd5]; decide)) bd63 [(4000, 0)] [8000] ?_
 refine yP (PureOp.toArrT tbok rfl rfl (by rw [hd5]; decide) (by rw [hd5]; decide)) ?_
 refine AWo.loadAgg tbok (vs := (digs 256 32 v).map (vi .u8)) rfl rfl rfl rfl (by show 0 + 32 ≤ _; simp [digs_len]) (by rw [hd5, hn5]; exact List.take_of_length_le (by simp [digs_len])) rfl rfl ?_
 refine ySA ?_
 refine zN (zE ?_)
 exact rq [] [.cell 2 74]
set_option maxRecDepth 10000 in
theorem fbok_ctr {b : List Nat} (hb : bd 256 b) (hlb : b.length = 32) (hlt : num 256 b < 21888242871839275222246405745257275088548364400416034343698204186575808495617) : GC Tryz.prog 77 [.slice (some ⟨0, 0, none⟩) b.length 0] [⟨b.map (vi .u8), false, 1⟩] [.agg ((fel (num 256 b)).map (vi .u64)).toArray, .int .i64 0] [⟨b.map (vi .u8), false, 1⟩] := by
 refine gi Tryz.func77 ?_
 have hl4 : (b.length + 7) / 8 = 4 := by rw [hlb]
 have hnb := num_lt hb
 rw [hlb] at hnb
 have hd4 := fel_len (num 256 b)
 have hd5 := digs_len (B := 18446744073709551616) 4 (num 256 b)
 have hn5 : num 18446744073709551616 (digs 18446744073709551616 4 (num 256 b)) = num 256 b := num_digs_lt (by omega)
 have hb5 := digs_bd (B := 18446744073709551616) (by decide) 4 (num 256 b)
 have hnp : num 18446744073709551616 (digs 18446744073709551616 4 21888242871839275222246405745257275088548364400416034343698204186575808495617) = 21888242871839275222246405745257275088548364400416034343698204186575808495617 := num_digs_lt (by decide)
 have hbp := digs_bd (B := 18446744073709551616) (by decide) 4 21888242871839275222246405745257275088548364400416034343698204186575808495617
 have hlp := digs_len (B := 18446744073709551616) 4 21888242871839275222246405745257275088548364400416034343698204186575808495617
 have hd6 := digs_len (B := 18446744073709551616) 4 (num 18446744073709551616 (digs 18446744073709551616 4 (num 256 b)) + 18446744073709551616 ^ 4 - num 18446744073709551616 (digs 18446744073709551616 4 21888242871839275222246405745257275088548364400416034343698204186575808495617))
 refine zS ?_
 refine yN 3000 1 _ ?_
 refine yA ?_
 refine zN (zQ (zS ?_))
 refine yM ?_
 refine yP pL ?_
 refine yP ((PureOp.neN (b := 32) rfl rfl).mono (v' := .bool false) (by rw [hlb]; rfl)) ?_
 refine zN (zF (zK (zT (zS ?_))))
 refine yM ?_
 refine yC (lwords_ctr hb (by omega)) bd33 [(0, 0)] [13000] ?_
 refine yP (PureOp.toArrT tbok rfl rfl (by rw [hl4]; decide) (by rw [hl4]; decide)) ?_
 rw [hl4]
 refine AWo.loadAgg tbok (vs := (digs 18446744073709551616 4 (num 256 b)).map (vi .u64)) rfl rfl rfl rfl (by show 0 + 4 ≤ _; simp [digs_len]) (ld4 hd5) rfl rfl ?_
 refine yN 5000 1 ((List.replicate 4 0).map (vi .u64)) ?_
 refine ySA ?_
 refine zN (zQ ?_)
 refine AW.seqD mixed ?_
 refine yLA ?_
 refine yC (prime_ctr) bd41 [] [] ?_
 refine yC (borrow_ctr hb5 hbp hd5 hlp) bd84 [] [] ?_
 refine yM ?_
 refine yP pX ?_
 refine yP pX ?_
 refine yN 6000 1 ((List.replicate 4 0).map (vi .u64)) ?_
 refine ySA ?_
 refine yA ?_
 refine zD (zS ?_)
 refine yM ?_
 refine yP ((PureOp.eqN (b := 0) rfl rfl).mono (v' := .bool false) (by rw [hn5, hnp, if_pos hlt]; rfl)) ?_
 refine zN (zF (zK (zT (zS ?_))))
 refine yLA ?_
 refine yC (enter_ctr hb5 hd5 (by rw [hn5]; exact hlt)) bd36 [] [] ?_
 refine ySA ?_
 refine yA ?_
 refine zN (zE ?_)
 rw [hn5]
 exact rq [] [.cell 2 42, .tmp 3]
set_option maxRecDepth 10000 in
theorem fbcanon_ctr {b : List Nat} (hb : bd 256 b) (hlb : b.length = 32) (hge : 21888242871839275222246405745257275088548364400416034343698204186575808495617 ≤ num 256 b) : GC Tryz.prog 77 [.slice (some ⟨0, 0, none⟩) b.length 0] [⟨b.map (vi .u8), false, 1⟩] [.agg ((List.replicate 4 0).map (vi .u64)).toArray, .int .i64 4] [⟨b.map (vi .u8), false, 1⟩] := by
 refine gi Tryz.func77 ?_
 have hl4 : (b.length + 7) / 8 = 4 := by rw [hlb]
 have hnb := num_lt hb
 rw [hlb] at hnb
 have hd4 := fel_len (num 256 b)
 have hd5 := digs_len (B := 18446744073709551616) 4 (num 256 b)
 have hn5 : num 18446744073709551616 (digs 18446744073709551616 4 (num 256 b)) = num 256 b := num_digs_lt (by omega)
 have hb5 := digs_bd (B := 18446744073709551616) (by decide) 4 (num 256 b)
 have hnp : num 18446744073709551616 (digs 18446744073709551616 4 21888242871839275222246405745257275088548364400416034343698204186575808495617) = 21888242871839275222246405745257275088548364400416034343698204186575808495617 := num_digs_lt (by decide)
 have hbp := digs_bd (B := 18446744073709551616) (by decide) 4 21888242871839275222246405745257275088548364400416034343698204186575808495617
 have hlp := digs_len (B := 18446744073709551616) 4 21888242871839275222246405745257275088548364400416034343698204186575808495617
 have hd6 := digs_len (B := 18446744073709551616) 4 (num 18446744073709551616 (digs 18446744073709551616 4 (num 256 b)) + 18446744073709551616 ^ 4 - num 18446744073709551616 (digs 18446744073709551616 4 21888242871839275222246405745257275088548364400416034343698204186575808495617))
 refine zS ?_
 refine yN 3000 1 _ ?_
 refine yA ?_
 refine zN (zQ (zS ?_))
 refine yM ?_
 refine yP pL ?_
 refine yP ((PureOp.neN (b := 32) rfl rfl).mono (v' := .bool false) (by rw [hlb]; rfl)) ?_
 refine zN (zF (zK (zT (zS ?_))))
 refine yM ?_
 refine yC (lwords_ctr hb (by omega)) bd33 [(0, 0)] [13000] ?_
 refine yP (PureOp.toArrT tbok rfl rfl (by rw [hl4]; decide) (by rw [hl4]; decide)) ?_
 rw [hl4]
 refine AWo.loadAgg tbok (vs := (digs 18446744073709551616 4 (num 256 b)).map (vi .u64)) rfl rfl rfl rfl (by show 0 + 4 ≤ _; simp [digs_len]) (ld4 hd5) rfl rfl ?_
 refine yN 5000 1 ((List.replicate 4 0).map (vi .u64)) ?_
 refine ySA ?_
 refine zN (zQ ?_)
 refine AW.seqD mixed ?_
 refine yLA ?_
 refine yC (prime_ctr) bd41 [] [] ?_
 refine yC (borrow_ctr hb5 hbp hd5 hlp) bd84 [] [] ?_
 refine yM ?_
 refine yP pX ?_
 refine yP pX ?_
 refine yN 6000 1 ((List.replicate 4 0).map (vi .u64)) ?_
 refine ySA ?_
 refine yA ?_
 refine zD (zS ?_)
 refine yM ?_
 refine yP ((PureOp.eqN (b := 0) rfl rfl).mono (v' := .bool true) (by rw [hn5, hnp, if_neg (by omega)]; rfl)) ?_
 refine zN (zC (zS ?_))
 refine yP ((PureOp.buildStruct [] pl42.choose_spec.1 zr42 (by decide) pl42.choose_spec.2 rfl rfl).mono (v' := .agg ((List.replicate 4 0).map (vi .u64)).toArray) (by rfl)) ?_
 refine ySA ?_
 refine yA ?_
 refine zN (zE (zU ?_))
 exact rq [] [.cell 2 42, .tmp 3]
set_option maxRecDepth 10000 in
theorem fbarg_ctr {b : List Nat} (hlb : b.length ≠ 32) : GC Tryz.prog 77 [.slice (some ⟨0, 0, none⟩) b.length 0] [⟨b.map (vi .u8), false, 1⟩] [.agg ((List.replicate 4 0).map (vi .u64)).toArray, .int .i64 1] [⟨b.map (vi .u8), false, 1⟩] := by
 refine gi Tryz.func77 ?_
 refine zS ?_
 refine yN 3000 1 _ ?_
 refine yA ?_
 refine zN (zQ (zS ?_))
 refine yM ?_
 refine yP pL ?_
 refine yP ((PureOp.neN (b := 32) rfl rfl).mono (v' := .bool true) (congrArg Value.bool (by simpa using hlb))) ?_
 refine zN (zC (zS ?_))
 refine yP ((PureOp.buildStruct [] pl42.choose_spec.1 zr42 (by decide) pl42.choose_spec.2 rfl rfl).mono (v' := .agg ((List.replicate 4 0).map (vi .u64)).toArray) (by rfl)) ?_
 refine ySA ?_
 refine yA ?_
 refine zN (zE (zU ?_))
 exact rq [] [.cell 2 42, .tmp 3]
end Go.Proofs.YtpahdiljpnfkdaaGreat
namespace Go.Proofs.YtpahdiljpnfkdaaGreat
open Go Sim
theorem p02_digs : D 4294967296 21888242871839275222246405745257275088548364400416034343698204186575808495617 = [4026531841, 1138881939, 2042196113, 674490440, 2172737629, 3092268470, 3778125865, 811880050] := by kernel_rfl
section
variable {P : Program} {T : Tab} (H : TabOk P T) {E : Env} {M : Mem} {n' i' : Nat} {ty : TypeId} {ps : String} {af : Array Edge} {g : Option (Nat × Bool)} {ops : Array Oper} {os : List Oper} {D : List Eff → Prop} {K : ASt → Prop}
include H
end
theorem lenP : (D 4294967296 21888242871839275222246405745257275088548364400416034343698204186575808495617).length < 100000000 := by rw [p02_digs]; decide
set_option maxRecDepth 10000 in
theorem p02D_ctr : GC Tryz.prog 45 [] [] [.slice (some ⟨0, 0, none⟩) (D 4294967296 (21888242871839275222246405745257275088548364400416034343698204186575808495617)).length 0] [⟨(D 4294967296 (21888242871839275222246405745257275088548364400416034343698204186575808495617)).map (vi .u64), true, 1⟩] := by
 refine gi Tryz.func45 ?_
 refine zS ?_
 refine yA ?_
 refine zN (zS ?_)
 refine AWo.buildSlice tbok 2000 [(0, vi .u64 4026531841), (1, vi .u64 1138881939), (2, vi .u64 2042196113), (3, vi .u64 674490440), (4, vi .u64 2172737629), (5, vi .u64 3092268470), (6, vi .u64 3778125865), (7, vi .u64 811880050)] (out := [vi .u64 4026531841, vi .u64 1138881939, vi .u64 2042196113, vi .u64 674490440, vi .u64 2172737629, vi .u64 3092268470, vi .u64 3778125865, vi .u64 811880050]) rfl rfl (by decide) rfl rfl rfl (by decide) rfl rfl rfl rfl rfl ?_
 refine yA ?_
 refine zN (zE ?_)
 rw [p02_digs]
 exact rq [2000] [.tmp 0]
theorem rb4_ctr {x : Nat} (hx : x < 18446744073709551616 ^ 4) : GC Tryz.prog 73 [.slice (some ⟨0, 0, none⟩) 4 0] [⟨(digs 18446744073709551616 4 x).map (vi .u64), false, 1⟩] [.slice (some ⟨1, 0, none⟩) 32 0] [⟨(digs 18446744073709551616 4 x).map (vi .u64), false, 1⟩, ⟨(digs 256 32 x).map (vi .u8), true, 1⟩] := by
 have h := rbytes_ctr (a := digs 18446744073709551616 4 x) (digs_bd (by decide) _ _) (by rw [digs_len]; decide)
 rw [digs_len, num_digs_lt hx] at h
 exact h
set_option maxRecDepth 10000 in
theorem mod02_ctr {x : Nat} (hlx : (D 4294967296 x).length < 1000000) : GC Tryz.prog 19 [.slice (some ⟨0, 0, none⟩) (D 4294967296 x).length 0] [⟨(D 4294967296 x).map (vi .u64), false, 1⟩] [.slice (some ⟨1, 0, none⟩) (D 4294967296 (x % 21888242871839275222246405745257275088548364400416034343698204186575808495617)).length 0] [⟨(D 4294967296 x).map (vi .u64), false, 1⟩, ⟨(D 4294967296 (x % 21888242871839275222246405745257275088548364400416034343698204186575808495617)).map (vi .u64), true, 1⟩] := by
 refine gi Tryz.func19 ?_
 refine zS ?_
 refine yA ?_
 refine zN (zS ?_)
 refine yM ?_
 refine yC (p02D_ctr) bd45 [] [5000] ?_
 refine yC (modD_ctr (x := x) (N := 21888242871839275222246405745257275088548364400416034343698204186575808495617) (by decide) hlx (by rw [p02_digs]; decide)) bd44 [(0, 0), (5000, 0)] [6000] ?_
 refine yA ?_
 refine zN (zE ?_)
 exact rq [6000] [.tmp 2]
set_option maxRecDepth 10000 in
theorem bytes02_ctr {x : Nat} (hx : x < 18446744073709551616 ^ 4) : GC Tryz.prog 47 [.slice (some ⟨0, 0, none⟩) (D 4294967296 x).length 0] [⟨(D 4294967296 x).map (vi .u64), false, 1⟩] [.slice (some ⟨1, 0, none⟩) 32 0] [⟨(D 4294967296 x).map (vi .u64), false, 1⟩, ⟨(digs 256 32 x).map (vi .u8), true, 1⟩] := by
 refine gi Tryz.func47 ?_
 refine zS ?_
 refine yA ?_
 refine zN (zS ?_)
 refine yM ?_
 refine yC (wordsD_ctr (x := x) (n := 4) (by decide)) bd46 [(0, 0)] [5000] ?_
 refine yC (rb4_ctr hx) bd73 [(5000, 0)] [6000] ?_
 refine yA ?_
 refine zN (zE ?_)
 exact rq [6000] [.tmp 2]
end Go.Proofs.YtpahdiljpnfkdaaGreat
namespace Go.Proofs.YtpahdiljpnfkdaaGreat
open Go Sim
def pw : List Nat := digs 18446744073709551616 4 21888242871839275222246405745257275088548364400416034343698204186575808495617
theorem pw_len : pw.length = 4 := digs_len _ _
theorem pw_num : num 18446744073709551616 pw = 21888242871839275222246405745257275088548364400416034343698204186575808495617 := num_digs_lt (by decide)
theorem pw_bd : bd 18446744073709551616 pw := digs_bd (by decide) _ _
theorem pwOk : MwOk pw := ⟨pw_bd, by rw [pw_len]; decide, by rw [pw_len]; decide, by rw [pw_num]; decide⟩
theorem pw_0 : pw.getD 0 0 = 4891460686036598785 := by kernel_rfl
theorem pw_3 : pw.getD (pw.length - 1) 0 = 3486998266802970665 := by rw [pw_len]; kernel_rfl
theorem newP_ctr : GC Tryz.prog 42 [.slice (some ⟨0, 0, none⟩) pw.length 0] [⟨pw.map (vi .u64), false, 1⟩] [.pointer (some ⟨1, 0, none⟩), .int .i64 0] [⟨pw.map (vi .u64), false, 1⟩, ⟨[.slice (some ⟨2, 0, none⟩) pw.length 0, vi .u64 (ninvR (pw.getD 0 0)), .slice (some ⟨3, 0, none⟩) pw.length 0], true, 1⟩, ⟨(pw).map (vi .u64), true, 1⟩, ⟨(digs 18446744073709551616 pw.length (18446744073709551616 ^ pw.length * 18446744073709551616 ^ pw.length % num 18446744073709551616 pw)).map (vi .u64), true, 1⟩] := lnew_ctr pw_bd (by rw [pw_len]; decide) (by rw [pw_len]; decide) (by rw [pw_0]) (by rw [pw_3]; decide) (by rw [pw_len]; decide)
theorem redP_ctr {a : List Nat} {sq : List Nat} {iv ns na xa : Nat} (hna : a.length = na) (hxa : num 18446744073709551616 a = xa) (ha : bd 18446744073709551616 a) (hla : na ≤ 1000) : GC Tryz.prog 43 [.pointer (some ⟨0, 0, none⟩), .slice (some ⟨3, 0, none⟩) na 0] [⟨[.slice (some ⟨1, 0, none⟩) pw.length 0, vi .u64 iv, .slice (some ⟨2, 0, none⟩) ns 0], false, 1⟩, ⟨(pw).map (vi .u64), false, 1⟩, ⟨(sq).map (vi .u64), false, 1⟩, ⟨a.map (vi .u64), false, 1⟩] [.slice (some ⟨4, 0, none⟩) 4 0] [⟨[.slice (some ⟨1, 0, none⟩) pw.length 0, vi .u64 iv, .slice (some ⟨2, 0, none⟩) ns 0], false, 1⟩, ⟨(pw).map (vi .u64), false, 1⟩, ⟨(sq).map (vi .u64), false, 1⟩, ⟨a.map (vi .u64), false, 1⟩, ⟨(digs 18446744073709551616 4 (xa % 21888242871839275222246405745257275088548364400416034343698204186575808495617)).map (vi .u64), true, 1⟩] := by
 have h := reduce_ctr (mw := pw) (iv := iv) (sq := sq) (ns := ns) pwOk ha (by omega)
 rw [pw_len, pw_num, hna, hxa] at h
 rw [pw_len]
 exact h
theorem rest4 {x : Nat} : num 18446744073709551616 (digs 18446744073709551616 4 (x % 21888242871839275222246405745257275088548364400416034343698204186575808495617)) = x % 21888242871839275222246405745257275088548364400416034343698204186575808495617 := num_digs_lt (Nat.lt_trans (Nat.mod_lt _ (by decide)) (by decide))
theorem one_word {x : Nat} (hx : x < 18446744073709551616) : digs 18446744073709551616 4 x = [x, 0, 0, 0] := by
 simp only [digs, Nat.mod_eq_of_lt hx, Nat.div_eq_of_lt hx]
set_option maxRecDepth 10000 in
theorem fromuP_ctr {x : Nat} (hx : x < 18446744073709551616) : GC Tryz.prog 14 [vi .u64 (x)] [] [.agg ((fel x).map (vi .u64)).toArray] [] := by
 refine gi Tryz.func14 ?_
 have hd1 := fel_len (num 18446744073709551616 (digs 18446744073709551616 4 x))
 have hd2 := fel_len x
 have h4 : x < 18446744073709551616 ^ 4 := Nat.lt_of_lt_of_le hx (by decide)
 refine zS ?_
 refine yN 3000 1 _ ?_
 refine zN (zS ?_)
 refine yM ?_
 refine yP ((PureOp.buildArr tbok [(0, vi .u64 x)] rfl rfl rfl (by decide) rfl rfl).mono (v' := .agg ((digs 18446744073709551616 4 x).map (vi .u64)).toArray) (by rw [one_word hx]; rfl)) ?_
 refine yC (enter_ctr (a := digs 18446744073709551616 4 x) (digs_bd (by decide) _ _) (digs_len _ _) (by rw [num_digs_lt h4]; exact Nat.lt_trans hx (by decide))) bd36 [] [] ?_
 rw [num_digs_lt h4]
 refine ySA ?_
 refine zN (zE ?_)
 exact rq [] [.cell 2 42]
set_option maxRecDepth 10000 in
theorem fromwide_ctr {b : List Nat} (hb : bd 256 b) (hlb : b.length ≤ 1000) : GC Tryz.prog 18 [.slice (some ⟨0, 0, none⟩) b.length 0] [⟨b.map (vi .u8), false, 1⟩] [.agg ((fel (num 256 b % 21888242871839275222246405745257275088548364400416034343698204186575808495617)).map (vi .u64)).toArray] [⟨b.map (vi .u8), false, 1⟩] := by
 refine gi Tryz.func18 ?_
 have h8 := reads_num hb
 have hd4 := fel_len (num 18446744073709551616 (digs 18446744073709551616 4 (num 256 b % 21888242871839275222246405745257275088548364400416034343698204186575808495617)))
 have hl4 := digs_len (B := 18446744073709551616) 4 21888242871839275222246405745257275088548364400416034343698204186575808495617
 refine zS ?_
 refine yN 3000 1 _ ?_
 refine zN (zS ?_)
 refine yC (prime_ctr) bd41 [] [] ?_
 refine yN 4000 1 ((List.replicate 4 0).map (vi .u64)) ?_
 refine ySA ?_
 refine zN (zS ?_)
 refine AWo.sliceA tbok (h := 4) rfl .none .none rfl rfl rfl rfl (by decide) (by decide) (.inl rfl) (by simp [digs_len]) rfl rfl rfl ?_
 refine yC (newP_ctr) bd42 [(4000, 0)] [10000, 10001, 10002] ?_
 refine yM ?_
 refine yP pX ?_
 refine yP pX ?_
 refine yA ?_
 refine yA ?_
 refine zN (zS ?_)
 refine yM ?_
 refine yM ?_
 refine yC (lwords_ctr hb (by omega)) bd33 [(0, 0)] [15000] ?_
 refine yC (redP_ctr (a := digs 18446744073709551616 ((b.length + 7) / 8) (num 256 b)) (na := (b.length + 7) / 8) (xa := num 256 b) (digs_len _ _) h8 (digs_bd (by decide) _ _) (by omega)) bd43 [(10000, 0), (10001, 0), (10002, 0), (15000, 0)] [16000] ?_
 refine yP (PureOp.toArrT tbok rfl rfl (by decide) (by decide)) ?_
 refine AWo.loadAgg tbok (vs := (digs 18446744073709551616 4 (num 256 b % 21888242871839275222246405745257275088548364400416034343698204186575808495617)).map (vi .u64)) rfl rfl rfl rfl (by show 0 + 4 ≤ _; simp [digs_len]) (ld4 (digs_len _ _)) rfl rfl ?_
 refine yC (enter_ctr (a := digs 18446744073709551616 4 (num 256 b % 21888242871839275222246405745257275088548364400416034343698204186575808495617)) (digs_bd (by decide) _ _) (digs_len _ _) (by rw [rest4]; exact Nat.mod_lt _ (by decide))) bd36 [] [] ?_
 refine ySA ?_
 refine zN (zE ?_)
 rw [rest4]
 exact rq [] [.cell 2 42]
end Go.Proofs.YtpahdiljpnfkdaaGreat
namespace Go.Proofs.YtpahdiljpnfkdaaGreat
open Go Sim
def PG : Nat := 1552518092300708935130918131258481755631334049434514313202351194902966239949102107258669453876591642442910007680288864229150803718918046342632727613031282983744380820890196288509170691316593175367469551763119843371637221007210577919
def QG : Nat := 776259046150354467565459065629240877815667024717257156601175597451483119974551053629334726938295821221455003840144432114575401859459023171316363806515641491872190410445098144254585345658296587683734775881559921685818610503605288959
def RR2 (N : Nat) : Nat := 18446744073709551616 ^ 12 * 18446744073709551616 ^ 12 % N
structure RN (N : Nat) : Prop where
 lt : N < 18446744073709551616 ^ 12
 odd : N % 2 = 1
 top : (digs 18446744073709551616 12 N).getD 11 0 ≠ 0
theorem rn_p : RN PG := ⟨by decide +kernel, by decide +kernel, by decide +kernel⟩
theorem rn_q : RN QG := ⟨by decide +kernel, by decide +kernel, by decide +kernel⟩
theorem rn_num {N : Nat} (h : RN N) : num 18446744073709551616 (digs 18446744073709551616 12 N) = N := num_digs_lt h.lt
theorem rn_pos {N : Nat} (h : RN N) : 0 < N := by have := h.odd; omega
theorem rn_mw {N : Nat} (h : RN N) : MwOk (digs 18446744073709551616 12 N) := ⟨digs_bd (by decide) _ _, by rw [digs_len]; decide, by rw [digs_len]; decide, by rw [(rn_num h)]; exact (rn_pos h)⟩
theorem rn_low {N : Nat} (h : RN N) : (digs 18446744073709551616 12 N).getD 0 0 % 2 = 1 := by
 have e : (digs 18446744073709551616 12 N).getD 0 0 = N % 18446744073709551616 := rfl
 rw [e]; have := h.odd; omega
theorem rn_iv {N : Nat} (h : RN N) : (num 18446744073709551616 (digs 18446744073709551616 12 N) * ninvR ((digs 18446744073709551616 12 N).getD 0 0) + 1) % 18446744073709551616 = 0 := ninvR_ok (digs_bd (by decide) _ _) (rn_low h)
theorem rn_one {N : Nat} (h : RN N) : 1 < num 18446744073709551616 (digs 18446744073709551616 12 N) := right_gt (digs_bd (by decide) _ _) (by rw [digs_len]; decide) (by rw [digs_len]; exact h.top) (by rw [digs_len]; exact fun h => absurd h.1 (by decide))
theorem ld12 {l : List Nat} (h : l.length = 12) : ((l.map (vi .u64)).drop 0).take 12 = l.map (vi .u64) := List.take_of_length_le (by simp [h])
theorem w96 : 256 ^ 96 = 18446744073709551616 ^ 12 := by kernel_rfl
theorem newN_ctr {N : Nat} (hN : RN N) : GC Tryz.prog 42 [.slice (some ⟨0, 0, none⟩) 12 0] [⟨(digs 18446744073709551616 12 N).map (vi .u64), false, 1⟩] [.pointer (some ⟨1, 0, none⟩), .int .i64 0] [⟨(digs 18446744073709551616 12 N).map (vi .u64), false, 1⟩, ⟨[.slice (some ⟨2, 0, none⟩) 12 0, vi .u64 (ninvR ((digs 18446744073709551616 12 N).getD 0 0)), .slice (some ⟨3, 0, none⟩) 12 0], true, 1⟩, ⟨((digs 18446744073709551616 12 N)).map (vi .u64), true, 1⟩, ⟨((digs 18446744073709551616 12 (RR2 N))).map (vi .u64), true, 1⟩] := by
 have h := lnew_ctr (mw := digs 18446744073709551616 12 N) (digs_bd (by decide) _ _) (by rw [digs_len]; decide) (by rw [digs_len]; decide) (rn_low hN) (by rw [digs_len]; exact hN.top) (by rw [digs_len]; exact fun h => absurd h.1 (by decide))
 simp only [digs_len, (rn_num hN)] at h
 exact h
theorem mexpN_ctr {N a b : Nat} (hN : RN N) (ha : a < 18446744073709551616 ^ 12) (hb : b < 18446744073709551616 ^ 12) : GC Tryz.prog 107 [.pointer (some ⟨0, 0, none⟩), .slice (some ⟨3, 0, none⟩) 12 0, .slice (some ⟨4, 0, none⟩) 12 0] [⟨[.slice (some ⟨1, 0, none⟩) 12 0, vi .u64 (ninvR ((digs 18446744073709551616 12 N).getD 0 0)), .slice (some ⟨2, 0, none⟩) 12 0], false, 1⟩, ⟨((digs 18446744073709551616 12 N)).map (vi .u64), false, 1⟩, ⟨((digs 18446744073709551616 12 (RR2 N))).map (vi .u64), false, 1⟩, ⟨(digs 18446744073709551616 12 a).map (vi .u64), false, 1⟩, ⟨(digs 18446744073709551616 12 b).map (vi .u64), false, 1⟩] [.slice (some ⟨5, 0, none⟩) 12 0] [⟨[.slice (some ⟨1, 0, none⟩) 12 0, vi .u64 (ninvR ((digs 18446744073709551616 12 N).getD 0 0)), .slice (some ⟨2, 0, none⟩) 12 0], false, 1⟩, ⟨((digs 18446744073709551616 12 N)).map (vi .u64), false, 1⟩, ⟨((digs 18446744073709551616 12 (RR2 N))).map (vi .u64), false, 1⟩, ⟨(digs 18446744073709551616 12 a).map (vi .u64), false, 1⟩, ⟨(digs 18446744073709551616 12 b).map (vi .u64), false, 1⟩, ⟨(digs 18446744073709551616 12 (a ^ b % N)).map (vi .u64), true, 1⟩] := by
 have h := mexp_ctr (rn_mw hN) (a := digs 18446744073709551616 12 a) (b := digs 18446744073709551616 12 b) (digs_bd (by decide) _ _) (digs_bd (by decide) _ _) (by rw [digs_len]; decide) (by rw [digs_len]; decide) (rn_iv hN) (rn_one hN)
 simp only [digs_len, (rn_num hN), num_digs_lt ha, num_digs_lt hb] at h
 exact h
theorem mwordsN_ctr {N : Nat} (hN : RN N) : GC Tryz.prog 105 [.pointer (some ⟨0, 0, none⟩)] [⟨[.slice (some ⟨1, 0, none⟩) 12 0, vi .u64 (ninvR ((digs 18446744073709551616 12 N).getD 0 0)), .slice (some ⟨2, 0, none⟩) 12 0], false, 1⟩, ⟨((digs 18446744073709551616 12 N)).map (vi .u64), false, 1⟩, ⟨((digs 18446744073709551616 12 (RR2 N))).map (vi .u64), false, 1⟩] [.slice (some ⟨3, 0, none⟩) 12 0] [⟨[.slice (some ⟨1, 0, none⟩) 12 0, vi .u64 (ninvR ((digs 18446744073709551616 12 N).getD 0 0)), .slice (some ⟨2, 0, none⟩) 12 0], false, 1⟩, ⟨((digs 18446744073709551616 12 N)).map (vi .u64), false, 1⟩, ⟨((digs 18446744073709551616 12 (RR2 N))).map (vi .u64), false, 1⟩, ⟨(digs 18446744073709551616 12 N).map (vi .u64), true, 1⟩] := by
 have h := mwords_ctr (mw := digs 18446744073709551616 12 N) (sq := digs 18446744073709551616 12 (RR2 N)) (iv := ninvR ((digs 18446744073709551616 12 N).getD 0 0)) (ns := 12) (by rw [digs_len]; decide) (by rw [digs_len]; decide)
 simp only [digs_len, (rn_num hN)] at h
 exact h
theorem lw96_ctr {b : List Nat} (hb : bd 256 b) (hl : b.length = 96) : GC Tryz.prog 33 [.slice (some ⟨0, 0, none⟩) b.length 0] [⟨b.map (vi .u8), false, 1⟩] [.slice (some ⟨1, 0, none⟩) 12 0] [⟨b.map (vi .u8), false, 1⟩, ⟨(digs 18446744073709551616 12 (num 256 b)).map (vi .u64), true, 1⟩] := by
 have h := lwords_ctr hb (by omega)
 rw [hl] at h ⊢
 exact h
theorem cmp_ge {x y : Nat} (h : y ≤ x) : decide (cmpI x y ≥ 0) = true := decide_eq_true (by unfold cmpI; split <;> (try split) <;> omega)
theorem cmp_lt {x y : Nat} (h : x < y) : decide (cmpI x y ≥ 0) = false := decide_eq_false (by unfold cmpI; split <;> (try split) <;> omega)
theorem ofE_ctr {N a b : Nat} (hN : RN N) (ha : a < 18446744073709551616 ^ 12) (hb : b < 18446744073709551616 ^ 12) : GC Tryz.prog 106 [.func (.func 107) #[.pointer (some ⟨0, 0, none⟩)] #[], .agg ((digs 18446744073709551616 12 a).map (vi .u64)).toArray, .agg ((digs 18446744073709551616 12 b).map (vi .u64)).toArray] [⟨[.slice (some ⟨1, 0, none⟩) 12 0, vi .u64 (ninvR ((digs 18446744073709551616 12 N).getD 0 0)), .slice (some ⟨2, 0, none⟩) 12 0], false, 1⟩, ⟨((digs 18446744073709551616 12 N)).map (vi .u64), false, 1⟩, ⟨((digs 18446744073709551616 12 (RR2 N))).map (vi .u64), false, 1⟩] [.agg ((digs 18446744073709551616 12 (a ^ b % N)).map (vi .u64)).toArray] [⟨[.slice (some ⟨1, 0, none⟩) 12 0, vi .u64 (ninvR ((digs 18446744073709551616 12 N).getD 0 0)), .slice (some ⟨2, 0, none⟩) 12 0], false, 1⟩, ⟨((digs 18446744073709551616 12 N)).map (vi .u64), false, 1⟩, ⟨((digs 18446744073709551616 12 (RR2 N))).map (vi .u64), false, 1⟩] := by
 refine gi Tryz.func106 ?_
 refine zS ?_
 refine yO 5000 1 _ ?_
 refine yO 6000 1 _ ?_
 refine yN 7000 1 ((List.replicate 12 0).map (vi .u64)) ?_
 refine zN ?_
 refine AW.seqD mixed ?_
 refine yM ?_
 refine AWo.sliceA tbok (h := 12) rfl .none .none rfl rfl rfl rfl (by decide) (by decide) (.inl rfl) (by show 12 ≤ ((digs 18446744073709551616 12 (a)).map (vi .u64)).length; rw [List.length_map, digs_len]; decide) rfl rfl rfl ?_
 refine AWo.sliceA tbok (h := 12) rfl .none .none rfl rfl rfl rfl (by decide) (by decide) (.inl rfl) (by show 12 ≤ ((digs 18446744073709551616 12 (b)).map (vi .u64)).length; rw [List.length_map, digs_len]; decide) rfl rfl rfl ?_
 refine AWo.callX (mexpN_ctr (a := a) (b := b) hN ha hb) bd107 [(0, 0), (1, 0), (2, 0), (5000, 0), (6000, 0)] [11000] rfl (.cons rfl (.cons rfl .nil)) rfl (.cons rfl rfl (.cons rfl rfl (.cons rfl rfl .nil))) (.whole rfl rfl (OkL.all rfl) (by intro h; exact h) (.flat rfl (flatM flat_vi) (by intro h; exact h) (.flat rfl (flatM flat_vi) (by intro h; exact h) (.flat rfl (by exact flatM flat_vi) (by intro h; rfl) (.flat rfl (by exact flatM flat_vi) (by intro h; rfl) .nil))))) rfl (.keep rfl (.keep rfl (.keep rfl (.keep rfl (.keep rfl (.new (flat_map_ren (by exact flatM flat_vi)) (OkL.flat (by exact flatM flat_vi)) .nil)))))) (frC rfl frN) (by decide) (.cons rfl rfl .nil) rfl rfl rfl rfl ?_
 refine yP (PureOp.toArrT tbok rfl rfl (by decide) (by decide)) ?_
 refine AWo.loadAgg tbok (vs := (digs 18446744073709551616 12 (a ^ b % N)).map (vi .u64)) rfl rfl rfl rfl (by show 0 + 12 ≤ _; simp [digs_len]) (ld12 (digs_len _ _)) rfl rfl ?_
 refine AWo.storeAllN tbok rfl rfl rfl rfl (by rw [List.length_map, digs_len]) (by rfl) (oneM (fun _ => rfl) _) rfl ?_
 refine zD (zE ?_)
 refine RetQ.gc [_] [] [.cell 6 119] (.inl rfl) rfl (.val (RVal.cellAll tbok rfl rfl rfl rfl (by rfl)) .nil) rfl (.pure (by rfl) .nil) (OutL.whole rfl rfl (OkL.all rfl) (by intro h; exact h.elim id fun h => absurd h.1 (by simp)) (OutL.flat rfl (flatM flat_vi) (by intro h; exact h.elim id fun h => absurd h.1 (by simp)) (OutL.flat rfl (flatM flat_vi) (by intro h; exact h.elim id fun h => absurd h.1 (by simp)) trivial))) (by decide) rfl
theorem expW_ctr {N a b : Nat} (hN : RN N) (ha : a < 18446744073709551616 ^ 12) (hb : b < 18446744073709551616 ^ 12) : GC Tryz.prog 92 [.pointer (some ⟨0, 0, none⟩), .agg ((digs 18446744073709551616 12 a).map (vi .u64)).toArray, .agg ((digs 18446744073709551616 12 b).map (vi .u64)).toArray] [⟨[.pointer (some ⟨1, 0, none⟩)], false, 1⟩, ⟨[.slice (some ⟨2, 0, none⟩) 12 0, vi .u64 (ninvR ((digs 18446744073709551616 12 N).getD 0 0)), .slice (some ⟨3, 0, none⟩) 12 0], false, 1⟩, ⟨((digs 18446744073709551616 12 N)).map (vi .u64), false, 1⟩, ⟨((digs 18446744073709551616 12 (RR2 N))).map (vi .u64), false, 1⟩] [.agg ((digs 18446744073709551616 12 (a ^ b % N)).map (vi .u64)).toArray] [⟨[.pointer (some ⟨1, 0, none⟩)], false, 1⟩, ⟨[.slice (some ⟨2, 0, none⟩) 12 0, vi .u64 (ninvR ((digs 18446744073709551616 12 N).getD 0 0)), .slice (some ⟨3, 0, none⟩) 12 0], false, 1⟩, ⟨((digs 18446744073709551616 12 N)).map (vi .u64), false, 1⟩, ⟨((digs 18446744073709551616 12 (RR2 N))).map (vi .u64), false, 1⟩] := by
 refine gi Tryz.func92 ?_
 refine zS ?_
 refine yO 5000 1 _ ?_
 refine yO 6000 1 _ ?_
 refine yN 7000 1 ((List.replicate 12 0).map (vi .u64)) ?_
 refine zN ?_
 refine AW.seqD mixed ?_
 refine yM ?_
 refine yP (PureOp.nilCheck rfl) ?_
 refine yP pF ?_
 refine yL1 ?_
 refine yP (PureOp.makeFunc (xs := #[.pointer (some ⟨1, 0, none⟩)]) (ys := #[]) rfl (by apply Array.ext'; rw [Array.toList_map, Array.toList_map]; rfl) (by apply Array.ext'; rw [Array.toList_map, Array.toList_map]; rfl)) ?_
 refine AWo.loadAll tbok rfl rfl rfl rfl (by show ((digs 18446744073709551616 12 a).map (vi .u64)).length = 12; rw [List.length_map, digs_len]) rfl rfl ?_
 refine AWo.loadAll tbok rfl rfl rfl rfl (by show ((digs 18446744073709551616 12 b).map (vi .u64)).length = 12; rw [List.length_map, digs_len]) rfl rfl ?_
 refine yC (ofE_ctr (a := a) (b := b) hN ha hb) bd106 [(1, 0), (2, 0), (3, 0)] [] ?_
 refine AWo.storeAllN tbok rfl rfl rfl rfl (by rw [List.length_map, digs_len]) (by rfl) (oneM (fun _ => rfl) _) rfl ?_
 refine zD (zE ?_)
 refine RetQ.gc [_] [] [.cell 6 119] (.inl rfl) rfl (.val (RVal.cellAll tbok rfl rfl rfl rfl (by rfl)) .nil) rfl (.pure (by rfl) .nil) (OutL.whole rfl rfl (OkL.all rfl) (by intro h; exact h.elim id fun h => absurd h.1 (by simp)) (OutL.whole rfl rfl (OkL.all rfl) (by intro h; exact h.elim id fun h => absurd h.1 (by simp)) (OutL.flat rfl (flatM flat_vi) (by intro h; exact h.elim id fun h => absurd h.1 (by simp)) (OutL.flat rfl (flatM flat_vi) (by intro h; exact h.elim id fun h => absurd h.1 (by simp)) trivial)))) (by decide) rfl
theorem primeW_ctr : GC Tryz.prog 104 [] [] [.agg ((digs 18446744073709551616 12 PG).map (vi .u64)).toArray] [] := by
 refine gi Tryz.func104 ?_
 refine zS ?_
 refine yN 1000 1 ((List.replicate 12 0).map (vi .u64)) ?_
 refine zN (zS ?_)
 refine yP ((PureOp.buildArr tbok [(0, .int .u64 18446744073709551615), (1, .int .u64 17603518614768072224), (2, .int .u64 16466767132611215046), (3, .int .u64 5755940542857986629), (4, .int .u64 3470879405153129527), (5, .int .u64 17263733006627652379), (6, .int .u64 5857503583518590173), (7, .int .u64 147421033984662306), (8, .int .u64 2955010104097229940), (9, .int .u64 14179128828124470481), (10, .int .u64 14488038916154245684), (11, .int .u64 18446744073709551615)] rfl rfl rfl (by decide) rfl rfl).mono (v' := .agg ((digs 18446744073709551616 12 PG).map (vi .u64)).toArray) (by kernel_rfl)) ?_
 refine AWo.storeAllN tbok rfl rfl rfl rfl (by rw [List.length_map, digs_len]) (by rfl) (oneM (fun _ => rfl) _) rfl ?_
 refine zN (zE ?_)
 exact rq [] [.cell 0 119]
theorem ringW_ctr {N : Nat} (hN : RN N) : GC Tryz.prog 103 [.agg ((digs 18446744073709551616 12 N).map (vi .u64)).toArray] [] [.pointer (some ⟨0, 0, none⟩)] [⟨[.pointer (some ⟨1, 0, none⟩)], true, 1⟩, ⟨[.slice (some ⟨2, 0, none⟩) 12 0, vi .u64 (ninvR ((digs 18446744073709551616 12 N).getD 0 0)), .slice (some ⟨3, 0, none⟩) 12 0], true, 1⟩, ⟨((digs 18446744073709551616 12 N)).map (vi .u64), true, 1⟩, ⟨((digs 18446744073709551616 12 (RR2 N))).map (vi .u64), true, 1⟩] := by
 refine gi Tryz.func103 ?_
 refine zS ?_
 refine yO 2000 1 _ ?_
 refine yA ?_
 refine zN (zS ?_)
 refine AWo.sliceA tbok (h := 12) rfl .none .none rfl rfl rfl rfl (by decide) (by decide) (.inl rfl) (by show 12 ≤ ((digs 18446744073709551616 12 (N)).map (vi .u64)).length; rw [List.length_map, digs_len]; decide) rfl rfl rfl ?_
 refine yC (newN_ctr hN) bd42 [(2000, 0)] [8000, 8001, 8002] ?_
 refine yM ?_
 refine yP pX ?_
 refine yP pX ?_
 refine yA ?_
 refine yA ?_
 refine zN (zS ?_)
 refine yM ?_
 refine yP (PureOp.buildStruct [(0, .pointer (some ⟨8000, 0, none⟩))] pl149.choose_spec.1 zr149 (by decide) pl149.choose_spec.2 rfl rfl) ?_
 refine yO 13000 1 _ ?_
 refine yA ?_
 refine zN (zE ?_)
 exact rq [13000, 8000, 8001, 8002] [.tmp 2]
theorem groupW_ctr : GC Tryz.prog 90 [] [] [.pointer (some ⟨0, 0, none⟩)] [⟨[.pointer (some ⟨1, 0, none⟩)], true, 1⟩, ⟨[.slice (some ⟨2, 0, none⟩) 12 0, vi .u64 (ninvR ((digs 18446744073709551616 12 PG).getD 0 0)), .slice (some ⟨3, 0, none⟩) 12 0], true, 1⟩, ⟨((digs 18446744073709551616 12 PG)).map (vi .u64), true, 1⟩, ⟨((digs 18446744073709551616 12 (RR2 PG))).map (vi .u64), true, 1⟩] := by
 refine gi Tryz.func90 ?_
 refine zS ?_
 refine yA ?_
 refine zN (zS ?_)
 refine yC (primeW_ctr) bd104 [] [] ?_
 refine yC (ringW_ctr (N := PG) rn_p) bd103 [] [3000, 3001, 3002, 3003] ?_
 refine yA ?_
 refine zN (zE ?_)
 exact rq [3000, 3001, 3002, 3003] [.tmp 0]
theorem sizeW_ctr {N : Nat} (hN : RN N) : GC Tryz.prog 94 [.pointer (some ⟨0, 0, none⟩)] [⟨[.pointer (some ⟨1, 0, none⟩)], false, 1⟩, ⟨[.slice (some ⟨2, 0, none⟩) 12 0, vi .u64 (ninvR ((digs 18446744073709551616 12 N).getD 0 0)), .slice (some ⟨3, 0, none⟩) 12 0], false, 1⟩, ⟨((digs 18446744073709551616 12 N)).map (vi .u64), false, 1⟩, ⟨((digs 18446744073709551616 12 (RR2 N))).map (vi .u64), false, 1⟩] [.agg ((digs 18446744073709551616 12 N).map (vi .u64)).toArray] [⟨[.pointer (some ⟨1, 0, none⟩)], false, 1⟩, ⟨[.slice (some ⟨2, 0, none⟩) 12 0, vi .u64 (ninvR ((digs 18446744073709551616 12 N).getD 0 0)), .slice (some ⟨3, 0, none⟩) 12 0], false, 1⟩, ⟨((digs 18446744073709551616 12 N)).map (vi .u64), false, 1⟩, ⟨((digs 18446744073709551616 12 (RR2 N))).map (vi .u64), false, 1⟩] := by
 refine gi Tryz.func94 ?_
 refine zS ?_
 refine yN 3000 1 ((List.replicate 12 0).map (vi .u64)) ?_
 refine zN (zS ?_)
 refine yM ?_
 refine yP (PureOp.nilCheck rfl) ?_
 refine yP pF ?_
 refine yL1 ?_
 refine yC (mwordsN_ctr hN) bd105 [(1, 0), (2, 0), (3, 0)] [8000] ?_
 refine yP (PureOp.toArrT tbok rfl rfl (by decide) (by decide)) ?_
 refine AWo.loadAgg tbok (vs := (digs 18446744073709551616 12 N).map (vi .u64)) rfl rfl rfl rfl (by show 0 + 12 ≤ _; simp [digs_len]) (ld12 (digs_len _ _)) rfl rfl ?_
 refine AWo.storeAllN tbok rfl rfl rfl rfl (by rw [List.length_map, digs_len]) (by rfl) (oneM (fun _ => rfl) _) rfl ?_
 refine zN (zE ?_)
 refine RetQ.gc [_] [] [.cell 2 119] (.inl rfl) rfl (.val (RVal.cellAll tbok rfl rfl rfl rfl (by rfl)) .nil) rfl (.pure (by rfl) .nil) (OutL.whole rfl rfl (OkL.all rfl) (by intro h; exact h.elim id fun h => absurd h.1 (by simp)) (OutL.whole rfl rfl (OkL.all rfl) (by intro h; exact h.elim id fun h => absurd h.1 (by simp)) (OutL.flat rfl (flatM flat_vi) (by intro h; exact h.elim id fun h => absurd h.1 (by simp)) (OutL.flat rfl (flatM flat_vi) (by intro h; exact h.elim id fun h => absurd h.1 (by simp)) trivial)))) (by decide) rfl
theorem readA_ctr {N : Nat} {b : List Nat} (hN : RN N) (hb : bd 256 b) (hl : b.length ≠ 96) : GC Tryz.prog 91 [.pointer (some ⟨0, 0, none⟩), .slice (some ⟨4, 0, none⟩) b.length 0] [⟨[.pointer (some ⟨1, 0, none⟩)], false, 1⟩, ⟨[.slice (some ⟨2, 0, none⟩) 12 0, vi .u64 (ninvR ((digs 18446744073709551616 12 N).getD 0 0)), .slice (some ⟨3, 0, none⟩) 12 0], false, 1⟩, ⟨((digs 18446744073709551616 12 N)).map (vi .u64), false, 1⟩, ⟨((digs 18446744073709551616 12 (RR2 N))).map (vi .u64), false, 1⟩, ⟨b.map (vi .u8), false, 1⟩] [.agg ((digs 18446744073709551616 12 0).map (vi .u64)).toArray, .int .i64 1] [⟨[.pointer (some ⟨1, 0, none⟩)], false, 1⟩, ⟨[.slice (some ⟨2, 0, none⟩) 12 0, vi .u64 (ninvR ((digs 18446744073709551616 12 N).getD 0 0)), .slice (some ⟨3, 0, none⟩) 12 0], false, 1⟩, ⟨((digs 18446744073709551616 12 N)).map (vi .u64), false, 1⟩, ⟨((digs 18446744073709551616 12 (RR2 N))).map (vi .u64), false, 1⟩, ⟨b.map (vi .u8), false, 1⟩] := by
 refine gi Tryz.func91 ?_
 refine zS ?_
 refine yN 5000 1 ((List.replicate 12 0).map (vi .u64)) ?_
 refine yA ?_
 refine zN (zQ (zS ?_))
 refine yM ?_
 refine yP pL ?_
 refine yP (pNe (b := 96)) ?_
 refine zN ?_
 refine zA (fun hb0 => ?_) (fun hb0 => ?_)
 ·
  refine zS ?_
  refine yP ((PureOp.buildArr tbok [] rfl rfl rfl (by decide) rfl rfl).mono (v' := .agg ((digs 18446744073709551616 12 0).map (vi .u64)).toArray) (by kernel_rfl)) ?_
  refine AWo.storeAllN tbok rfl rfl rfl rfl (by rw [List.length_map, digs_len]) (by rfl) (oneM (fun _ => rfl) _) rfl ?_
  refine yA ?_
  refine zN (zE (zU ?_))
  refine RetQ.gc [_, _] [] [.cell 4 119, .tmp 5] (.inl rfl) rfl (.val (RVal.cellAll tbok rfl rfl rfl rfl (by rfl)) (.tmp rfl .nil)) rfl (.pure (by rfl) (.cons rfl rfl .nil)) (OutL.whole rfl rfl (OkL.all rfl) (by intro h; exact h.elim id fun h => absurd h.1 (by simp)) (OutL.whole rfl rfl (OkL.all rfl) (by intro h; exact h.elim id fun h => absurd h.1 (by simp)) (OutL.flat rfl (flatM flat_vi) (by intro h; exact h.elim id fun h => absurd h.1 (by simp)) (OutL.flat rfl (flatM flat_vi) (by intro h; exact h.elim id fun h => absurd h.1 (by simp)) (OutL.flat rfl (by exact flatM flat_vi) (by intro h; exact h.elim id fun h => absurd h.1 (by simp)) trivial))))) (by decide) rfl
 ·
  exfalso
  simp at hb0; omega
theorem readC_ctr {N : Nat} {b : List Nat} (hN : RN N) (hb : bd 256 b) (hl : b.length = 96) (hc : N ≤ num 256 b) : GC Tryz.prog 91 [.pointer (some ⟨0, 0, none⟩), .slice (some ⟨4, 0, none⟩) b.length 0] [⟨[.pointer (some ⟨1, 0, none⟩)], false, 1⟩, ⟨[.slice (some ⟨2, 0, none⟩) 12 0, vi .u64 (ninvR ((digs 18446744073709551616 12 N).getD 0 0)), .slice (some ⟨3, 0, none⟩) 12 0], false, 1⟩, ⟨((digs 18446744073709551616 12 N)).map (vi .u64), false, 1⟩, ⟨((digs 18446744073709551616 12 (RR2 N))).map (vi .u64), false, 1⟩, ⟨b.map (vi .u8), false, 1⟩] [.agg ((digs 18446744073709551616 12 0).map (vi .u64)).toArray, .int .i64 4] [⟨[.pointer (some ⟨1, 0, none⟩)], false, 1⟩, ⟨[.slice (some ⟨2, 0, none⟩) 12 0, vi .u64 (ninvR ((digs 18446744073709551616 12 N).getD 0 0)), .slice (some ⟨3, 0, none⟩) 12 0], false, 1⟩, ⟨((digs 18446744073709551616 12 N)).map (vi .u64), false, 1⟩, ⟨((digs 18446744073709551616 12 (RR2 N))).map (vi .u64), false, 1⟩, ⟨b.map (vi .u8), false, 1⟩] := by
 refine gi Tryz.func91 ?_
 refine zS ?_
 refine yN 5000 1 ((List.replicate 12 0).map (vi .u64)) ?_
 refine yA ?_
 refine zN (zQ (zS ?_))
 refine yM ?_
 refine yP pL ?_
 refine yP (pNe (b := 96)) ?_
 refine zN ?_
 refine zA (fun hb0 => ?_) (fun hb0 => ?_)
 ·
  exfalso
  simp at hb0; omega
 ·
  refine zK (zT (zS ?_))
  refine yM ?_
  refine yC (lw96_ctr hb hl) bd33 [(4, 0)] [13000] ?_
  refine yA ?_
  refine zN (zQ (zS ?_))
  refine yM ?_
  refine yM ?_
  refine yP (PureOp.nilCheck rfl) ?_
  refine yP pF ?_
  refine yL1 ?_
  refine yC (mwordsN_ctr hN) bd105 [(1, 0), (2, 0), (3, 0)] [19000] ?_
  refine yC (lcmp_ctrV (a := digs 18446744073709551616 12 (num 256 b)) (b := digs 18446744073709551616 12 N) (digs_len _ _) (num_digs_lt (by rw [← w96]; exact hl ▸ num_lt hb)) (digs_len _ _) (rn_num hN) (digs_bd (by decide) _ _) (digs_bd (by decide) _ _) (by rw [digs_len]; decide) (by rw [digs_len]; decide)) bd101 [(13000, 0), (19000, 0)] [] ?_
  refine yP ((PureOp.bin rfl rfl rfl).mono (v' := .bool true) (congrArg Value.bool (cmp_ge hc))) ?_
  refine zN (zC (zS ?_))
  refine yP ((PureOp.buildArr tbok [] rfl rfl rfl (by decide) rfl rfl).mono (v' := .agg ((digs 18446744073709551616 12 0).map (vi .u64)).toArray) (by kernel_rfl)) ?_
  refine AWo.storeAllN tbok rfl rfl rfl rfl (by rw [List.length_map, digs_len]) (by rfl) (oneM (fun _ => rfl) _) rfl ?_
  refine yA ?_
  refine zN (zE (zU ?_))
  refine RetQ.gc [_, _] [] [.cell 4 119, .tmp 5] (.inl rfl) rfl (.val (RVal.cellAll tbok rfl rfl rfl rfl (by rfl)) (.tmp rfl .nil)) rfl (.pure (by rfl) (.cons rfl rfl .nil)) (OutL.whole rfl rfl (OkL.all rfl) (by intro h; exact h.elim id fun h => absurd h.1 (by simp)) (OutL.whole rfl rfl (OkL.all rfl) (by intro h; exact h.elim id fun h => absurd h.1 (by simp)) (OutL.flat rfl (flatM flat_vi) (by intro h; exact h.elim id fun h => absurd h.1 (by simp)) (OutL.flat rfl (flatM flat_vi) (by intro h; exact h.elim id fun h => absurd h.1 (by simp)) (OutL.flat rfl (by exact flatM flat_vi) (by intro h; exact h.elim id fun h => absurd h.1 (by simp)) trivial))))) (by decide) rfl
theorem readO_ctr {N : Nat} {b : List Nat} (hN : RN N) (hb : bd 256 b) (hl : b.length = 96) (hc : num 256 b < N) : GC Tryz.prog 91 [.pointer (some ⟨0, 0, none⟩), .slice (some ⟨4, 0, none⟩) b.length 0] [⟨[.pointer (some ⟨1, 0, none⟩)], false, 1⟩, ⟨[.slice (some ⟨2, 0, none⟩) 12 0, vi .u64 (ninvR ((digs 18446744073709551616 12 N).getD 0 0)), .slice (some ⟨3, 0, none⟩) 12 0], false, 1⟩, ⟨((digs 18446744073709551616 12 N)).map (vi .u64), false, 1⟩, ⟨((digs 18446744073709551616 12 (RR2 N))).map (vi .u64), false, 1⟩, ⟨b.map (vi .u8), false, 1⟩] [.agg ((digs 18446744073709551616 12 (num 256 b)).map (vi .u64)).toArray, .int .i64 0] [⟨[.pointer (some ⟨1, 0, none⟩)], false, 1⟩, ⟨[.slice (some ⟨2, 0, none⟩) 12 0, vi .u64 (ninvR ((digs 18446744073709551616 12 N).getD 0 0)), .slice (some ⟨3, 0, none⟩) 12 0], false, 1⟩, ⟨((digs 18446744073709551616 12 N)).map (vi .u64), false, 1⟩, ⟨((digs 18446744073709551616 12 (RR2 N))).map (vi .u64), false, 1⟩, ⟨b.map (vi .u8), false, 1⟩] := by
 refine gi Tryz.func91 ?_
 refine zS ?_
 refine yN 5000 1 ((List.replicate 12 0).map (vi .u64)) ?_
 refine yA ?_
 refine zN (zQ (zS ?_))
 refine yM ?_
 refine yP pL ?_
 refine yP (pNe (b := 96)) ?_
 refine zN ?_
 refine zA (fun hb0 => ?_) (fun hb0 => ?_)
 ·
  exfalso
  simp at hb0; omega
 ·
  refine zK (zT (zS ?_))
  refine yM ?_
  refine yC (lw96_ctr hb hl) bd33 [(4, 0)] [13000] ?_
  refine yA ?_
  refine zN (zQ (zS ?_))
  refine yM ?_
  refine yM ?_
  refine yP (PureOp.nilCheck rfl) ?_
  refine yP pF ?_
  refine yL1 ?_
  refine yC (mwordsN_ctr hN) bd105 [(1, 0), (2, 0), (3, 0)] [19000] ?_
  refine yC (lcmp_ctrV (a := digs 18446744073709551616 12 (num 256 b)) (b := digs 18446744073709551616 12 N) (digs_len _ _) (num_digs_lt (by rw [← w96]; exact hl ▸ num_lt hb)) (digs_len _ _) (rn_num hN) (digs_bd (by decide) _ _) (digs_bd (by decide) _ _) (by rw [digs_len]; decide) (by rw [digs_len]; decide)) bd101 [(13000, 0), (19000, 0)] [] ?_
  refine yP ((PureOp.bin rfl rfl rfl).mono (v' := .bool false) (congrArg Value.bool (cmp_lt hc))) ?_
  refine zN (zF (zK (zT (zS ?_))))
  refine yM ?_
  refine yP (PureOp.toArrT tbok rfl rfl (by decide) (by decide)) ?_
  refine AWo.loadAgg tbok (vs := (digs 18446744073709551616 12 (num 256 b)).map (vi .u64)) rfl rfl rfl rfl (by show 0 + 12 ≤ _; simp [digs_len]) (ld12 (digs_len _ _)) rfl rfl ?_
  refine AWo.storeAllN tbok rfl rfl rfl rfl (by rw [List.length_map, digs_len]) (by rfl) (oneM (fun _ => rfl) _) rfl ?_
  refine yA ?_
  refine zN (zE ?_)
  refine RetQ.gc [_, _] [] [.cell 4 119, .tmp 5] (.inl rfl) rfl (.val (RVal.cellAll tbok rfl rfl rfl rfl (by rfl)) (.tmp rfl .nil)) rfl (.pure (by rfl) (.cons rfl rfl .nil)) (OutL.whole rfl rfl (OkL.all rfl) (by intro h; exact h.elim id fun h => absurd h.1 (by simp)) (OutL.whole rfl rfl (OkL.all rfl) (by intro h; exact h.elim id fun h => absurd h.1 (by simp)) (OutL.flat rfl (flatM flat_vi) (by intro h; exact h.elim id fun h => absurd h.1 (by simp)) (OutL.flat rfl (flatM flat_vi) (by intro h; exact h.elim id fun h => absurd h.1 (by simp)) (OutL.flat rfl (by exact flatM flat_vi) (by intro h; exact h.elim id fun h => absurd h.1 (by simp)) trivial))))) (by decide) rfl
end Go.Proofs.YtpahdiljpnfkdaaGreat
namespace Go.Proofs.YtpahdiljpnfkdaaGreat
open Go Sim
theorem bytes_room {b : List Nat} (hb : bd 256 b) (hl : b.length ≤ 1000) : (D 4294967296 (num 256 b)).length < 1000000 := by
 have h : num 256 b < 4294967296 ^ b.length := Nat.lt_of_lt_of_le (num_lt hb) (Nat.pow_le_pow_left (by decide) _)
 have := (D_len_le (B := 4294967296) (by decide) _ _).2 h
 omega
def rdV (b : List Nat) : Nat := if b.length = 32 ∧ num 256 b < 21888242871839275222246405745257275088548364400416034343698204186575808495617 then num 256 b else 0
def rdC (b : List Nat) : Int := if b.length = 32 then (if num 256 b < 21888242871839275222246405745257275088548364400416034343698204186575808495617 then 0 else 4) else 1
theorem rd_len {b : List Nat} (h : b.length ≠ 32) : rdV b = 0 ∧ rdC b = 1 := ⟨if_neg fun h1 => h h1.1, if_neg h⟩
theorem rd_ge {b : List Nat} (h : b.length = 32) (h2 : 21888242871839275222246405745257275088548364400416034343698204186575808495617 ≤ num 256 b) : rdV b = 0 ∧ rdC b = 4 := ⟨if_neg fun h1 => by have := h1.2; omega, by rw [rdC, if_pos h, if_neg (by omega)]⟩
theorem rd_ok {b : List Nat} (h : b.length = 32) (h2 : num 256 b < 21888242871839275222246405745257275088548364400416034343698204186575808495617) : rdV b = num 256 b ∧ rdC b = 0 := ⟨if_pos ⟨h, h2⟩, by rw [rdC, if_pos h, if_pos h2]⟩
theorem fbX_ctr {b : List Nat} (hb : bd 256 b) : GC Tryz.prog 77 [.slice (some ⟨0, 0, none⟩) b.length 0] [⟨b.map (vi .u8), false, 1⟩] [.agg ((fel (rdV b)).map (vi .u64)).toArray, .int .i64 (rdC b)] [⟨b.map (vi .u8), false, 1⟩] := by
  by_cases h1 : b.length = 32
  · by_cases h2 : num 256 b < 21888242871839275222246405745257275088548364400416034343698204186575808495617
    · rw [(rd_ok h1 h2).1, (rd_ok h1 h2).2]; exact fbok_ctr hb h1 h2
    · rw [(rd_ge h1 (by omega)).1, (rd_ge h1 (by omega)).2, fel_zero]; exact fbcanon_ctr hb h1 (by omega)
  · rw [(rd_len h1).1, (rd_len h1).2, fel_zero]; exact fbarg_ctr h1
set_option maxRecDepth 10000 in
theorem read02_ctr {b : List Nat} (hb : bd 256 b) : GC Tryz.prog 56 [.slice (some ⟨0, 0, none⟩) b.length 0] [⟨b.map (vi .u8), false, 1⟩] [.slice (some ⟨1, 0, none⟩) (D 4294967296 (rdV b)).length 0, .int .i64 (rdC b)] [⟨b.map (vi .u8), false, 1⟩, ⟨(D 4294967296 (rdV b)).map (vi .u64), true, 1⟩] := by
 refine gi Tryz.func56 ?_
 refine AW.ghost 99000 1 rfl ?_
 refine zS ?_
 refine yA ?_
 refine yA ?_
 refine zN (zQ (zS ?_))
 refine yM ?_
 refine yP pL ?_
 refine yP (pNe (b := 32)) ?_
 refine zN ?_
 refine zA (fun hb0 => ?_) (fun hb0 => ?_)
 ·
  have hl : b.length ≠ 32 := by simpa using hb0
  rw [(rd_len hl).1, (rd_len hl).2]
  refine zS ?_
  refine yA ?_
  refine yA ?_
  refine zN (zE (zU ?_))
  exact rq [99000] [.tmp 2, .tmp 3]
 ·
  have hl : b.length = 32 := by simpa using hb0
  have hnb := num_lt hb
  rw [hl] at hnb
  have hlx : (D 4294967296 (num 256 b)).length ≤ 9 := (D_len_le (by decide) _ _).2 (Nat.lt_of_lt_of_le hnb (by decide))
  refine zK (zT (zS ?_))
  refine yM ?_
  refine yC (ofb_ctr hb (by omega)) bd20 [(0, 0)] [10000] ?_
  refine yA ?_
  refine zN (zQ (zS ?_))
  refine yM ?_
  refine yC (p02D_ctr) bd45 [] [12000] ?_
  refine yC (cmpD_ctr (x := num 256 b) (y := 21888242871839275222246405745257275088548364400416034343698204186575808495617) (by omega) lenP) bd70 [(10000, 0), (12000, 0)] [] ?_
  refine yP (PureOp.bin rfl rfl rfl) ?_
  refine zN ?_
  refine zA (fun hb1 => ?_) (fun hb1 => ?_)
  ·
   have hge : 21888242871839275222246405745257275088548364400416034343698204186575808495617 ≤ num 256 b := ge_of_cmp (by simpa using hb1)
   rw [(rd_ge hl hge).1, (rd_ge hl hge).2]
   refine zS ?_
   refine yA ?_
   refine yA ?_
   refine zN (zE (zU ?_))
   exact rq [99000] [.tmp 2, .tmp 3]
  ·
   have hlt : num 256 b < 21888242871839275222246405745257275088548364400416034343698204186575808495617 := lt_of_cmp (by simpa using hb1)
   rw [(rd_ok hl hlt).1, (rd_ok hl hlt).2]
   refine zK (zT (zS ?_))
   refine yM ?_
   refine yA ?_
   refine yA ?_
   refine zN (zE ?_)
   exact rq [10000] [.tmp 2, .tmp 3]
end Go.Proofs.YtpahdiljpnfkdaaGreat
namespace Go.Proofs.YtpahdiljpnfkdaaGreat
def Irr (p : Nat) : Prop := 2 ≤ p ∧ ∀ d, d ∣ p → d = 1 ∨ d = p
theorem Irr.pos {p : Nat} (h : Irr p) : 0 < p := by have := h.1; omega
theorem Irr.coprime {p a : Nat} (h : Irr p) (ha : ¬ p ∣ a) : Nat.Coprime p a := by
  rcases h.2 (Nat.gcd p a) (Nat.gcd_dvd_left p a) with h1 | h1
  · exact h1
  · exact absurd (h1 ▸ Nat.gcd_dvd_right p a) ha
theorem Irr.euclid {p a b : Nat} (h : Irr p) (hd : p ∣ a * b) : p ∣ a ∨ p ∣ b := by
  by_cases ha : p ∣ a
  · exact .inl ha
  · exact .inr ((h.coprime ha).dvd_of_dvd_mul_left hd)
theorem Irr.dvd_pow {p a : Nat} (h : Irr p) : ∀ {k : Nat}, p ∣ a ^ k → p ∣ a
  | 0, hd => by
    have h1 := h.1
    rw [Nat.pow_zero] at hd
    have := Nat.le_of_dvd (by decide) hd
    omega
  | k + 1, hd => by
    rw [Nat.pow_succ] at hd
    rcases h.euclid hd with h1 | h1
    · exact h.dvd_pow h1
    · exact h1
theorem exists_irr : ∀ {n : Nat}, 2 ≤ n → ∃ p, Irr p ∧ p ∣ n := by
  intro n
  induction n using Nat.strongRecOn with
  | _ n ih =>
    intro hn
    by_cases h : ∃ d, d ∣ n ∧ d ≠ 1 ∧ d ≠ n
    · obtain ⟨d, hd, h1, h2⟩ := h
      have hle := Nat.le_of_dvd (by omega) hd
      have h0 : d ≠ 0 := fun e => by subst e; have := Nat.eq_zero_of_zero_dvd hd; omega
      obtain ⟨p, hp, hpd⟩ := ih d (by omega) (by omega)
      exact ⟨p, hp, Nat.dvd_trans hpd hd⟩
    · refine ⟨n, ⟨hn, fun d hd => ?_⟩, Nat.dvd_refl n⟩
      by_cases h1 : d = 1
      · exact .inl h1
      · by_cases h2 : d = n
        · exact .inr h2
        · exact absurd ⟨d, hd, h1, h2⟩ h
theorem irr_of_small {n : Nat} (hn : 2 ≤ n) (h : ∀ p, Irr p → p ∣ n → n < p * p) : Irr n := by
  refine ⟨hn, fun d hd => ?_⟩
  obtain ⟨e, he⟩ := hd
  by_cases h1 : d = 1
  · exact .inl h1
  by_cases h2 : e = 1
  · subst h2; exact .inr (by omega)
  have hd0 : d ≠ 0 := fun e' => by subst e'; omega
  have he0 : e ≠ 0 := fun e' => by subst e'; omega
  obtain ⟨p, hp, a, rfl⟩ := exists_irr (n := d) (by omega)
  obtain ⟨q, hq, b, rfl⟩ := exists_irr (n := e) (by omega)
  exfalso
  have g1 := h p hp ⟨a * (q * b), by rw [he, Nat.mul_assoc]⟩
  have g2 := h q hq ⟨p * a * b, by rw [he]; simp [Nat.mul_comm, Nat.mul_left_comm]⟩
  have ha : a ≠ 0 := fun e' => by subst e'; simp at hd0
  have hb : b ≠ 0 := fun e' => by subst e'; simp at he0
  have g3 : p * q ≤ n := by
    rw [he]
    have : p * q * 1 ≤ p * q * (a * b) := Nat.mul_le_mul_left _ (Nat.mul_pos (by omega) (by omega))
    calc p * q = p * q * 1 := (Nat.mul_one _).symm
      _ ≤ p * q * (a * b) := this
      _ = p * a * (q * b) := by simp [Nat.mul_comm, Nat.mul_left_comm]
  rcases Nat.le_total p q with hle | hle
  · have := Nat.mul_le_mul_left p hle
    omega
  · have := Nat.mul_le_mul_right q hle
    omega
theorem pow_one_mod {a n k : Nat} (h : a % n = 1 % n) : a ^ k % n = 1 % n := by
  rw [Nat.pow_mod, h, ← Nat.pow_mod, Nat.one_pow]
theorem mul_mod_one {a b n : Nat} (ha : a % n = 1 % n) : a * b % n = b % n := by
  rw [Nat.mul_mod, ha, ← Nat.mul_mod, Nat.one_mul]
theorem pow_sub_mod {a n m k : Nat} (hk : a ^ k % n = 1 % n) (hm : a ^ m % n = 1 % n) : a ^ (m % k) % n = 1 % n := by
  have h : a ^ m = (a ^ k) ^ (m / k) * a ^ (m % k) := by
    rw [← Nat.pow_mul, ← Nat.pow_add, Nat.div_add_mod]
  rw [h, mul_mod_one (pow_one_mod hk)] at hm
  exact hm
theorem pow_gcd_mod {a n : Nat} : ∀ (k m : Nat), a ^ k % n = 1 % n → a ^ m % n = 1 % n → a ^ Nat.gcd k m % n = 1 % n := by
  intro k
  induction k using Nat.strongRecOn with
  | _ k ih =>
    intro m hk hm
    by_cases h0 : k = 0
    · subst h0; simpa using hm
    · rw [Nat.gcd_rec]
      exact ih (m % k) (Nat.mod_lt _ (by omega)) k (pow_sub_mod hk hm) hk
theorem dvd_pow_irr {q : Nat} (hq : Irr q) : ∀ {e d : Nat}, d ∣ q ^ e → ∃ j, j ≤ e ∧ d = q ^ j
  | 0, d, h => ⟨0, Nat.le_refl _, by simpa using h⟩
  | e + 1, d, h => by
    by_cases hd : q ∣ d
    · obtain ⟨c, rfl⟩ := hd
      rw [Nat.pow_succ, Nat.mul_comm (q ^ e) q] at h
      obtain ⟨j, hj, rfl⟩ := dvd_pow_irr hq (Nat.dvd_of_mul_dvd_mul_left hq.pos h)
      exact ⟨j + 1, by omega, by rw [Nat.pow_succ, Nat.mul_comm]⟩
    · have hc : Nat.Coprime d q := (hq.coprime hd).symm
      rw [Nat.pow_succ] at h
      obtain ⟨j, hj, rfl⟩ := dvd_pow_irr hq (hc.dvd_of_dvd_mul_right h)
      exact ⟨j, by omega, rfl⟩
def prodL : List Nat → Nat
  | [] => 1
  | x :: l => x * prodL l
theorem prodL_perm {l m : List Nat} (h : l.Perm m) : prodL l = prodL m := by
  induction h with
  | nil => rfl
  | cons x _ ih => simp [prodL, ih]
  | swap x y l => simp [prodL, Nat.mul_left_comm]
  | trans _ _ ih1 ih2 => exact ih1.trans ih2
theorem prodL_map_mod (a p : Nat) : ∀ l : List Nat, prodL (l.map fun i => a * i % p) % p = a ^ l.length * prodL l % p
  | [] => by simp [prodL]
  | x :: l => by
    simp only [List.map_cons, prodL, List.length_cons]
    rw [Nat.mul_mod, prodL_map_mod a p l, Nat.mod_mod, ← Nat.mul_mod, Nat.pow_succ]
    rw [Nat.mul_comm (a ^ l.length) a, Nat.mul_assoc, Nat.mul_assoc, Nat.mul_left_comm x]
theorem nodup_sub_perm {l m : List Nat} (hl : l.Nodup) (hs : ∀ x ∈ l, x ∈ m) (hlen : m.length ≤ l.length) : l.Perm m := by
  induction l generalizing m with
  | nil =>
    have : m = [] := List.length_eq_zero_iff.1 (by simpa using hlen)
    subst this; exact .nil
  | cons x l ih =>
    have hx := hs x (List.mem_cons_self ..)
    have hp := List.perm_cons_erase hx
    refine List.Perm.trans (.cons x (ih (List.nodup_cons.1 hl).2 (fun y hy => ?_) ?_)) hp.symm
    · have hne : y ≠ x := fun e => (List.nodup_cons.1 hl).1 (e ▸ hy)
      exact (List.mem_erase_of_ne hne).2 (hs y (List.mem_cons_of_mem _ hy))
    · rw [List.length_erase_of_mem hx]
      simp only [List.length_cons] at hlen
      omega
theorem prodL_not_dvd {p : Nat} (hp : Irr p) : ∀ {l : List Nat}, (∀ x ∈ l, ¬ p ∣ x) → ¬ p ∣ prodL l
  | [], _ => fun h => by have := Nat.le_of_dvd (by decide) h; have := hp.1; simp [prodL] at *; omega
  | x :: l, h => fun hd => by
    rcases hp.euclid hd with h1 | h1
    · exact h x (List.mem_cons_self ..) h1
    · exact prodL_not_dvd hp (fun y hy => h y (List.mem_cons_of_mem _ hy)) h1
theorem dvd_sub_of_mod {p a b : Nat} (h : a % p = b % p) : p ∣ b - a :=
  Nat.dvd_of_mod_eq_zero (Nat.sub_mod_eq_zero_of_mod_eq h.symm)
theorem mod_of_dvd_sub {p a b : Nat} (hle : a ≤ b) (h : p ∣ b - a) : a % p = b % p := by
  obtain ⟨c, hc⟩ := h
  rw [show b = a + p * c by omega, Nat.add_mul_mod_self_left]
theorem mod_cancel_le {p a b c : Nat} (hc : Nat.Coprime p c) (hab : a ≤ b) (h : c * a % p = c * b % p) : a % p = b % p := by
  have h1 := dvd_sub_of_mod h
  rw [← Nat.mul_sub] at h1
  exact mod_of_dvd_sub hab (hc.dvd_of_dvd_mul_left h1)
theorem mod_cancel {p a b c : Nat} (hc : Nat.Coprime p c) (h : c * a % p = c * b % p) : a % p = b % p := by
  rcases Nat.le_total a b with hab | hab
  · exact mod_cancel_le hc hab h
  · exact (mod_cancel_le hc hab h.symm).symm
theorem fermat {p a : Nat} (hp : Irr p) (ha : ¬ p ∣ a) : a ^ (p - 1) % p = 1 % p := by
  have h2 := hp.1
  let l := List.range' 1 (p - 1)
  have hl : ∀ x ∈ l, 1 ≤ x ∧ x < p := fun x hx => by
    have := List.mem_range'_1.1 hx
    omega
  have hnd : ∀ x ∈ l, ¬ p ∣ x := fun x hx hd => by
    have := Nat.le_of_dvd (by have := hl x hx; omega) hd
    have := hl x hx
    omega
  have hinj : (l.map fun i => a * i % p).Nodup := by
    rw [List.nodup_iff_pairwise_ne, List.pairwise_map]
    refine List.Pairwise.imp_of_mem (fun {x y} hx hy hne he => hne ?_) (List.nodup_iff_pairwise_ne.1 List.nodup_range')
    have := mod_cancel (hp.coprime ha) he
    rwa [Nat.mod_eq_of_lt (hl x hx).2, Nat.mod_eq_of_lt (hl y hy).2] at this
  have hperm : (l.map fun i => a * i % p).Perm l := by
    refine nodup_sub_perm hinj (fun x hx => ?_) (by simp)
    obtain ⟨i, hi, rfl⟩ := List.mem_map.1 hx
    refine List.mem_range'_1.2 ⟨?_, ?_⟩
    · rcases Nat.eq_zero_or_pos (a * i % p) with h0 | h0
      · rcases hp.euclid (Nat.dvd_of_mod_eq_zero h0) with h1 | h1
        · exact absurd h1 ha
        · exact absurd h1 (hnd i hi)
      · omega
    · have := Nat.mod_lt (a * i) hp.pos
      omega
  have h1 := prodL_map_mod a p l
  rw [prodL_perm hperm, List.length_range'] at h1
  have h3 : prodL l * 1 % p = prodL l * a ^ (p - 1) % p := by rw [Nat.mul_one, h1, Nat.mul_comm]
  exact (mod_cancel (hp.coprime (prodL_not_dvd hp hnd)) h3).symm
theorem pock_step {N p q e a : Nat} (hN : 2 ≤ N) (hp : Irr p) (hpN : p ∣ N) (hq : Irr q) (he : 0 < e) (hF : q ^ e ∣ N - 1) (h1 : a ^ (N - 1) % N = 1 % N)
    (h2 : Nat.gcd (a ^ ((N - 1) / q) % N + (N - 1)) N = 1) : q ^ e ∣ p - 1 := by
  have down : ∀ {x : Nat}, x % N = 1 % N → x % p = 1 % p := fun {x} h => by
    rw [← Nat.mod_mod_of_dvd x hpN, h, Nat.mod_mod_of_dvd _ hpN]
  obtain ⟨m, hm⟩ := hF
  have hqe : q ^ e = q * q ^ (e - 1) := by rw [← Nat.pow_succ', Nat.succ_eq_add_one, Nat.sub_add_cancel he]
  have ha : ¬ p ∣ a := fun hd => by
    have h3 := down h1
    have h4 : p ∣ a ^ (N - 1) := Nat.dvd_trans hd ⟨a ^ (N - 2), by rw [← Nat.pow_succ', show (N - 2).succ = N - 1 by omega]⟩
    rw [Nat.mod_eq_zero_of_dvd h4, Nat.mod_eq_of_lt hp.1] at h3
    cases h3
  have hb1 : (a ^ m) ^ (q ^ e) % p = 1 % p := by
    rw [← Nat.pow_mul, Nat.mul_comm, ← hm]
    exact down h1
  have hb2 : (a ^ m) ^ (p - 1) % p = 1 % p := by
    rw [← Nat.pow_mul, Nat.mul_comm, Nat.pow_mul]
    exact pow_one_mod (fermat hp ha)
  have hg := pow_gcd_mod _ _ hb1 hb2
  obtain ⟨j, hj, hgj⟩ := dvd_pow_irr hq (Nat.gcd_dvd_left (q ^ e) (p - 1))
  by_cases hje : j = e
  · subst hje
    exact hgj ▸ Nat.gcd_dvd_right _ _
  · exfalso
    have hdv : q ^ j ∣ q ^ (e - 1) := Nat.pow_dvd_pow q (by omega)
    obtain ⟨c, hc⟩ := hdv
    have h5 : (a ^ m) ^ (q ^ (e - 1)) % p = 1 % p := by
      rw [hc, Nat.pow_mul, ← hgj]
      exact pow_one_mod hg
    have h6 : (N - 1) / q = m * q ^ (e - 1) := by
      rw [hm, hqe, Nat.mul_assoc, Nat.mul_div_cancel_left _ hq.pos, Nat.mul_comm]
    rw [← Nat.pow_mul, ← h6] at h5
    have h7 : p ∣ a ^ ((N - 1) / q) % N + (N - 1) := by
      apply Nat.dvd_of_mod_eq_zero
      rw [Nat.add_mod, Nat.mod_mod_of_dvd _ hpN, h5]
      have : (N - 1) % p = p - 1 := by
        obtain ⟨c', rfl⟩ := hpN
        have hp1 := hp.1
        cases c' with
        | zero => omega
        | succ c' =>
          rw [Nat.mul_succ, Nat.add_sub_assoc (by omega), Nat.mul_add_mod, Nat.mod_eq_of_lt (by omega)]
      rw [this, Nat.mod_eq_of_lt hp.1, Nat.add_sub_cancel' (by have := hp.1; omega), Nat.mod_self]
    have h8 := Nat.dvd_gcd h7 hpN
    rw [h2] at h8
    have := Nat.le_of_dvd (by decide) h8
    have := hp.1
    omega
theorem coprime_pow_irr {p q : Nat} (hp : Irr p) (hq : Irr q) (h : p ≠ q) (e f : Nat) : Nat.Coprime (p ^ e) (q ^ f) := by
  apply Nat.Coprime.pow
  apply hp.coprime
  intro hd
  rcases hq.2 p hd with h1 | h1
  · have := hp.1; omega
  · exact h h1
def powm (n : Nat) : Nat → Nat → Nat → Nat
  | 0, _, _ => 1 % n
  | f + 1, a, e => if e = 0 then 1 % n else
      if e % 2 = 1 then a * powm n f (a * a % n) (e / 2) % n else powm n f (a * a % n) (e / 2)
theorem powm_eq (n : Nat) : ∀ (f a e : Nat), e < 2 ^ f → powm n f a e = a ^ e % n
  | 0, a, e, h => by
    have : e = 0 := by simpa using h
    subst this; simp [powm]
  | f + 1, a, e, h => by
    simp only [powm]
    split
    · rename_i h0; subst h0; simp
    · have h1 := powm_eq n f (a * a % n) (e / 2) (by rw [Nat.pow_succ] at h; omega)
      have h2 : (a * a % n) ^ (e / 2) % n = a ^ (2 * (e / 2)) % n := by
        rw [← Nat.pow_mod, Nat.pow_mul, Nat.pow_two]
      split
      · rename_i ho
        rw [h1, h2, Nat.mul_mod, Nat.mod_mod, ← Nat.mul_mod, ← Nat.pow_succ']
        rw [show (2 * (e / 2)).succ = e by omega]
      · rw [h1, h2, show 2 * (e / 2) = e by omega]
def noDiv (n : Nat) : Nat → Nat → Bool
  | 0, _ => true
  | f + 1, d => n % d != 0 && noDiv n f (d + 1)
theorem noDiv_spec {n : Nat} : ∀ {f d : Nat}, noDiv n f d = true → ∀ k, d ≤ k → k < d + f → ¬ k ∣ n
  | 0, d, _, k, h1, h2 => by omega
  | f + 1, d, h, k, h1, h2 => by
    simp only [noDiv, Bool.and_eq_true, bne_iff_ne, ne_eq] at h
    by_cases hk : k = d
    · subst hk; exact fun hd => h.1 (Nat.mod_eq_zero_of_dvd hd)
    · exact noDiv_spec h.2 k (by omega) (by omega)
theorem irr_trial {n f : Nat} (hn : 2 ≤ n) (hf : n < (f + 2) * (f + 2)) (h : noDiv n f 2 = true) : Irr n :=
  irr_of_small hn fun p hp hpd => by
    rcases Nat.lt_or_ge p (2 + f) with h1 | h1
    · exact absurd hpd (noDiv_spec h p hp.1 h1)
    · exact Nat.lt_of_lt_of_le hf (Nat.mul_le_mul (by omega) (by omega))
def pockB (N : Nat) (c : Nat × Nat × Nat) : Bool :=
  Nat.blt 0 c.2.1 && (N - 1) % c.1 ^ c.2.1 == 0 && powm N 800 c.2.2 (N - 1) == 1 % N && Nat.gcd (powm N 800 c.2.2 ((N - 1) / c.1) + (N - 1)) N == 1
def factL : List (Nat × Nat × Nat) → Nat
  | [] => 1
  | c :: l => c.1 ^ c.2.1 * factL l
theorem factL_coprime {q f : Nat} (hq : Irr q) : ∀ {l : List (Nat × Nat × Nat)}, (∀ c ∈ l, Irr c.1 ∧ q ≠ c.1) → Nat.Coprime (q ^ f) (factL l)
  | [], _ => Nat.coprime_one_right _
  | c :: l, h => by
    have h1 := h c (List.mem_cons_self ..)
    exact Nat.Coprime.mul_right (coprime_pow_irr hq h1.1 h1.2 f c.2.1) (factL_coprime hq fun d hd => h d (List.mem_cons_of_mem _ hd))
theorem factL_dvd {m : Nat} : ∀ {l : List (Nat × Nat × Nat)}, (∀ c ∈ l, Irr c.1 ∧ c.1 ^ c.2.1 ∣ m) → (l.map (·.1)).Nodup → factL l ∣ m
  | [], _, _ => Nat.one_dvd _
  | c :: l, h, hn => by
    have h1 := h c (List.mem_cons_self ..)
    rw [List.map_cons, List.nodup_cons] at hn
    refine Nat.Coprime.mul_dvd_of_dvd_of_dvd (factL_coprime h1.1 fun d hd => ⟨(h d (List.mem_cons_of_mem _ hd)).1, fun e => hn.1 ?_⟩) h1.2 (factL_dvd (fun d hd => h d (List.mem_cons_of_mem _ hd)) hn.2)
    rw [e]
    exact List.mem_map.2 ⟨d, hd, rfl⟩
theorem pock {N : Nat} (l : List (Nat × Nat × Nat)) (hN : Nat.ble 2 N = true) (hb : Nat.blt N (2 ^ 800) = true) (hc : l.all (pockB N) = true) (hF : Nat.blt N ((factL l + 1) * (factL l + 1)) = true)
    (hn : (l.map (·.1)).Nodup) (hq : ∀ c ∈ l, Irr c.1) : Irr N := by
  have hN' := Nat.le_of_ble_eq_true hN
  have hb' : N < 2 ^ 800 := Nat.le_of_ble_eq_true hb
  refine irr_of_small hN' fun p hp hpd => ?_
  have hd : factL l ∣ p - 1 := factL_dvd (fun c hm => ⟨hq c hm, ?_⟩) hn
  · have h1 := Nat.le_of_dvd (by have := hp.1; omega) hd
    have h2 : N < (factL l + 1) * (factL l + 1) := Nat.le_of_ble_eq_true hF
    exact Nat.lt_of_lt_of_le h2 (Nat.mul_le_mul (by have := hp.1; omega) (by have := hp.1; omega))
  · have h3 := List.all_eq_true.1 hc c hm
    simp only [pockB, Bool.and_eq_true, beq_iff_eq] at h3
    obtain ⟨⟨⟨g1, g2⟩, g3⟩, g4⟩ := h3
    rw [powm_eq N 800 _ _ (by omega)] at g3
    rw [powm_eq N 800 _ _ (Nat.lt_of_le_of_lt (Nat.div_le_self _ _) (by omega))] at g4
    exact pock_step hN' hp hpd (hq c hm) (Nat.le_of_ble_eq_true g1) (Nat.dvd_of_mod_eq_zero g2) g3 g4
end Go.Proofs.YtpahdiljpnfkdaaGreat
namespace Go.Proofs.YtpahdiljpnfkdaaGreat
theorem irr_2 : Irr 2 := irr_trial (f := 0) (by decide) (by decide) (by kernel_rfl)
theorem irr_3 : Irr 3 := irr_trial (f := 0) (by decide) (by decide) (by kernel_rfl)
theorem irr_13 : Irr 13 := irr_trial (f := 2) (by decide) (by decide) (by kernel_rfl)
theorem irr_11 : Irr 11 := irr_trial (f := 2) (by decide) (by decide) (by kernel_rfl)
theorem irr_7 : Irr 7 := irr_trial (f := 1) (by decide) (by decide) (by kernel_rfl)
end Go.Proofs.YtpahdiljpnfkdaaGreat
namespace Go.Proofs.YtpahdiljpnfkdaaGreat.Rg
variable {n : Nat} [NeZero n] {x y z u v w : Fin n}
theorem add_comm (x y : Fin n) : x + y = y + x := by grind
theorem mul_comm (x y : Fin n) : x * y = y * x := by grind
theorem mul_assoc (x y z : Fin n) : x * (y * z) = x * y * z := by grind
theorem mul_add (x y z : Fin n) : x * (y + z) = x * y + x * z := by grind
theorem add_neg (x : Fin n) : x + -x = 0 := by grind
theorem mul_one (x : Fin n) : x * 1 = x := by grind
theorem one_mul (x : Fin n) : 1 * x = x := by grind
theorem sub_self (x : Fin n) : x - x = 0 := by grind
theorem zero_mul (x : Fin n) : 0 * x = 0 := by grind
theorem mul_zero (x : Fin n) : x * 0 = 0 := by grind
theorem add_zero (x : Fin n) : x + 0 = x := by grind
theorem zero_add (x : Fin n) : 0 + x = x := by grind
theorem add_assoc (x y z : Fin n) : x + y + z = x + (y + z) := by grind
end Go.Proofs.YtpahdiljpnfkdaaGreat.Rg
namespace Go.Proofs.YtpahdiljpnfkdaaGreat
open Go Sim
abbrev Fp := Fin 21888242871839275222246405745257275088548364400416034343698204186575808495617
def fe (x : Fp) : List Nat := fel x.val
def fp (v : Nat) : Fp := ⟨v % 21888242871839275222246405745257275088548364400416034343698204186575808495617, Nat.mod_lt _ (by decide)⟩
@[simp] theorem fe_len (x : Fp) : (fe x).length = 4 := fel_len _
theorem bytesF_ctr {x : Fp} : GC Tryz.prog 37 [.agg ((fe x).map (vi .u64)).toArray] [] [.agg ((digs 256 32 x.val).map (vi .u8)).toArray] [] := ebytes_ctr x.isLt
theorem fromuF_ctr {v : Nat} (hv : v < 18446744073709551616) : GC Tryz.prog 14 [vi .u64 (v)] [] [.agg ((fe (fp v)).map (vi .u64)).toArray] [] := by
  have h := fromuP_ctr hv
  rwa [← fel_mod] at h
theorem fromwideF_ctr {b : List Nat} (hb : bd 256 b) (hlb : b.length ≤ 1000) : GC Tryz.prog 18 [.slice (some ⟨0, 0, none⟩) b.length 0] [⟨b.map (vi .u8), false, 1⟩] [.agg ((fe (fp (num 256 b))).map (vi .u64)).toArray] [⟨b.map (vi .u8), false, 1⟩] := fromwide_ctr hb hlb
theorem modR_ctr {v : Nat} (hl : (D 4294967296 v).length < 1000000) : GC Tryz.prog 19 [.slice (some ⟨0, 0, none⟩) (D 4294967296 v).length 0] [⟨(D 4294967296 v).map (vi .u64), false, 1⟩] [.slice (some ⟨1, 0, none⟩) (D 4294967296 ((fp v).val)).length 0] [⟨(D 4294967296 v).map (vi .u64), false, 1⟩, ⟨(D 4294967296 ((fp v).val)).map (vi .u64), true, 1⟩] := mod02_ctr hl
section
variable {ops : Array Oper} {n i : Nat} {os : List Oper} {E : Env} {M : Mem} {D : List Eff → Prop} {K : ASt → Prop}
  {d : Tmp} {ty : TypeId} {ps : String} {af : Array Edge} {g : Option (Nat × Bool)} {t : TypeId} {a : Operand}
theorem yLEi {xs : List Fp} {id j sz : Nat} {rw : Bool} {es : Nat} (hr : AWo Tryz.prog ops n (i + 1) os ⟨upd E d (.agg ((fe (xs.getD j 0)).map (vi .u64)).toArray), M⟩ (fun es => D (⟨[id], []⟩ :: es)) K)
    (ha : aev E a = some (.pointer (some ⟨id, 0 + j * 4, none⟩)) := by exact rfl) (hb : M id = some ⟨((xs.map fe).flatten).map (vi .u64), rw, es⟩ := by exact rfl) (hj : j < xs.length := by first | decide | omega)
    (ht : Tb.agg.lookup t = some true := by exact rfl) (hs : Tb.sz.lookup t = some sz := by exact rfl) (hl : 4 = sz := by exact rfl) (hw : wantA ops E ⟨some d, .load t a, ty, ps, af, g⟩ = some true := by exact rfl) (hd : Nat.blt d n = true := by exact rfl) :
    AWo Tryz.prog ops n i (⟨some d, .load t a, ty, ps, af, g⟩ :: os) ⟨E, M⟩ D K := by
  subst hl
  have hlen : ∀ x ∈ xs.map fe, x.length = 4 := fun x hx => by obtain ⟨y, _, rfl⟩ := List.mem_map.1 hx; exact fe_len y
  refine AWo.loadAgg tbok (vs := (fe (xs.getD j 0)).map (vi .u64)) ha hb ht hs ?_ ?_ hw hd hr
  · rw [List.length_map, flat_len hlen, List.length_map]; omega
  · rw [Nat.zero_add, flat_take_map hlen (by rw [List.length_map]; exact hj)]
    congr 1
    rw [List.getD_eq_getElem?_getD, List.getElem?_map, List.getElem?_eq_getElem hj, List.getD_eq_getElem?_getD, List.getElem?_eq_getElem hj]
    rfl
end
end Go.Proofs.YtpahdiljpnfkdaaGreat
namespace Go.Proofs.YtpahdiljpnfkdaaGreat
open Go Sim
abbrev dd (v : Nat) : Value := deep (D 4294967296 v).length 1 ((D 4294967296 v).map (vi .u64))
abbrev dv (x : Fp) : Value := dd x.val
abbrev db (b : List Nat) : Value := deep b.length 1 (b.map (vi .u8))
theorem cloA {α : Type} {f : α → Value} {l : List α} (hf : ∀ x, flatV (f x) = true) : cloV (.agg (l.map f).toArray) = true := by
  simp only [cloV, List.all_eq_true]
  intro x hx
  obtain ⟨y, _, rfl⟩ := List.mem_map.1 (by simpa using hx)
  simp [clo1, hf y]
theorem modRd {v : Nat} (hl : (D 4294967296 v).length < 1000000) : GC Tryz.prog 19 [dd v] [] [dv (fp v)] [] := GC.deepen (modR_ctr hl) (.deep .nil) (.new (Nat.le_refl _) rfl (by simp) (cloM fun _ => rfl) .nil)
theorem fbXd {b : List Nat} (hb : bd 256 b) : GC Tryz.prog 77 [db b] [] [.agg ((fel (rdV b)).map (vi .u64)).toArray, .int .i64 (rdC b)] [] := GC.deepen (fbX_ctr hb) (.deep .nil) (.pure (cloA flat_vi) (.pure rfl .nil))
theorem read02d {b : List Nat} (hb : bd 256 b) : GC Tryz.prog 56 [db b] [] [dd (rdV b), .int .i64 (rdC b)] [] := GC.deepen (read02_ctr hb) (.deep .nil) (.new (Nat.le_refl _) rfl (by simp) (cloM fun _ => rfl) (.pure rfl .nil))
theorem fromwideFd {b : List Nat} (hb : bd 256 b) (hlb : b.length ≤ 1000) : GC Tryz.prog 18 [db b] [] [.agg ((fe (fp (num 256 b))).map (vi .u64)).toArray] [] := GC.deepen (fromwideF_ctr hb hlb) (.deep .nil) (.pure (cloA flat_vi) .nil)
theorem ofbd {a : List Nat} (ha : bd 256 a) (hl : a.length < 100000000) : GC Tryz.prog 20 [db a] [] [dd (num 256 a)] [] := GC.deepen (ofb_ctr ha hl) (.deep .nil) (.new (Nat.le_refl _) rfl (by simp) (cloM fun _ => rfl) .nil)
theorem ofbN {a : List Nat} (ha : bd 256 a) (hl : a.length < 100000000) : GC Tryz.prog 20 [.slice (some ⟨0, 0, none⟩) a.length 0] [⟨a.map (vi .u8), false, 1⟩] [dd (num 256 a)] [⟨a.map (vi .u8), false, 1⟩] :=
  GC.deepRes (ofb_ctr ha hl) (.new (Nat.le_refl _) rfl (by simp) (cloM fun _ => rfl) .nil) rfl (fun b hb => by simp at hb; subst hb; exact cloM fun _ => rfl)
end Go.Proofs.YtpahdiljpnfkdaaGreat
namespace Go.Proofs.YtpahdiljpnfkdaaGreat
open Go Sim
def blk (L : List (List Nat)) (c : Nat) : List Nat := L.getD (c % L.length) []
end Go.Proofs.YtpahdiljpnfkdaaGreat
namespace Go.Proofs.YtpahdiljpnfkdaaGreat
open Go Sim
theorem setL_eq : ∀ (vs cells : List Value) (o : Nat), o + vs.length ≤ cells.length → setL cells o vs = cells.take o ++ vs ++ cells.drop (o + vs.length) := by
 intro vs
 induction vs with
 | nil => intro cells o _; simp [setL]
 | cons v vs ih =>
  intro cells o h
  simp only [List.length_cons] at h
  simp only [setL]
  rw [ih (cells.set o v) (o + 1) (by simp; omega), List.drop_set_of_lt (by omega)]
  have h1 : (cells.set o v).take (o + 1) = cells.take o ++ [v] := by
   rw [List.take_add_one, List.take_set_of_le (by omega), List.getElem?_set_self (by omega)]
   rfl
  rw [h1]
  simp [Nat.add_assoc, Nat.add_comm 1]
theorem fillB1 {b : List Nat} {c : Value} {k : IntKind} {n : Nat} (h : b.length = n) : fillL (fun i => some (i * n, n)) (List.replicate (1 * n) c) [(0, .agg (b.map (vi k)).toArray)] = some ([b].flatten.map (vi k)) := by
 simp only [fillL]
 rw [if_neg (by simp [Value.cells, h])]
 simp only [Value.cells]
 rw [setL_eq _ _ _ (by simp [h])]
 simp [h]
end Go.Proofs.YtpahdiljpnfkdaaGreat
namespace Go.Proofs.YtpahdiljpnfkdaaGreat
open Go Sim
attribute [local simp] digs_len
def bstr (xs : List Fp) (i : Nat) : Nat := (digs 256 32 (xs.getD (i / 31 % xs.length) 0).val).getD (i % 31) 0
def bts (xs : List Fp) (n : Nat) : List Nat := (List.range n).map (bstr xs)
@[simp] theorem bts_len (xs : List Fp) (n : Nat) : (bts xs n).length = n := by simp [bts]
theorem bts_step {xs : List Fp} {k n : Nat} (h : 31 * k < n) : bts xs (min (31 * k) n) ++ (digs 256 32 (xs.getD (k % xs.length) 0).val).take (min 31 (n - min (31 * k) n)) = bts xs (min (31 * (k + 1)) n) := by
  have h1 : min (31 * k) n = 31 * k := by omega
  rw [h1]
  obtain ⟨m, hm⟩ : ∃ m, m = min 31 (n - 31 * k) := ⟨_, rfl⟩
  rw [← hm, show min (31 * (k + 1)) n = 31 * k + m by omega]
  apply List.ext_getElem?
  intro i
  have hl : ((digs 256 32 (xs.getD (k % xs.length) 0).val).take m).length = m := by rw [List.length_take, digs_len]; omega
  rcases Nat.lt_or_ge i (31 * k) with hi | hi
  · rw [List.getElem?_append_left (by simpa using hi)]
    simp only [bts, List.getElem?_map, List.getElem?_range hi, List.getElem?_range (show i < 31 * k + m by omega)]
  · rw [List.getElem?_append_right (by simpa using hi), bts_len]
    rcases Nat.lt_or_ge i (31 * k + m) with hj | hj
    · simp only [bts, List.getElem?_map, List.getElem?_range hj, Option.map_some, bstr]
      rw [List.getElem?_take, if_pos (by omega), List.getElem?_eq_getElem (by rw [digs_len]; omega), show i / 31 = k by omega, show i % 31 = i - 31 * k by omega, List.getD_eq_getElem?_getD (i := i - 31 * k), List.getElem?_eq_getElem (by rw [digs_len]; omega)]
      rfl
    · rw [List.getElem?_eq_none (by omega), List.getElem?_eq_none (by simpa using hj)]
end Go.Proofs.YtpahdiljpnfkdaaGreat
namespace Go.Proofs.YtpahdiljpnfkdaaGreat
open Go Sim
theorem fe_flat (xs : List Fp) : ((xs.map fe).flatten).length = xs.length * 4 := by
 have := flat_len (L := xs.map fe) (n := 4) (fun x hx => by obtain ⟨y, _, rfl⟩ := List.mem_map.1 hx; exact fe_len y)
 rwa [List.length_map] at this
end Go.Proofs.YtpahdiljpnfkdaaGreat
namespace Go.Proofs.YtpahdiljpnfkdaaGreat
open Go Sim
theorem getD_lt {B : Nat} {l : List Nat} (h : bd B l) (hB : 0 < B) (i : Nat) : l.getD i 0 < B := by
 rw [List.getD_eq_getElem?_getD]
 cases hx : l[i]? with
 | none => exact hB
 | some v => exact h v (List.mem_of_getElem? hx)
end Go.Proofs.YtpahdiljpnfkdaaGreat
namespace Go.Proofs.YtpahdiljpnfkdaaGreat
open Go Sim
set_option maxRecDepth 100000 in
theorem expoW_ctr : GC Tryz.prog 93 [] [] [.pointer (some ⟨0, 0, none⟩)] [⟨[.pointer (some ⟨1, 0, none⟩)], true, 1⟩, ⟨[.slice (some ⟨2, 0, none⟩) 12 0, vi .u64 (ninvR ((digs 18446744073709551616 12 QG).getD 0 0)), .slice (some ⟨3, 0, none⟩) 12 0], true, 1⟩, ⟨((digs 18446744073709551616 12 QG)).map (vi .u64), true, 1⟩, ⟨((digs 18446744073709551616 12 (RR2 QG))).map (vi .u64), true, 1⟩] := by
 refine gi Tryz.func93 ?_
 refine zS ?_
 refine yA ?_
 refine zN (zS ?_)
 refine yC (primeW_ctr) bd104 [] [] ?_
 refine yN 2000 1 ((List.replicate 12 0).map (vi .u64)) ?_
 refine AWo.storeAllN tbok rfl rfl rfl rfl (by rw [List.length_map, digs_len]) (by rfl) (oneM (fun _ => rfl) _) rfl ?_
 rw [show (digs 18446744073709551616 12 PG).map (vi .u64) = [vi .u64 18446744073709551615, vi .u64 17603518614768072224, vi .u64 16466767132611215046, vi .u64 5755940542857986629, vi .u64 3470879405153129527, vi .u64 17263733006627652379, vi .u64 5857503583518590173, vi .u64 147421033984662306, vi .u64 2955010104097229940, vi .u64 14179128828124470481, vi .u64 14488038916154245684, vi .u64 18446744073709551615] from by kernel_rfl]
 refine yA ?_
 refine zN (zQ (zS ?_))
 refine yA ?_
 refine zN (zB ?_)
 refine AW.rounds 13 ?_
 refine roundsA_succ ?_
 refine zQ (zS ?_)
 refine yM ?_
 refine yP (PureOp.geN (b := 0) rfl rfl) ?_
 refine zN (zC (zK (zT (zQ (zB ?_)))))
 refine AW.draw mixed ?_
 refine yM ?_
 refine yM ?_
 refine yP pA ?_
 refine AWo.load (v := vi .u64 18446744073709551615) tbok rfl rfl rfl rfl rfl rfl ?_
 refine yP ((PureOp.shrN (b := 1) 64 rfl rfl rfl (by decide)).mono (v' := vi .u64 9223372036854775807) (by kernel_rfl)) ?_
 refine yM ?_
 refine yP ((PureOp.shlUge (b := 63) 18446744073709551616 rfl rfl rfl rfl).mono (v' := vi .u64 0) (by kernel_rfl)) ?_
 refine yP ((PureOp.orN 18446744073709551616 rfl rfl (by decide) (by decide) (by decide) (by decide)).mono (v' := vi .u64 9223372036854775807) (by kernel_rfl)) ?_
 refine yM ?_
 refine yP pA ?_
 refine AWo.load (v := vi .u64 18446744073709551615) tbok rfl rfl rfl rfl rfl rfl ?_
 refine yP ((PureOp.andN (b := 1) 18446744073709551616 rfl rfl (by decide) (by decide) (by decide) (by decide)).mono (v' := vi .u64 1) (by kernel_rfl)) ?_
 refine yP pA ?_
 refine AWo.store (cells := [vi .u64 18446744073709551615, vi .u64 17603518614768072224, vi .u64 16466767132611215046, vi .u64 5755940542857986629, vi .u64 3470879405153129527, vi .u64 17263733006627652379, vi .u64 5857503583518590173, vi .u64 147421033984662306, vi .u64 2955010104097229940, vi .u64 14179128828124470481, vi .u64 14488038916154245684, vi .u64 9223372036854775807]) tbok rfl rfl rfl rfl rfl (by decide) rfl rfl rfl ?_
 refine yA ?_
 refine zD (zL (zT (zR ?_)))
 refine yM ?_
 refine yP (pSub (b := 1)) ?_
 refine yA ?_
 refine zN (zT ?_)
 refine roundsA_succ ?_
 refine zQ (zS ?_)
 refine yM ?_
 refine yP (PureOp.geN (b := 0) rfl rfl) ?_
 refine zN (zC (zK (zT (zQ (zB ?_)))))
 refine AW.draw mixed ?_
 refine yM ?_
 refine yM ?_
 refine yP pA ?_
 refine AWo.load (v := vi .u64 14488038916154245684) tbok rfl rfl rfl rfl rfl rfl ?_
 refine yP ((PureOp.shrN (b := 1) 64 rfl rfl rfl (by decide)).mono (v' := vi .u64 7244019458077122842) (by kernel_rfl)) ?_
 refine yM ?_
 refine yP ((PureOp.shlUge (b := 63) 18446744073709551616 rfl rfl rfl rfl).mono (v' := vi .u64 9223372036854775808) (by kernel_rfl)) ?_
 refine yP ((PureOp.orN 18446744073709551616 rfl rfl (by decide) (by decide) (by decide) (by decide)).mono (v' := vi .u64 16467391494931898650) (by kernel_rfl)) ?_
 refine yM ?_
 refine yP pA ?_
 refine AWo.load (v := vi .u64 14488038916154245684) tbok rfl rfl rfl rfl rfl rfl ?_
 refine yP ((PureOp.andN (b := 1) 18446744073709551616 rfl rfl (by decide) (by decide) (by decide) (by decide)).mono (v' := vi .u64 0) (by kernel_rfl)) ?_
 refine yP pA ?_
 refine AWo.store (cells := [vi .u64 18446744073709551615, vi .u64 17603518614768072224, vi .u64 16466767132611215046, vi .u64 5755940542857986629, vi .u64 3470879405153129527, vi .u64 17263733006627652379, vi .u64 5857503583518590173, vi .u64 147421033984662306, vi .u64 2955010104097229940, vi .u64 14179128828124470481, vi .u64 16467391494931898650, vi .u64 9223372036854775807]) tbok rfl rfl rfl rfl rfl (by decide) rfl rfl rfl ?_
 refine yA ?_
 refine zD (zL (zT (zR ?_)))
 refine yM ?_
 refine yP (pSub (b := 1)) ?_
 refine yA ?_
 refine zN (zT ?_)
 refine roundsA_succ ?_
 refine zQ (zS ?_)
 refine yM ?_
 refine yP (PureOp.geN (b := 0) rfl rfl) ?_
 refine zN (zC (zK (zT (zQ (zB ?_)))))
 refine AW.draw mixed ?_
 refine yM ?_
 refine yM ?_
 refine yP pA ?_
 refine AWo.load (v := vi .u64 14179128828124470481) tbok rfl rfl rfl rfl rfl rfl ?_
 refine yP ((PureOp.shrN (b := 1) 64 rfl rfl rfl (by decide)).mono (v' := vi .u64 7089564414062235240) (by kernel_rfl)) ?_
 refine yM ?_
 refine yP ((PureOp.shlUge (b := 63) 18446744073709551616 rfl rfl rfl rfl).mono (v' := vi .u64 0) (by kernel_rfl)) ?_
 refine yP ((PureOp.orN 18446744073709551616 rfl rfl (by decide) (by decide) (by decide) (by decide)).mono (v' := vi .u64 7089564414062235240) (by kernel_rfl)) ?_
 refine yM ?_
 refine yP pA ?_
 refine AWo.load (v := vi .u64 14179128828124470481) tbok rfl rfl rfl rfl rfl rfl ?_
 refine yP ((PureOp.andN (b := 1) 18446744073709551616 rfl rfl (by decide) (by decide) (by decide) (by decide)).mono (v' := vi .u64 1) (by kernel_rfl)) ?_
 refine yP pA ?_
 refine AWo.store (cells := [vi .u64 18446744073709551615, vi .u64 17603518614768072224, vi .u64 16466767132611215046, vi .u64 5755940542857986629, vi .u64 3470879405153129527, vi .u64 17263733006627652379, vi .u64 5857503583518590173, vi .u64 147421033984662306, vi .u64 2955010104097229940, vi .u64 7089564414062235240, vi .u64 16467391494931898650, vi .u64 9223372036854775807]) tbok rfl rfl rfl rfl rfl (by decide) rfl rfl rfl ?_
 refine yA ?_
 refine zD (zL (zT (zR ?_)))
 refine yM ?_
 refine yP (pSub (b := 1)) ?_
 refine yA ?_
 refine zN (zT ?_)
 refine roundsA_succ ?_
 refine zQ (zS ?_)
 refine yM ?_
 refine yP (PureOp.geN (b := 0) rfl rfl) ?_
 refine zN (zC (zK (zT (zQ (zB ?_)))))
 refine AW.draw mixed ?_
 refine yM ?_
 refine yM ?_
 refine yP pA ?_
 refine AWo.load (v := vi .u64 2955010104097229940) tbok rfl rfl rfl rfl rfl rfl ?_
 refine yP ((PureOp.shrN (b := 1) 64 rfl rfl rfl (by decide)).mono (v' := vi .u64 1477505052048614970) (by kernel_rfl)) ?_
 refine yM ?_
 refine yP ((PureOp.shlUge (b := 63) 18446744073709551616 rfl rfl rfl rfl).mono (v' := vi .u64 9223372036854775808) (by kernel_rfl)) ?_
 refine yP ((PureOp.orN 18446744073709551616 rfl rfl (by decide) (by decide) (by decide) (by decide)).mono (v' := vi .u64 10700877088903390778) (by kernel_rfl)) ?_
 refine yM ?_
 refine yP pA ?_
 refine AWo.load (v := vi .u64 2955010104097229940) tbok rfl rfl rfl rfl rfl rfl ?_
 refine yP ((PureOp.andN (b := 1) 18446744073709551616 rfl rfl (by decide) (by decide) (by decide) (by decide)).mono (v' := vi .u64 0) (by kernel_rfl)) ?_
 refine yP pA ?_
 refine AWo.store (cells := [vi .u64 18446744073709551615, vi .u64 17603518614768072224, vi .u64 16466767132611215046, vi .u64 5755940542857986629, vi .u64 3470879405153129527, vi .u64 17263733006627652379, vi .u64 5857503583518590173, vi .u64 147421033984662306, vi .u64 10700877088903390778, vi .u64 7089564414062235240, vi .u64 16467391494931898650, vi .u64 9223372036854775807]) tbok rfl rfl rfl rfl rfl (by decide) rfl rfl rfl ?_
 refine yA ?_
 refine zD (zL (zT (zR ?_)))
 refine yM ?_
 refine yP (pSub (b := 1)) ?_
 refine yA ?_
 refine zN (zT ?_)
 refine roundsA_succ ?_
 refine zQ (zS ?_)
 refine yM ?_
 refine yP (PureOp.geN (b := 0) rfl rfl) ?_
 refine zN (zC (zK (zT (zQ (zB ?_)))))
 refine AW.draw mixed ?_
 refine yM ?_
 refine yM ?_
 refine yP pA ?_
 refine AWo.load (v := vi .u64 147421033984662306) tbok rfl rfl rfl rfl rfl rfl ?_
 refine yP ((PureOp.shrN (b := 1) 64 rfl rfl rfl (by decide)).mono (v' := vi .u64 73710516992331153) (by kernel_rfl)) ?_
 refine yM ?_
 refine yP ((PureOp.shlUge (b := 63) 18446744073709551616 rfl rfl rfl rfl).mono (v' := vi .u64 0) (by kernel_rfl)) ?_
 refine yP ((PureOp.orN 18446744073709551616 rfl rfl (by decide) (by decide) (by decide) (by decide)).mono (v' := vi .u64 73710516992331153) (by kernel_rfl)) ?_
 refine yM ?_
 refine yP pA ?_
 refine AWo.load (v := vi .u64 147421033984662306) tbok rfl rfl rfl rfl rfl rfl ?_
 refine yP ((PureOp.andN (b := 1) 18446744073709551616 rfl rfl (by decide) (by decide) (by decide) (by decide)).mono (v' := vi .u64 0) (by kernel_rfl)) ?_
 refine yP pA ?_
 refine AWo.store (cells := [vi .u64 18446744073709551615, vi .u64 17603518614768072224, vi .u64 16466767132611215046, vi .u64 5755940542857986629, vi .u64 3470879405153129527, vi .u64 17263733006627652379, vi .u64 5857503583518590173, vi .u64 73710516992331153, vi .u64 10700877088903390778, vi .u64 7089564414062235240, vi .u64 16467391494931898650, vi .u64 9223372036854775807]) tbok rfl rfl rfl rfl rfl (by decide) rfl rfl rfl ?_
 refine yA ?_
 refine zD (zL (zT (zR ?_)))
 refine yM ?_
 refine yP (pSub (b := 1)) ?_
 refine yA ?_
 refine zN (zT ?_)
 refine roundsA_succ ?_
 refine zQ (zS ?_)
 refine yM ?_
 refine yP (PureOp.geN (b := 0) rfl rfl) ?_
 refine zN (zC (zK (zT (zQ (zB ?_)))))
 refine AW.draw mixed ?_
 refine yM ?_
 refine yM ?_
 refine yP pA ?_
 refine AWo.load (v := vi .u64 5857503583518590173) tbok rfl rfl rfl rfl rfl rfl ?_
 refine yP ((PureOp.shrN (b := 1) 64 rfl rfl rfl (by decide)).mono (v' := vi .u64 2928751791759295086) (by kernel_rfl)) ?_
 refine yM ?_
 refine yP ((PureOp.shlUge (b := 63) 18446744073709551616 rfl rfl rfl rfl).mono (v' := vi .u64 0) (by kernel_rfl)) ?_
 refine yP ((PureOp.orN 18446744073709551616 rfl rfl (by decide) (by decide) (by decide) (by decide)).mono (v' := vi .u64 2928751791759295086) (by kernel_rfl)) ?_
 refine yM ?_
 refine yP pA ?_
 refine AWo.load (v := vi .u64 5857503583518590173) tbok rfl rfl rfl rfl rfl rfl ?_
 refine yP ((PureOp.andN (b := 1) 18446744073709551616 rfl rfl (by decide) (by decide) (by decide) (by decide)).mono (v' := vi .u64 1) (by kernel_rfl)) ?_
 refine yP pA ?_
 refine AWo.store (cells := [vi .u64 18446744073709551615, vi .u64 17603518614768072224, vi .u64 16466767132611215046, vi .u64 5755940542857986629, vi .u64 3470879405153129527, vi .u64 17263733006627652379, vi .u64 2928751791759295086, vi .u64 73710516992331153, vi .u64 10700877088903390778, vi .u64 7089564414062235240, vi .u64 16467391494931898650, vi .u64 9223372036854775807]) tbok rfl rfl rfl rfl rfl (by decide) rfl rfl rfl ?_
 refine yA ?_
 refine zD (zL (zT (zR ?_)))
 refine yM ?_
 refine yP (pSub (b := 1)) ?_
 refine yA ?_
 refine zN (zT ?_)
 refine roundsA_succ ?_
 refine zQ (zS ?_)
 refine yM ?_
 refine yP (PureOp.geN (b := 0) rfl rfl) ?_
 refine zN (zC (zK (zT (zQ (zB ?_)))))
 refine AW.draw mixed ?_
 refine yM ?_
 refine yM ?_
 refine yP pA ?_
 refine AWo.load (v := vi .u64 17263733006627652379) tbok rfl rfl rfl rfl rfl rfl ?_
 refine yP ((PureOp.shrN (b := 1) 64 rfl rfl rfl (by decide)).mono (v' := vi .u64 8631866503313826189) (by kernel_rfl)) ?_
 refine yM ?_
 refine yP ((PureOp.shlUge (b := 63) 18446744073709551616 rfl rfl rfl rfl).mono (v' := vi .u64 9223372036854775808) (by kernel_rfl)) ?_
 refine yP ((PureOp.orN 18446744073709551616 rfl rfl (by decide) (by decide) (by decide) (by decide)).mono (v' := vi .u64 17855238540168601997) (by kernel_rfl)) ?_
 refine yM ?_
 refine yP pA ?_
 refine AWo.load (v := vi .u64 17263733006627652379) tbok rfl rfl rfl rfl rfl rfl ?_
 refine yP ((PureOp.andN (b := 1) 18446744073709551616 rfl rfl (by decide) (by decide) (by decide) (by decide)).mono (v' := vi .u64 1) (by kernel_rfl)) ?_
 refine yP pA ?_
 refine AWo.store (cells := [vi .u64 18446744073709551615, vi .u64 17603518614768072224, vi .u64 16466767132611215046, vi .u64 5755940542857986629, vi .u64 3470879405153129527, vi .u64 17855238540168601997, vi .u64 2928751791759295086, vi .u64 73710516992331153, vi .u64 10700877088903390778, vi .u64 7089564414062235240, vi .u64 16467391494931898650, vi .u64 9223372036854775807]) tbok rfl rfl rfl rfl rfl (by decide) rfl rfl rfl ?_
 refine yA ?_
 refine zD (zL (zT (zR ?_)))
 refine yM ?_
 refine yP (pSub (b := 1)) ?_
 refine yA ?_
 refine zN (zT ?_)
 refine roundsA_succ ?_
 refine zQ (zS ?_)
 refine yM ?_
 refine yP (PureOp.geN (b := 0) rfl rfl) ?_
 refine zN (zC (zK (zT (zQ (zB ?_)))))
 refine AW.draw mixed ?_
 refine yM ?_
 refine yM ?_
 refine yP pA ?_
 refine AWo.load (v := vi .u64 3470879405153129527) tbok rfl rfl rfl rfl rfl rfl ?_
 refine yP ((PureOp.shrN (b := 1) 64 rfl rfl rfl (by decide)).mono (v' := vi .u64 1735439702576564763) (by kernel_rfl)) ?_
 refine yM ?_
 refine yP ((PureOp.shlUge (b := 63) 18446744073709551616 rfl rfl rfl rfl).mono (v' := vi .u64 9223372036854775808) (by kernel_rfl)) ?_
 refine yP ((PureOp.orN 18446744073709551616 rfl rfl (by decide) (by decide) (by decide) (by decide)).mono (v' := vi .u64 10958811739431340571) (by kernel_rfl)) ?_
 refine yM ?_
 refine yP pA ?_
 refine AWo.load (v := vi .u64 3470879405153129527) tbok rfl rfl rfl rfl rfl rfl ?_
 refine yP ((PureOp.andN (b := 1) 18446744073709551616 rfl rfl (by decide) (by decide) (by decide) (by decide)).mono (v' := vi .u64 1) (by kernel_rfl)) ?_
 refine yP pA ?_
 refine AWo.store (cells := [vi .u64 18446744073709551615, vi .u64 17603518614768072224, vi .u64 16466767132611215046, vi .u64 5755940542857986629, vi .u64 10958811739431340571, vi .u64 17855238540168601997, vi .u64 2928751791759295086, vi .u64 73710516992331153, vi .u64 10700877088903390778, vi .u64 7089564414062235240, vi .u64 16467391494931898650, vi .u64 9223372036854775807]) tbok rfl rfl rfl rfl rfl (by decide) rfl rfl rfl ?_
 refine yA ?_
 refine zD (zL (zT (zR ?_)))
 refine yM ?_
 refine yP (pSub (b := 1)) ?_
 refine yA ?_
 refine zN (zT ?_)
 refine roundsA_succ ?_
 refine zQ (zS ?_)
 refine yM ?_
 refine yP (PureOp.geN (b := 0) rfl rfl) ?_
 refine zN (zC (zK (zT (zQ (zB ?_)))))
 refine AW.draw mixed ?_
 refine yM ?_
 refine yM ?_
 refine yP pA ?_
 refine AWo.load (v := vi .u64 5755940542857986629) tbok rfl rfl rfl rfl rfl rfl ?_
 refine yP ((PureOp.shrN (b := 1) 64 rfl rfl rfl (by decide)).mono (v' := vi .u64 2877970271428993314) (by kernel_rfl)) ?_
 refine yM ?_
 refine yP ((PureOp.shlUge (b := 63) 18446744073709551616 rfl rfl rfl rfl).mono (v' := vi .u64 9223372036854775808) (by kernel_rfl)) ?_
 refine yP ((PureOp.orN 18446744073709551616 rfl rfl (by decide) (by decide) (by decide) (by decide)).mono (v' := vi .u64 12101342308283769122) (by kernel_rfl)) ?_
 refine yM ?_
 refine yP pA ?_
 refine AWo.load (v := vi .u64 5755940542857986629) tbok rfl rfl rfl rfl rfl rfl ?_
 refine yP ((PureOp.andN (b := 1) 18446744073709551616 rfl rfl (by decide) (by decide) (by decide) (by decide)).mono (v' := vi .u64 1) (by kernel_rfl)) ?_
 refine yP pA ?_
 refine AWo.store (cells := [vi .u64 18446744073709551615, vi .u64 17603518614768072224, vi .u64 16466767132611215046, vi .u64 12101342308283769122, vi .u64 10958811739431340571, vi .u64 17855238540168601997, vi .u64 2928751791759295086, vi .u64 73710516992331153, vi .u64 10700877088903390778, vi .u64 7089564414062235240, vi .u64 16467391494931898650, vi .u64 9223372036854775807]) tbok rfl rfl rfl rfl rfl (by decide) rfl rfl rfl ?_
 refine yA ?_
 refine zD (zL (zT (zR ?_)))
 refine yM ?_
 refine yP (pSub (b := 1)) ?_
 refine yA ?_
 refine zN (zT ?_)
 refine roundsA_succ ?_
 refine zQ (zS ?_)
 refine yM ?_
 refine yP (PureOp.geN (b := 0) rfl rfl) ?_
 refine zN (zC (zK (zT (zQ (zB ?_)))))
 refine AW.draw mixed ?_
 refine yM ?_
 refine yM ?_
 refine yP pA ?_
 refine AWo.load (v := vi .u64 16466767132611215046) tbok rfl rfl rfl rfl rfl rfl ?_
 refine yP ((PureOp.shrN (b := 1) 64 rfl rfl rfl (by decide)).mono (v' := vi .u64 8233383566305607523) (by kernel_rfl)) ?_
 refine yM ?_
 refine yP ((PureOp.shlUge (b := 63) 18446744073709551616 rfl rfl rfl rfl).mono (v' := vi .u64 9223372036854775808) (by kernel_rfl)) ?_
 refine yP ((PureOp.orN 18446744073709551616 rfl rfl (by decide) (by decide) (by decide) (by decide)).mono (v' := vi .u64 17456755603160383331) (by kernel_rfl)) ?_
 refine yM ?_
 refine yP pA ?_
 refine AWo.load (v := vi .u64 16466767132611215046) tbok rfl rfl rfl rfl rfl rfl ?_
 refine yP ((PureOp.andN (b := 1) 18446744073709551616 rfl rfl (by decide) (by decide) (by decide) (by decide)).mono (v' := vi .u64 0) (by kernel_rfl)) ?_
 refine yP pA ?_
 refine AWo.store (cells := [vi .u64 18446744073709551615, vi .u64 17603518614768072224, vi .u64 17456755603160383331, vi .u64 12101342308283769122, vi .u64 10958811739431340571, vi .u64 17855238540168601997, vi .u64 2928751791759295086, vi .u64 73710516992331153, vi .u64 10700877088903390778, vi .u64 7089564414062235240, vi .u64 16467391494931898650, vi .u64 9223372036854775807]) tbok rfl rfl rfl rfl rfl (by decide) rfl rfl rfl ?_
 refine yA ?_
 refine zD (zL (zT (zR ?_)))
 refine yM ?_
 refine yP (pSub (b := 1)) ?_
 refine yA ?_
 refine zN (zT ?_)
 refine roundsA_succ ?_
 refine zQ (zS ?_)
 refine yM ?_
 refine yP (PureOp.geN (b := 0) rfl rfl) ?_
 refine zN (zC (zK (zT (zQ (zB ?_)))))
 refine AW.draw mixed ?_
 refine yM ?_
 refine yM ?_
 refine yP pA ?_
 refine AWo.load (v := vi .u64 17603518614768072224) tbok rfl rfl rfl rfl rfl rfl ?_
 refine yP ((PureOp.shrN (b := 1) 64 rfl rfl rfl (by decide)).mono (v' := vi .u64 8801759307384036112) (by kernel_rfl)) ?_
 refine yM ?_
 refine yP ((PureOp.shlUge (b := 63) 18446744073709551616 rfl rfl rfl rfl).mono (v' := vi .u64 0) (by kernel_rfl)) ?_
 refine yP ((PureOp.orN 18446744073709551616 rfl rfl (by decide) (by decide) (by decide) (by decide)).mono (v' := vi .u64 8801759307384036112) (by kernel_rfl)) ?_
 refine yM ?_
 refine yP pA ?_
 refine AWo.load (v := vi .u64 17603518614768072224) tbok rfl rfl rfl rfl rfl rfl ?_
 refine yP ((PureOp.andN (b := 1) 18446744073709551616 rfl rfl (by decide) (by decide) (by decide) (by decide)).mono (v' := vi .u64 0) (by kernel_rfl)) ?_
 refine yP pA ?_
 refine AWo.store (cells := [vi .u64 18446744073709551615, vi .u64 8801759307384036112, vi .u64 17456755603160383331, vi .u64 12101342308283769122, vi .u64 10958811739431340571, vi .u64 17855238540168601997, vi .u64 2928751791759295086, vi .u64 73710516992331153, vi .u64 10700877088903390778, vi .u64 7089564414062235240, vi .u64 16467391494931898650, vi .u64 9223372036854775807]) tbok rfl rfl rfl rfl rfl (by decide) rfl rfl rfl ?_
 refine yA ?_
 refine zD (zL (zT (zR ?_)))
 refine yM ?_
 refine yP (pSub (b := 1)) ?_
 refine yA ?_
 refine zN (zT ?_)
 refine roundsA_succ ?_
 refine zQ (zS ?_)
 refine yM ?_
 refine yP (PureOp.geN (b := 0) rfl rfl) ?_
 refine zN (zC (zK (zT (zQ (zB ?_)))))
 refine AW.draw mixed ?_
 refine yM ?_
 refine yM ?_
 refine yP pA ?_
 refine AWo.load (v := vi .u64 18446744073709551615) tbok rfl rfl rfl rfl rfl rfl ?_
 refine yP ((PureOp.shrN (b := 1) 64 rfl rfl rfl (by decide)).mono (v' := vi .u64 9223372036854775807) (by kernel_rfl)) ?_
 refine yM ?_
 refine yP ((PureOp.shlUge (b := 63) 18446744073709551616 rfl rfl rfl rfl).mono (v' := vi .u64 0) (by kernel_rfl)) ?_
 refine yP ((PureOp.orN 18446744073709551616 rfl rfl (by decide) (by decide) (by decide) (by decide)).mono (v' := vi .u64 9223372036854775807) (by kernel_rfl)) ?_
 refine yM ?_
 refine yP pA ?_
 refine AWo.load (v := vi .u64 18446744073709551615) tbok rfl rfl rfl rfl rfl rfl ?_
 refine yP ((PureOp.andN (b := 1) 18446744073709551616 rfl rfl (by decide) (by decide) (by decide) (by decide)).mono (v' := vi .u64 1) (by kernel_rfl)) ?_
 refine yP pA ?_
 refine AWo.store (cells := [vi .u64 9223372036854775807, vi .u64 8801759307384036112, vi .u64 17456755603160383331, vi .u64 12101342308283769122, vi .u64 10958811739431340571, vi .u64 17855238540168601997, vi .u64 2928751791759295086, vi .u64 73710516992331153, vi .u64 10700877088903390778, vi .u64 7089564414062235240, vi .u64 16467391494931898650, vi .u64 9223372036854775807]) tbok rfl rfl rfl rfl rfl (by decide) rfl rfl rfl ?_
 refine yA ?_
 refine zD (zL (zT (zR ?_)))
 refine yM ?_
 refine yP (PureOp.subP rfl rfl (by decide)) ?_
 refine yA ?_
 refine zN (zT ?_)
 refine roundsA_succ ?_
 refine zQ (zS ?_)
 refine yM ?_
 refine yP (PureOp.geP rfl rfl) ?_
 refine zN (zF (zX (zV (zV (zH (zT ?_))))))
 rw [show [vi .u64 9223372036854775807, vi .u64 8801759307384036112, vi .u64 17456755603160383331, vi .u64 12101342308283769122, vi .u64 10958811739431340571, vi .u64 17855238540168601997, vi .u64 2928751791759295086, vi .u64 73710516992331153, vi .u64 10700877088903390778, vi .u64 7089564414062235240, vi .u64 16467391494931898650, vi .u64 9223372036854775807] = (digs 18446744073709551616 12 QG).map (vi .u64) from by kernel_rfl]
 refine zS ?_
 refine AWo.loadAll tbok rfl rfl rfl rfl rfl rfl rfl ?_
 refine yC (ringW_ctr (N := QG) rn_q) bd103 [] [13024000, 13024001, 13024002, 13024003] ?_
 refine yA ?_
 refine zN (zE ?_)
 exact rq [13024000, 13024001, 13024002, 13024003] [.tmp 0]
def B24 : Nat := 4294967296 ^ 24
def NG (g : Bool) : Nat := if g then PG else QG
theorem b24_w : B24 = 18446744073709551616 ^ 12 := by decide +kernel
theorem pg_b24 : PG < B24 := by decide +kernel
theorem pg_D : D 4294967296 PG = [4294967295, 4294967295, 2788832800, 4098638569, 1650360006, 3833967990, 1834074693, 1340159341, 4066317367, 808127085, 3443147547, 4019526067, 2385773789, 1363806329, 991140642, 34324134, 2322058356, 688016904, 2161908945, 3301335691, 560513588, 3373259426, 4294967295, 4294967295] := by kernel_rfl
theorem qg_D : D 4294967296 QG = [4294967295, 2147483647, 3541900048, 2049319284, 825180003, 4064467643, 3064520994, 2817563318, 4180642331, 2551547190, 3869057421, 4157246681, 3340370542, 681903164, 495570321, 17162067, 1161029178, 2491492100, 3228438120, 1650667845, 280256794, 3834113361, 4294967295, 2147483647] := by kernel_rfl
theorem pg_len : (D 4294967296 PG).length = 24 := by rw [pg_D]; rfl
theorem qg_len : (D 4294967296 QG).length = 24 := by rw [qg_D]; rfl
theorem pg_deep : deep 24 1 [vi .u64 4294967295, vi .u64 4294967295, vi .u64 2788832800, vi .u64 4098638569, vi .u64 1650360006, vi .u64 3833967990, vi .u64 1834074693, vi .u64 1340159341, vi .u64 4066317367, vi .u64 808127085, vi .u64 3443147547, vi .u64 4019526067, vi .u64 2385773789, vi .u64 1363806329, vi .u64 991140642, vi .u64 34324134, vi .u64 2322058356, vi .u64 688016904, vi .u64 2161908945, vi .u64 3301335691, vi .u64 560513588, vi .u64 3373259426, vi .u64 4294967295, vi .u64 4294967295] = dd PG := by simp only [dd, pg_D]; rfl
theorem pg_lt (i : Nat) : (D 4294967296 PG).getD i 0 < 18446744073709551616 := Nat.lt_trans (getD_lt (bd_D (by decide) _) (by decide) _) (by decide)
theorem q_lo {i : Nat} (h : i < 23) : ((D 4294967296 PG).getD i 0 / 2 + (D 4294967296 PG).getD (i + 1) 0 % 2 * 2147483648 % 18446744073709551616) % 18446744073709551616 = (D 4294967296 QG).getD i 0 := by
 rw [pg_D, qg_D]; revert i; decide
theorem q_hi {i : Nat} (h : i < 24) (h2 : ¬ i < 23) : ((D 4294967296 PG).getD i 0 / 2 + 0 * 2147483648 % 18446744073709551616) % 18446744073709551616 = (D 4294967296 QG).getD i 0 := by
 obtain rfl : i = 23 := by omega
 rw [pg_D, qg_D]; decide
theorem take_one {l : List Nat} {i : Nat} (h : i < l.length) : l.take i ++ [l.getD i 0] = l.take (i + 1) := by
 rw [List.take_add_one, List.getElem?_eq_getElem h, List.getD_eq_getElem?_getD, List.getElem?_eq_getElem h]; rfl
theorem dlen24 {x : Nat} (h : x < B24) : (D 4294967296 x).length ≤ 24 := (D_len_le (by decide) _ _).2 h
theorem subd {x y : Nat} (hx : (D 4294967296 x).length < 100000000) (hy : (D 4294967296 y).length < 100000000) (h : y ≤ x) : GC Tryz.prog 71 [dd x, dd y] [] [dd (x - y)] [] := GC.deepen (subD_ctr hx hy h) (.deep (.deep .nil)) (.new (Nat.le_refl _) rfl (by simp) (cloM fun _ => rfl) .nil)
theorem cmpd {x y : Nat} (hx : (D 4294967296 x).length < 100000000) (hy : (D 4294967296 y).length < 100000000) : GC Tryz.prog 70 [dd x, dd y] [] [.int .i64 (cmpI x y)] [] := GC.deepen (cmpD_ctr (x := x) (y := y) hx hy) (.deep (.deep .nil)) (.pure rfl .nil)
theorem triml {l : List Nat} {n : Nat} (hb : bd 4294967296 l) (hn : l.length = n) (hl : n < 1000000000) : GC Tryz.prog 26 [deep n 1 (l.map (vi .u64))] [] [dd (num 4294967296 l)] [] := by
 subst hn
 exact GC.deepen (trim_ctr (a := l) (v := num 4294967296 l) hb rfl rfl hl) (.deep .nil)
  (.part (k := 0) (o := 0) Nat.zero_lt_one Nat.zero_lt_one rfl (by rw [Nat.zero_add, Nat.mul_one, List.length_map]; exact D_len_num (by decide) hb (Nat.le_refl _)) (by rw [List.drop_zero, Nat.mul_one, ← List.map_take, ← D_take (by decide) hb]) (cloM fun _ => rfl) .nil)
theorem p04_ctr : GC Tryz.prog 97 [] [] [dd PG] [] := by
 refine gi Tryz.func97 ?_
 refine zS ?_
 refine yA ?_
 refine zN (zS ?_)
 refine AWo.buildSliceF tbok 2000 [(0, vi .u64 4294967295), (1, vi .u64 4294967295), (2, vi .u64 2788832800), (3, vi .u64 4098638569), (4, vi .u64 1650360006), (5, vi .u64 3833967990), (6, vi .u64 1834074693), (7, vi .u64 1340159341), (8, vi .u64 4066317367), (9, vi .u64 808127085), (10, vi .u64 3443147547), (11, vi .u64 4019526067), (12, vi .u64 2385773789), (13, vi .u64 1363806329), (14, vi .u64 991140642), (15, vi .u64 34324134), (16, vi .u64 2322058356), (17, vi .u64 688016904), (18, vi .u64 2161908945), (19, vi .u64 3301335691), (20, vi .u64 560513588), (21, vi .u64 3373259426), (22, vi .u64 4294967295), (23, vi .u64 4294967295)] (out := [vi .u64 4294967295, vi .u64 4294967295, vi .u64 2788832800, vi .u64 4098638569, vi .u64 1650360006, vi .u64 3833967990, vi .u64 1834074693, vi .u64 1340159341, vi .u64 4066317367, vi .u64 808127085, vi .u64 3443147547, vi .u64 4019526067, vi .u64 2385773789, vi .u64 1363806329, vi .u64 991140642, vi .u64 34324134, vi .u64 2322058356, vi .u64 688016904, vi .u64 2161908945, vi .u64 3301335691, vi .u64 560513588, vi .u64 3373259426, vi .u64 4294967295, vi .u64 4294967295]) rfl rfl (by decide) rfl rfl rfl (by decide) rfl (by kernel_rfl) rfl rfl (fun x hx => cloM (f := vi .u64) (l := [4294967295, 4294967295, 2788832800, 4098638569, 1650360006, 3833967990, 1834074693, 1340159341, 4066317367, 808127085, 3443147547, 4019526067, 2385773789, 1363806329, 991140642, 34324134, 2322058356, 688016904, 2161908945, 3301335691, 560513588, 3373259426, 4294967295, 4294967295]) (fun _ => rfl) x hx) rfl rfl ?_
 rw [pg_deep]
 refine yA ?_
 refine zN (zE ?_)
 exact rq [] [.tmp 0]
theorem q04_ctr : GC Tryz.prog 108 [] [] [dd QG] [] := by
 refine gi Tryz.func108 ?_
 refine zS ?_
 refine yA ?_
 refine zN (zS ?_)
 refine yC (p04_ctr) bd97 [] [] ?_
 refine yA ?_
 refine zN (zS ?_)
 refine AWo.makeSliceC (n := 0) tbok 7000 ((List.replicate 0 0).map (vi .u64)) rfl rfl (by decide) rfl rfl (by decide) rfl rfl rfl rfl (by decide) (by decide) (by simp [vi]) rfl rfl rfl ?_
 refine yA ?_
 refine zN (zQ (zS ?_))
 refine yA ?_
 refine zN (zB ?_)
 refine AW.loopw (fun mm σ => ∃ i, (i ≤ 24) ∧ mm = 24 - i ∧ σ = ⟨(upd (upd (upd emp 1 (dd PG)) 2 (.slice (some ⟨77000, 0, none⟩) i 0)) 3 (vi .i64 i)), (upd emp 77000 ⟨((D 4294967296 QG).take i).map (vi .u64), true, 1⟩)⟩) (fm := [(77000, 7000)]) (wk [77000]) ⟨0, by omega, rfl, rfl⟩ ?_
 rintro mm σ ⟨i, hinv, rfl, rfl⟩
 refine zQ (zS ?_)
 refine yM ?_
 refine yP (pLt (b := 24)) ?_
 refine zN ?_
 refine zA (fun hb0 => ?_) (fun hb0 => ?_)
 ·
  have hi : i < 24 := by simpa using hb0
  refine zK (zT (zQ (zB (zS ?_))))
  refine yA ?_
  refine zN (zQ (zS ?_))
  refine yM ?_
  refine yP (pLt (b := 23)) ?_
  refine zN ?_
  refine zA (fun hb1 => ?_) (fun hb1 => ?_)
  ·
   have hi23 : i < 23 := by simpa using hb1
   refine zR ?_
   refine AWo.pureX 14000 (n := (D 4294967296 PG).length) (es := 1) (cells := (D 4294967296 PG).map (vi .u64)) (PureOp.move rfl) rfl rfl rfl ?_
   refine yM ?_
   refine yP (pAdd (b := 1)) ?_
   refine yP (PureOp.idx1 tbok (j := i + 1) rfl rfl rfl rfl (by rw [pg_len]; omega)) ?_
   refine AWo.loadM tbok 0 rfl rfl rfl (by rw [pg_len]; omega) rfl rfl ?_
   refine yP (PureOp.remN (a := (D 4294967296 PG).getD (i + 1) 0) (b := 2) rfl rfl (by omega)) ?_
   refine yA ?_
   refine zN (zT (zR ?_))
   refine yM ?_
   refine AWo.pureX 21000 (n := (D 4294967296 PG).length) (es := 1) (cells := (D 4294967296 PG).map (vi .u64)) (PureOp.move rfl) rfl rfl rfl ?_
   refine yM ?_
   refine yP (PureOp.idx1 tbok (j := i) rfl rfl rfl rfl (by rw [pg_len]; omega)) ?_
   refine AWo.loadM tbok 0 rfl rfl rfl (by rw [pg_len]; omega) rfl rfl ?_
   refine yP (PureOp.quoN (a := (D 4294967296 PG).getD i 0) (b := 2) 18446744073709551616 rfl rfl (by decide) (by decide) (by omega) (pg_lt _)) ?_
   refine yM ?_
   refine yP (PureOp.mulU (b := 2147483648) 18446744073709551616 rfl rfl rfl rfl) ?_
   refine yP ((PureOp.addU 18446744073709551616 rfl rfl rfl rfl).mono (v' := vi .u64 ((D 4294967296 QG).getD i 0)) (congrArg (vi .u64) (q_lo hi23))) ?_
   refine AWo.buildSlice tbok 29000 [(0, vi .u64 ((D 4294967296 QG).getD i 0))] (out := [vi .u64 ((D 4294967296 QG).getD i 0)]) rfl rfl (by decide) rfl rfl rfl (by decide) rfl rfl rfl rfl rfl ?_
   refine AWo.append tbok (all := ((D 4294967296 QG).take (i + 1)).map (vi .u64)) (news := [(D 4294967296 QG).getD i 0].map (vi .u64)) 30000 rfl rfl rfl rfl (by simp [qg_len]; omega) (by show List.take _ (List.drop 0 _) = _; rw [List.drop_zero]; exact List.take_of_length_le (by simp)) (by simp; done) (by decide) rfl rfl rfl (by decide) rfl rfl rfl (by omega) (by omega) (by exact oneM (fun _ => rfl) _) (by rw [← List.map_append, take_one (by rw [qg_len]; exact hi)]) rfl rfl ?_
   refine yA ?_
   refine zN (zL (zT (zR ?_)))
   refine yM ?_
   refine yP (pAdd (b := 1)) ?_
   refine yA ?_
   refine zN (zT ?_)
   exact ⟨24 - (i + 1), [(77000, 30000)], _, by omega, wk [77000], i + 1, by omega, rfl, rfl⟩
  ·
   have hi23 : ¬ i < 23 := by simpa using hb1
   refine zK (zT (zR ?_))
   refine yM ?_
   refine AWo.pureX 21000 (n := (D 4294967296 PG).length) (es := 1) (cells := (D 4294967296 PG).map (vi .u64)) (PureOp.move rfl) rfl rfl rfl ?_
   refine yM ?_
   refine yP (PureOp.idx1 tbok (j := i) rfl rfl rfl rfl (by rw [pg_len]; omega)) ?_
   refine AWo.loadM tbok 0 rfl rfl rfl (by rw [pg_len]; omega) rfl rfl ?_
   refine yP (PureOp.quoN (a := (D 4294967296 PG).getD i 0) (b := 2) 18446744073709551616 rfl rfl (by decide) (by decide) (by omega) (pg_lt _)) ?_
   refine yM ?_
   refine yP (PureOp.mulU (b := 2147483648) 18446744073709551616 rfl rfl rfl rfl) ?_
   refine yP ((PureOp.addU 18446744073709551616 rfl rfl rfl rfl).mono (v' := vi .u64 ((D 4294967296 QG).getD i 0)) (congrArg (vi .u64) (q_hi hi hi23))) ?_
   refine AWo.buildSlice tbok 29000 [(0, vi .u64 ((D 4294967296 QG).getD i 0))] (out := [vi .u64 ((D 4294967296 QG).getD i 0)]) rfl rfl (by decide) rfl rfl rfl (by decide) rfl rfl rfl rfl rfl ?_
   refine AWo.append tbok (all := ((D 4294967296 QG).take (i + 1)).map (vi .u64)) (news := [(D 4294967296 QG).getD i 0].map (vi .u64)) 30000 rfl rfl rfl rfl (by simp [qg_len]; omega) (by show List.take _ (List.drop 0 _) = _; rw [List.drop_zero]; exact List.take_of_length_le (by simp)) (by simp; done) (by decide) rfl rfl rfl (by decide) rfl rfl rfl (by omega) (by omega) (by exact oneM (fun _ => rfl) _) (by rw [← List.map_append, take_one (by rw [qg_len]; exact hi)]) rfl rfl ?_
   refine yA ?_
   refine zN (zL (zT (zR ?_)))
   refine yM ?_
   refine yP (pAdd (b := 1)) ?_
   refine yA ?_
   refine zN (zT ?_)
   exact ⟨24 - (i + 1), [(77000, 30000)], _, by omega, wk [77000], i + 1, by omega, rfl, rfl⟩
 ·
  obtain rfl : i = 24 := by simp at hb0; omega
  refine zX (zV (zV (zH (zT ?_))))
  rw [show (D 4294967296 QG).take 24 = D 4294967296 QG from List.take_of_length_le (by rw [qg_len]; decide)]
  rw [show (24 : Nat) = (D 4294967296 QG).length from qg_len.symm]
  refine AW.freeze 2 77000 ((D 4294967296 QG).map (vi .u64)) ?_ rfl rfl (cloM fun _ => rfl) (by simp) (by rw [List.drop_zero]; exact List.take_of_length_le (by simp))
  refine zS ?_
  refine yM ?_
  refine yA ?_
  refine zN (zE ?_)
  exact rq [] [.tmp 0]
theorem size4_ctr {g : Bool} : GC Tryz.prog 96 [.bool g] [] [dd (NG g)] [] := by
 cases g
 ·
  refine gi Tryz.func96 ?_
  refine zS ?_
  refine yA ?_
  refine zN (zQ (zS ?_))
  refine yM ?_
  refine zN (zF (zK (zT (zS ?_))))
  refine yC (q04_ctr) bd108 [] [] ?_
  refine yA ?_
  refine zN (zE ?_)
  exact rq [] [.tmp 2]
 ·
  refine gi Tryz.func96 ?_
  refine zS ?_
  refine yA ?_
  refine zN (zQ (zS ?_))
  refine yM ?_
  refine zN (zC (zS ?_))
  refine yC (p04_ctr) bd97 [] [] ?_
  refine yA ?_
  refine zN (zE (zU ?_))
  exact rq [] [.tmp 2]
end Go.Proofs.YtpahdiljpnfkdaaGreat
namespace Go.Proofs.YtpahdiljpnfkdaaGreat
open Go Sim
theorem rn_g (g : Bool) : RN (NG g) := by cases g; exact rn_q; exact rn_p
theorem deep_dd0 : deep 0 1 [] = dd 0 := rfl
def rdW (N : Nat) (b : List Nat) : Nat := if b.length = 96 ∧ num 256 b < N then num 256 b else 0
def rcW (N : Nat) (b : List Nat) : Int := if b.length = 96 then if num 256 b < N then 0 else 4 else 1
theorem num_rm {x : Nat} (h : x < 18446744073709551616 ^ 12) : (D 4294967296 x).length < 100000 := Nat.lt_of_le_of_lt (dlen24 (b24_w ▸ h)) (by decide)
theorem ng_rm (g : Bool) : (D 4294967296 (NG g)).length < 100000000 := Nat.lt_trans (num_rm (rn_g g).lt) (by decide)
theorem bytes_rm {b : List Nat} (hb : bd 256 b) (h : b.length = 96) : (D 4294967296 (num 256 b)).length < 100000000 := Nat.lt_trans (bytes_room hb (by omega)) (by decide)
theorem readW_ctr {N : Nat} {b : List Nat} (hN : RN N) (hb : bd 256 b) : GC Tryz.prog 91 [.pointer (some ⟨0, 0, none⟩), .slice (some ⟨4, 0, none⟩) b.length 0] [⟨[.pointer (some ⟨1, 0, none⟩)], false, 1⟩, ⟨[.slice (some ⟨2, 0, none⟩) 12 0, vi .u64 (ninvR ((digs 18446744073709551616 12 N).getD 0 0)), .slice (some ⟨3, 0, none⟩) 12 0], false, 1⟩, ⟨((digs 18446744073709551616 12 N)).map (vi .u64), false, 1⟩, ⟨((digs 18446744073709551616 12 (RR2 N))).map (vi .u64), false, 1⟩, ⟨b.map (vi .u8), false, 1⟩] [.agg ((digs 18446744073709551616 12 (rdW N b)).map (vi .u64)).toArray, .int .i64 (rcW N b)] [⟨[.pointer (some ⟨1, 0, none⟩)], false, 1⟩, ⟨[.slice (some ⟨2, 0, none⟩) 12 0, vi .u64 (ninvR ((digs 18446744073709551616 12 N).getD 0 0)), .slice (some ⟨3, 0, none⟩) 12 0], false, 1⟩, ⟨((digs 18446744073709551616 12 N)).map (vi .u64), false, 1⟩, ⟨((digs 18446744073709551616 12 (RR2 N))).map (vi .u64), false, 1⟩, ⟨b.map (vi .u8), false, 1⟩] := by
  unfold rdW rcW
  by_cases hl : b.length = 96
  · by_cases hc : num 256 b < N
    · rw [if_pos ⟨hl, hc⟩, if_pos hl, if_pos hc]; exact readO_ctr hN hb hl hc
    · rw [if_neg (fun h => hc h.2), if_pos hl, if_neg hc]; exact readC_ctr hN hb hl (Nat.le_of_not_lt hc)
  · rw [if_neg (fun h => hl h.1), if_neg hl]; exact readA_ctr hN hb hl
theorem rdA_ctr {g : Bool} {b : List Nat} (hl : b.length ≠ 96) : GC Tryz.prog 82 [.bool g, .slice (some ⟨0, 0, none⟩) b.length 0] [⟨b.map (vi .u8), false, 1⟩] [dd 0, .int .i64 1] [⟨b.map (vi .u8), false, 1⟩] := by
  refine GC.intro Tryz.func82 rfl (by show 2 ≤ 18; decide) (by first | exact Nat.le_refl _ | decide | simp) ?_
  refine AW.seqR ?_
  refine yP (PureOp.nilDeep 1) ?_
  rw [deep_dd0]
  refine AWo.pure (PureOp.assign rfl) rfl rfl ?_
  refine AWo.nil trivial ?_
  refine AW.seq ?_
  refine AW.seqR ?_
  refine AWo.pure (PureOp.move rfl) rfl rfl ?_
  first | refine AWo.pure (PureOp.lenS tbok rfl rfl) rfl rfl ?_ | refine AWo.pure (PureOp.lenD tbok rfl rfl) rfl rfl ?_
  first | refine AWo.pure (PureOp.neN (b := 96) rfl rfl) rfl rfl ?_ | refine AWo.pure (PureOp.bin rfl rfl rfl) rfl rfl ?_
  refine AWo.nil trivial ?_
  refine AW.cond rfl (fun hb0 => ?_) (fun hb0 => ?_)
  ·
    refine AW.seqR ?_
    refine yP (PureOp.nilDeep 1) ?_
    rw [deep_dd0]
    refine AWo.pure (PureOp.assign rfl) rfl rfl ?_
    refine AWo.nil trivial ?_
    refine AW.ret ?_
    refine thenA_ret ?_
    refine RetQ.gc [_, _] [] [.tmp 4, .tmp 5] (.inl rfl) rfl (.tmp rfl (.tmp rfl .nil)) rfl (.cons rfl rfl (.cons rfl rfl .nil)) (OutL.flat rfl (by first | exact flatM flat_vi | exact flatM flat_bool | (simp [flatV, flat_vi]; done)) (by intro h; first | rfl | exact h.elim id fun h => absurd h.1 (by simp)) trivial) (by decide) rfl
  ·
    exfalso
    simp at hb0; omega
theorem rdC_ctr {g : Bool} {b : List Nat} (hb : bd 256 b) (hl : b.length = 96) (hc : NG g ≤ num 256 b) : GC Tryz.prog 82 [.bool g, .slice (some ⟨0, 0, none⟩) b.length 0] [⟨b.map (vi .u8), false, 1⟩] [dd 0, .int .i64 4] [⟨b.map (vi .u8), false, 1⟩] := by
  refine GC.intro Tryz.func82 rfl (by show 2 ≤ 18; decide) (by first | exact Nat.le_refl _ | decide | simp) ?_
  refine AW.seqR ?_
  refine yP (PureOp.nilDeep 1) ?_
  rw [deep_dd0]
  refine AWo.pure (PureOp.assign rfl) rfl rfl ?_
  refine AWo.nil trivial ?_
  refine AW.seq ?_
  refine AW.seqR ?_
  refine AWo.pure (PureOp.move rfl) rfl rfl ?_
  first | refine AWo.pure (PureOp.lenS tbok rfl rfl) rfl rfl ?_ | refine AWo.pure (PureOp.lenD tbok rfl rfl) rfl rfl ?_
  first | refine AWo.pure (PureOp.neN (b := 96) rfl rfl) rfl rfl ?_ | refine AWo.pure (PureOp.bin rfl rfl rfl) rfl rfl ?_
  refine AWo.nil trivial ?_
  refine AW.cond rfl (fun hb0 => ?_) (fun hb0 => ?_)
  ·
    exfalso
    simp at hb0; omega
  ·
    refine AW.skip ?_
    refine thenA_normal ?_
    refine AW.seqR ?_
    refine AWo.pure (PureOp.move rfl) rfl rfl ?_
    refine AWo.callX (ofbN hb (by omega)) bd20 [(0, 0)] [] rfl (.cons rfl .nil) rfl (.cons rfl rfl .nil) (.flat rfl (by first | exact flatM flat_vi | exact flatM flat_bool | (simp [flatV, flat_vi]; done)) (by intro h; first | exact h | rfl) .nil) rfl (.keep rfl .nil) frN (by decide) (.cons rfl rfl .nil) rfl rfl rfl rfl ?_
    refine AWo.pure (PureOp.assign rfl) rfl rfl ?_
    refine AWo.nil trivial ?_
    refine AW.seq ?_
    refine AW.seqR ?_
    refine AWo.pure (PureOp.move rfl) rfl rfl ?_
    refine AWo.pure (PureOp.move rfl) rfl rfl ?_
    refine AWo.callX (size4_ctr (g := g)) bd96 [] [] rfl (.cons rfl .nil) rfl (.cons rfl rfl .nil) .nil rfl .nil frN (by decide) (.cons rfl rfl .nil) rfl rfl rfl rfl ?_
    refine AWo.callX (cmpd (x := num 256 b) (y := NG g) (bytes_rm hb hl) (ng_rm g)) bd70 [] [] rfl (.cons rfl (.cons rfl .nil)) rfl (.cons rfl rfl (.cons rfl rfl .nil)) .nil rfl .nil frN (by decide) (.cons rfl rfl .nil) rfl rfl rfl rfl ?_
    first | refine AWo.pure ((PureOp.geP rfl rfl).mono (v' := .bool true) (congrArg Value.bool (cmp_ge hc))) rfl rfl ?_ | refine AWo.pure ((PureOp.geN (b := 0) rfl rfl).mono (v' := .bool true) (congrArg Value.bool (cmp_ge hc))) rfl rfl ?_ | refine AWo.pure ((PureOp.bin rfl rfl rfl).mono (v' := .bool true) (congrArg Value.bool (cmp_ge hc))) rfl rfl ?_
    refine AWo.nil trivial ?_
    refine AW.condT rfl ?_
    refine AW.seqR ?_
    refine yP (PureOp.nilDeep 1) ?_
    rw [deep_dd0]
    refine AWo.pure (PureOp.assign rfl) rfl rfl ?_
    refine AWo.nil trivial ?_
    refine AW.ret ?_
    refine thenA_ret ?_
    refine RetQ.gc [_, _] [] [.tmp 4, .tmp 5] (.inl rfl) rfl (.tmp rfl (.tmp rfl .nil)) rfl (.cons rfl rfl (.cons rfl rfl .nil)) (OutL.flat rfl (by first | exact flatM flat_vi | exact flatM flat_bool | (simp [flatV, flat_vi]; done)) (by intro h; first | rfl | exact h.elim id fun h => absurd h.1 (by simp)) trivial) (by decide) rfl
theorem rdO_ctr {g : Bool} {b : List Nat} (hb : bd 256 b) (hl : b.length = 96) (hc : num 256 b < NG g) : GC Tryz.prog 82 [.bool g, .slice (some ⟨0, 0, none⟩) b.length 0] [⟨b.map (vi .u8), false, 1⟩] [dd (num 256 b), .int .i64 0] [⟨b.map (vi .u8), false, 1⟩] := by
  refine GC.intro Tryz.func82 rfl (by show 2 ≤ 18; decide) (by first | exact Nat.le_refl _ | decide | simp) ?_
  refine AW.seqR ?_
  refine yP (PureOp.nilDeep 1) ?_
  rw [deep_dd0]
  refine AWo.pure (PureOp.assign rfl) rfl rfl ?_
  refine AWo.nil trivial ?_
  refine AW.seq ?_
  refine AW.seqR ?_
  refine AWo.pure (PureOp.move rfl) rfl rfl ?_
  first | refine AWo.pure (PureOp.lenS tbok rfl rfl) rfl rfl ?_ | refine AWo.pure (PureOp.lenD tbok rfl rfl) rfl rfl ?_
  first | refine AWo.pure (PureOp.neN (b := 96) rfl rfl) rfl rfl ?_ | refine AWo.pure (PureOp.bin rfl rfl rfl) rfl rfl ?_
  refine AWo.nil trivial ?_
  refine AW.cond rfl (fun hb0 => ?_) (fun hb0 => ?_)
  ·
    exfalso
    simp at hb0; omega
  ·
    refine AW.skip ?_
    refine thenA_normal ?_
    refine AW.seqR ?_
    refine AWo.pure (PureOp.move rfl) rfl rfl ?_
    refine AWo.callX (ofbN hb (by omega)) bd20 [(0, 0)] [] rfl (.cons rfl .nil) rfl (.cons rfl rfl .nil) (.flat rfl (by first | exact flatM flat_vi | exact flatM flat_bool | (simp [flatV, flat_vi]; done)) (by intro h; first | exact h | rfl) .nil) rfl (.keep rfl .nil) frN (by decide) (.cons rfl rfl .nil) rfl rfl rfl rfl ?_
    refine AWo.pure (PureOp.assign rfl) rfl rfl ?_
    refine AWo.nil trivial ?_
    refine AW.seq ?_
    refine AW.seqR ?_
    refine AWo.pure (PureOp.move rfl) rfl rfl ?_
    refine AWo.pure (PureOp.move rfl) rfl rfl ?_
    refine AWo.callX (size4_ctr (g := g)) bd96 [] [] rfl (.cons rfl .nil) rfl (.cons rfl rfl .nil) .nil rfl .nil frN (by decide) (.cons rfl rfl .nil) rfl rfl rfl rfl ?_
    refine AWo.callX (cmpd (x := num 256 b) (y := NG g) (bytes_rm hb hl) (ng_rm g)) bd70 [] [] rfl (.cons rfl (.cons rfl .nil)) rfl (.cons rfl rfl (.cons rfl rfl .nil)) .nil rfl .nil frN (by decide) (.cons rfl rfl .nil) rfl rfl rfl rfl ?_
    first | refine AWo.pure ((PureOp.geP rfl rfl).mono (v' := .bool false) (congrArg Value.bool (cmp_lt hc))) rfl rfl ?_ | refine AWo.pure ((PureOp.geN (b := 0) rfl rfl).mono (v' := .bool false) (congrArg Value.bool (cmp_lt hc))) rfl rfl ?_ | refine AWo.pure ((PureOp.bin rfl rfl rfl).mono (v' := .bool false) (congrArg Value.bool (cmp_lt hc))) rfl rfl ?_
    refine AWo.nil trivial ?_
    refine AW.condF rfl ?_
    refine AW.skip ?_
    refine thenA_normal ?_
    refine AW.seqR ?_
    refine AWo.pure (PureOp.move rfl) rfl rfl ?_
    refine yA ?_
    refine AWo.pure (PureOp.assign rfl) rfl rfl ?_
    refine AWo.nil trivial ?_
    refine AW.ret ?_
    refine RetQ.gc [_, _] [] [.tmp 4, .tmp 5] (.inl rfl) rfl (.tmp rfl (.tmp rfl .nil)) rfl (.cons rfl rfl (.cons rfl rfl .nil)) (OutL.flat rfl (by first | exact flatM flat_vi | exact flatM flat_bool | (simp [flatV, flat_vi]; done)) (by intro h; first | rfl | exact h.elim id fun h => absurd h.1 (by simp)) trivial) (by decide) rfl
theorem read4_ctr {g : Bool} {b : List Nat} (hb : bd 256 b) : GC Tryz.prog 82 [.bool g, .slice (some ⟨0, 0, none⟩) b.length 0] [⟨b.map (vi .u8), false, 1⟩] [dd (rdW (NG g) b), .int .i64 (rcW (NG g) b)] [⟨b.map (vi .u8), false, 1⟩] := by
  unfold rdW rcW
  by_cases hl : b.length = 96
  · by_cases hc : num 256 b < NG g
    · rw [if_pos ⟨hl, hc⟩, if_pos hl, if_pos hc]; exact rdO_ctr hb hl hc
    · rw [if_neg (fun h => hc h.2), if_pos hl, if_neg hc]; exact rdC_ctr hb hl (Nat.le_of_not_lt hc)
  · rw [if_neg (fun h => hl h.1), if_neg hl]; exact rdA_ctr hl
end Go.Proofs.YtpahdiljpnfkdaaGreat
namespace Go.Proofs.YtpahdiljpnfkdaaGreat
open Go Sim
theorem digs_rg (v : Nat) : ∀ n, digs 4294967296 n v = (List.range n).map fun i => v / 4294967296 ^ i % 4294967296 := fun n => by
  refine List.ext_getElem (by simp [digs_len]) fun i h1 h2 => ?_
  have h3 := digs_getD (B := 4294967296) (by decide) (n := n) (v := v) (i := i) (by simpa [digs_len] using h1)
  rw [List.getD_eq_getElem?_getD, List.getElem?_eq_getElem h1] at h3
  simpa using h3
end Go.Proofs.YtpahdiljpnfkdaaGreat
namespace Go.Proofs.YtpahdiljpnfkdaaGreat
open Go Sim
theorem bS56 {E : Env} {v : Operand} {x : Nat} (h : aev E v = some (.agg ((digs 18446744073709551616 12 x).map (vi .u64)).toArray)) : PureOp Tryz.prog (.build 121 #[(0, v)]) E (.agg ((digs 18446744073709551616 12 x).map (vi .u64)).toArray) :=
 PureOp.buildStruct [(0, .agg ((digs 18446744073709551616 12 x).map (vi .u64)).toArray)] pl121.choose_spec.1 zr121 (by decide) pl121.choose_spec.2 (by simp [h]) rfl
theorem d12_inj {a b : Nat} (ha : a < 18446744073709551616 ^ 12) (hb : b < 18446744073709551616 ^ 12) (h : digs 18446744073709551616 12 a = digs 18446744073709551616 12 b) : a = b := by
 have := congrArg (num 18446744073709551616) h
 rwa [num_digs_lt ha, num_digs_lt hb] at this
theorem pow_lt (a k : Nat) : a ^ k % PG < 18446744073709551616 ^ 12 := Nat.lt_trans (Nat.mod_lt _ (by decide +kernel)) rn_p.lt
theorem gOne_ctr  : GC Tryz.prog 95 [] [] [.agg ((digs 18446744073709551616 12 1).map (vi .u64)).toArray] [] := by
 refine gi Tryz.func95 ?_
 refine zS ?_
 refine yN 1000 1 _ ?_
 refine zN (zS ?_)
 refine yP ((PureOp.buildArr tbok [(0, .int .u64 1)] rfl rfl rfl (by decide) rfl rfl).mono (v' := .agg ((digs 18446744073709551616 12 1).map (vi .u64)).toArray) (by kernel_rfl)) ?_
 refine yP (bS56 (x := 1) rfl) ?_
 refine AWo.storeAllN tbok rfl rfl rfl rfl (by rw [List.length_map, digs_len]) (by rfl) (oneM (fun _ => rfl) _) rfl ?_
 refine zN (zE ?_)
 exact rq [] [.cell 0 121]
theorem rd96_ctr {N x : Nat} {b : List Nat} (hb : bd 256 b) (hl : b.length = 96) (hx : num 256 b = x) (hx2 : x < PG) (hN : N = PG) : GC Tryz.prog 91 [.pointer (some ⟨0, 0, none⟩), .slice (some ⟨4, 0, none⟩) 96 0] [⟨[.pointer (some ⟨1, 0, none⟩)], false, 1⟩, ⟨[.slice (some ⟨2, 0, none⟩) 12 0, vi .u64 (ninvR ((digs 18446744073709551616 12 N).getD 0 0)), .slice (some ⟨3, 0, none⟩) 12 0], false, 1⟩, ⟨((digs 18446744073709551616 12 N)).map (vi .u64), false, 1⟩, ⟨((digs 18446744073709551616 12 (RR2 N))).map (vi .u64), false, 1⟩, ⟨b.map (vi .u8), false, 1⟩] [.agg ((digs 18446744073709551616 12 x).map (vi .u64)).toArray, .int .i64 0] [⟨[.pointer (some ⟨1, 0, none⟩)], false, 1⟩, ⟨[.slice (some ⟨2, 0, none⟩) 12 0, vi .u64 (ninvR ((digs 18446744073709551616 12 N).getD 0 0)), .slice (some ⟨3, 0, none⟩) 12 0], false, 1⟩, ⟨((digs 18446744073709551616 12 N)).map (vi .u64), false, 1⟩, ⟨((digs 18446744073709551616 12 (RR2 N))).map (vi .u64), false, 1⟩, ⟨b.map (vi .u8), false, 1⟩] := by
 subst hx hN
 have h := readO_ctr rn_p hb hl hx2
 rw [hl] at h
 exact h
theorem gRdO_ctr {b : List Nat} {x : Nat} (hb : bd 256 b) (hl : b.length = 96) (hx : num 256 b = x) (hx2 : x < PG) (hm : x ^ QG % PG = 1) : GC Tryz.prog 79 [.slice (some ⟨0, 0, none⟩) 96 0] [⟨b.map (vi .u8), false, 1⟩] [.agg ((digs 18446744073709551616 12 x).map (vi .u64)).toArray, .int .i64 0] [⟨b.map (vi .u8), false, 1⟩] := by
 refine gi Tryz.func79 ?_
 refine zS ?_
 refine yN 3000 1 _ ?_
 refine yA ?_
 refine zN (zS ?_)
 refine yC (groupW_ctr) bd90 [] [8000, 8001, 8002, 8003] ?_
 refine yA ?_
 refine zN (zS ?_)
 refine yM ?_
 refine yM ?_
 refine yC (rd96_ctr (N := PG) hb hl hx hx2 rfl) bd91 [(8000, 0), (8001, 0), (8002, 0), (8003, 0), (0, 0)] [] ?_
 refine yM ?_
 refine yP pX ?_
 refine yP pX ?_
 refine yN 6000 1 ((List.replicate 12 0).map (vi .u64)) ?_
 refine AWo.storeAllN tbok rfl rfl rfl rfl (by rw [List.length_map, digs_len]) (by rfl) (oneM (fun _ => rfl) _) rfl ?_
 refine yA ?_
 refine zN (zQ (zB (zS ?_)))
 refine yM ?_
 refine yP ((PureOp.neN (b := 0) rfl rfl).mono (v' := .bool false) (congrArg Value.bool (by rfl))) ?_
 refine yA ?_
 refine zN (zF ?_)
 refine AW.seqD mixed ?_
 refine yM ?_
 refine AWo.loadAll tbok rfl rfl rfl rfl (by show ((digs 18446744073709551616 12 (x)).map (vi .u64)).length = 12; rw [List.length_map, digs_len]) rfl rfl ?_
 refine yC (expoW_ctr) bd93 [] [23000, 23001, 23002, 23003] ?_
 refine yC (sizeW_ctr rn_q) bd94 [(23000, 0), (23001, 0), (23002, 0), (23003, 0)] [] ?_
 refine yC (expW_ctr (N := PG) (a := x) (b := QG) rn_p (Nat.lt_trans hx2 rn_p.lt) rn_q.lt) bd92 [(8000, 0), (8001, 0), (8002, 0), (8003, 0)] [] ?_
 refine yC (gOne_ctr) bd95 [] [] ?_
 refine yP (PureOp.fldV tbok rfl rfl rfl rfl (List.take_of_length_le (by rw [List.length_drop, List.length_map, digs_len]; decide))) ?_
 refine yP ((PureOp.neArr rfl rfl Tryz.eqGuardType119 Tryz.underlying119 Tryz.underlying39 (tbok.sz 39 _ rfl) (by kernel_rfl) (digs_len _ _) (digs_len _ _)).mono (v' := .bool false) (congrArg Value.bool (by rw [decide_eq_true (congrArg (digs 18446744073709551616 12) hm)]; rfl))) ?_
 refine yA ?_
 refine zD (zF (zK (zL (zT (zS ?_)))))
 refine AWo.loadAll tbok rfl rfl rfl rfl (by show ((digs 18446744073709551616 12 (x)).map (vi .u64)).length = 12; rw [List.length_map, digs_len]) rfl rfl ?_
 refine yP (bS56 (x := x) rfl) ?_
 refine AWo.storeAllN tbok rfl rfl rfl rfl (by rw [List.length_map, digs_len]) (by rfl) (oneM (fun _ => rfl) _) rfl ?_
 refine yA ?_
 refine zN (zE ?_)
 exact rq [] [.cell 2 121, .tmp 3]
theorem gRdN_ctr {b : List Nat} {x : Nat} (hb : bd 256 b) (hl : b.length = 96) (hx : num 256 b = x) (hx2 : x < PG) (hm : ¬ x ^ QG % PG = 1) : GC Tryz.prog 79 [.slice (some ⟨0, 0, none⟩) 96 0] [⟨b.map (vi .u8), false, 1⟩] [.agg ((digs 18446744073709551616 12 0).map (vi .u64)).toArray, .int .i64 4] [⟨b.map (vi .u8), false, 1⟩] := by
 refine gi Tryz.func79 ?_
 refine zS ?_
 refine yN 3000 1 _ ?_
 refine yA ?_
 refine zN (zS ?_)
 refine yC (groupW_ctr) bd90 [] [8000, 8001, 8002, 8003] ?_
 refine yA ?_
 refine zN (zS ?_)
 refine yM ?_
 refine yM ?_
 refine yC (rd96_ctr (N := PG) hb hl hx hx2 rfl) bd91 [(8000, 0), (8001, 0), (8002, 0), (8003, 0), (0, 0)] [] ?_
 refine yM ?_
 refine yP pX ?_
 refine yP pX ?_
 refine yN 6000 1 ((List.replicate 12 0).map (vi .u64)) ?_
 refine AWo.storeAllN tbok rfl rfl rfl rfl (by rw [List.length_map, digs_len]) (by rfl) (oneM (fun _ => rfl) _) rfl ?_
 refine yA ?_
 refine zN (zQ (zB (zS ?_)))
 refine yM ?_
 refine yP ((PureOp.neN (b := 0) rfl rfl).mono (v' := .bool false) (congrArg Value.bool (by rfl))) ?_
 refine yA ?_
 refine zN (zF ?_)
 refine AW.seqD mixed ?_
 refine yM ?_
 refine AWo.loadAll tbok rfl rfl rfl rfl (by show ((digs 18446744073709551616 12 (x)).map (vi .u64)).length = 12; rw [List.length_map, digs_len]) rfl rfl ?_
 refine yC (expoW_ctr) bd93 [] [23000, 23001, 23002, 23003] ?_
 refine yC (sizeW_ctr rn_q) bd94 [(23000, 0), (23001, 0), (23002, 0), (23003, 0)] [] ?_
 refine yC (expW_ctr (N := PG) (a := x) (b := QG) rn_p (Nat.lt_trans hx2 rn_p.lt) rn_q.lt) bd92 [(8000, 0), (8001, 0), (8002, 0), (8003, 0)] [] ?_
 refine yC (gOne_ctr) bd95 [] [] ?_
 refine yP (PureOp.fldV tbok rfl rfl rfl rfl (List.take_of_length_le (by rw [List.length_drop, List.length_map, digs_len]; decide))) ?_
 refine yP ((PureOp.neArr rfl rfl Tryz.eqGuardType119 Tryz.underlying119 Tryz.underlying39 (tbok.sz 39 _ rfl) (by kernel_rfl) (digs_len _ _) (digs_len _ _)).mono (v' := .bool true) (congrArg Value.bool (by rw [decide_eq_false (fun h => hm (d12_inj (pow_lt _ _) (by decide +kernel) h))]; rfl))) ?_
 refine yA ?_
 refine zD (zC (zS ?_))
 refine yP ((PureOp.buildStruct [] pl121.choose_spec.1 zr121 (by decide) pl121.choose_spec.2 rfl rfl).mono (v' := .agg ((digs 18446744073709551616 12 0).map (vi .u64)).toArray) (by kernel_rfl)) ?_
 refine AWo.storeAllN tbok rfl rfl rfl rfl (by rw [List.length_map, digs_len]) (by rfl) (oneM (fun _ => rfl) _) rfl ?_
 refine yA ?_
 refine zN (zE (zI (zU ?_)))
 exact rq [] [.cell 2 121, .tmp 3]
end Go.Proofs.YtpahdiljpnfkdaaGreat
namespace Go.Proofs.YtpahdiljpnfkdaaGreat
structure T6 (n : Nat) where
  a0 : Fin n
  a1 : Fin n
  a2 : Fin n
  a3 : Fin n
  a4 : Fin n
  a5 : Fin n
namespace T6
def add {n : Nat} (x y : T6 n) : T6 n := ⟨x.a0 + y.a0, x.a1 + y.a1, x.a2 + y.a2, x.a3 + y.a3, x.a4 + y.a4, x.a5 + y.a5⟩
def neg {n : Nat} (x : T6 n) : T6 n := ⟨-x.a0, -x.a1, -x.a2, -x.a3, -x.a4, -x.a5⟩
instance {n : Nat} : Add (T6 n) := ⟨add⟩
instance {n : Nat} : Neg (T6 n) := ⟨neg⟩
theorem add_def {n : Nat} (x y : T6 n) : x + y = add x y := rfl
theorem neg_def {n : Nat} (x : T6 n) : -x = neg x := rfl
variable {n : Nat} [NeZero n]
def mul (x y : T6 n) : T6 n :=
  ⟨x.a0 * y.a0 + 8 * (x.a1 * y.a5 + x.a2 * y.a4 + x.a3 * y.a3 + x.a4 * y.a2 + x.a5 * y.a1),
   x.a0 * y.a1 + x.a1 * y.a0 + 8 * (x.a2 * y.a5 + x.a3 * y.a4 + x.a4 * y.a3 + x.a5 * y.a2) + (x.a1 * y.a5 + x.a2 * y.a4 + x.a3 * y.a3 + x.a4 * y.a2 + x.a5 * y.a1),
   x.a0 * y.a2 + x.a1 * y.a1 + x.a2 * y.a0 + 8 * (x.a3 * y.a5 + x.a4 * y.a4 + x.a5 * y.a3) + (x.a2 * y.a5 + x.a3 * y.a4 + x.a4 * y.a3 + x.a5 * y.a2),
   x.a0 * y.a3 + x.a1 * y.a2 + x.a2 * y.a1 + x.a3 * y.a0 + 8 * (x.a4 * y.a5 + x.a5 * y.a4) + (x.a3 * y.a5 + x.a4 * y.a4 + x.a5 * y.a3),
   x.a0 * y.a4 + x.a1 * y.a3 + x.a2 * y.a2 + x.a3 * y.a1 + x.a4 * y.a0 + 8 * (x.a5 * y.a5) + (x.a4 * y.a5 + x.a5 * y.a4),
   x.a0 * y.a5 + x.a1 * y.a4 + x.a2 * y.a3 + x.a3 * y.a2 + x.a4 * y.a1 + x.a5 * y.a0 + x.a5 * y.a5⟩
def nc (k : Nat) : T6 n := ⟨Fin.ofNat n k, 0, 0, 0, 0, 0⟩
instance : Mul (T6 n) := ⟨mul⟩
theorem mul_def (x y : T6 n) : x * y = mul x y := rfl
theorem add_comm (x y : T6 n) : x + y = y + x := by
  rw [add_def, add_def, add, add]; congr 1 <;> grind
theorem add_assoc (x y z : T6 n) : x + y + z = x + (y + z) := by
  simp only [add_def, add]; congr 1 <;> grind
theorem mul_comm (x y : T6 n) : x * y = y * x := by
  rw [mul_def, mul_def, mul, mul]; congr 1 <;> grind
theorem mul_add (x y z : T6 n) : x * (y + z) = x * y + x * z := by
  simp only [add_def, mul_def, add, mul]; congr 1 <;> grind
theorem mul_assoc (x y z : T6 n) : x * y * z = x * (y * z) := by
  simp only [mul_def, mul]; congr 1 <;> grind
theorem one_mul (x : T6 n) : nc 1 * x = x := by
  obtain ⟨x0, x1, x2, x3, x4, x5⟩ := x
  simp only [mul_def, mul, nc, show Fin.ofNat n 1 = 1 from rfl]; congr 1 <;> grind
theorem zero_add (x : T6 n) : nc 0 + x = x := by
  obtain ⟨x0, x1, x2, x3, x4, x5⟩ := x
  simp only [add_def, add, nc, show Fin.ofNat n 0 = 0 from rfl]; congr 1 <;> grind
theorem neg_add (x : T6 n) : -x + x = nc 0 := by
  simp only [add_def, add, neg_def, neg, nc, show Fin.ofNat n 0 = 0 from rfl]; congr 1 <;> grind
theorem nc_add (a b : Nat) : (nc (a + b) : T6 n) = nc a + nc b := by
  simp only [add_def, add, nc]
  rw [show Fin.ofNat n (a + b) = Fin.ofNat n a + Fin.ofNat n b from Fin.ext (by simp [Fin.ofNat, Fin.val_add])]
  congr 1 <;> grind
theorem nc_mul (a b : Nat) : (nc (a * b) : T6 n) = nc a * nc b := by
  simp only [mul_def, mul, nc]
  rw [show Fin.ofNat n (a * b) = Fin.ofNat n a * Fin.ofNat n b from Fin.ext (by simp [Fin.ofNat, Fin.val_mul, Nat.mul_mod])]
  congr 1 <;> grind
end T6
end Go.Proofs.YtpahdiljpnfkdaaGreat
namespace Go.Proofs.YtpahdiljpnfkdaaGreat
namespace T6
variable {n : Nat} [NeZero n]
theorem mul_one (x : T6 n) : x * nc 1 = x := by rw [mul_comm, one_mul]
theorem add_zero (x : T6 n) : x + nc 0 = x := by rw [add_comm, zero_add]
theorem add_neg (x : T6 n) : x + -x = nc 0 := by rw [add_comm, neg_add]
theorem add_mul (x y z : T6 n) : (x + y) * z = x * z + y * z := by rw [mul_comm, mul_add, mul_comm z, mul_comm z]
theorem mul_left_comm (x y z : T6 n) : x * (y * z) = y * (x * z) := by rw [← mul_assoc, mul_comm x y, mul_assoc]
theorem add_left_comm (x y z : T6 n) : x + (y + z) = y + (x + z) := by rw [← add_assoc, add_comm x y, add_assoc]
theorem zero_mul (x : T6 n) : nc 0 * x = nc 0 := by
  have h : nc 0 * x + nc 0 * x = nc 0 * x := by rw [← add_mul, zero_add]
  have h2 := congrArg (· + -(nc 0 * x)) h
  simp only [add_assoc, add_neg, add_zero] at h2
  exact h2
theorem mul_zero (x : T6 n) : x * nc 0 = nc 0 := by rw [mul_comm, zero_mul]
theorem eq_neg {x y : T6 n} (h : x + y = nc 0) : x = -y := by
  have h2 := congrArg (· + -y) h
  simp only [add_assoc, add_neg, add_zero, zero_add] at h2
  exact h2
theorem mul_neg (x y : T6 n) : x * -y = -(x * y) := eq_neg (by rw [← mul_add, neg_add, mul_zero])
def pw (x : T6 n) : Nat → T6 n
  | 0 => nc 1
  | k + 1 => pw x k * x
theorem pw_zero (x : T6 n) : pw x 0 = nc 1 := rfl
theorem pw_succ (x : T6 n) (k : Nat) : pw x (k + 1) = pw x k * x := rfl
theorem pw_one (x : T6 n) : pw x 1 = x := by rw [pw_succ, pw_zero, one_mul]
theorem pw_add (x : T6 n) (a : Nat) : ∀ b, pw x (a + b) = pw x a * pw x b
  | 0 => by rw [pw_zero, mul_one]; rfl
  | b + 1 => by rw [← Nat.add_assoc, pw_succ, pw_succ, pw_add x a b, mul_assoc]
theorem pw_mul (x : T6 n) (a : Nat) : ∀ b, pw x (a * b) = pw (pw x a) b
  | 0 => rfl
  | b + 1 => by rw [Nat.mul_succ, pw_add, pw_mul x a b, pw_succ]
theorem one_pw : ∀ k, pw (nc 1 : T6 n) k = nc 1
  | 0 => rfl
  | k + 1 => by rw [pw_succ, one_pw k, one_mul]
theorem mul_pw (x y : T6 n) : ∀ k, pw (x * y) k = pw x k * pw y k
  | 0 => by rw [pw_zero, pw_zero, pw_zero, one_mul]
  | k + 1 => by rw [pw_succ, pw_succ, pw_succ, mul_pw x y k, mul_assoc, mul_assoc, mul_left_comm x]
theorem zero_pw {k : Nat} (h : 0 < k) : pw (nc 0 : T6 n) k = nc 0 := by
  cases k with
  | zero => omega
  | succ k => rw [pw_succ, mul_zero]
theorem nc_pow (c : Nat) : ∀ k, (nc (c ^ k) : T6 n) = pw (nc c) k
  | 0 => rfl
  | k + 1 => by rw [Nat.pow_succ, nc_mul, nc_pow c k, pw_succ]
def Cg (z x y : T6 n) : Prop := ∃ t, x = y + z * t
theorem Cg.refl {z : T6 n} (x : T6 n) : Cg z x x := ⟨nc 0, by rw [mul_zero, add_zero]⟩
theorem Cg.symm {z x y : T6 n} : Cg z x y → Cg z y x := fun ⟨t, h⟩ => ⟨-t, by rw [h, mul_neg, add_assoc, add_neg, add_zero]⟩
theorem Cg.trans {z x y w : T6 n} : Cg z x y → Cg z y w → Cg z x w := fun ⟨t, h⟩ ⟨u, g⟩ => ⟨u + t, by rw [h, g, mul_add, add_assoc]⟩
theorem Cg.add {z x y x' y' : T6 n} : Cg z x y → Cg z x' y' → Cg z (x + x') (y + y') := fun ⟨t, h⟩ ⟨u, g⟩ =>
  ⟨t + u, by rw [h, g, mul_add, add_assoc, add_assoc, add_left_comm (z * t)]⟩
theorem Cg.mulr {z x y : T6 n} (w : T6 n) : Cg z x y → Cg z (x * w) (y * w) := fun ⟨t, h⟩ => ⟨t * w, by rw [h, add_mul, mul_assoc]⟩
theorem Cg.mull {z x y : T6 n} (w : T6 n) (h : Cg z x y) : Cg z (w * x) (w * y) := by rw [mul_comm w, mul_comm w]; exact h.mulr w
theorem Cg.mul {z x y x' y' : T6 n} (h : Cg z x y) (g : Cg z x' y') : Cg z (x * x') (y * y') := (h.mulr x').trans (g.mull y)
theorem Cg.pw {z x y : T6 n} (h : Cg z x y) : ∀ k, Cg z (pw x k) (pw y k)
  | 0 => .refl _
  | k + 1 => (h.pw k).mul h
def ch : Nat → Nat → Nat
  | _, 0 => 1
  | 0, _ + 1 => 0
  | m + 1, k + 1 => ch m k + ch m (k + 1)
theorem ch_zero (m : Nat) : ch m 0 = 1 := by cases m <;> rfl
theorem ch_gt : ∀ {m k : Nat}, m < k → ch m k = 0
  | 0, k + 1, _ => rfl
  | m + 1, 0, h => by omega
  | m + 1, k + 1, h => by rw [ch, ch_gt (by omega), ch_gt (by omega)]
theorem ch_self : ∀ m, ch m m = 1
  | 0 => rfl
  | m + 1 => by rw [ch, ch_self m, ch_gt (by omega)]
theorem ch_mul : ∀ (m k : Nat), (k + 1) * ch (m + 1) (k + 1) = (m + 1) * ch m k
  | 0, 0 => rfl
  | 0, k + 1 => by rw [ch_gt (by omega), ch_gt (by omega)]; omega
  | m + 1, 0 => by
    have := ch_mul m 0
    rw [ch_zero] at this
    rw [show ch (m + 1 + 1) (0 + 1) = ch (m + 1) 0 + ch (m + 1) (0 + 1) from rfl, ch_zero]
    omega
  | m + 1, k + 1 => by
    have h1 := ch_mul m k
    have h2 := ch_mul m (k + 1)
    rw [ch, Nat.mul_add]
    have h3 : (k + 1 + 1) * ch (m + 1) (k + 1) = (m + 1) * ch m k + ch (m + 1) (k + 1) := by rw [Nat.succ_mul, h1]
    rw [h2, h3, show ch (m + 1) (k + 1) = ch m k + ch m (k + 1) from rfl]
    simp only [Nat.succ_mul, Nat.mul_add]
    omega
theorem ch_dvd {r k : Nat} (hr : Irr r) (h0 : 0 < k) (h1 : k < r) : r ∣ ch r k := by
  obtain ⟨k, rfl⟩ := Nat.exists_eq_succ_of_ne_zero (show k ≠ 0 by omega)
  obtain ⟨m, rfl⟩ := Nat.exists_eq_succ_of_ne_zero (show r ≠ 0 by omega)
  have h := ch_mul m k
  rcases hr.euclid ⟨ch m k, h⟩ with h2 | h2
  · have := Nat.le_of_dvd (by omega) h2; omega
  · exact h2
def sm (f : Nat → T6 n) : Nat → T6 n
  | 0 => nc 0
  | k + 1 => sm f k + f k
theorem sm_mul (f : Nat → T6 n) (z : T6 n) : ∀ k, sm f k * z = sm (fun i => f i * z) k
  | 0 => zero_mul z
  | k + 1 => by rw [sm, add_mul, sm_mul f z k]; rfl
theorem sm_add (f g : Nat → T6 n) : ∀ k, sm f k + sm g k = sm (fun i => f i + g i) k
  | 0 => by rw [sm, sm, sm, add_zero]
  | k + 1 => by
    rw [sm, sm, sm, ← sm_add f g k, add_assoc, add_assoc, add_left_comm (f k)]
theorem sm_shift (f : Nat → T6 n) : ∀ k, sm f (k + 1) = f 0 + sm (fun i => f (i + 1)) k
  | 0 => by rw [sm, sm, sm, add_comm]
  | k + 1 => by rw [sm, sm_shift f k, sm, add_assoc]
theorem sm_congr {f g : Nat → T6 n} : ∀ {k}, (∀ i, i < k → f i = g i) → sm f k = sm g k
  | 0, _ => rfl
  | k + 1, h => by rw [sm, sm, sm_congr fun i hi => h i (by omega), h k (by omega)]
theorem sm_dvd {f : Nat → T6 n} {z : T6 n} : ∀ {k}, (∀ i, i < k → ∃ t, f i = z * t) → ∃ t, sm f k = z * t
  | 0, _ => ⟨nc 0, by rw [mul_zero]; rfl⟩
  | k + 1, h => by
    obtain ⟨t, ht⟩ := sm_dvd (k := k) fun i hi => h i (by omega)
    obtain ⟨u, hu⟩ := h k (by omega)
    exact ⟨t + u, by rw [sm, ht, hu, mul_add]⟩
theorem binom (x y : T6 n) : ∀ m, pw (x + y) m = sm (fun k => nc (ch m k) * (pw x k * pw y (m - k))) (m + 1)
  | 0 => by
    rw [sm, sm, zero_add, ch_zero, pw_zero, Nat.sub_zero, pw_zero, one_mul, one_mul]
    rfl
  | m + 1 => by
    rw [pw_succ, mul_add, binom x y m, sm_mul, sm_mul, sm_shift (k := m + 1)]
    have e1 : sm (fun k => nc (ch (m + 1) (k + 1)) * (pw x (k + 1) * pw y (m + 1 - (k + 1)))) (m + 1)
        = sm (fun k => nc (ch m k) * (pw x k * pw y (m - k)) * x) (m + 1) + sm (fun k => nc (ch m (k + 1)) * (pw x (k + 1) * pw y (m - k))) (m + 1) := by
      rw [sm_add]
      refine sm_congr fun i hi => ?_
      rw [ch, nc_add, add_mul, show m + 1 - (i + 1) = m - i by omega]
      congr 1
      rw [pw_succ, mul_assoc, mul_assoc, mul_assoc, mul_comm x]
    have e2 : sm (fun k => nc (ch m (k + 1)) * (pw x (k + 1) * pw y (m - k))) (m + 1) = sm (fun k => nc (ch m (k + 1)) * (pw x (k + 1) * pw y (m - k))) m := by
      rw [sm, ch_gt (show m < m + 1 by omega), zero_mul, add_zero]
    have e3 : sm (fun k => nc (ch m k) * (pw x k * pw y (m - k)) * y) (m + 1) = pw y (m + 1) + sm (fun k => nc (ch m (k + 1)) * (pw x (k + 1) * pw y (m - k))) m := by
      rw [sm_shift, ch_zero, one_mul, pw_zero, one_mul, Nat.sub_zero, pw_succ]
      congr 1
      refine sm_congr fun i hi => ?_
      rw [mul_assoc, mul_assoc, ← pw_succ, show m - (i + 1) + 1 = m - i by omega]
    rw [e1, e2, e3, ch_zero, one_mul, pw_zero, one_mul, Nat.sub_zero, add_left_comm]
theorem frob {r : Nat} (hr : Irr r) (x y : T6 n) : Cg (nc r) (pw (x + y) r) (pw x r + pw y r) := by
  have h2 := hr.1
  obtain ⟨m, rfl⟩ := Nat.exists_eq_succ_of_ne_zero (show r ≠ 0 by omega)
  obtain ⟨t, ht⟩ := sm_dvd (f := fun k => nc (ch (m + 1) (k + 1)) * (pw x (k + 1) * pw y (m + 1 - (k + 1)))) (z := nc (m + 1)) (k := m) fun i hi => by
    obtain ⟨c, hc⟩ := ch_dvd hr (show 0 < i + 1 by omega) (by omega)
    exact ⟨nc c * (pw x (i + 1) * pw y (m + 1 - (i + 1))), by rw [hc, nc_mul, mul_assoc]⟩
  refine ⟨t, ?_⟩
  rw [Nat.succ_eq_add_one, binom, sm, sm_shift, ht, ch_zero, ch_self, one_mul, one_mul, pw_zero, one_mul, Nat.sub_zero, Nat.sub_self, pw_zero, mul_one, add_comm (pw y (m + 1)), add_assoc, add_comm (pw y (m + 1)), add_comm]
theorem fermat_nc {r c : Nat} (hr : Irr r) : Cg (nc r) (pw (nc c : T6 n) r) (nc c) := by
  have h2 := hr.1
  rw [← nc_pow]
  have h : c ^ r % r = c % r := by
    by_cases hd : r ∣ c
    · rw [Nat.mod_eq_zero_of_dvd hd, Nat.mod_eq_zero_of_dvd (Nat.dvd_trans hd ⟨c ^ (r - 1), by rw [← Nat.pow_succ', show (r - 1).succ = r by omega]⟩)]
    · have h1 := fermat hr hd
      rw [show r = r - 1 + 1 by omega, Nat.pow_succ, show r - 1 + 1 = r by omega, Nat.mul_mod, h1, ← Nat.mul_mod, Nat.one_mul]
  have hle : c ≤ c ^ r := by
    rcases Nat.eq_zero_or_pos c with h0 | h0
    · omega
    · exact Nat.le_self_pow (by omega) c
  obtain ⟨m, hm⟩ := dvd_sub_of_mod h.symm
  exact ⟨nc m, by rw [← nc_mul, ← nc_add]; congr 1; omega⟩
def ev : List Nat → T6 n → T6 n
  | [], _ => nc 0
  | c :: cs, x => nc c + x * ev cs x
theorem ev_frob {r : Nat} (hr : Irr r) (x : T6 n) : ∀ cs : List Nat, Cg (nc r) (pw (ev cs x) r) (ev cs (pw x r))
  | [] => by rw [ev, ev, zero_pw hr.pos]; exact .refl _
  | c :: cs => by
    refine (frob hr _ _).trans (Cg.add (fermat_nc hr) ?_)
    rw [mul_pw]
    exact (ev_frob hr x cs).mull _
def evT : List (T6 n) → T6 n → T6 n
  | [], _ => nc 0
  | c :: cs, x => c + x * evT cs x
def addH (c : T6 n) : List (T6 n) → List (T6 n)
  | [] => [c]
  | d :: ds => (c + d) :: ds
def mulLin (b : T6 n) : List (T6 n) → List (T6 n)
  | [] => []
  | c :: cs => (b * c) :: addH c (mulLin b cs)
def mulLins : List (T6 n) → List (T6 n) → List (T6 n)
  | [], cs => cs
  | b :: bs, cs => mulLins bs (mulLin b cs)
theorem evT_addH (c x : T6 n) : ∀ l, evT (addH c l) x = c + evT l x
  | [] => by simp only [addH, evT, mul_zero]
  | d :: ds => by rw [addH, evT, evT, add_assoc]
theorem evT_mulLin (b x : T6 n) : ∀ cs, evT (mulLin b cs) x = (x + b) * evT cs x
  | [] => by rw [mulLin, evT, mul_zero]
  | c :: cs => by
    rw [mulLin, evT, evT_addH, evT_mulLin b x cs, evT, mul_add x c, mul_left_comm x (x + b), mul_add (x + b), add_mul x b c, add_comm (x * c) (b * c), add_assoc]
def prodT : List (T6 n) → T6 n
  | [] => nc 1
  | b :: bs => b * prodT bs
theorem evT_mulLins (x : T6 n) : ∀ (bs cs : List (T6 n)), evT (mulLins bs cs) x = prodT (bs.map fun b => x + b) * evT cs x
  | [], cs => by rw [mulLins, List.map_nil, prodT, one_mul]
  | b :: bs, cs => by rw [mulLins, evT_mulLins x bs, evT_mulLin, List.map_cons, prodT, mul_comm (x + b) (prodT _), mul_assoc]
theorem evT_nc (x : T6 n) : ∀ cs : List Nat, evT (cs.map nc) x = ev cs x
  | [] => rfl
  | c :: cs => by rw [List.map_cons, evT, ev, evT_nc x cs]
theorem prodT_zero : ∀ {l : List (T6 n)}, nc 0 ∈ l → prodT l = nc 0
  | b :: l, h => by
    rcases List.mem_cons.1 h with h | h
    · rw [prodT, ← h, zero_mul]
    · rw [prodT, prodT_zero h, mul_zero]
def Un (x : T6 n) : Prop := ∃ w, x * w = nc 1
theorem Un.mul {x y : T6 n} : Un x → Un y → Un (x * y) := fun ⟨w, h⟩ ⟨v, g⟩ => ⟨v * w, by rw [mul_assoc, ← mul_assoc y, g, one_mul, h]⟩
theorem Un.left {x y : T6 n} : Un (x * y) → Un x := fun ⟨w, h⟩ => ⟨y * w, by rw [← mul_assoc, h]⟩
theorem Un.right {x y : T6 n} (h : Un (x * y)) : Un y := by rw [mul_comm] at h; exact h.left
theorem Un.prod : ∀ {l : List (T6 n)}, (∀ x ∈ l, Un x) → Un (prodT l)
  | [], _ => ⟨nc 1, one_mul _⟩
  | b :: l, h => (h b (List.mem_cons_self ..)).mul (Un.prod fun x hx => h x (List.mem_cons_of_mem _ hx))
theorem Un.of_prod : ∀ {l : List (T6 n)}, Un (prodT l) → ∀ x ∈ l, Un x
  | b :: l, h, x, hx => by
    rcases List.mem_cons.1 hx with rfl | hx
    · exact h.left
    · exact Un.of_prod h.right x hx
theorem cg_mod {z x : T6 n} {k m : Nat} (hk : Cg z (pw x k) (nc 1)) (hm : Cg z (pw x m) (nc 1)) : Cg z (pw x (m % k)) (nc 1) := by
  have h : pw x m = pw (pw x k) (m / k) * pw x (m % k) := by rw [← pw_mul, ← pw_add, Nat.div_add_mod]
  rw [h] at hm
  have h1 := (hk.pw (m / k)).mulr (pw x (m % k))
  rw [one_pw, one_mul] at h1
  exact h1.symm.trans hm
theorem cg_gcd {z x : T6 n} : ∀ (k m : Nat), Cg z (pw x k) (nc 1) → Cg z (pw x m) (nc 1) → Cg z (pw x (Nat.gcd k m)) (nc 1) := by
  intro k
  induction k using Nat.strongRecOn with
  | _ k ih =>
    intro m hk hm
    by_cases h0 : k = 0
    · subst h0; simpa using hm
    · rw [Nat.gcd_rec]
      exact ih (m % k) (Nat.mod_lt _ (by omega)) k (cg_mod hk hm) hk
theorem un_of {x : T6 n} {s : Nat} (hs : pw x s = nc 1) (h0 : 0 < s) {ps : List Nat} (hps : ∀ p, Irr p → p ∣ s → p ∈ ps) (hu : ∀ p ∈ ps, Un (pw x (s / p) + -nc 1))
    {k : Nat} (hk : ¬ s ∣ k) : Un (pw x k + -nc 1) := by
  have c1 : Cg (pw x k + -nc 1) (pw x k) (nc 1) := ⟨nc 1, by rw [mul_one, add_comm, add_assoc, neg_add, add_zero]⟩
  have c2 : Cg (pw x k + -nc 1) (pw x s) (nc 1) := by rw [hs]; exact .refl _
  have c3 := cg_gcd k s c1 c2
  obtain ⟨h, hh⟩ := Nat.gcd_dvd_right k s
  have hh1 : h ≠ 1 := fun e => hk (by rw [e, Nat.mul_one] at hh; rw [hh]; exact Nat.gcd_dvd_left k s)
  have hh0 : h ≠ 0 := fun e => by subst e; omega
  obtain ⟨p, hp, c, rfl⟩ := exists_irr (n := h) (by omega)
  have hm := hps p hp ⟨Nat.gcd k s * c, by rw [Nat.mul_left_comm]; exact hh⟩
  have hsp : s / p = Nat.gcd k s * c := by
    have : s = p * (Nat.gcd k s * c) := by rw [Nat.mul_left_comm]; exact hh
    rw [Nat.div_eq_of_eq_mul_right hp.pos this]
  have c4 := c3.pw c
  rw [← pw_mul, ← hsp, one_pw] at c4
  obtain ⟨t, ht⟩ := c4
  obtain ⟨w, hw⟩ := hu p hm
  have h5 : (pw x k + -nc 1) * t = pw x (s / p) + -nc 1 := by rw [ht, add_comm (nc 1), add_assoc, add_neg, add_zero]
  exact ⟨t * w, by rw [← mul_assoc, h5, hw]⟩
theorem un_diff {x : T6 n} {s : Nat} (hs : pw x s = nc 1) (h0 : 0 < s) {ps : List Nat} (hps : ∀ p, Irr p → p ∣ s → p ∈ ps) (hu : ∀ p ∈ ps, Un (pw x (s / p) + -nc 1))
    {r e : Nat} (hk : r % s ≠ e % s) : Un (pw x r + -pw x e) := by
  have hse : ∀ m, pw x (s * m) = nc 1 := fun m => by rw [pw_mul, hs, one_pw]
  have hle : e ≤ s * e := Nat.le_mul_of_pos_left e h0
  have h1 : pw x e * pw x (r + (s * e - e)) = pw x r := by
    rw [← pw_add, show e + (r + (s * e - e)) = r + s * e by omega, pw_add, hse, mul_one]
  have h2 : Un (pw x e) := ⟨pw x (s * e - e), by rw [← pw_add, Nat.add_sub_cancel' hle, hse]⟩
  have h3 : ¬ s ∣ r + (s * e - e) := fun ⟨c, hc⟩ => hk (by
    have : r + s * e = e + s * c := by omega
    have := congrArg (· % s) this
    simpa [Nat.add_mul_mod_self_left] using this)
  have h4 := h2.mul (un_of hs h0 hps hu h3)
  rw [mul_add, h1, mul_neg, mul_one] at h4
  exact h4
theorem lenstra {x : T6 n} {s : Nat} (hs : pw x s = nc 1) (h0 : 0 < s) {ps : List Nat} (hps : ∀ p, Irr p → p ∣ s → p ∈ ps) (hu : Un (prodT (ps.map fun p => pw x (s / p) + -nc 1)))
    {es : List Nat} {cs : List Nat} (hc : mulLins (es.map fun e => -pw x e) [nc 1] = cs.map nc) (he : 1 ∈ es) {r : Nat} (hr : Irr r) (hrn : r ∣ n) : ∃ e ∈ es, r % s = e % s := by
  refine Classical.byContradiction fun hno => ?_
  have hroot : ∀ y : T6 n, ev cs y = prodT (es.map fun e => y + -pw x e) := fun y => by
    rw [← evT_nc, ← hc, evT_mulLins, List.map_map, evT, evT, mul_zero, add_zero, mul_one]; rfl
  have h1 : ev cs x = nc 0 := by
    rw [hroot]
    refine prodT_zero (List.mem_map.2 ⟨1, he, ?_⟩)
    rw [pw_one, add_neg]
  have h2 := ev_frob hr x cs
  rw [h1, zero_pw hr.pos, hroot] at h2
  have h3 : Un (prodT (es.map fun e => pw x r + -pw x e)) := Un.prod fun y hy => by
    obtain ⟨e, hm, rfl⟩ := List.mem_map.1 hy
    exact un_diff hs h0 hps (fun p hp => Un.of_prod hu _ (List.mem_map.2 ⟨p, hp, rfl⟩)) fun e' => hno ⟨e, hm, e'⟩
  obtain ⟨w, hw⟩ := h3
  obtain ⟨t, ht⟩ := h2.symm
  rw [zero_add] at ht
  rw [ht, mul_assoc] at hw
  generalize t * w = v at hw
  have h4 := congrArg (fun y => (T6.a0 y).val) hw
  have hn : 0 < n := Nat.pos_of_ne_zero (NeZero.ne n)
  have hr2 := hr.1
  have hrle := Nat.le_of_dvd hn hrn
  simp only [mul_def, mul, nc] at h4
  have h5 : (Fin.ofNat n r * v.a0 + 8 * ((0 : Fin n) * v.a5 + 0 * v.a4 + 0 * v.a3 + 0 * v.a2 + 0 * v.a1)) = Fin.ofNat n r * v.a0 := by grind
  obtain ⟨v0, v1, v2, v3, v4, v5⟩ := v
  simp only [] at h4 h5
  have h6 : (Fin.ofNat n r * v0 : Fin n).val = (Fin.ofNat n 1).val := by
    rw [← h4]; exact congrArg Fin.val h5.symm
  simp only [Fin.val_mul, Fin.ofNat] at h6
  have h7 := congrArg (· % r) h6
  simp only [Nat.mod_mod_of_dvd _ hrn] at h7
  rw [Nat.mul_mod, Nat.mod_mod_of_dvd _ hrn, Nat.mod_self, Nat.zero_mul, Nat.zero_mod, Nat.mod_eq_of_lt hr2] at h7
  cases h7
end T6
end Go.Proofs.YtpahdiljpnfkdaaGreat
namespace Go.Proofs.YtpahdiljpnfkdaaGreat
def frc {α : Type} (x : Nat) (k : Nat → α) : α := Nat.rec (motive := fun _ => α) (k 0) (fun m _ => k (Nat.succ m)) x
theorem frc_eq {α : Type} (x : Nat) (k : Nat → α) : frc x k = k x := by cases x <;> rfl
structure N6 where
  b0 : Nat
  b1 : Nat
  b2 : Nat
  b3 : Nat
  b4 : Nat
  b5 : Nat
namespace N6
def k {α : Type} (x : N6) (g : N6 → α) : α := match x with
  | ⟨c0, c1, c2, c3, c4, c5⟩ => g ⟨c0, c1, c2, c3, c4, c5⟩
theorem k_eq {α : Type} (x : N6) (g : N6 → α) : x.k g = g x := rfl
def one : N6 := ⟨1, 0, 0, 0, 0, 0⟩
def mk' (n c0 c1 c2 c3 c4 c5 : Nat) : N6 :=
  frc (Nat.mod c0 n) fun c0 => frc (Nat.mod c1 n) fun c1 => frc (Nat.mod c2 n) fun c2 => frc (Nat.mod c3 n) fun c3 => frc (Nat.mod c4 n) fun c4 => frc (Nat.mod c5 n) fun c5 => ⟨c0, c1, c2, c3, c4, c5⟩
def s1 (x1 x2 x3 x4 x5 y1 y2 y3 y4 y5 : Nat) : Nat := Nat.add (Nat.add (Nat.add (Nat.add (Nat.mul x1 y5) (Nat.mul x2 y4)) (Nat.mul x3 y3)) (Nat.mul x4 y2)) (Nat.mul x5 y1)
def s2 (x2 x3 x4 x5 y2 y3 y4 y5 : Nat) : Nat := Nat.add (Nat.add (Nat.add (Nat.mul x2 y5) (Nat.mul x3 y4)) (Nat.mul x4 y3)) (Nat.mul x5 y2)
def s3 (x3 x4 x5 y3 y4 y5 : Nat) : Nat := Nat.add (Nat.add (Nat.mul x3 y5) (Nat.mul x4 y4)) (Nat.mul x5 y3)
def s4 (x4 x5 y4 y5 : Nat) : Nat := Nat.add (Nat.mul x4 y5) (Nat.mul x5 y4)
def mul (n : Nat) (x y : N6) : N6 := match x, y with
  | ⟨x0, x1, x2, x3, x4, x5⟩, ⟨y0, y1, y2, y3, y4, y5⟩ =>
  frc (s1 x1 x2 x3 x4 x5 y1 y2 y3 y4 y5) fun c6 => frc (s2 x2 x3 x4 x5 y2 y3 y4 y5) fun c7 => frc (s3 x3 x4 x5 y3 y4 y5) fun c8 => frc (s4 x4 x5 y4 y5) fun c9 => frc (Nat.mul x5 y5) fun c10 =>
  mk' n (Nat.add (Nat.mul x0 y0) (Nat.mul 8 c6))
    (Nat.add (Nat.add (Nat.add (Nat.mul x0 y1) (Nat.mul x1 y0)) (Nat.mul 8 c7)) c6)
    (Nat.add (Nat.add (Nat.add (Nat.add (Nat.mul x0 y2) (Nat.mul x1 y1)) (Nat.mul x2 y0)) (Nat.mul 8 c8)) c7)
    (Nat.add (Nat.add (Nat.add (Nat.add (Nat.add (Nat.mul x0 y3) (Nat.mul x1 y2)) (Nat.mul x2 y1)) (Nat.mul x3 y0)) (Nat.mul 8 c9)) c8)
    (Nat.add (Nat.add (Nat.add (Nat.add (Nat.add (Nat.add (Nat.mul x0 y4) (Nat.mul x1 y3)) (Nat.mul x2 y2)) (Nat.mul x3 y1)) (Nat.mul x4 y0)) (Nat.mul 8 c10)) c9)
    (Nat.add (Nat.add (Nat.add (Nat.add (Nat.add (Nat.add (Nat.mul x0 y5) (Nat.mul x1 y4)) (Nat.mul x2 y3)) (Nat.mul x3 y2)) (Nat.mul x4 y1)) (Nat.mul x5 y0)) c10)
def pwA (n f : Nat) : N6 → N6 → Nat → N6 := Nat.rec (motive := fun _ => N6 → N6 → Nat → N6) (fun acc _ _ => acc)
  (fun _ ih acc a e => frc e fun e => (mul n a a).k fun a2 => cond (Nat.beq (Nat.mod e 2) 1) ((mul n acc a).k fun acc' => ih acc' a2 (Nat.div e 2)) (ih acc a2 (Nat.div e 2))) f
theorem pwA_succ (n f : Nat) (acc a : N6) (e : Nat) : pwA n (f + 1) acc a e = cond (Nat.beq (e % 2) 1) (pwA n f (mul n acc a) (mul n a a) (e / 2)) (pwA n f acc (mul n a a) (e / 2)) := by
  have h : pwA n (f + 1) acc a e = frc e (fun e => (mul n a a).k fun a2 => cond (Nat.beq (Nat.mod e 2) 1) ((mul n acc a).k fun acc' => pwA n f acc' a2 (Nat.div e 2)) (pwA n f acc a2 (Nat.div e 2))) := rfl
  rw [h, frc_eq]
  rfl
def to (n : Nat) [NeZero n] (x : N6) : T6 n := ⟨Fin.ofNat n x.b0, Fin.ofNat n x.b1, Fin.ofNat n x.b2, Fin.ofNat n x.b3, Fin.ofNat n x.b4, Fin.ofNat n x.b5⟩
def neg (n : Nat) (x : N6) : N6 := ⟨n - x.b0 % n, n - x.b1 % n, n - x.b2 % n, n - x.b3 % n, n - x.b4 % n, n - x.b5 % n⟩
def pred (n : Nat) (x : N6) : N6 := ⟨x.b0 + (n - 1), x.b1, x.b2, x.b3, x.b4, x.b5⟩
section
variable {n : Nat} [NeZero n]
theorem fo_mod (a : Nat) : Fin.ofNat n (a % n) = Fin.ofNat n a := Fin.ext (by simp [Fin.ofNat])
theorem fo_add (a b : Nat) : Fin.ofNat n (a + b) = Fin.ofNat n a + Fin.ofNat n b := Fin.ext (by simp [Fin.ofNat, Fin.val_add])
theorem fo_mul (a b : Nat) : Fin.ofNat n (a * b) = Fin.ofNat n a * Fin.ofNat n b := Fin.ext (by simp [Fin.ofNat, Fin.val_mul, Nat.mul_mod])
theorem fo_self : Fin.ofNat n n = 0 := Fin.ext (by simp [Fin.ofNat])
theorem to_mul (x y : N6) : (mul n x y).to n = x.to n * y.to n := by
  obtain ⟨x0, x1, x2, x3, x4, x5⟩ := x
  obtain ⟨y0, y1, y2, y3, y4, y5⟩ := y
  simp only [mul, mk', frc_eq, s1, s2, s3, s4, Nat.add_eq, Nat.mul_eq, show ∀ a b, Nat.mod a b = a % b from fun _ _ => rfl, to, fo_mod, fo_add, fo_mul, T6.mul_def, T6.mul]
  rfl
theorem to_one : one.to n = T6.nc 1 := rfl
theorem to_neg (x : N6) : (neg n x).to n = -x.to n := by
  refine T6.eq_neg ?_
  have h : ∀ a : Nat, Fin.ofNat n (n - a % n) + Fin.ofNat n a = 0 := fun a => by
    have hn : 0 < n := Nat.pos_of_ne_zero (NeZero.ne n)
    have h1 := Nat.mod_lt a hn
    rw [← fo_mod a, ← fo_add, show n - a % n + a % n = n by omega, fo_self]
  simp only [to, neg, T6.add_def, T6.add, h]
  rfl
theorem to_pred (x : N6) : (pred n x).to n = x.to n + -T6.nc 1 := by
  have hn : 0 < n := Nat.pos_of_ne_zero (NeZero.ne n)
  have h : (⟨n - 1, 0, 0, 0, 0, 0⟩ : N6).to n = -T6.nc 1 := T6.eq_neg (by
    have h1 : Fin.ofNat n (n - 1) + Fin.ofNat n 1 = 0 := by rw [← fo_add, Nat.sub_add_cancel hn, fo_self]
    simp only [to, T6.nc, T6.add_def, T6.add, h1]
    have h0 : Fin.ofNat n 0 = 0 := rfl
    simp only [h0]
    congr 1 <;> grind)
  rw [← h]
  obtain ⟨x0, x1, x2, x3, x4, x5⟩ := x
  simp only [to, pred, T6.add_def, T6.add, fo_add]
  have h0 : Fin.ofNat n 0 = 0 := rfl
  simp only [h0]
  congr 1 <;> grind
theorem to_pwA : ∀ (f : Nat) (acc a : N6) (e : Nat), e < 2 ^ f → (pwA n f acc a e).to n = acc.to n * T6.pw (a.to n) e
  | 0, acc, a, e, h => by
    obtain rfl : e = 0 := by simpa using h
    rw [T6.pw_zero, T6.mul_one]; rfl
  | f + 1, acc, a, e, h => by
    have h2 : e / 2 < 2 ^ f := by rw [Nat.pow_succ] at h; omega
    have h3 : T6.pw (a.to n) e = T6.pw (a.to n * a.to n) (e / 2) * T6.pw (a.to n) (e % 2) := by
      rw [show a.to n * a.to n = T6.pw (a.to n) 2 by rw [T6.pw_succ, T6.pw_one], ← T6.pw_mul, ← T6.pw_add, Nat.div_add_mod]
    rw [pwA_succ]
    cases hb : Nat.beq (e % 2) 1 with
    | true =>
      rw [cond_true, to_pwA f _ _ _ h2, to_mul, to_mul, h3, Nat.eq_of_beq_eq_true hb, T6.pw_one, T6.mul_assoc, T6.mul_comm (a.to n)]
    | false =>
      have h4 : e % 2 = 0 := by
        have := Nat.ne_of_beq_eq_false hb
        omega
      rw [cond_false, to_pwA f _ _ _ h2, to_mul, h3, h4, T6.pw_zero, T6.mul_one]
end
def pwN (n f : Nat) (x : N6) (e : Nat) : N6 := pwA n f one x e
def prN (n : Nat) : List N6 → N6
  | [] => one
  | b :: bs => mul n b (prN n bs)
def addN (n : Nat) (x y : N6) : N6 := mk' n (x.b0 + y.b0) (x.b1 + y.b1) (x.b2 + y.b2) (x.b3 + y.b3) (x.b4 + y.b4) (x.b5 + y.b5)
def addHN (n : Nat) (c : N6) : List N6 → List N6
  | [] => [c]
  | d :: ds => addN n c d :: ds
def mulLinN (n : Nat) (b : N6) : List N6 → List N6
  | [] => []
  | c :: cs => mul n b c :: addHN n c (mulLinN n b cs)
def mulLinsN (n : Nat) : List N6 → List N6 → List N6
  | [], cs => cs
  | b :: bs, cs => b.k fun b => mulLinsN n bs (mulLinN n b cs)
def eqL : List N6 → List Nat → Bool
  | [], [] => true
  | x :: xs, c :: cs => Nat.beq x.b0 c && Nat.beq x.b1 0 && Nat.beq x.b2 0 && Nat.beq x.b3 0 && Nat.beq x.b4 0 && Nat.beq x.b5 0 && eqL xs cs
  | _, _ => false
section
variable {n : Nat} [NeZero n]
theorem to_prN : ∀ l : List N6, (prN n l).to n = T6.prodT (l.map (to n))
  | [] => rfl
  | b :: bs => by rw [prN, to_mul, to_prN bs, List.map_cons, T6.prodT]
theorem to_addN (x y : N6) : (addN n x y).to n = x.to n + y.to n := by
  simp only [addN, mk', frc_eq, show ∀ a b, Nat.mod a b = a % b from fun _ _ => rfl, to, fo_mod, fo_add, T6.add_def, T6.add]
theorem to_addHN (c : N6) : ∀ l : List N6, (addHN n c l).map (to n) = T6.addH (c.to n) (l.map (to n))
  | [] => rfl
  | d :: ds => by rw [addHN, List.map_cons, to_addN]; rfl
theorem to_mulLinN (b : N6) : ∀ l : List N6, (mulLinN n b l).map (to n) = T6.mulLin (b.to n) (l.map (to n))
  | [] => rfl
  | c :: cs => by rw [mulLinN, List.map_cons, to_mul, to_addHN, to_mulLinN b cs]; rfl
theorem to_mulLinsN : ∀ (bs l : List N6), (mulLinsN n bs l).map (to n) = T6.mulLins (bs.map (to n)) (l.map (to n))
  | [], l => rfl
  | b :: bs, l => by
    rw [mulLinsN, k_eq, to_mulLinsN bs, to_mulLinN]; rfl
theorem eqL_spec : ∀ {l : List N6} {cs : List Nat}, eqL l cs = true → l.map (to n) = cs.map T6.nc
  | [], [], _ => rfl
  | x :: xs, c :: cs, h => by
    simp only [eqL, Bool.and_eq_true] at h
    obtain ⟨⟨⟨⟨⟨⟨h0, h1⟩, h2⟩, h3⟩, h4⟩, h5⟩, hr⟩ := h
    rw [List.map_cons, List.map_cons, eqL_spec hr]
    congr 1
    simp only [to, T6.nc, Nat.eq_of_beq_eq_true h0, Nat.eq_of_beq_eq_true h1, Nat.eq_of_beq_eq_true h2, Nat.eq_of_beq_eq_true h3, Nat.eq_of_beq_eq_true h4, Nat.eq_of_beq_eq_true h5]
    rfl
  | [], _ :: _, h => by simp [eqL] at h
  | _ :: _, [], h => by simp [eqL] at h
end
end N6
def factP : List (Nat × Nat) → Nat
  | [] => 1
  | c :: l => c.1 ^ c.2 * factP l
theorem factP_mem : ∀ {l : List (Nat × Nat)}, (∀ c ∈ l, Irr c.1) → ∀ p, Irr p → p ∣ factP l → p ∈ l.map (·.1)
  | [], _, p, hp, hd => by
    have := Nat.le_of_dvd (by decide) hd
    have := hp.1
    have : factP [] = 1 := rfl
    omega
  | c :: l, h, p, hp, hd => by
    rcases hp.euclid hd with h1 | h1
    · rcases (h c (List.mem_cons_self ..)).2 p (hp.dvd_pow h1) with h2 | h2
      · have := hp.1; omega
      · rw [List.map_cons, h2]; exact List.mem_cons_self ..
    · rw [List.map_cons]
      exact List.mem_cons_of_mem _ (factP_mem (fun d hd => h d (List.mem_cons_of_mem _ hd)) p hp h1)
theorem lenstra6 {n s : Nat} (f : Nat) (x w : N6) (l : List (Nat × Nat)) (es cs : List Nat) (hn : Nat.ble 2 n = true) (hs : s = factP l) (hl : ∀ c ∈ l, Irr c.1) (hss : Nat.blt n (s * s) = true) (hs4 : Nat.blt s (2 ^ f) = true)
    (hes : es.all (fun e => Nat.blt e s && (Nat.beq e 1 || !Nat.beq (n % e) 0)) = true) (h1 : es.contains 1 = true)
    (hx : N6.eqL [N6.pwN n f x s] [1] = true) (hw : N6.eqL [N6.mul n (N6.prN n (l.map fun c => N6.pred n (N6.pwN n f x (s / c.1)))) w] [1] = true)
    (hc : N6.eqL (N6.mulLinsN n (es.map fun e => N6.neg n (N6.pwN n f x e)) [N6.one]) cs = true) : Irr n := by
  have hn2 := Nat.le_of_ble_eq_true hn
  haveI : NeZero n := ⟨by omega⟩
  have hs4' : s < 2 ^ f := Nat.le_of_ble_eq_true hs4
  have hss' : n < s * s := Nat.le_of_ble_eq_true hss
  have h0 : 0 < s := Nat.pos_of_ne_zero fun e => by subst e; omega
  have pwN_to : ∀ e, e < 2 ^ f → (N6.pwN n f x e).to n = T6.pw (x.to n) e := fun e he => by
    rw [N6.pwN, N6.to_pwA f _ _ _ he, N6.to_one, T6.one_mul]
  have g1 : T6.pw (x.to n) s = T6.nc 1 := by
    have := N6.eqL_spec (n := n) hx
    simp only [List.map_cons, List.map_nil, List.cons.injEq, and_true] at this
    rw [← pwN_to s hs4', this]
  have g2 : T6.Un (T6.prodT ((l.map (·.1)).map fun p => T6.pw (x.to n) (s / p) + -T6.nc 1)) := by
    have := N6.eqL_spec (n := n) hw
    simp only [List.map_cons, List.map_nil, List.cons.injEq, and_true] at this
    rw [N6.to_mul, N6.to_prN] at this
    have e : (l.map (·.1)).map (fun p => T6.pw (x.to n) (s / p) + -T6.nc 1) = (l.map fun c => N6.pred n (N6.pwN n f x (s / c.1))).map (N6.to n) := by
      rw [List.map_map, List.map_map]
      refine List.map_congr_left fun c _ => ?_
      show T6.pw (x.to n) (s / c.1) + -T6.nc 1 = (N6.pred n (N6.pwN n f x (s / c.1))).to n
      rw [N6.to_pred, pwN_to _ (Nat.lt_of_le_of_lt (Nat.div_le_self _ _) hs4')]
    exact ⟨w.to n, by rw [e]; exact this⟩
  have hes' := List.all_eq_true.1 hes
  simp only [Bool.and_eq_true, Bool.or_eq_true, Bool.not_eq_true'] at hes'
  have g3 : T6.mulLins (es.map fun e => -T6.pw (x.to n) e) [T6.nc 1] = cs.map T6.nc := by
    rw [← N6.eqL_spec (n := n) hc, N6.to_mulLinsN, List.map_map]
    congr 1
    refine List.map_congr_left fun e he => ?_
    have := (hes' e he).1
    have : e < s := Nat.le_of_ble_eq_true this
    show _ = (N6.neg n (N6.pwN n f x e)).to n
    rw [N6.to_neg, pwN_to _ (by omega)]
  refine irr_of_small hn2 fun r hr hrn => ?_
  rcases Nat.lt_or_ge n (r * r) with h | h
  · exact h
  exfalso
  have hrs : r < s := by
    rcases Nat.lt_or_ge r s with h' | h'
    · exact h'
    · have := Nat.mul_le_mul h' h'; omega
  obtain ⟨e, he, hre⟩ := T6.lenstra g1 h0 (fun p hp hps => factP_mem hl p hp (hs ▸ hps)) g2 g3 (by simpa using h1) hr hrn
  obtain ⟨h5, h6⟩ := hes' e he
  have h5' : e < s := Nat.le_of_ble_eq_true h5
  rw [Nat.mod_eq_of_lt hrs, Nat.mod_eq_of_lt h5'] at hre
  subst hre
  rcases h6 with h6 | h6
  · have := Nat.eq_of_beq_eq_true h6
    have := hr.1
    omega
  · exact Nat.ne_of_beq_eq_false h6 (Nat.mod_eq_zero_of_dvd hrn)
end Go.Proofs.YtpahdiljpnfkdaaGreat
namespace Go.Proofs.YtpahdiljpnfkdaaGreat
theorem irr_5 : Irr 5 := irr_trial (f := 1) (by decide) (by decide) (by kernel_rfl)
theorem irr_73 : Irr 73 := irr_trial (f := 7) (by decide) (by decide) (by kernel_rfl)
theorem irr_199 : Irr 199 := irr_trial (f := 13) (by decide) (by decide) (by kernel_rfl)
theorem irr_313 : Irr 313 := irr_trial (f := 16) (by decide) (by decide) (by kernel_rfl)
theorem irr_18661 : Irr 18661 := irr_trial (f := 135) (by decide) (by decide) (by kernel_rfl)
theorem irr_31 : Irr 31 := irr_trial (f := 4) (by decide) (by decide) (by kernel_rfl)
theorem irr_3851 : Irr 3851 := irr_trial (f := 61) (by decide) (by decide) (by kernel_rfl)
theorem irr_65651 : Irr 65651 := irr_trial (f := 255) (by decide) (by decide) (by kernel_rfl)
theorem irr_4332967 : Irr 4332967 := pock [(2, 1, 3), (3, 1, 2), (11, 1, 2), (65651, 1, 2)] (by kernel_rfl) (by kernel_rfl) (by kernel_rfl) (by kernel_rfl) (by decide) (List.forall_mem_cons.2 ⟨irr_2, List.forall_mem_cons.2 ⟨irr_3, List.forall_mem_cons.2 ⟨irr_11, List.forall_mem_cons.2 ⟨irr_65651, fun _ h => absurd h List.not_mem_nil⟩⟩⟩⟩)
theorem irr_131 : Irr 131 := irr_trial (f := 10) (by decide) (by decide) (by kernel_rfl)
theorem irr_223291 : Irr 223291 := irr_trial (f := 471) (by decide) (by decide) (by kernel_rfl)
theorem irr_58502243 : Irr 58502243 := pock [(2, 1, 2), (131, 1, 2), (223291, 1, 2)] (by kernel_rfl) (by kernel_rfl) (by kernel_rfl) (by kernel_rfl) (by decide) (List.forall_mem_cons.2 ⟨irr_2, List.forall_mem_cons.2 ⟨irr_131, List.forall_mem_cons.2 ⟨irr_223291, fun _ h => absurd h List.not_mem_nil⟩⟩⟩)
theorem irr_47 : Irr 47 := irr_trial (f := 5) (by decide) (by decide) (by kernel_rfl)
theorem irr_227 : Irr 227 := irr_trial (f := 14) (by decide) (by decide) (by kernel_rfl)
theorem irr_509 : Irr 509 := irr_trial (f := 21) (by decide) (by decide) (by kernel_rfl)
theorem irr_138977 : Irr 138977 := irr_trial (f := 371) (by decide) (by decide) (by kernel_rfl)
theorem irr_500905890761075075179 : Irr 500905890761075075179 := pock [(2, 1, 2), (3, 2, 2), (7, 1, 3), (47, 1, 2), (227, 1, 2), (509, 1, 2), (138977, 1, 2)] (by kernel_rfl) (by kernel_rfl) (by kernel_rfl) (by kernel_rfl) (by decide) (List.forall_mem_cons.2 ⟨irr_2, List.forall_mem_cons.2 ⟨irr_3, List.forall_mem_cons.2 ⟨irr_7, List.forall_mem_cons.2 ⟨irr_47, List.forall_mem_cons.2 ⟨irr_227, List.forall_mem_cons.2 ⟨irr_509, List.forall_mem_cons.2 ⟨irr_138977, fun _ h => absurd h List.not_mem_nil⟩⟩⟩⟩⟩⟩⟩)
theorem irr_9137 : Irr 9137 := irr_trial (f := 94) (by decide) (by decide) (by kernel_rfl)
theorem irr_2167716703 : Irr 2167716703 := pock [(2, 1, 3), (3, 1, 2), (9137, 1, 2)] (by kernel_rfl) (by kernel_rfl) (by kernel_rfl) (by kernel_rfl) (by decide) (List.forall_mem_cons.2 ⟨irr_2, List.forall_mem_cons.2 ⟨irr_3, List.forall_mem_cons.2 ⟨irr_9137, fun _ h => absurd h List.not_mem_nil⟩⟩⟩)
theorem irr_182088203053 : Irr 182088203053 := pock [(2, 2, 2), (3, 1, 3), (7, 1, 2), (2167716703, 1, 2)] (by kernel_rfl) (by kernel_rfl) (by kernel_rfl) (by kernel_rfl) (by decide) (List.forall_mem_cons.2 ⟨irr_2, List.forall_mem_cons.2 ⟨irr_3, List.forall_mem_cons.2 ⟨irr_7, List.forall_mem_cons.2 ⟨irr_2167716703, fun _ h => absurd h List.not_mem_nil⟩⟩⟩⟩)
theorem irr_37 : Irr 37 := irr_trial (f := 5) (by decide) (by decide) (by kernel_rfl)
theorem irr_1310209 : Irr 1310209 := irr_trial (f := 1143) (by decide) (by decide) (by kernel_rfl)
theorem irr_290866399 : Irr 290866399 := pock [(2, 1, 3), (3, 1, 2), (37, 1, 2), (1310209, 1, 2)] (by kernel_rfl) (by kernel_rfl) (by kernel_rfl) (by kernel_rfl) (by decide) (List.forall_mem_cons.2 ⟨irr_2, List.forall_mem_cons.2 ⟨irr_3, List.forall_mem_cons.2 ⟨irr_37, List.forall_mem_cons.2 ⟨irr_1310209, fun _ h => absurd h List.not_mem_nil⟩⟩⟩⟩)
theorem irr_2521 : Irr 2521 := irr_trial (f := 49) (by decide) (by decide) (by kernel_rfl)
theorem irr_1042161233 : Irr 1042161233 := pock [(2, 4, 3), (7, 1, 3), (2521, 1, 2)] (by kernel_rfl) (by kernel_rfl) (by kernel_rfl) (by kernel_rfl) (by decide) (List.forall_mem_cons.2 ⟨irr_2, List.forall_mem_cons.2 ⟨irr_7, List.forall_mem_cons.2 ⟨irr_2521, fun _ h => absurd h List.not_mem_nil⟩⟩⟩)
theorem irr_907 : Irr 907 := irr_trial (f := 29) (by decide) (by decide) (by kernel_rfl)
theorem irr_3651845256751 : Irr 3651845256751 := pock [(2, 1, 3), (3, 1, 2), (5, 3, 2), (47, 1, 2), (907, 1, 2)] (by kernel_rfl) (by kernel_rfl) (by kernel_rfl) (by kernel_rfl) (by decide) (List.forall_mem_cons.2 ⟨irr_2, List.forall_mem_cons.2 ⟨irr_3, List.forall_mem_cons.2 ⟨irr_5, List.forall_mem_cons.2 ⟨irr_47, List.forall_mem_cons.2 ⟨irr_907, fun _ h => absurd h List.not_mem_nil⟩⟩⟩⟩⟩)
theorem irr_22834869333004942403899 : Irr 22834869333004942403899 := pock [(2, 1, 2), (3, 1, 3), (1042161233, 1, 2), (3651845256751, 1, 2)] (by kernel_rfl) (by kernel_rfl) (by kernel_rfl) (by kernel_rfl) (by decide) (List.forall_mem_cons.2 ⟨irr_2, List.forall_mem_cons.2 ⟨irr_3, List.forall_mem_cons.2 ⟨irr_1042161233, List.forall_mem_cons.2 ⟨irr_3651845256751, fun _ h => absurd h List.not_mem_nil⟩⟩⟩⟩)
theorem irr_Q : Irr 776259046150354467565459065629240877815667024717257156601175597451483119974551053629334726938295821221455003840144432114575401859459023171316363806515641491872190410445098144254585345658296587683734775881559921685818610503605288959 := lenstra6 (s := 117503813392761817068111132675669899316816427660372966666489466295074426660089323991980846165815105337757663273943040) 386 ⟨54299502101772025760183462346812054369109515274308163391573199612104651112215592541148656492037404022780056868143904097848433264571553457820395423310865125010192756461858702050935543813540302249422195023975660961940674517421343092, 704041769913084323770837091487998780995888693189826641592042471786076111099983103901015797572125074539239157879026493139078328004801433018505977304277520067360727598059209938939356193962575191425046849943033546442232562335843543802, 574454887084133828763793587091813059593386113672398180771441754317300724122828028150647142733056566529129583813233648719500015098592366365507659925567764869374748789482942607346550141312846580634440492325455110389713331054484928748, 276745643867540495885789103334674522487050644443953830673571890157904139932058971365831611586312022054092327789876361761674653677450343631004058852202920244643025917940428979121388386538250300170006951976291486151448934824172972521, 605287700360680448015928288439592919546088950110221267521704810839350246828214143653481791475508177022057696799444364853857132670780476811273205173879736702628453535943047388063065323363555353244700293906512932638323975051642060888, 530077269455623609579610815160883299505611810132240769230552211243160877694609489523878862206919793008545344853789280611440837927829286758700326553755985544324549859269203649231945973205639834869816738602449760373859435594105239666⟩ ⟨596481942949021688967182924947572337102146019588633062413582217029100086742151674793971558632575105875607267198780968295535962889727752983166951703013746013436561027764660919661692107568306982781666276560056306232360701721934973091, 168763490590176407351807859782655517742579272626373202830384942780474271165794610763876625500199228417901555926081168950790643922111092343918112176295475840605172019668101232088594670084162064524290815078154751730259899886036147345, 485785352772870375072731832845617010446227518378709898259454837062240502912478213471462638191080992943395617152523182466917884938147658711312796506594283782040565208644158444465169392012745878498525803079565647046365345087383370441, 120239291006939457851471021135113584086594641594486854732320577204932005613880976173291599734479140907913063596479287147620152605696298684802804157428606418748723967666511822146857460812532656925914545733233802899781923709787832063, 319109150180528322046358383093956533921431692858687572197417662751104845618977486074838405500806841083125738905430383153099141627810336670291064789529386719555845581135540846545558194626330018037075000086163949648249645766212212978, 768419993249108859668967778319416067854971772650358352033010695120608901120185468565754841364111963942635858531447966338723854609122122592109908735729295258206197464693182602773474416432862340747683770801167597985891996838923285862⟩ [(2, 64), (3, 2), (5, 1), (7, 1), (13, 1), (73, 1), (199, 1), (313, 1), (18661, 1), (31, 1), (3851, 1), (4332967, 1), (58502243, 1), (500905890761075075179, 1), (182088203053, 1), (290866399, 1), (22834869333004942403899, 1)] [1, 13457780769468405994361879562018291980956094165258576792539901633307608195920860461240851305619250599285699714744319, 38773693407533600378736238628467881346459307724219754571563652025727288073434918756326418583448441241284996696637441, 55730392649498635474678033090252710439156565507279301245948359581183356678476843704475037024325513867437573469634559, 4368155946881256232538368794147354162453236612868154560992501078496901172849749697433912761991713159197788827811841, 24537590428594829745497351408602241951846704728890060652867898929331838066983171657308673032219982647943393758412799] [142964283817103386412934931170716924181418231211318073429319926566434798842592922954500161764586610530227724446599590404012053650626015294420755987746479128996049872361527412085871335503273208415194136111911570814123888325726360622, 210349610428172485383738276360420553829478935512453728508578666672055238496132819578158569630260218838463282137379406187630340682916189726258453428082848767976978556188143412013809902653298557827251437189141544320450403413357708971, 172856947425449875692366394034063070326709696499089298538790925616963396227457463737567858265912771817243941224128469850742640389296363561456643952487432140267508074262558067511700616554873022592097239715895689359683745721454923441, 575269636698077668312289998202073071296210108361582578035052658606627845498639331455859407918582367962663661746865707303820689125686223633194027828358841873256472075032214555916558550595317488437363325247781350477280962616551582664, 754337335785303283886994653397866858071855830818053284191923281031765570031253646061005153450479808757740684710644991343969843079137565403937913884604594659101638327014023756250852980576245015308476626746483409692219496613676302471, 128852824712667667802681412631674687519951956561975799902502135917500184751863211651052657766359895706412949882767900814006818211260338144841449917417447495804855806663222118552998253723745362889322240370136919102333216939366898954, 1] (by kernel_rfl) (by kernel_rfl) (List.forall_mem_cons.2 ⟨irr_2, List.forall_mem_cons.2 ⟨irr_3, List.forall_mem_cons.2 ⟨irr_5, List.forall_mem_cons.2 ⟨irr_7, List.forall_mem_cons.2 ⟨irr_13, List.forall_mem_cons.2 ⟨irr_73, List.forall_mem_cons.2 ⟨irr_199, List.forall_mem_cons.2 ⟨irr_313, List.forall_mem_cons.2 ⟨irr_18661, List.forall_mem_cons.2 ⟨irr_31, List.forall_mem_cons.2 ⟨irr_3851, List.forall_mem_cons.2 ⟨irr_4332967, List.forall_mem_cons.2 ⟨irr_58502243, List.forall_mem_cons.2 ⟨irr_500905890761075075179, List.forall_mem_cons.2 ⟨irr_182088203053, List.forall_mem_cons.2 ⟨irr_290866399, List.forall_mem_cons.2 ⟨irr_22834869333004942403899, fun _ h => absurd h List.not_mem_nil⟩⟩⟩⟩⟩⟩⟩⟩⟩⟩⟩⟩⟩⟩⟩⟩⟩) (by kernel_rfl) (by kernel_rfl) (by kernel_rfl) (by kernel_rfl) (by kernel_rfl) (by kernel_rfl) (by kernel_rfl)
theorem irr_P : Irr 1552518092300708935130918131258481755631334049434514313202351194902966239949102107258669453876591642442910007680288864229150803718918046342632727613031282983744380820890196288509170691316593175367469551763119843371637221007210577919 := pock [(776259046150354467565459065629240877815667024717257156601175597451483119974551053629334726938295821221455003840144432114575401859459023171316363806515641491872190410445098144254585345658296587683734775881559921685818610503605288959, 1, 2)] (by kernel_rfl) (by kernel_rfl) (by kernel_rfl) (by kernel_rfl) (by decide) (List.forall_mem_cons.2 ⟨irr_Q, fun _ h => absurd h List.not_mem_nil⟩)
end Go.Proofs.YtpahdiljpnfkdaaGreat
namespace Go.Proofs.YtpahdiljpnfkdaaGreat
namespace Jac
def sumL : List Nat → Nat
  | [] => 0
  | x :: l => x + sumL l
theorem sumL_perm {l m : List Nat} (h : l.Perm m) : sumL l = sumL m := by
  induction h with
  | nil => rfl
  | cons x _ ih => simp [sumL, ih]
  | swap x y l => simp only [sumL]; omega
  | trans _ _ ih1 ih2 => exact ih1.trans ih2
theorem sumL_congr2 {f g : Nat → Nat} : ∀ {l : List Nat}, (∀ x ∈ l, f x % 2 = g x % 2) → sumL (l.map f) % 2 = sumL (l.map g) % 2
  | [], _ => rfl
  | x :: l, h => by
    have h1 := h x (List.mem_cons_self ..)
    have h2 := sumL_congr2 (f := f) (g := g) (l := l) fun y hy => h y (List.mem_cons_of_mem _ hy)
    simp only [List.map_cons, sumL]
    omega
theorem sumL_add (f g : Nat → Nat) : ∀ l : List Nat, sumL (l.map fun x => f x + g x) = sumL (l.map f) + sumL (l.map g)
  | [] => rfl
  | x :: l => by
    have := sumL_add f g l
    simp only [List.map_cons, sumL]
    omega
theorem sumL_const (c : Nat) : ∀ l : List Nat, sumL (l.map fun _ => c) = l.length * c
  | [] => by simp [sumL]
  | x :: l => by
    have := sumL_const c l
    simp only [List.map_cons, sumL, List.length_cons, Nat.succ_mul]
    omega
theorem sumL_congr {f g : Nat → Nat} {l : List Nat} (h : ∀ x ∈ l, f x = g x) : sumL (l.map f) = sumL (l.map g) := by
  rw [List.map_congr_left h]
theorem sumL_swap (f : Nat → Nat → Nat) (m : List Nat) : ∀ l : List Nat, sumL (l.map fun x => sumL (m.map (f x))) = sumL (m.map fun y => sumL (l.map fun x => f x y))
  | [] => by
    simp only [List.map_nil, sumL]
    rw [sumL_const]; simp
  | x :: l => by
    simp only [List.map_cons, sumL]
    rw [sumL_swap f m l, ← sumL_add]
def hs (n : Nat) : List Nat := List.range' 1 ((n - 1) / 2)
theorem mem_hs {n k : Nat} (hn : n % 2 = 1) : k ∈ hs n ↔ 1 ≤ k ∧ 2 * k < n := by
  rw [hs, List.mem_range'_1]
  omega
theorem hs_len (n : Nat) : (hs n).length = (n - 1) / 2 := by rw [hs, List.length_range']
def nb (a n k : Nat) : Nat := if n < 2 * (a * k % n) then 1 else 0
def ng (a n : Nat) : Nat := sumL ((hs n).map (nb a n)) % 2
def hl (a n k : Nat) : Nat := if n < 2 * (a * k % n) then n - a * k % n else a * k % n
theorem ng_lt (a n : Nat) : ng a n < 2 := Nat.mod_lt _ (by decide)
theorem ng_congr {a b n : Nat} (h : a % n = b % n) : ng a n = ng b n := by
  unfold ng
  congr 2
  refine List.map_congr_left fun k _ => ?_
  unfold nb
  rw [Nat.mul_mod, h, ← Nat.mul_mod]
theorem rest_ne {a n k : Nat} (hn : n % 2 = 1) (hc : Nat.Coprime n a) (hk : k ∈ hs n) : a * k % n ≠ 0 := fun h => by
  have h1 := (mem_hs hn).1 hk
  have h2 := hc.dvd_of_dvd_mul_left (Nat.dvd_of_mod_eq_zero h)
  have := Nat.le_of_dvd (by omega) h2
  omega
theorem hl_mem {a n k : Nat} (hn : n % 2 = 1) (hc : Nat.Coprime n a) (hk : k ∈ hs n) : hl a n k ∈ hs n := by
  have h1 := rest_ne hn hc hk
  have h2 := Nat.mod_lt (a * k) (show 0 < n by omega)
  rw [mem_hs hn]
  unfold hl
  split <;> omega
theorem hl_inj {a n k k' : Nat} (hn : n % 2 = 1) (hc : Nat.Coprime n a) (hk : k ∈ hs n) (hk' : k' ∈ hs n) (h : hl a n k = hl a n k') : k = k' := by
  have m1 := (mem_hs hn).1 hk
  have m2 := (mem_hs hn).1 hk'
  have l1 := Nat.mod_lt (a * k) (show 0 < n by omega)
  have l2 := Nat.mod_lt (a * k') (show 0 < n by omega)
  have same : a * k % n = a * k' % n → k = k' := fun e => by
    have := mod_cancel hc e
    rwa [Nat.mod_eq_of_lt (by omega), Nat.mod_eq_of_lt (by omega)] at this
  have opp : a * k % n + a * k' % n = n → False := fun e => by
    have h3 : (a * (k + k')) % n = 0 := by
      rw [Nat.mul_add, Nat.add_mod, e, Nat.mod_self]
    have h4 := hc.dvd_of_dvd_mul_left (Nat.dvd_of_mod_eq_zero h3)
    have := Nat.le_of_dvd (by omega) h4
    omega
  unfold hl at h
  split at h <;> split at h
  · exact same (by omega)
  · exact (opp (by omega)).elim
  · exact (opp (by omega)).elim
  · exact same h
theorem hl_perm {a n : Nat} (hn : n % 2 = 1) (hc : Nat.Coprime n a) : ((hs n).map (hl a n)).Perm (hs n) := by
  refine nodup_sub_perm ?_ (fun x hx => ?_) (by simp)
  · rw [List.nodup_iff_pairwise_ne, List.pairwise_map]
    exact List.Pairwise.imp_of_mem (fun {x y} hx hy hne he => hne (hl_inj hn hc hx hy he)) (List.nodup_iff_pairwise_ne.1 List.nodup_range')
  · obtain ⟨k, hk, rfl⟩ := List.mem_map.1 hx
    exact hl_mem hn hc hk
theorem rest_eq {a n k : Nat} (hn : n % 2 = 1) : a * k % n = if n < 2 * (a * k % n) then n - hl a n k else hl a n k := by
  have l1 := Nat.mod_lt (a * k) (show 0 < n by omega)
  unfold hl
  split <;> omega
theorem ng_mul {a b n : Nat} (hn : n % 2 = 1) (hc : Nat.Coprime n a) (hb : Nat.Coprime n b) : ng (b * a) n = (ng b n + ng a n) % 2 := by
  have h : ∀ k ∈ hs n, nb (b * a) n k % 2 = (nb b n (hl a n k) + nb a n k) % 2 := fun k hk => by
    have hm := hl_mem hn hc hk
    have hne := rest_ne hn hb hm
    have l1 := Nat.mod_lt (b * hl a n k) (show 0 < n by omega)
    have e1 : b * a * k % n = b * (a * k % n) % n := by rw [Nat.mul_assoc, Nat.mul_mod b (a * k), Nat.mul_mod b (a * k % n), Nat.mod_mod]
    have e2 := rest_eq (a := a) (k := k) hn
    have hh := (mem_hs hn).1 hm
    unfold nb
    by_cases hg : n < 2 * (a * k % n)
    · rw [if_pos hg] at e2
      have e3 : b * a * k % n = n - b * hl a n k % n := by
        have h1 : (b * a * k % n + b * hl a n k) % n = 0 := by
          rw [e1, e2, Nat.add_mod, Nat.mod_mod, ← Nat.add_mod, ← Nat.mul_add, Nat.sub_add_cancel (by omega), Nat.mul_mod_left]
        have l2 := Nat.mod_lt (b * a * k) (show 0 < n by omega)
        rw [Nat.add_mod, Nat.mod_mod] at h1
        have h2 := Nat.dvd_of_mod_eq_zero h1
        obtain ⟨c, hc'⟩ := h2
        have : c = 1 := by
          rcases Nat.lt_or_ge c 1 with h3 | h3
          · obtain rfl : c = 0 := by omega
            omega
          · rcases Nat.lt_or_ge c 2 with h4 | h4
            · omega
            · have := Nat.mul_le_mul_left n h4
              omega
        subst this
        omega
      rw [e3, if_pos hg]
      split <;> split <;> omega
    · rw [if_neg hg] at e2
      rw [if_neg hg, e1, e2, Nat.add_zero]
  unfold ng
  rw [sumL_congr2 h, sumL_add]
  have e : sumL ((hs n).map fun k => nb b n (hl a n k)) = sumL ((hs n).map (nb b n)) := by
    have h2 := sumL_perm ((hl_perm hn hc).map (nb b n))
    rw [List.map_map] at h2
    exact h2
  rw [e]
  omega
theorem cnt_gt (n : Nat) : ∀ m s : Nat, sumL ((List.range' s m).map fun k => if n < 4 * k then 1 else 0) = (if n / 4 + 1 ≤ s then m else s + m - (n / 4 + 1))
  | 0, s => by simp [sumL]; omega
  | m + 1, s => by
    rw [List.range'_succ, List.map_cons, sumL, cnt_gt n m (s + 1)]
    split <;> split <;> split <;> omega
theorem ng_two {n : Nat} (hn : n % 2 = 1) : ng 2 n = if n % 8 = 3 ∨ n % 8 = 5 then 1 else 0 := by
  have h : ∀ k ∈ hs n, nb 2 n k = if n < 4 * k then 1 else 0 := fun k hk => by
    have h1 := (mem_hs hn).1 hk
    unfold nb
    rw [Nat.mod_eq_of_lt (by omega)]
    split <;> split <;> omega
  unfold ng
  rw [sumL_congr h, hs, cnt_gt]
  split <;> split <;> omega
theorem ng_floor {a n : Nat} (hn : n % 2 = 1) (ha : a % 2 = 1) (hc : Nat.Coprime n a) : ng a n = sumL ((hs n).map fun k => a * k / n) % 2 := by
  have h : ∀ k ∈ hs n, (a * k / n) % 2 = (k + hl a n k + nb a n k) % 2 := fun k hk => by
    have hm := (mem_hs hn).1 (hl_mem hn hc hk)
    have e := Nat.div_add_mod (a * k) n
    have e2 := rest_eq (a := a) (k := k) hn
    have p1 : (a * k) % 2 = k % 2 := by rw [Nat.mul_mod, ha, Nat.one_mul, Nat.mod_mod]
    have p2 : (n * (a * k / n)) % 2 = (a * k / n) % 2 := by rw [Nat.mul_mod, hn, Nat.one_mul, Nat.mod_mod]
    generalize a * k / n = q at *
    generalize n * q = nq at *
    unfold nb
    split
    · rename_i hg
      rw [if_pos hg] at e2
      omega
    · rename_i hg
      rw [if_neg hg] at e2
      omega
  rw [sumL_congr2 h, sumL_add, sumL_add]
  have e : sumL ((hs n).map (hl a n)) = sumL ((hs n).map fun k => k) := by
    rw [sumL_perm (hl_perm hn hc), List.map_id']
  unfold ng
  have e' : sumL ((hs n).map fun k => hl a n k) = sumL ((hs n).map fun k => k) := e
  have e'' : sumL ((hs n).map fun k => nb a n k) = sumL ((hs n).map (nb a n)) := rfl
  rw [e', e'']
  omega
theorem cnt_le (n x : Nat) (hn : 0 < n) : ∀ m s : Nat, sumL ((List.range' s m).map fun l => if l * n ≤ x then 1 else 0) = (if x / n + 1 ≤ s then 0 else min m (x / n + 1 - s))
  | 0, s => by simp [sumL]
  | m + 1, s => by
    rw [List.range'_succ, List.map_cons, sumL, cnt_le n x hn m (s + 1)]
    have h : s * n ≤ x ↔ s ≤ x / n := (Nat.le_div_iff_mul_le hn).symm
    by_cases h1 : s * n ≤ x
    · have h2 := h.1 h1
      rw [if_pos h1]
      split <;> split <;> omega
    · have h2 : ¬ s ≤ x / n := fun h' => h1 (h.2 h')
      rw [if_neg h1]
      split <;> split <;> omega
theorem floor_cnt {a n k : Nat} (hn : n % 2 = 1) (ha : a % 2 = 1) (hk : k ∈ hs n) : sumL ((hs a).map fun l => if l * n ≤ a * k then 1 else 0) = a * k / n := by
  have h1 := (mem_hs hn).1 hk
  have h2 : a * k / n < a / 2 + 1 := by
    rw [Nat.div_lt_iff_lt_mul (by omega)]
    have h3 : a * (2 * k) ≤ a * (n - 1) := Nat.mul_le_mul_left a (by omega)
    have h4 : (a / 2 + 1) * n = a / 2 * n + n := Nat.succ_mul _ _
    have h5 : a * n = (2 * (a / 2) + 1) * n := by rw [show 2 * (a / 2) + 1 = a by omega]
    rw [Nat.succ_mul, Nat.mul_assoc] at h5
    rw [Nat.mul_sub, Nat.mul_one] at h3
    rw [show a * (2 * k) = 2 * (a * k) by rw [Nat.mul_left_comm]] at h3
    generalize a / 2 * n = u at *
    generalize a * k = v at *
    generalize a * n = w at *
    omega
  have h6 : a / 2 = (a - 1) / 2 := by omega
  rw [hs, cnt_le n _ (by omega)]
  generalize a * k / n = e at *
  split
  · omega
  · rw [Nat.min_eq_right (by omega)]
    omega
theorem recip {a n : Nat} (hn : n % 2 = 1) (ha : a % 2 = 1) (hc : Nat.Coprime n a) : (ng a n + ng n a) % 2 = if n % 4 = 3 ∧ a % 4 = 3 then 1 else 0 := by
  have e1 : sumL ((hs n).map fun k => a * k / n) = sumL ((hs n).map fun k => sumL ((hs a).map fun l => if l * n ≤ a * k then 1 else 0)) :=
    sumL_congr fun k hk => (floor_cnt hn ha hk).symm
  have e2 : sumL ((hs a).map fun l => n * l / a) = sumL ((hs a).map fun l => sumL ((hs n).map fun k => if k * a ≤ n * l then 1 else 0)) :=
    sumL_congr fun l hl => (floor_cnt ha hn hl).symm
  rw [← sumL_swap (fun k l => if k * a ≤ n * l then 1 else 0)] at e2
  have e3 : sumL ((hs n).map fun k => a * k / n) + sumL ((hs a).map fun l => n * l / a) = (n - 1) / 2 * ((a - 1) / 2) := by
    rw [e1, e2, ← sumL_add]
    have h : ∀ k ∈ hs n, (sumL ((hs a).map fun l => if l * n ≤ a * k then 1 else 0) + sumL ((hs a).map fun l => if k * a ≤ n * l then 1 else 0)) = (a - 1) / 2 := fun k hk => by
      rw [← sumL_add]
      have h' : ∀ l ∈ hs a, ((if l * n ≤ a * k then 1 else 0) + (if k * a ≤ n * l then 1 else 0)) = 1 := fun l hl => by
        have hne : ¬ a * k = n * l := fun e => by
          refine rest_ne hn hc hk ?_
          rw [e, Nat.mul_mod_right]
        rw [Nat.mul_comm l n, Nat.mul_comm k a]
        split <;> split <;> omega
      rw [sumL_congr h', sumL_const, hs_len, Nat.mul_one]
    rw [sumL_congr h, sumL_const, hs_len]
  rw [ng_floor hn ha hc, ng_floor ha hn hc.symm, ← Nat.add_mod, e3, Nat.mul_mod]
  have c1 : (n - 1) / 2 % 2 = if n % 4 = 3 then 1 else 0 := by split <;> omega
  have c2 : (a - 1) / 2 % 2 = if a % 4 = 3 then 1 else 0 := by split <;> omega
  rw [c1, c2]
  by_cases h1 : n % 4 = 3 <;> by_cases h2 : a % 4 = 3 <;> simp [h1, h2]
def sgn (p b : Nat) : Nat := if b % 2 = 1 then p - 1 else 1
theorem sgn_mul {p : Nat} (hp : 2 ≤ p) (b c : Nat) : sgn p b * sgn p c % p = sgn p (b + c) % p := by
  unfold sgn
  have h : (p - 1) * (p - 1) % p = 1 % p := by
    rw [show (p - 1) * (p - 1) = 1 + p * (p - 2) by
      obtain ⟨q, rfl⟩ : ∃ q, p = q + 2 := ⟨p - 2, by omega⟩
      show (q + 1) * (q + 1) = 1 + (q + 2) * q
      simp only [Nat.mul_add, Nat.add_mul, Nat.mul_one, Nat.one_mul]
      omega, Nat.add_mul_mod_self_left]
  by_cases h1 : b % 2 = 1 <;> by_cases h2 : c % 2 = 1
  · rw [if_pos h1, if_pos h2, if_neg (by omega), h]
  · rw [if_pos h1, if_neg h2, if_pos (by omega), Nat.mul_one]
  · rw [if_neg h1, if_pos h2, if_pos (by omega), Nat.one_mul]
  · rw [if_neg h1, if_neg h2, if_neg (by omega)]
theorem add_cancel_mod {a b c p : Nat} (hc : c ≤ p) (h : (a + c) % p = (b + c) % p) : a % p = b % p := by
  have h2 := congrArg (fun z => (z + (p - c)) % p) h
  simp only [Nat.mod_add_mod] at h2
  rwa [Nat.add_assoc, Nat.add_assoc, Nat.add_sub_cancel' hc, Nat.add_mod_right, Nat.add_mod_right] at h2
theorem gauss_prod {a p : Nat} (hp : p % 2 = 1) (hp2 : 2 ≤ p) : ∀ l : List Nat, (∀ k ∈ l, hl a p k ≤ p) →
    prodL (l.map fun k => a * k % p) % p = sgn p (sumL (l.map (nb a p))) * prodL (l.map (hl a p)) % p
  | [], _ => by simp [prodL, sumL, sgn]
  | k :: l, h => by
    have ih := gauss_prod (a := a) hp hp2 l fun x hx => h x (List.mem_cons_of_mem _ hx)
    have hk := h k (List.mem_cons_self ..)
    simp only [List.map_cons, prodL, sumL]
    have e : a * k % p % p = sgn p (nb a p k) * hl a p k % p := by
      have e2 := rest_eq (a := a) (k := k) hp
      unfold nb sgn
      by_cases hg : p < 2 * (a * k % p)
      · rw [if_pos hg] at e2
        rw [if_pos hg, if_pos rfl, Nat.mod_mod]
        have h1 : (p - 1) * hl a p k + hl a p k = p * hl a p k := by rw [← Nat.succ_mul]; congr 1; omega
        have h2 : ((p - 1) * hl a p k) % p = (p - hl a p k) % p := by
          have h3 : ((p - 1) * hl a p k + hl a p k) % p = (p - hl a p k + hl a p k) % p := by
            rw [h1, Nat.sub_add_cancel hk, Nat.mul_mod_right, Nat.mod_self]
          exact add_cancel_mod hk h3
        rw [h2, ← e2, Nat.mod_mod]
      · rw [if_neg hg] at e2
        rw [if_neg hg, if_neg (by decide), Nat.one_mul, ← e2]
    have e3 : sgn p (nb a p k) * hl a p k * (sgn p (sumL (l.map (nb a p))) * prodL (l.map (hl a p))) = sgn p (nb a p k) * sgn p (sumL (l.map (nb a p))) * (hl a p k * prodL (l.map (hl a p))) := by
      simp only [Nat.mul_assoc, Nat.mul_left_comm, Nat.mul_comm]
    rw [Nat.mul_mod, ih, e, ← Nat.mul_mod, e3, Nat.mul_mod, sgn_mul hp2, ← Nat.mul_mod]
theorem euler {a p : Nat} (hp : Irr p) (h2 : p % 2 = 1) (ha : ¬ p ∣ a) : a ^ ((p - 1) / 2) % p = sgn p (ng a p) % p := by
  have hc := hp.coprime ha
  have h1 := prodL_map_mod a p (hs p)
  rw [gauss_prod h2 hp.1 _ (fun k hk => by have := (mem_hs h2).1 (hl_mem h2 hc hk); omega), prodL_perm (hl_perm h2 hc), hs_len] at h1
  have h3 : ¬ p ∣ prodL (hs p) := prodL_not_dvd hp fun x hx hd => by
    have := (mem_hs h2).1 hx
    have := Nat.le_of_dvd (by omega) hd
    omega
  rw [Nat.mul_comm (sgn _ _), Nat.mul_comm (a ^ _)] at h1
  rw [← mod_cancel (hp.coprime h3) h1]
  unfold sgn ng
  rw [Nat.mod_mod]
end Jac
end Go.Proofs.YtpahdiljpnfkdaaGreat
