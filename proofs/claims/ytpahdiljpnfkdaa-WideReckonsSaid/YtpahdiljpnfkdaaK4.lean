/- What the proof stands on, part 4: the walk of each function, and plain laws of numbers. -/
import Derived.Test.YtpahdiljpnfkdaaK3
import Derived.KernelRfl
import Derived.Test.YtpahdiljpnfkdaaRows
import Derived.ProofKit
namespace Go.Proofs.Ytpahdiljpnfkdaa
open Go Sim
theorem addD_ctr {x y : Nat} (hlx : (D 4294967296 x).length < 100000000) (hly : (D 4294967296 y).length < 100000000) : GC Try.prog 25 [.slice (some ⟨0, 0, none⟩) (D 4294967296 x).length 0, .slice (some ⟨1, 0, none⟩) (D 4294967296 y).length 0] [⟨(D 4294967296 x).map (vi .u64), false, 1⟩, ⟨(D 4294967296 y).map (vi .u64), false, 1⟩] [.slice (some ⟨2, 0, none⟩) (D 4294967296 (x + y)).length 0] [⟨(D 4294967296 x).map (vi .u64), false, 1⟩, ⟨(D 4294967296 y).map (vi .u64), false, 1⟩, ⟨(D 4294967296 (x + y)).map (vi .u64), true, 1⟩] := by
 have h := radd_ctr (a := D 4294967296 x) (b := D 4294967296 y) (bd_D (by decide) _) (bd_D (by decide) _) hlx hly
 simp only [num_D (show 2 ≤ 4294967296 by decide)] at h
 exact h
theorem subD_ctr {x y : Nat} (hlx : (D 4294967296 x).length < 100000000) (hly : (D 4294967296 y).length < 100000000) (h : y ≤ x) : GC Try.prog 27 [.slice (some ⟨0, 0, none⟩) (D 4294967296 x).length 0, .slice (some ⟨1, 0, none⟩) (D 4294967296 y).length 0] [⟨(D 4294967296 x).map (vi .u64), false, 1⟩, ⟨(D 4294967296 y).map (vi .u64), false, 1⟩] [.slice (some ⟨2, 0, none⟩) (D 4294967296 (x - y)).length 0] [⟨(D 4294967296 x).map (vi .u64), false, 1⟩, ⟨(D 4294967296 y).map (vi .u64), false, 1⟩, ⟨(D 4294967296 (x - y)).map (vi .u64), true, 1⟩] := by
 have h := rsub_ctr (a := D 4294967296 x) (b := D 4294967296 y) (bd_D (by decide) _) (bd_D (by decide) _) hlx hly (by rw [num_D (by decide), num_D (by decide)]; exact h)
 simp only [num_D (show 2 ≤ 4294967296 by decide)] at h
 exact h
theorem mulD_ctr {x y : Nat} (hlx : (D 4294967296 x).length < 100000000) (hly : (D 4294967296 y).length < 100000000) : GC Try.prog 30 [.slice (some ⟨0, 0, none⟩) (D 4294967296 x).length 0, .slice (some ⟨1, 0, none⟩) (D 4294967296 y).length 0] [⟨(D 4294967296 x).map (vi .u64), false, 1⟩, ⟨(D 4294967296 y).map (vi .u64), false, 1⟩] [.slice (some ⟨2, 0, none⟩) (D 4294967296 (x * y)).length 0] [⟨(D 4294967296 x).map (vi .u64), false, 1⟩, ⟨(D 4294967296 y).map (vi .u64), false, 1⟩, ⟨(D 4294967296 (x * y)).map (vi .u64), true, 1⟩] := by
 have h := rmul_ctr (a := D 4294967296 x) (b := D 4294967296 y) (bd_D (by decide) _) (bd_D (by decide) _) hlx hly
 simp only [num_D (show 2 ≤ 4294967296 by decide)] at h
 exact h
theorem cmpD_ctr {x y : Nat} (hlx : (D 4294967296 x).length < 100000000) (hly : (D 4294967296 y).length < 100000000) : GC Try.prog 97 [.slice (some ⟨0, 0, none⟩) (D 4294967296 x).length 0, .slice (some ⟨1, 0, none⟩) (D 4294967296 y).length 0] [⟨(D 4294967296 x).map (vi .u64), false, 1⟩, ⟨(D 4294967296 y).map (vi .u64), false, 1⟩] [.int .i64 (cmpI x y)] [⟨(D 4294967296 x).map (vi .u64), false, 1⟩, ⟨(D 4294967296 y).map (vi .u64), false, 1⟩] := by
 have h := rcmp_ctr (a := D 4294967296 x) (b := D 4294967296 y) (bd_D (by decide) _) (bd_D (by decide) _) (Nat.lt_trans hlx (by decide)) (Nat.lt_trans hly (by decide))
 simp only [num_D (show 2 ≤ 4294967296 by decide)] at h
 exact h
end Go.Proofs.Ytpahdiljpnfkdaa
namespace Go.Proofs.Ytpahdiljpnfkdaa
open Go Sim
theorem wordsD_ctr {x n : Nat} (hn : n < 100000000) : GC Try.prog 83 [.slice (some ⟨0, 0, none⟩) (D 4294967296 x).length 0, vi .i64 (n)] [⟨(D 4294967296 x).map (vi .u64), false, 1⟩] [.slice (some ⟨1, 0, none⟩) n 0] [⟨(D 4294967296 x).map (vi .u64), false, 1⟩, ⟨(digs 18446744073709551616 n x).map (vi .u64), true, 1⟩] := by
 have h := words_ctr (a := D 4294967296 x) (n := n) (bd_D (by decide) _) hn
 simp only [num_D (show 2 ≤ 4294967296 by decide), digs_len] at h
 exact h
end Go.Proofs.Ytpahdiljpnfkdaa
namespace Go.Proofs.Ytpahdiljpnfkdaa
open Go Sim
theorem lcmp_ctrV {a b : List Nat} {na xa nb xb : Nat} (hna : a.length = na) (hxa : num 18446744073709551616 a = xa) (hnb : b.length = nb) (hxb : num 18446744073709551616 b = xb) (ha : bd 18446744073709551616 a) (hb : bd 18446744073709551616 b) (hla : a.length < 100000000) (hlb : b.length < 100000000) : GC Try.prog 96 [.slice (some ⟨0, 0, none⟩) na 0, .slice (some ⟨1, 0, none⟩) nb 0] [⟨a.map (vi .u64), false, 1⟩, ⟨b.map (vi .u64), false, 1⟩] [.int .i64 (cmpI (xa) (xb))] [⟨a.map (vi .u64), false, 1⟩, ⟨b.map (vi .u64), false, 1⟩] := by
 subst hna hxa; subst hnb hxb
 exact lcmp_ctr ha hb hla hlb
end Go.Proofs.Ytpahdiljpnfkdaa
namespace Go.Proofs.Ytpahdiljpnfkdaa
open Go Sim
def fel (v : Nat) : List Nat := digs 18446744073709551616 4 (v * 18446744073709551616 ^ 4 % 21888242871839275222246405745257275088548364400416034343698204186575808495617)
theorem fel_len (v : Nat) : (fel v).length = 4 := digs_len _ _
theorem num_fel (v : Nat) : num 18446744073709551616 (fel v) = v * 18446744073709551616 ^ 4 % 21888242871839275222246405745257275088548364400416034343698204186575808495617 := num_digs_lt (Nat.lt_of_lt_of_le (Nat.mod_lt _ (by decide)) (by decide))
theorem mul_modG (u v w p : Nat) : u * v * w % p * w % p = u * w % p * (v * w % p) % p := by
 rw [Nat.mod_mul_mod, ← Nat.mul_mod]
 congr 1
 grind
theorem mul_mod (u v : Nat) : u * v * 18446744073709551616 ^ 4 % 21888242871839275222246405745257275088548364400416034343698204186575808495617 * 18446744073709551616 ^ 4 % 21888242871839275222246405745257275088548364400416034343698204186575808495617 = num 18446744073709551616 (fel u) * num 18446744073709551616 (fel v) % 21888242871839275222246405745257275088548364400416034343698204186575808495617 := by
 rw [num_fel, num_fel]
 exact mul_modG u v (18446744073709551616 ^ 4) 21888242871839275222246405745257275088548364400416034343698204186575808495617
end Go.Proofs.Ytpahdiljpnfkdaa
namespace Go.Proofs.Ytpahdiljpnfkdaa
open Go Sim
def PG : Nat := 1552518092300708935130918131258481755631334049434514313202351194902966239949102107258669453876591642442910007680288864229150803718918046342632727613031282983744380820890196288509170691316593175367469551763119843371637221007210577919
def QG : Nat := 776259046150354467565459065629240877815667024717257156601175597451483119974551053629334726938295821221455003840144432114575401859459023171316363806515641491872190410445098144254585345658296587683734775881559921685818610503605288959
def RR2 (N : Nat) : Nat := 18446744073709551616 ^ 12 * 18446744073709551616 ^ 12 % N
structure RN (N : Nat) : Prop where
  lt : N < 18446744073709551616 ^ 12
  odd : N % 2 = 1
  top : (digs 18446744073709551616 12 N).getD 11 0 ≠ 0
theorem rn_p : RN PG := ⟨by decide +kernel, by decide +kernel, by decide +kernel⟩
theorem rn_q : RN QG := ⟨by decide +kernel, by decide +kernel, by decide +kernel⟩
theorem rn_num {N : Nat} (h : RN N) : num 18446744073709551616 (digs 18446744073709551616 12 N) = N := num_digs_lt h.lt
theorem rn_pos {N : Nat} (h : RN N) : 0 < N := by have := h.odd; omega
theorem rn_mw {N : Nat} (h : RN N) : MwOk (digs 18446744073709551616 12 N) := ⟨digs_bd (by decide) _ _, by rw [digs_len]; decide, by rw [digs_len]; decide, by rw [(rn_num h)]; exact (rn_pos h)⟩
theorem rn_low {N : Nat} (h : RN N) : (digs 18446744073709551616 12 N).getD 0 0 % 2 = 1 := by
  have e : (digs 18446744073709551616 12 N).getD 0 0 = N % 18446744073709551616 := rfl
  rw [e]; have := h.odd; omega
theorem rn_iv {N : Nat} (h : RN N) : (num 18446744073709551616 (digs 18446744073709551616 12 N) * ninvR ((digs 18446744073709551616 12 N).getD 0 0) + 1) % 18446744073709551616 = 0 := ninvR_ok (digs_bd (by decide) _ _) (rn_low h)
theorem rn_one {N : Nat} (h : RN N) : 1 < num 18446744073709551616 (digs 18446744073709551616 12 N) := right_gt (digs_bd (by decide) _ _) (by rw [digs_len]; decide) (by rw [digs_len]; exact h.top) (by rw [digs_len]; exact fun h => absurd h.1 (by decide))
theorem ld12 {l : List Nat} (h : l.length = 12) : ((l.map (vi .u64)).drop 0).take 12 = l.map (vi .u64) := List.take_of_length_le (by simp [h])
theorem ld96 {l : List Nat} (h : l.length = 96) : ((l.map (vi .u8)).drop 0).take 96 = l.map (vi .u8) := List.take_of_length_le (by simp [h])
theorem w96 : 256 ^ 96 = 18446744073709551616 ^ 12 := by kernel_rfl
theorem newN_ctr {N : Nat} (hN : RN N) : GC Try.prog 109 [.slice (some ⟨0, 0, none⟩) 12 0] [⟨(digs 18446744073709551616 12 N).map (vi .u64), false, 1⟩] [.pointer (some ⟨1, 0, none⟩), .int .i64 0] [⟨(digs 18446744073709551616 12 N).map (vi .u64), false, 1⟩, ⟨[.slice (some ⟨2, 0, none⟩) 12 0, vi .u64 (ninvR ((digs 18446744073709551616 12 N).getD 0 0)), .slice (some ⟨3, 0, none⟩) 12 0], true, 1⟩, ⟨((digs 18446744073709551616 12 N)).map (vi .u64), true, 1⟩, ⟨((digs 18446744073709551616 12 (RR2 N))).map (vi .u64), true, 1⟩] := by
  have h := lnew_ctr (mw := digs 18446744073709551616 12 N) (digs_bd (by decide) _ _) (by rw [digs_len]; decide) (by rw [digs_len]; decide) (rn_low hN) (by rw [digs_len]; exact hN.top) (by rw [digs_len]; exact fun h => absurd h.1 (by decide))
  simp only [digs_len, (rn_num hN)] at h
  exact h
theorem maddN_ctr {N a b : Nat} (hN : RN N) (ha : a < 18446744073709551616 ^ 12) (hb : b < 18446744073709551616 ^ 12) : GC Try.prog 87 [.pointer (some ⟨0, 0, none⟩), .slice (some ⟨3, 0, none⟩) 12 0, .slice (some ⟨4, 0, none⟩) 12 0] [⟨[.slice (some ⟨1, 0, none⟩) 12 0, vi .u64 (ninvR ((digs 18446744073709551616 12 N).getD 0 0)), .slice (some ⟨2, 0, none⟩) 12 0], false, 1⟩, ⟨((digs 18446744073709551616 12 N)).map (vi .u64), false, 1⟩, ⟨((digs 18446744073709551616 12 (RR2 N))).map (vi .u64), false, 1⟩, ⟨(digs 18446744073709551616 12 a).map (vi .u64), false, 1⟩, ⟨(digs 18446744073709551616 12 b).map (vi .u64), false, 1⟩] [.slice (some ⟨5, 0, none⟩) 12 0] [⟨[.slice (some ⟨1, 0, none⟩) 12 0, vi .u64 (ninvR ((digs 18446744073709551616 12 N).getD 0 0)), .slice (some ⟨2, 0, none⟩) 12 0], false, 1⟩, ⟨((digs 18446744073709551616 12 N)).map (vi .u64), false, 1⟩, ⟨((digs 18446744073709551616 12 (RR2 N))).map (vi .u64), false, 1⟩, ⟨(digs 18446744073709551616 12 a).map (vi .u64), false, 1⟩, ⟨(digs 18446744073709551616 12 b).map (vi .u64), false, 1⟩, ⟨(digs 18446744073709551616 12 ((a % N + b % N) % N)).map (vi .u64), true, 1⟩] := by
  have h := madd_ctr (sq := digs 18446744073709551616 12 (RR2 N)) (iv := ninvR ((digs 18446744073709551616 12 N).getD 0 0)) (ns := 12) (rn_mw hN) (a := digs 18446744073709551616 12 a) (b := digs 18446744073709551616 12 b) (digs_bd (by decide) _ _) (digs_bd (by decide) _ _) (by rw [digs_len]; decide) (by rw [digs_len]; decide)
  simp only [digs_len, (rn_num hN), num_digs_lt ha, num_digs_lt hb] at h
  exact h
theorem msubN_ctr {N a b : Nat} (hN : RN N) (ha : a < 18446744073709551616 ^ 12) (hb : b < 18446744073709551616 ^ 12) : GC Try.prog 90 [.pointer (some ⟨0, 0, none⟩), .slice (some ⟨3, 0, none⟩) 12 0, .slice (some ⟨4, 0, none⟩) 12 0] [⟨[.slice (some ⟨1, 0, none⟩) 12 0, vi .u64 (ninvR ((digs 18446744073709551616 12 N).getD 0 0)), .slice (some ⟨2, 0, none⟩) 12 0], false, 1⟩, ⟨((digs 18446744073709551616 12 N)).map (vi .u64), false, 1⟩, ⟨((digs 18446744073709551616 12 (RR2 N))).map (vi .u64), false, 1⟩, ⟨(digs 18446744073709551616 12 a).map (vi .u64), false, 1⟩, ⟨(digs 18446744073709551616 12 b).map (vi .u64), false, 1⟩] [.slice (some ⟨5, 0, none⟩) 12 0] [⟨[.slice (some ⟨1, 0, none⟩) 12 0, vi .u64 (ninvR ((digs 18446744073709551616 12 N).getD 0 0)), .slice (some ⟨2, 0, none⟩) 12 0], false, 1⟩, ⟨((digs 18446744073709551616 12 N)).map (vi .u64), false, 1⟩, ⟨((digs 18446744073709551616 12 (RR2 N))).map (vi .u64), false, 1⟩, ⟨(digs 18446744073709551616 12 a).map (vi .u64), false, 1⟩, ⟨(digs 18446744073709551616 12 b).map (vi .u64), false, 1⟩, ⟨(digs 18446744073709551616 12 ((a % N + (N - b % N)) % N)).map (vi .u64), true, 1⟩] := by
  have h := msub_ctr (sq := digs 18446744073709551616 12 (RR2 N)) (iv := ninvR ((digs 18446744073709551616 12 N).getD 0 0)) (ns := 12) (rn_mw hN) (a := digs 18446744073709551616 12 a) (b := digs 18446744073709551616 12 b) (digs_bd (by decide) _ _) (digs_bd (by decide) _ _) (by rw [digs_len]; decide) (by rw [digs_len]; decide)
  simp only [digs_len, (rn_num hN), num_digs_lt ha, num_digs_lt hb] at h
  exact h
theorem mmulN_ctr {N a b : Nat} (hN : RN N) (ha : a < 18446744073709551616 ^ 12) (hb : b < 18446744073709551616 ^ 12) : GC Try.prog 92 [.pointer (some ⟨0, 0, none⟩), .slice (some ⟨3, 0, none⟩) 12 0, .slice (some ⟨4, 0, none⟩) 12 0] [⟨[.slice (some ⟨1, 0, none⟩) 12 0, vi .u64 (ninvR ((digs 18446744073709551616 12 N).getD 0 0)), .slice (some ⟨2, 0, none⟩) 12 0], false, 1⟩, ⟨((digs 18446744073709551616 12 N)).map (vi .u64), false, 1⟩, ⟨((digs 18446744073709551616 12 (RR2 N))).map (vi .u64), false, 1⟩, ⟨(digs 18446744073709551616 12 a).map (vi .u64), false, 1⟩, ⟨(digs 18446744073709551616 12 b).map (vi .u64), false, 1⟩] [.slice (some ⟨5, 0, none⟩) 12 0] [⟨[.slice (some ⟨1, 0, none⟩) 12 0, vi .u64 (ninvR ((digs 18446744073709551616 12 N).getD 0 0)), .slice (some ⟨2, 0, none⟩) 12 0], false, 1⟩, ⟨((digs 18446744073709551616 12 N)).map (vi .u64), false, 1⟩, ⟨((digs 18446744073709551616 12 (RR2 N))).map (vi .u64), false, 1⟩, ⟨(digs 18446744073709551616 12 a).map (vi .u64), false, 1⟩, ⟨(digs 18446744073709551616 12 b).map (vi .u64), false, 1⟩, ⟨(digs 18446744073709551616 12 (a * b % N)).map (vi .u64), true, 1⟩] := by
  have h := mmul_ctr (rn_mw hN) (a := digs 18446744073709551616 12 a) (b := digs 18446744073709551616 12 b) (digs_bd (by decide) _ _) (digs_bd (by decide) _ _) (by rw [digs_len]; decide) (by rw [digs_len]; decide) (rn_iv hN)
  simp only [digs_len, (rn_num hN), num_digs_lt ha, num_digs_lt hb] at h
  exact h
theorem mexpN_ctr {N a b : Nat} (hN : RN N) (ha : a < 18446744073709551616 ^ 12) (hb : b < 18446744073709551616 ^ 12) : GC Try.prog 82 [.pointer (some ⟨0, 0, none⟩), .slice (some ⟨3, 0, none⟩) 12 0, .slice (some ⟨4, 0, none⟩) 12 0] [⟨[.slice (some ⟨1, 0, none⟩) 12 0, vi .u64 (ninvR ((digs 18446744073709551616 12 N).getD 0 0)), .slice (some ⟨2, 0, none⟩) 12 0], false, 1⟩, ⟨((digs 18446744073709551616 12 N)).map (vi .u64), false, 1⟩, ⟨((digs 18446744073709551616 12 (RR2 N))).map (vi .u64), false, 1⟩, ⟨(digs 18446744073709551616 12 a).map (vi .u64), false, 1⟩, ⟨(digs 18446744073709551616 12 b).map (vi .u64), false, 1⟩] [.slice (some ⟨5, 0, none⟩) 12 0] [⟨[.slice (some ⟨1, 0, none⟩) 12 0, vi .u64 (ninvR ((digs 18446744073709551616 12 N).getD 0 0)), .slice (some ⟨2, 0, none⟩) 12 0], false, 1⟩, ⟨((digs 18446744073709551616 12 N)).map (vi .u64), false, 1⟩, ⟨((digs 18446744073709551616 12 (RR2 N))).map (vi .u64), false, 1⟩, ⟨(digs 18446744073709551616 12 a).map (vi .u64), false, 1⟩, ⟨(digs 18446744073709551616 12 b).map (vi .u64), false, 1⟩, ⟨(digs 18446744073709551616 12 (a ^ b % N)).map (vi .u64), true, 1⟩] := by
  have h := mexp_ctr (rn_mw hN) (a := digs 18446744073709551616 12 a) (b := digs 18446744073709551616 12 b) (digs_bd (by decide) _ _) (digs_bd (by decide) _ _) (by rw [digs_len]; decide) (by rw [digs_len]; decide) (rn_iv hN) (rn_one hN)
  simp only [digs_len, (rn_num hN), num_digs_lt ha, num_digs_lt hb] at h
  exact h
theorem mredN_ctr {N nl x : Nat} {l : List Nat} (hN : RN N) (hnl : l.length = nl) (hx : num 18446744073709551616 l = x) (hl : bd 18446744073709551616 l) (hll : nl ≤ 1000) : GC Try.prog 94 [.pointer (some ⟨0, 0, none⟩), .slice (some ⟨3, 0, none⟩) nl 0] [⟨[.slice (some ⟨1, 0, none⟩) 12 0, vi .u64 (ninvR ((digs 18446744073709551616 12 N).getD 0 0)), .slice (some ⟨2, 0, none⟩) 12 0], false, 1⟩, ⟨((digs 18446744073709551616 12 N)).map (vi .u64), false, 1⟩, ⟨((digs 18446744073709551616 12 (RR2 N))).map (vi .u64), false, 1⟩, ⟨l.map (vi .u64), false, 1⟩] [.slice (some ⟨4, 0, none⟩) 12 0] [⟨[.slice (some ⟨1, 0, none⟩) 12 0, vi .u64 (ninvR ((digs 18446744073709551616 12 N).getD 0 0)), .slice (some ⟨2, 0, none⟩) 12 0], false, 1⟩, ⟨((digs 18446744073709551616 12 N)).map (vi .u64), false, 1⟩, ⟨((digs 18446744073709551616 12 (RR2 N))).map (vi .u64), false, 1⟩, ⟨l.map (vi .u64), false, 1⟩, ⟨(digs 18446744073709551616 12 (x % N)).map (vi .u64), true, 1⟩] := by
  subst hnl hx
  have h := reduce_ctr (sq := digs 18446744073709551616 12 (RR2 N)) (iv := ninvR ((digs 18446744073709551616 12 N).getD 0 0)) (ns := 12) (rn_mw hN) hl hll
  simp only [digs_len, (rn_num hN)] at h
  exact h
theorem mwordsN_ctr {N : Nat} (hN : RN N) : GC Try.prog 93 [.pointer (some ⟨0, 0, none⟩)] [⟨[.slice (some ⟨1, 0, none⟩) 12 0, vi .u64 (ninvR ((digs 18446744073709551616 12 N).getD 0 0)), .slice (some ⟨2, 0, none⟩) 12 0], false, 1⟩, ⟨((digs 18446744073709551616 12 N)).map (vi .u64), false, 1⟩, ⟨((digs 18446744073709551616 12 (RR2 N))).map (vi .u64), false, 1⟩] [.slice (some ⟨3, 0, none⟩) 12 0] [⟨[.slice (some ⟨1, 0, none⟩) 12 0, vi .u64 (ninvR ((digs 18446744073709551616 12 N).getD 0 0)), .slice (some ⟨2, 0, none⟩) 12 0], false, 1⟩, ⟨((digs 18446744073709551616 12 N)).map (vi .u64), false, 1⟩, ⟨((digs 18446744073709551616 12 (RR2 N))).map (vi .u64), false, 1⟩, ⟨(digs 18446744073709551616 12 N).map (vi .u64), true, 1⟩] := by
  have h := mwords_ctr (mw := digs 18446744073709551616 12 N) (sq := digs 18446744073709551616 12 (RR2 N)) (iv := ninvR ((digs 18446744073709551616 12 N).getD 0 0)) (ns := 12) (by rw [digs_len]; decide) (by rw [digs_len]; decide)
  simp only [digs_len, (rn_num hN)] at h
  exact h
theorem lb12_ctr {a : Nat} (ha : a < 18446744073709551616 ^ 12) : GC Try.prog 98 [.slice (some ⟨0, 0, none⟩) 12 0] [⟨(digs 18446744073709551616 12 a).map (vi .u64), false, 1⟩] [.slice (some ⟨1, 0, none⟩) 96 0] [⟨(digs 18446744073709551616 12 a).map (vi .u64), false, 1⟩, ⟨(digs 256 96 a).map (vi .u8), true, 1⟩] := by
  have h := lbytes_ctr (a := digs 18446744073709551616 12 a) (digs_bd (by decide) _ _) (by rw [digs_len]; decide)
  simp only [digs_len, num_digs_lt ha] at h
  exact h
theorem lw96_ctr {b : List Nat} (hb : bd 256 b) (hl : b.length = 96) : GC Try.prog 95 [.slice (some ⟨0, 0, none⟩) b.length 0] [⟨b.map (vi .u8), false, 1⟩] [.slice (some ⟨1, 0, none⟩) 12 0] [⟨b.map (vi .u8), false, 1⟩, ⟨(digs 18446744073709551616 12 (num 256 b)).map (vi .u64), true, 1⟩] := by
  have h := lwords_ctr hb (by omega)
  rw [hl] at h ⊢
  exact h
theorem cmp_ge {x y : Nat} (h : y ≤ x) : decide (cmpI x y ≥ 0) = true := decide_eq_true (by unfold cmpI; split <;> (try split) <;> omega)
theorem cmp_lt {x y : Nat} (h : x < y) : decide (cmpI x y ≥ 0) = false := decide_eq_false (by unfold cmpI; split <;> (try split) <;> omega)
theorem ofA_ctr {N a b : Nat} (hN : RN N) (ha : a < 18446744073709551616 ^ 12) (hb : b < 18446744073709551616 ^ 12) : GC Try.prog 81 [.func (.func 87) #[.pointer (some ⟨0, 0, none⟩)] #[], .agg ((digs 18446744073709551616 12 a).map (vi .u64)).toArray, .agg ((digs 18446744073709551616 12 b).map (vi .u64)).toArray] [⟨[.slice (some ⟨1, 0, none⟩) 12 0, vi .u64 (ninvR ((digs 18446744073709551616 12 N).getD 0 0)), .slice (some ⟨2, 0, none⟩) 12 0], false, 1⟩, ⟨((digs 18446744073709551616 12 N)).map (vi .u64), false, 1⟩, ⟨((digs 18446744073709551616 12 (RR2 N))).map (vi .u64), false, 1⟩] [.agg ((digs 18446744073709551616 12 ((a % N + b % N) % N)).map (vi .u64)).toArray] [⟨[.slice (some ⟨1, 0, none⟩) 12 0, vi .u64 (ninvR ((digs 18446744073709551616 12 N).getD 0 0)), .slice (some ⟨2, 0, none⟩) 12 0], false, 1⟩, ⟨((digs 18446744073709551616 12 N)).map (vi .u64), false, 1⟩, ⟨((digs 18446744073709551616 12 (RR2 N))).map (vi .u64), false, 1⟩] := by
  refine GC.intro Try.func81 rfl (by show 3 ≤ 13; decide) (by first | exact Nat.le_refl _ | decide | simp) ?_
  refine AW.seqR ?_
  refine AWo.box 5000 1 _ rfl rfl rfl rfl rfl ?_
  refine AWo.box 6000 1 _ rfl rfl rfl rfl rfl ?_
  refine AWo.alloc tbok 7000 1 ((List.replicate 12 0).map (vi .u64)) rfl rfl rfl rfl rfl rfl ?_
  refine AWo.nil trivial ?_
  refine AW.seqD mixed ?_
  refine AWo.pure (PureOp.move rfl) rfl rfl ?_
  refine AWo.sliceA tbok (h := 12) rfl .none .none rfl rfl rfl rfl (by decide) (by decide) (.inl rfl) (by show 12 ≤ ((digs 18446744073709551616 12 (a)).map (vi .u64)).length; rw [List.length_map, digs_len]; decide) rfl rfl rfl ?_
  refine AWo.sliceA tbok (h := 12) rfl .none .none rfl rfl rfl rfl (by decide) (by decide) (.inl rfl) (by show 12 ≤ ((digs 18446744073709551616 12 (b)).map (vi .u64)).length; rw [List.length_map, digs_len]; decide) rfl rfl rfl ?_
  refine AWo.callX (maddN_ctr (a := a) (b := b) hN ha hb) bd87 [(0, 0), (1, 0), (2, 0), (5000, 0), (6000, 0)] [11000] rfl (.cons rfl (.cons rfl .nil)) rfl (.cons rfl rfl (.cons rfl rfl (.cons rfl rfl .nil))) (.whole rfl rfl (OkL.all rfl) (by intro h; first | exact h | rfl) (.flat rfl (flatM flat_vi) (by intro h; first | exact h | rfl) (.flat rfl (flatM flat_vi) (by intro h; first | exact h | rfl) (.flat rfl (by first | exact flatM flat_vi | exact flatM flat_bool | (simp [flatV, flat_vi]; done)) (by intro h; first | exact h | rfl) (.flat rfl (by first | exact flatM flat_vi | exact flatM flat_bool | (simp [flatV, flat_vi]; done)) (by intro h; first | exact h | rfl) .nil))))) rfl (.keep rfl (.keep rfl (.keep rfl (.keep rfl (.keep rfl (.new (flat_map_ren (by first | exact flatM flat_vi | exact flatM flat_bool | (simp [flatV, flat_vi]; done))) (OkL.flat (by first | exact flatM flat_vi | exact flatM flat_bool | (simp [flatV, flat_vi]; done))) .nil)))))) (frC rfl frN) (by decide) (.cons rfl rfl .nil) rfl rfl rfl rfl ?_
  refine AWo.pure (PureOp.toArrT tbok rfl rfl (by decide) (by decide)) rfl rfl ?_
  refine AWo.loadAgg tbok (vs := (digs 18446744073709551616 12 ((a % N + b % N) % N)).map (vi .u64)) rfl rfl rfl rfl (by show 0 + 12 ≤ _; simp [digs_len]) (ld12 (digs_len _ _)) rfl rfl ?_
  refine AWo.storeAllN tbok rfl rfl rfl rfl (by rw [List.length_map, digs_len]) (by first | rfl | (simp [digs_len]; done)) (oneM (fun _ => rfl) _) rfl ?_
  refine AWo.nil (by kernel_rfl) ?_
  refine AW.ret ?_
  refine RetQ.gc [_] [] [.cell 6 24] (.inl rfl) rfl (.val (RVal.cellAll tbok rfl rfl rfl rfl (by first | (simp [*]; done) | rfl)) .nil) rfl (.pure (by first | rfl | exact pure_aggM flat_vi | exact pure_aggM flat_bool) .nil) (OutL.whole rfl rfl (OkL.all rfl) (by intro h; first | rfl | exact h.elim id fun h => absurd h.1 (by simp)) (OutL.flat rfl (flatM flat_vi) (by intro h; first | rfl | exact h.elim id fun h => absurd h.1 (by simp)) (OutL.flat rfl (flatM flat_vi) (by intro h; first | rfl | exact h.elim id fun h => absurd h.1 (by simp)) trivial))) (by decide) rfl
theorem ofS_ctr {N a b : Nat} (hN : RN N) (ha : a < 18446744073709551616 ^ 12) (hb : b < 18446744073709551616 ^ 12) : GC Try.prog 81 [.func (.func 90) #[.pointer (some ⟨0, 0, none⟩)] #[], .agg ((digs 18446744073709551616 12 a).map (vi .u64)).toArray, .agg ((digs 18446744073709551616 12 b).map (vi .u64)).toArray] [⟨[.slice (some ⟨1, 0, none⟩) 12 0, vi .u64 (ninvR ((digs 18446744073709551616 12 N).getD 0 0)), .slice (some ⟨2, 0, none⟩) 12 0], false, 1⟩, ⟨((digs 18446744073709551616 12 N)).map (vi .u64), false, 1⟩, ⟨((digs 18446744073709551616 12 (RR2 N))).map (vi .u64), false, 1⟩] [.agg ((digs 18446744073709551616 12 ((a % N + (N - b % N)) % N)).map (vi .u64)).toArray] [⟨[.slice (some ⟨1, 0, none⟩) 12 0, vi .u64 (ninvR ((digs 18446744073709551616 12 N).getD 0 0)), .slice (some ⟨2, 0, none⟩) 12 0], false, 1⟩, ⟨((digs 18446744073709551616 12 N)).map (vi .u64), false, 1⟩, ⟨((digs 18446744073709551616 12 (RR2 N))).map (vi .u64), false, 1⟩] := by
  refine GC.intro Try.func81 rfl (by show 3 ≤ 13; decide) (by first | exact Nat.le_refl _ | decide | simp) ?_
  refine AW.seqR ?_
  refine AWo.box 5000 1 _ rfl rfl rfl rfl rfl ?_
  refine AWo.box 6000 1 _ rfl rfl rfl rfl rfl ?_
  refine AWo.alloc tbok 7000 1 ((List.replicate 12 0).map (vi .u64)) rfl rfl rfl rfl rfl rfl ?_
  refine AWo.nil trivial ?_
  refine AW.seqD mixed ?_
  refine AWo.pure (PureOp.move rfl) rfl rfl ?_
  refine AWo.sliceA tbok (h := 12) rfl .none .none rfl rfl rfl rfl (by decide) (by decide) (.inl rfl) (by show 12 ≤ ((digs 18446744073709551616 12 (a)).map (vi .u64)).length; rw [List.length_map, digs_len]; decide) rfl rfl rfl ?_
  refine AWo.sliceA tbok (h := 12) rfl .none .none rfl rfl rfl rfl (by decide) (by decide) (.inl rfl) (by show 12 ≤ ((digs 18446744073709551616 12 (b)).map (vi .u64)).length; rw [List.length_map, digs_len]; decide) rfl rfl rfl ?_
  refine AWo.callX (msubN_ctr (a := a) (b := b) hN ha hb) bd90 [(0, 0), (1, 0), (2, 0), (5000, 0), (6000, 0)] [11000] rfl (.cons rfl (.cons rfl .nil)) rfl (.cons rfl rfl (.cons rfl rfl (.cons rfl rfl .nil))) (.whole rfl rfl (OkL.all rfl) (by intro h; first | exact h | rfl) (.flat rfl (flatM flat_vi) (by intro h; first | exact h | rfl) (.flat rfl (flatM flat_vi) (by intro h; first | exact h | rfl) (.flat rfl (by first | exact flatM flat_vi | exact flatM flat_bool | (simp [flatV, flat_vi]; done)) (by intro h; first | exact h | rfl) (.flat rfl (by first | exact flatM flat_vi | exact flatM flat_bool | (simp [flatV, flat_vi]; done)) (by intro h; first | exact h | rfl) .nil))))) rfl (.keep rfl (.keep rfl (.keep rfl (.keep rfl (.keep rfl (.new (flat_map_ren (by first | exact flatM flat_vi | exact flatM flat_bool | (simp [flatV, flat_vi]; done))) (OkL.flat (by first | exact flatM flat_vi | exact flatM flat_bool | (simp [flatV, flat_vi]; done))) .nil)))))) (frC rfl frN) (by decide) (.cons rfl rfl .nil) rfl rfl rfl rfl ?_
  refine AWo.pure (PureOp.toArrT tbok rfl rfl (by decide) (by decide)) rfl rfl ?_
  refine AWo.loadAgg tbok (vs := (digs 18446744073709551616 12 ((a % N + (N - b % N)) % N)).map (vi .u64)) rfl rfl rfl rfl (by show 0 + 12 ≤ _; simp [digs_len]) (ld12 (digs_len _ _)) rfl rfl ?_
  refine AWo.storeAllN tbok rfl rfl rfl rfl (by rw [List.length_map, digs_len]) (by first | rfl | (simp [digs_len]; done)) (oneM (fun _ => rfl) _) rfl ?_
  refine AWo.nil (by kernel_rfl) ?_
  refine AW.ret ?_
  refine RetQ.gc [_] [] [.cell 6 24] (.inl rfl) rfl (.val (RVal.cellAll tbok rfl rfl rfl rfl (by first | (simp [*]; done) | rfl)) .nil) rfl (.pure (by first | rfl | exact pure_aggM flat_vi | exact pure_aggM flat_bool) .nil) (OutL.whole rfl rfl (OkL.all rfl) (by intro h; first | rfl | exact h.elim id fun h => absurd h.1 (by simp)) (OutL.flat rfl (flatM flat_vi) (by intro h; first | rfl | exact h.elim id fun h => absurd h.1 (by simp)) (OutL.flat rfl (flatM flat_vi) (by intro h; first | rfl | exact h.elim id fun h => absurd h.1 (by simp)) trivial))) (by decide) rfl
theorem ofM_ctr {N a b : Nat} (hN : RN N) (ha : a < 18446744073709551616 ^ 12) (hb : b < 18446744073709551616 ^ 12) : GC Try.prog 81 [.func (.func 92) #[.pointer (some ⟨0, 0, none⟩)] #[], .agg ((digs 18446744073709551616 12 a).map (vi .u64)).toArray, .agg ((digs 18446744073709551616 12 b).map (vi .u64)).toArray] [⟨[.slice (some ⟨1, 0, none⟩) 12 0, vi .u64 (ninvR ((digs 18446744073709551616 12 N).getD 0 0)), .slice (some ⟨2, 0, none⟩) 12 0], false, 1⟩, ⟨((digs 18446744073709551616 12 N)).map (vi .u64), false, 1⟩, ⟨((digs 18446744073709551616 12 (RR2 N))).map (vi .u64), false, 1⟩] [.agg ((digs 18446744073709551616 12 (a * b % N)).map (vi .u64)).toArray] [⟨[.slice (some ⟨1, 0, none⟩) 12 0, vi .u64 (ninvR ((digs 18446744073709551616 12 N).getD 0 0)), .slice (some ⟨2, 0, none⟩) 12 0], false, 1⟩, ⟨((digs 18446744073709551616 12 N)).map (vi .u64), false, 1⟩, ⟨((digs 18446744073709551616 12 (RR2 N))).map (vi .u64), false, 1⟩] := by
  refine GC.intro Try.func81 rfl (by show 3 ≤ 13; decide) (by first | exact Nat.le_refl _ | decide | simp) ?_
  refine AW.seqR ?_
  refine AWo.box 5000 1 _ rfl rfl rfl rfl rfl ?_
  refine AWo.box 6000 1 _ rfl rfl rfl rfl rfl ?_
  refine AWo.alloc tbok 7000 1 ((List.replicate 12 0).map (vi .u64)) rfl rfl rfl rfl rfl rfl ?_
  refine AWo.nil trivial ?_
  refine AW.seqD mixed ?_
  refine AWo.pure (PureOp.move rfl) rfl rfl ?_
  refine AWo.sliceA tbok (h := 12) rfl .none .none rfl rfl rfl rfl (by decide) (by decide) (.inl rfl) (by show 12 ≤ ((digs 18446744073709551616 12 (a)).map (vi .u64)).length; rw [List.length_map, digs_len]; decide) rfl rfl rfl ?_
  refine AWo.sliceA tbok (h := 12) rfl .none .none rfl rfl rfl rfl (by decide) (by decide) (.inl rfl) (by show 12 ≤ ((digs 18446744073709551616 12 (b)).map (vi .u64)).length; rw [List.length_map, digs_len]; decide) rfl rfl rfl ?_
  refine AWo.callX (mmulN_ctr (a := a) (b := b) hN ha hb) bd92 [(0, 0), (1, 0), (2, 0), (5000, 0), (6000, 0)] [11000] rfl (.cons rfl (.cons rfl .nil)) rfl (.cons rfl rfl (.cons rfl rfl (.cons rfl rfl .nil))) (.whole rfl rfl (OkL.all rfl) (by intro h; first | exact h | rfl) (.flat rfl (flatM flat_vi) (by intro h; first | exact h | rfl) (.flat rfl (flatM flat_vi) (by intro h; first | exact h | rfl) (.flat rfl (by first | exact flatM flat_vi | exact flatM flat_bool | (simp [flatV, flat_vi]; done)) (by intro h; first | exact h | rfl) (.flat rfl (by first | exact flatM flat_vi | exact flatM flat_bool | (simp [flatV, flat_vi]; done)) (by intro h; first | exact h | rfl) .nil))))) rfl (.keep rfl (.keep rfl (.keep rfl (.keep rfl (.keep rfl (.new (flat_map_ren (by first | exact flatM flat_vi | exact flatM flat_bool | (simp [flatV, flat_vi]; done))) (OkL.flat (by first | exact flatM flat_vi | exact flatM flat_bool | (simp [flatV, flat_vi]; done))) .nil)))))) (frC rfl frN) (by decide) (.cons rfl rfl .nil) rfl rfl rfl rfl ?_
  refine AWo.pure (PureOp.toArrT tbok rfl rfl (by decide) (by decide)) rfl rfl ?_
  refine AWo.loadAgg tbok (vs := (digs 18446744073709551616 12 (a * b % N)).map (vi .u64)) rfl rfl rfl rfl (by show 0 + 12 ≤ _; simp [digs_len]) (ld12 (digs_len _ _)) rfl rfl ?_
  refine AWo.storeAllN tbok rfl rfl rfl rfl (by rw [List.length_map, digs_len]) (by first | rfl | (simp [digs_len]; done)) (oneM (fun _ => rfl) _) rfl ?_
  refine AWo.nil (by kernel_rfl) ?_
  refine AW.ret ?_
  refine RetQ.gc [_] [] [.cell 6 24] (.inl rfl) rfl (.val (RVal.cellAll tbok rfl rfl rfl rfl (by first | (simp [*]; done) | rfl)) .nil) rfl (.pure (by first | rfl | exact pure_aggM flat_vi | exact pure_aggM flat_bool) .nil) (OutL.whole rfl rfl (OkL.all rfl) (by intro h; first | rfl | exact h.elim id fun h => absurd h.1 (by simp)) (OutL.flat rfl (flatM flat_vi) (by intro h; first | rfl | exact h.elim id fun h => absurd h.1 (by simp)) (OutL.flat rfl (flatM flat_vi) (by intro h; first | rfl | exact h.elim id fun h => absurd h.1 (by simp)) trivial))) (by decide) rfl
theorem ofE_ctr {N a b : Nat} (hN : RN N) (ha : a < 18446744073709551616 ^ 12) (hb : b < 18446744073709551616 ^ 12) : GC Try.prog 81 [.func (.func 82) #[.pointer (some ⟨0, 0, none⟩)] #[], .agg ((digs 18446744073709551616 12 a).map (vi .u64)).toArray, .agg ((digs 18446744073709551616 12 b).map (vi .u64)).toArray] [⟨[.slice (some ⟨1, 0, none⟩) 12 0, vi .u64 (ninvR ((digs 18446744073709551616 12 N).getD 0 0)), .slice (some ⟨2, 0, none⟩) 12 0], false, 1⟩, ⟨((digs 18446744073709551616 12 N)).map (vi .u64), false, 1⟩, ⟨((digs 18446744073709551616 12 (RR2 N))).map (vi .u64), false, 1⟩] [.agg ((digs 18446744073709551616 12 (a ^ b % N)).map (vi .u64)).toArray] [⟨[.slice (some ⟨1, 0, none⟩) 12 0, vi .u64 (ninvR ((digs 18446744073709551616 12 N).getD 0 0)), .slice (some ⟨2, 0, none⟩) 12 0], false, 1⟩, ⟨((digs 18446744073709551616 12 N)).map (vi .u64), false, 1⟩, ⟨((digs 18446744073709551616 12 (RR2 N))).map (vi .u64), false, 1⟩] := by
  refine GC.intro Try.func81 rfl (by show 3 ≤ 13; decide) (by first | exact Nat.le_refl _ | decide | simp) ?_
  refine AW.seqR ?_
  refine AWo.box 5000 1 _ rfl rfl rfl rfl rfl ?_
  refine AWo.box 6000 1 _ rfl rfl rfl rfl rfl ?_
  refine AWo.alloc tbok 7000 1 ((List.replicate 12 0).map (vi .u64)) rfl rfl rfl rfl rfl rfl ?_
  refine AWo.nil trivial ?_
  refine AW.seqD mixed ?_
  refine AWo.pure (PureOp.move rfl) rfl rfl ?_
  refine AWo.sliceA tbok (h := 12) rfl .none .none rfl rfl rfl rfl (by decide) (by decide) (.inl rfl) (by show 12 ≤ ((digs 18446744073709551616 12 (a)).map (vi .u64)).length; rw [List.length_map, digs_len]; decide) rfl rfl rfl ?_
  refine AWo.sliceA tbok (h := 12) rfl .none .none rfl rfl rfl rfl (by decide) (by decide) (.inl rfl) (by show 12 ≤ ((digs 18446744073709551616 12 (b)).map (vi .u64)).length; rw [List.length_map, digs_len]; decide) rfl rfl rfl ?_
  refine AWo.callX (mexpN_ctr (a := a) (b := b) hN ha hb) bd82 [(0, 0), (1, 0), (2, 0), (5000, 0), (6000, 0)] [11000] rfl (.cons rfl (.cons rfl .nil)) rfl (.cons rfl rfl (.cons rfl rfl (.cons rfl rfl .nil))) (.whole rfl rfl (OkL.all rfl) (by intro h; first | exact h | rfl) (.flat rfl (flatM flat_vi) (by intro h; first | exact h | rfl) (.flat rfl (flatM flat_vi) (by intro h; first | exact h | rfl) (.flat rfl (by first | exact flatM flat_vi | exact flatM flat_bool | (simp [flatV, flat_vi]; done)) (by intro h; first | exact h | rfl) (.flat rfl (by first | exact flatM flat_vi | exact flatM flat_bool | (simp [flatV, flat_vi]; done)) (by intro h; first | exact h | rfl) .nil))))) rfl (.keep rfl (.keep rfl (.keep rfl (.keep rfl (.keep rfl (.new (flat_map_ren (by first | exact flatM flat_vi | exact flatM flat_bool | (simp [flatV, flat_vi]; done))) (OkL.flat (by first | exact flatM flat_vi | exact flatM flat_bool | (simp [flatV, flat_vi]; done))) .nil)))))) (frC rfl frN) (by decide) (.cons rfl rfl .nil) rfl rfl rfl rfl ?_
  refine AWo.pure (PureOp.toArrT tbok rfl rfl (by decide) (by decide)) rfl rfl ?_
  refine AWo.loadAgg tbok (vs := (digs 18446744073709551616 12 (a ^ b % N)).map (vi .u64)) rfl rfl rfl rfl (by show 0 + 12 ≤ _; simp [digs_len]) (ld12 (digs_len _ _)) rfl rfl ?_
  refine AWo.storeAllN tbok rfl rfl rfl rfl (by rw [List.length_map, digs_len]) (by first | rfl | (simp [digs_len]; done)) (oneM (fun _ => rfl) _) rfl ?_
  refine AWo.nil (by kernel_rfl) ?_
  refine AW.ret ?_
  refine RetQ.gc [_] [] [.cell 6 24] (.inl rfl) rfl (.val (RVal.cellAll tbok rfl rfl rfl rfl (by first | (simp [*]; done) | rfl)) .nil) rfl (.pure (by first | rfl | exact pure_aggM flat_vi | exact pure_aggM flat_bool) .nil) (OutL.whole rfl rfl (OkL.all rfl) (by intro h; first | rfl | exact h.elim id fun h => absurd h.1 (by simp)) (OutL.flat rfl (flatM flat_vi) (by intro h; first | rfl | exact h.elim id fun h => absurd h.1 (by simp)) (OutL.flat rfl (flatM flat_vi) (by intro h; first | rfl | exact h.elim id fun h => absurd h.1 (by simp)) trivial))) (by decide) rfl
theorem addW_ctr {N a b : Nat} (hN : RN N) (ha : a < 18446744073709551616 ^ 12) (hb : b < 18446744073709551616 ^ 12) : GC Try.prog 24 [.pointer (some ⟨0, 0, none⟩), .agg ((digs 18446744073709551616 12 a).map (vi .u64)).toArray, .agg ((digs 18446744073709551616 12 b).map (vi .u64)).toArray] [⟨[.pointer (some ⟨1, 0, none⟩)], false, 1⟩, ⟨[.slice (some ⟨2, 0, none⟩) 12 0, vi .u64 (ninvR ((digs 18446744073709551616 12 N).getD 0 0)), .slice (some ⟨3, 0, none⟩) 12 0], false, 1⟩, ⟨((digs 18446744073709551616 12 N)).map (vi .u64), false, 1⟩, ⟨((digs 18446744073709551616 12 (RR2 N))).map (vi .u64), false, 1⟩] [.agg ((digs 18446744073709551616 12 ((a % N + b % N) % N)).map (vi .u64)).toArray] [⟨[.pointer (some ⟨1, 0, none⟩)], false, 1⟩, ⟨[.slice (some ⟨2, 0, none⟩) 12 0, vi .u64 (ninvR ((digs 18446744073709551616 12 N).getD 0 0)), .slice (some ⟨3, 0, none⟩) 12 0], false, 1⟩, ⟨((digs 18446744073709551616 12 N)).map (vi .u64), false, 1⟩, ⟨((digs 18446744073709551616 12 (RR2 N))).map (vi .u64), false, 1⟩] := by
  refine GC.intro Try.func24 rfl (by show 3 ≤ 15; decide) (by first | exact Nat.le_refl _ | decide | simp) ?_
  refine AW.seqR ?_
  refine AWo.box 5000 1 _ rfl rfl rfl rfl rfl ?_
  refine AWo.box 6000 1 _ rfl rfl rfl rfl rfl ?_
  refine AWo.alloc tbok 7000 1 ((List.replicate 12 0).map (vi .u64)) rfl rfl rfl rfl rfl rfl ?_
  refine AWo.nil trivial ?_
  refine AW.seqD mixed ?_
  refine AWo.pure (PureOp.move rfl) rfl rfl ?_
  refine AWo.pure (PureOp.nilCheck rfl) rfl rfl ?_
  refine AWo.pure (PureOp.fld tbok rfl rfl rfl (by decide)) rfl rfl ?_
  refine AWo.load tbok rfl rfl rfl rfl rfl rfl ?_
  refine yP (PureOp.makeFunc (xs := #[.pointer (some ⟨1, 0, none⟩)]) (ys := #[]) rfl (by apply Array.ext'; rw [Array.toList_map, Array.toList_map]; rfl) (by apply Array.ext'; rw [Array.toList_map, Array.toList_map]; rfl)) ?_
  refine AWo.loadAll tbok rfl rfl rfl rfl (by show ((digs 18446744073709551616 12 a).map (vi .u64)).length = 12; rw [List.length_map, digs_len]) rfl rfl ?_
  refine AWo.loadAll tbok rfl rfl rfl rfl (by show ((digs 18446744073709551616 12 b).map (vi .u64)).length = 12; rw [List.length_map, digs_len]) rfl rfl ?_
  refine AWo.callX (ofA_ctr (a := a) (b := b) hN ha hb) bd81 [(1, 0), (2, 0), (3, 0)] [] rfl (.cons rfl (.cons rfl (.cons rfl .nil))) rfl (.cons rfl rfl (.pure (by first | rfl | exact pure_aggM flat_vi | exact pure_aggM flat_bool) (.pure (by first | rfl | exact pure_aggM flat_vi | exact pure_aggM flat_bool) .nil))) (.whole rfl rfl (OkL.all rfl) (by intro h; first | exact h | rfl) (.flat rfl (flatM flat_vi) (by intro h; first | exact h | rfl) (.flat rfl (flatM flat_vi) (by intro h; first | exact h | rfl) .nil))) rfl (.keep rfl (.keep rfl (.keep rfl .nil))) frN (by decide) (.pure (by first | rfl | exact pure_aggM flat_vi | exact pure_aggM flat_bool) .nil) rfl rfl rfl rfl ?_
  refine AWo.storeAllN tbok rfl rfl rfl rfl (by rw [List.length_map, digs_len]) (by first | rfl | (simp [digs_len]; done)) (oneM (fun _ => rfl) _) rfl ?_
  refine AWo.nil (by kernel_rfl) ?_
  refine AW.ret ?_
  refine RetQ.gc [_] [] [.cell 6 24] (.inl rfl) rfl (.val (RVal.cellAll tbok rfl rfl rfl rfl (by first | (simp [*]; done) | rfl)) .nil) rfl (.pure (by first | rfl | exact pure_aggM flat_vi | exact pure_aggM flat_bool) .nil) (OutL.whole rfl rfl (OkL.all rfl) (by intro h; first | rfl | exact h.elim id fun h => absurd h.1 (by simp)) (OutL.whole rfl rfl (OkL.all rfl) (by intro h; first | rfl | exact h.elim id fun h => absurd h.1 (by simp)) (OutL.flat rfl (flatM flat_vi) (by intro h; first | rfl | exact h.elim id fun h => absurd h.1 (by simp)) (OutL.flat rfl (flatM flat_vi) (by intro h; first | rfl | exact h.elim id fun h => absurd h.1 (by simp)) trivial)))) (by decide) rfl
theorem subW_ctr {N a b : Nat} (hN : RN N) (ha : a < 18446744073709551616 ^ 12) (hb : b < 18446744073709551616 ^ 12) : GC Try.prog 26 [.pointer (some ⟨0, 0, none⟩), .agg ((digs 18446744073709551616 12 a).map (vi .u64)).toArray, .agg ((digs 18446744073709551616 12 b).map (vi .u64)).toArray] [⟨[.pointer (some ⟨1, 0, none⟩)], false, 1⟩, ⟨[.slice (some ⟨2, 0, none⟩) 12 0, vi .u64 (ninvR ((digs 18446744073709551616 12 N).getD 0 0)), .slice (some ⟨3, 0, none⟩) 12 0], false, 1⟩, ⟨((digs 18446744073709551616 12 N)).map (vi .u64), false, 1⟩, ⟨((digs 18446744073709551616 12 (RR2 N))).map (vi .u64), false, 1⟩] [.agg ((digs 18446744073709551616 12 ((a % N + (N - b % N)) % N)).map (vi .u64)).toArray] [⟨[.pointer (some ⟨1, 0, none⟩)], false, 1⟩, ⟨[.slice (some ⟨2, 0, none⟩) 12 0, vi .u64 (ninvR ((digs 18446744073709551616 12 N).getD 0 0)), .slice (some ⟨3, 0, none⟩) 12 0], false, 1⟩, ⟨((digs 18446744073709551616 12 N)).map (vi .u64), false, 1⟩, ⟨((digs 18446744073709551616 12 (RR2 N))).map (vi .u64), false, 1⟩] := by
  refine GC.intro Try.func26 rfl (by show 3 ≤ 15; decide) (by first | exact Nat.le_refl _ | decide | simp) ?_
  refine AW.seqR ?_
  refine AWo.box 5000 1 _ rfl rfl rfl rfl rfl ?_
  refine AWo.box 6000 1 _ rfl rfl rfl rfl rfl ?_
  refine AWo.alloc tbok 7000 1 ((List.replicate 12 0).map (vi .u64)) rfl rfl rfl rfl rfl rfl ?_
  refine AWo.nil trivial ?_
  refine AW.seqD mixed ?_
  refine AWo.pure (PureOp.move rfl) rfl rfl ?_
  refine AWo.pure (PureOp.nilCheck rfl) rfl rfl ?_
  refine AWo.pure (PureOp.fld tbok rfl rfl rfl (by decide)) rfl rfl ?_
  refine AWo.load tbok rfl rfl rfl rfl rfl rfl ?_
  refine yP (PureOp.makeFunc (xs := #[.pointer (some ⟨1, 0, none⟩)]) (ys := #[]) rfl (by apply Array.ext'; rw [Array.toList_map, Array.toList_map]; rfl) (by apply Array.ext'; rw [Array.toList_map, Array.toList_map]; rfl)) ?_
  refine AWo.loadAll tbok rfl rfl rfl rfl (by show ((digs 18446744073709551616 12 a).map (vi .u64)).length = 12; rw [List.length_map, digs_len]) rfl rfl ?_
  refine AWo.loadAll tbok rfl rfl rfl rfl (by show ((digs 18446744073709551616 12 b).map (vi .u64)).length = 12; rw [List.length_map, digs_len]) rfl rfl ?_
  refine AWo.callX (ofS_ctr (a := a) (b := b) hN ha hb) bd81 [(1, 0), (2, 0), (3, 0)] [] rfl (.cons rfl (.cons rfl (.cons rfl .nil))) rfl (.cons rfl rfl (.pure (by first | rfl | exact pure_aggM flat_vi | exact pure_aggM flat_bool) (.pure (by first | rfl | exact pure_aggM flat_vi | exact pure_aggM flat_bool) .nil))) (.whole rfl rfl (OkL.all rfl) (by intro h; first | exact h | rfl) (.flat rfl (flatM flat_vi) (by intro h; first | exact h | rfl) (.flat rfl (flatM flat_vi) (by intro h; first | exact h | rfl) .nil))) rfl (.keep rfl (.keep rfl (.keep rfl .nil))) frN (by decide) (.pure (by first | rfl | exact pure_aggM flat_vi | exact pure_aggM flat_bool) .nil) rfl rfl rfl rfl ?_
  refine AWo.storeAllN tbok rfl rfl rfl rfl (by rw [List.length_map, digs_len]) (by first | rfl | (simp [digs_len]; done)) (oneM (fun _ => rfl) _) rfl ?_
  refine AWo.nil (by kernel_rfl) ?_
  refine AW.ret ?_
  refine RetQ.gc [_] [] [.cell 6 24] (.inl rfl) rfl (.val (RVal.cellAll tbok rfl rfl rfl rfl (by first | (simp [*]; done) | rfl)) .nil) rfl (.pure (by first | rfl | exact pure_aggM flat_vi | exact pure_aggM flat_bool) .nil) (OutL.whole rfl rfl (OkL.all rfl) (by intro h; first | rfl | exact h.elim id fun h => absurd h.1 (by simp)) (OutL.whole rfl rfl (OkL.all rfl) (by intro h; first | rfl | exact h.elim id fun h => absurd h.1 (by simp)) (OutL.flat rfl (flatM flat_vi) (by intro h; first | rfl | exact h.elim id fun h => absurd h.1 (by simp)) (OutL.flat rfl (flatM flat_vi) (by intro h; first | rfl | exact h.elim id fun h => absurd h.1 (by simp)) trivial)))) (by decide) rfl
theorem mulW_ctr {N a b : Nat} (hN : RN N) (ha : a < 18446744073709551616 ^ 12) (hb : b < 18446744073709551616 ^ 12) : GC Try.prog 29 [.pointer (some ⟨0, 0, none⟩), .agg ((digs 18446744073709551616 12 a).map (vi .u64)).toArray, .agg ((digs 18446744073709551616 12 b).map (vi .u64)).toArray] [⟨[.pointer (some ⟨1, 0, none⟩)], false, 1⟩, ⟨[.slice (some ⟨2, 0, none⟩) 12 0, vi .u64 (ninvR ((digs 18446744073709551616 12 N).getD 0 0)), .slice (some ⟨3, 0, none⟩) 12 0], false, 1⟩, ⟨((digs 18446744073709551616 12 N)).map (vi .u64), false, 1⟩, ⟨((digs 18446744073709551616 12 (RR2 N))).map (vi .u64), false, 1⟩] [.agg ((digs 18446744073709551616 12 (a * b % N)).map (vi .u64)).toArray] [⟨[.pointer (some ⟨1, 0, none⟩)], false, 1⟩, ⟨[.slice (some ⟨2, 0, none⟩) 12 0, vi .u64 (ninvR ((digs 18446744073709551616 12 N).getD 0 0)), .slice (some ⟨3, 0, none⟩) 12 0], false, 1⟩, ⟨((digs 18446744073709551616 12 N)).map (vi .u64), false, 1⟩, ⟨((digs 18446744073709551616 12 (RR2 N))).map (vi .u64), false, 1⟩] := by
  refine GC.intro Try.func29 rfl (by show 3 ≤ 15; decide) (by first | exact Nat.le_refl _ | decide | simp) ?_
  refine AW.seqR ?_
  refine AWo.box 5000 1 _ rfl rfl rfl rfl rfl ?_
  refine AWo.box 6000 1 _ rfl rfl rfl rfl rfl ?_
  refine AWo.alloc tbok 7000 1 ((List.replicate 12 0).map (vi .u64)) rfl rfl rfl rfl rfl rfl ?_
  refine AWo.nil trivial ?_
  refine AW.seqD mixed ?_
  refine AWo.pure (PureOp.move rfl) rfl rfl ?_
  refine AWo.pure (PureOp.nilCheck rfl) rfl rfl ?_
  refine AWo.pure (PureOp.fld tbok rfl rfl rfl (by decide)) rfl rfl ?_
  refine AWo.load tbok rfl rfl rfl rfl rfl rfl ?_
  refine yP (PureOp.makeFunc (xs := #[.pointer (some ⟨1, 0, none⟩)]) (ys := #[]) rfl (by apply Array.ext'; rw [Array.toList_map, Array.toList_map]; rfl) (by apply Array.ext'; rw [Array.toList_map, Array.toList_map]; rfl)) ?_
  refine AWo.loadAll tbok rfl rfl rfl rfl (by show ((digs 18446744073709551616 12 a).map (vi .u64)).length = 12; rw [List.length_map, digs_len]) rfl rfl ?_
  refine AWo.loadAll tbok rfl rfl rfl rfl (by show ((digs 18446744073709551616 12 b).map (vi .u64)).length = 12; rw [List.length_map, digs_len]) rfl rfl ?_
  refine AWo.callX (ofM_ctr (a := a) (b := b) hN ha hb) bd81 [(1, 0), (2, 0), (3, 0)] [] rfl (.cons rfl (.cons rfl (.cons rfl .nil))) rfl (.cons rfl rfl (.pure (by first | rfl | exact pure_aggM flat_vi | exact pure_aggM flat_bool) (.pure (by first | rfl | exact pure_aggM flat_vi | exact pure_aggM flat_bool) .nil))) (.whole rfl rfl (OkL.all rfl) (by intro h; first | exact h | rfl) (.flat rfl (flatM flat_vi) (by intro h; first | exact h | rfl) (.flat rfl (flatM flat_vi) (by intro h; first | exact h | rfl) .nil))) rfl (.keep rfl (.keep rfl (.keep rfl .nil))) frN (by decide) (.pure (by first | rfl | exact pure_aggM flat_vi | exact pure_aggM flat_bool) .nil) rfl rfl rfl rfl ?_
  refine AWo.storeAllN tbok rfl rfl rfl rfl (by rw [List.length_map, digs_len]) (by first | rfl | (simp [digs_len]; done)) (oneM (fun _ => rfl) _) rfl ?_
  refine AWo.nil (by kernel_rfl) ?_
  refine AW.ret ?_
  refine RetQ.gc [_] [] [.cell 6 24] (.inl rfl) rfl (.val (RVal.cellAll tbok rfl rfl rfl rfl (by first | (simp [*]; done) | rfl)) .nil) rfl (.pure (by first | rfl | exact pure_aggM flat_vi | exact pure_aggM flat_bool) .nil) (OutL.whole rfl rfl (OkL.all rfl) (by intro h; first | rfl | exact h.elim id fun h => absurd h.1 (by simp)) (OutL.whole rfl rfl (OkL.all rfl) (by intro h; first | rfl | exact h.elim id fun h => absurd h.1 (by simp)) (OutL.flat rfl (flatM flat_vi) (by intro h; first | rfl | exact h.elim id fun h => absurd h.1 (by simp)) (OutL.flat rfl (flatM flat_vi) (by intro h; first | rfl | exact h.elim id fun h => absurd h.1 (by simp)) trivial)))) (by decide) rfl
theorem expW_ctr {N a b : Nat} (hN : RN N) (ha : a < 18446744073709551616 ^ 12) (hb : b < 18446744073709551616 ^ 12) : GC Try.prog 19 [.pointer (some ⟨0, 0, none⟩), .agg ((digs 18446744073709551616 12 a).map (vi .u64)).toArray, .agg ((digs 18446744073709551616 12 b).map (vi .u64)).toArray] [⟨[.pointer (some ⟨1, 0, none⟩)], false, 1⟩, ⟨[.slice (some ⟨2, 0, none⟩) 12 0, vi .u64 (ninvR ((digs 18446744073709551616 12 N).getD 0 0)), .slice (some ⟨3, 0, none⟩) 12 0], false, 1⟩, ⟨((digs 18446744073709551616 12 N)).map (vi .u64), false, 1⟩, ⟨((digs 18446744073709551616 12 (RR2 N))).map (vi .u64), false, 1⟩] [.agg ((digs 18446744073709551616 12 (a ^ b % N)).map (vi .u64)).toArray] [⟨[.pointer (some ⟨1, 0, none⟩)], false, 1⟩, ⟨[.slice (some ⟨2, 0, none⟩) 12 0, vi .u64 (ninvR ((digs 18446744073709551616 12 N).getD 0 0)), .slice (some ⟨3, 0, none⟩) 12 0], false, 1⟩, ⟨((digs 18446744073709551616 12 N)).map (vi .u64), false, 1⟩, ⟨((digs 18446744073709551616 12 (RR2 N))).map (vi .u64), false, 1⟩] := by
  refine GC.intro Try.func19 rfl (by show 3 ≤ 15; decide) (by first | exact Nat.le_refl _ | decide | simp) ?_
  refine AW.seqR ?_
  refine AWo.box 5000 1 _ rfl rfl rfl rfl rfl ?_
  refine AWo.box 6000 1 _ rfl rfl rfl rfl rfl ?_
  refine AWo.alloc tbok 7000 1 ((List.replicate 12 0).map (vi .u64)) rfl rfl rfl rfl rfl rfl ?_
  refine AWo.nil trivial ?_
  refine AW.seqD mixed ?_
  refine AWo.pure (PureOp.move rfl) rfl rfl ?_
  refine AWo.pure (PureOp.nilCheck rfl) rfl rfl ?_
  refine AWo.pure (PureOp.fld tbok rfl rfl rfl (by decide)) rfl rfl ?_
  refine AWo.load tbok rfl rfl rfl rfl rfl rfl ?_
  refine yP (PureOp.makeFunc (xs := #[.pointer (some ⟨1, 0, none⟩)]) (ys := #[]) rfl (by apply Array.ext'; rw [Array.toList_map, Array.toList_map]; rfl) (by apply Array.ext'; rw [Array.toList_map, Array.toList_map]; rfl)) ?_
  refine AWo.loadAll tbok rfl rfl rfl rfl (by show ((digs 18446744073709551616 12 a).map (vi .u64)).length = 12; rw [List.length_map, digs_len]) rfl rfl ?_
  refine AWo.loadAll tbok rfl rfl rfl rfl (by show ((digs 18446744073709551616 12 b).map (vi .u64)).length = 12; rw [List.length_map, digs_len]) rfl rfl ?_
  refine AWo.callX (ofE_ctr (a := a) (b := b) hN ha hb) bd81 [(1, 0), (2, 0), (3, 0)] [] rfl (.cons rfl (.cons rfl (.cons rfl .nil))) rfl (.cons rfl rfl (.pure (by first | rfl | exact pure_aggM flat_vi | exact pure_aggM flat_bool) (.pure (by first | rfl | exact pure_aggM flat_vi | exact pure_aggM flat_bool) .nil))) (.whole rfl rfl (OkL.all rfl) (by intro h; first | exact h | rfl) (.flat rfl (flatM flat_vi) (by intro h; first | exact h | rfl) (.flat rfl (flatM flat_vi) (by intro h; first | exact h | rfl) .nil))) rfl (.keep rfl (.keep rfl (.keep rfl .nil))) frN (by decide) (.pure (by first | rfl | exact pure_aggM flat_vi | exact pure_aggM flat_bool) .nil) rfl rfl rfl rfl ?_
  refine AWo.storeAllN tbok rfl rfl rfl rfl (by rw [List.length_map, digs_len]) (by first | rfl | (simp [digs_len]; done)) (oneM (fun _ => rfl) _) rfl ?_
  refine AWo.nil (by kernel_rfl) ?_
  refine AW.ret ?_
  refine RetQ.gc [_] [] [.cell 6 24] (.inl rfl) rfl (.val (RVal.cellAll tbok rfl rfl rfl rfl (by first | (simp [*]; done) | rfl)) .nil) rfl (.pure (by first | rfl | exact pure_aggM flat_vi | exact pure_aggM flat_bool) .nil) (OutL.whole rfl rfl (OkL.all rfl) (by intro h; first | rfl | exact h.elim id fun h => absurd h.1 (by simp)) (OutL.whole rfl rfl (OkL.all rfl) (by intro h; first | rfl | exact h.elim id fun h => absurd h.1 (by simp)) (OutL.flat rfl (flatM flat_vi) (by intro h; first | rfl | exact h.elim id fun h => absurd h.1 (by simp)) (OutL.flat rfl (flatM flat_vi) (by intro h; first | rfl | exact h.elim id fun h => absurd h.1 (by simp)) trivial)))) (by decide) rfl
theorem primeW_ctr : GC Try.prog 101 [] [] [.agg ((digs 18446744073709551616 12 PG).map (vi .u64)).toArray] [] := by
  refine GC.intro Try.func101 rfl (by show 0 ≤ 2; decide) (by first | exact Nat.le_refl _ | decide | simp) ?_
  refine AW.seqR ?_
  refine AWo.alloc tbok 1000 1 ((List.replicate 12 0).map (vi .u64)) rfl rfl rfl rfl rfl rfl ?_
  refine AWo.nil trivial ?_
  refine AW.seqR ?_
  refine AWo.pure ((PureOp.buildArr tbok [(0, .int .u64 18446744073709551615), (1, .int .u64 17603518614768072224), (2, .int .u64 16466767132611215046), (3, .int .u64 5755940542857986629), (4, .int .u64 3470879405153129527), (5, .int .u64 17263733006627652379), (6, .int .u64 5857503583518590173), (7, .int .u64 147421033984662306), (8, .int .u64 2955010104097229940), (9, .int .u64 14179128828124470481), (10, .int .u64 14488038916154245684), (11, .int .u64 18446744073709551615)] rfl rfl rfl (by decide) rfl rfl).mono (v' := .agg ((digs 18446744073709551616 12 PG).map (vi .u64)).toArray) (by kernel_rfl)) rfl rfl ?_
  refine AWo.storeAllN tbok rfl rfl rfl rfl (by rw [List.length_map, digs_len]) (by first | rfl | (simp [digs_len]; done)) (oneM (fun _ => rfl) _) rfl ?_
  refine AWo.nil trivial ?_
  refine AW.ret ?_
  refine RetQ.gc [_] [] [.cell 0 24] (.inl rfl) rfl (.val (RVal.cellAll tbok rfl rfl rfl rfl (by first | (simp [*]; done) | rfl)) .nil) rfl (.pure (by first | rfl | exact pure_aggM flat_vi | exact pure_aggM flat_bool) .nil) trivial (by decide) rfl
theorem ringW_ctr {N : Nat} (hN : RN N) : GC Try.prog 100 [.agg ((digs 18446744073709551616 12 N).map (vi .u64)).toArray] [] [.pointer (some ⟨0, 0, none⟩)] [⟨[.pointer (some ⟨1, 0, none⟩)], true, 1⟩, ⟨[.slice (some ⟨2, 0, none⟩) 12 0, vi .u64 (ninvR ((digs 18446744073709551616 12 N).getD 0 0)), .slice (some ⟨3, 0, none⟩) 12 0], true, 1⟩, ⟨((digs 18446744073709551616 12 N)).map (vi .u64), true, 1⟩, ⟨((digs 18446744073709551616 12 (RR2 N))).map (vi .u64), true, 1⟩] := by
  refine GC.intro Try.func100 rfl (by show 1 ≤ 13; decide) (by first | exact Nat.le_refl _ | decide | simp) ?_
  refine AW.seqR ?_
  refine AWo.box 2000 1 _ rfl rfl rfl rfl rfl ?_
  refine AWo.pure (PureOp.assign rfl) rfl rfl ?_
  refine AWo.nil trivial ?_
  refine AW.seqR ?_
  refine AWo.sliceA tbok (h := 12) rfl .none .none rfl rfl rfl rfl (by decide) (by decide) (.inl rfl) (by show 12 ≤ ((digs 18446744073709551616 12 (N)).map (vi .u64)).length; rw [List.length_map, digs_len]; decide) rfl rfl rfl ?_
  refine AWo.callX (newN_ctr hN) bd109 [(2000, 0)] [8000, 8001, 8002] rfl (.cons rfl .nil) rfl (.cons rfl rfl .nil) (.flat rfl (by first | exact flatM flat_vi | exact flatM flat_bool | (simp [flatV, flat_vi]; done)) (by intro h; first | exact h | rfl) .nil) rfl (.keep rfl (.new rfl (OkL.all rfl) (.new (flat_map_ren (flatM flat_vi)) (OkL.flat (flatM flat_vi)) (.new (flat_map_ren (flatM flat_vi)) (OkL.flat (flatM flat_vi)) .nil)))) (frC rfl (frC rfl (frC rfl frN))) (by decide) (.cons rfl rfl (.cons rfl rfl .nil)) rfl rfl rfl rfl ?_
  refine AWo.pure (PureOp.move rfl) rfl rfl ?_
  refine AWo.pure (PureOp.extract rfl rfl) rfl rfl ?_
  refine AWo.pure (PureOp.extract rfl rfl) rfl rfl ?_
  refine AWo.pure (PureOp.assign rfl) rfl rfl ?_
  refine AWo.pure (PureOp.assign rfl) rfl rfl ?_
  refine AWo.nil trivial ?_
  refine AW.seqR ?_
  refine AWo.pure (PureOp.move rfl) rfl rfl ?_
  refine AWo.pure (PureOp.buildStruct [(0, .pointer (some ⟨8000, 0, none⟩))] pl111.choose_spec.1 zr111 (by decide) pl111.choose_spec.2 rfl rfl) rfl rfl ?_
  refine AWo.box 13000 1 _ rfl rfl rfl rfl rfl ?_
  refine AWo.pure (PureOp.assign rfl) rfl rfl ?_
  refine AWo.nil trivial ?_
  refine AW.ret ?_
  refine RetQ.gc [_] [13000, 8000, 8001, 8002] [.tmp 2] (.inl rfl) rfl (.tmp rfl .nil) rfl (.cons rfl rfl .nil) (OutL.whole rfl rfl (OkL.all rfl) (fun _ => rfl) (OutL.whole rfl rfl (OkL.all rfl) (fun _ => rfl) (OutL.flat rfl (flatM flat_vi) (fun _ => rfl) (OutL.flat rfl (flatM flat_vi) (fun _ => rfl) trivial)))) (by decide) rfl
theorem groupW_ctr : GC Try.prog 38 [] [] [.pointer (some ⟨0, 0, none⟩)] [⟨[.pointer (some ⟨1, 0, none⟩)], true, 1⟩, ⟨[.slice (some ⟨2, 0, none⟩) 12 0, vi .u64 (ninvR ((digs 18446744073709551616 12 PG).getD 0 0)), .slice (some ⟨3, 0, none⟩) 12 0], true, 1⟩, ⟨((digs 18446744073709551616 12 PG)).map (vi .u64), true, 1⟩, ⟨((digs 18446744073709551616 12 (RR2 PG))).map (vi .u64), true, 1⟩] := by
  refine GC.intro Try.func38 rfl (by show 0 ≤ 3; decide) (by first | exact Nat.le_refl _ | decide | simp) ?_
  refine AW.seqR ?_
  refine AWo.pure (PureOp.assign rfl) rfl rfl ?_
  refine AWo.nil trivial ?_
  refine AW.seqR ?_
  refine AWo.callX (primeW_ctr) bd101 [] [] rfl .nil rfl .nil .nil rfl .nil frN (by decide) (.pure (by first | rfl | exact pure_aggM flat_vi | exact pure_aggM flat_bool) .nil) rfl rfl rfl rfl ?_
  refine AWo.callX (ringW_ctr (N := PG) rn_p) bd100 [] [3000, 3001, 3002, 3003] rfl (.cons rfl .nil) rfl (.pure (by first | rfl | exact pure_aggM flat_vi | exact pure_aggM flat_bool) .nil) .nil rfl (.new rfl (OkL.all rfl) (.new rfl (OkL.all rfl) (.new (flat_map_ren (flatM flat_vi)) (OkL.flat (flatM flat_vi)) (.new (flat_map_ren (flatM flat_vi)) (OkL.flat (flatM flat_vi)) .nil)))) (frC rfl (frC rfl (frC rfl (frC rfl frN)))) (by decide) (.cons rfl rfl .nil) rfl rfl rfl rfl ?_
  refine AWo.pure (PureOp.assign rfl) rfl rfl ?_
  refine AWo.nil trivial ?_
  refine AW.ret ?_
  refine RetQ.gc [_] [3000, 3001, 3002, 3003] [.tmp 0] (.inl rfl) rfl (.tmp rfl .nil) rfl (.cons rfl rfl .nil) (OutL.whole rfl rfl (OkL.all rfl) (fun _ => rfl) (OutL.whole rfl rfl (OkL.all rfl) (fun _ => rfl) (OutL.flat rfl (flatM flat_vi) (fun _ => rfl) (OutL.flat rfl (flatM flat_vi) (fun _ => rfl) trivial)))) (by decide) rfl
theorem sizeW_ctr {N : Nat} (hN : RN N) : GC Try.prog 31 [.pointer (some ⟨0, 0, none⟩)] [⟨[.pointer (some ⟨1, 0, none⟩)], false, 1⟩, ⟨[.slice (some ⟨2, 0, none⟩) 12 0, vi .u64 (ninvR ((digs 18446744073709551616 12 N).getD 0 0)), .slice (some ⟨3, 0, none⟩) 12 0], false, 1⟩, ⟨((digs 18446744073709551616 12 N)).map (vi .u64), false, 1⟩, ⟨((digs 18446744073709551616 12 (RR2 N))).map (vi .u64), false, 1⟩] [.agg ((digs 18446744073709551616 12 N).map (vi .u64)).toArray] [⟨[.pointer (some ⟨1, 0, none⟩)], false, 1⟩, ⟨[.slice (some ⟨2, 0, none⟩) 12 0, vi .u64 (ninvR ((digs 18446744073709551616 12 N).getD 0 0)), .slice (some ⟨3, 0, none⟩) 12 0], false, 1⟩, ⟨((digs 18446744073709551616 12 N)).map (vi .u64), false, 1⟩, ⟨((digs 18446744073709551616 12 (RR2 N))).map (vi .u64), false, 1⟩] := by
  refine GC.intro Try.func31 rfl (by show 1 ≤ 10; decide) (by first | exact Nat.le_refl _ | decide | simp) ?_
  refine AW.seqR ?_
  refine AWo.alloc tbok 3000 1 ((List.replicate 12 0).map (vi .u64)) rfl rfl rfl rfl rfl rfl ?_
  refine AWo.nil trivial ?_
  refine AW.seqR ?_
  refine AWo.pure (PureOp.move rfl) rfl rfl ?_
  refine AWo.pure (PureOp.nilCheck rfl) rfl rfl ?_
  refine AWo.pure (PureOp.fld tbok rfl rfl rfl (by decide)) rfl rfl ?_
  refine AWo.load tbok rfl rfl rfl rfl rfl rfl ?_
  refine AWo.callX (mwordsN_ctr hN) bd93 [(1, 0), (2, 0), (3, 0)] [8000] rfl (.cons rfl .nil) rfl (.cons rfl rfl .nil) (.whole rfl rfl (OkL.all rfl) (by intro h; first | exact h | rfl) (.flat rfl (flatM flat_vi) (by intro h; first | exact h | rfl) (.flat rfl (flatM flat_vi) (by intro h; first | exact h | rfl) .nil))) rfl (.keep rfl (.keep rfl (.keep rfl (.new (flat_map_ren (by first | exact flatM flat_vi | exact flatM flat_bool | (simp [flatV, flat_vi]; done))) (OkL.flat (by first | exact flatM flat_vi | exact flatM flat_bool | (simp [flatV, flat_vi]; done))) .nil)))) (frC rfl frN) (by decide) (.cons rfl rfl .nil) rfl rfl rfl rfl ?_
  refine AWo.pure (PureOp.toArrT tbok rfl rfl (by decide) (by decide)) rfl rfl ?_
  refine AWo.loadAgg tbok (vs := (digs 18446744073709551616 12 N).map (vi .u64)) rfl rfl rfl rfl (by show 0 + 12 ≤ _; simp [digs_len]) (ld12 (digs_len _ _)) rfl rfl ?_
  refine AWo.storeAllN tbok rfl rfl rfl rfl (by rw [List.length_map, digs_len]) (by first | rfl | (simp [digs_len]; done)) (oneM (fun _ => rfl) _) rfl ?_
  refine AWo.nil trivial ?_
  refine AW.ret ?_
  refine RetQ.gc [_] [] [.cell 2 24] (.inl rfl) rfl (.val (RVal.cellAll tbok rfl rfl rfl rfl (by first | (simp [*]; done) | rfl)) .nil) rfl (.pure (by first | rfl | exact pure_aggM flat_vi | exact pure_aggM flat_bool) .nil) (OutL.whole rfl rfl (OkL.all rfl) (by intro h; first | rfl | exact h.elim id fun h => absurd h.1 (by simp)) (OutL.whole rfl rfl (OkL.all rfl) (by intro h; first | rfl | exact h.elim id fun h => absurd h.1 (by simp)) (OutL.flat rfl (flatM flat_vi) (by intro h; first | rfl | exact h.elim id fun h => absurd h.1 (by simp)) (OutL.flat rfl (flatM flat_vi) (by intro h; first | rfl | exact h.elim id fun h => absurd h.1 (by simp)) trivial)))) (by decide) rfl
theorem writeW_ctr {a : Nat} (ha : a < 18446744073709551616 ^ 12) : GC Try.prog 35 [.agg ((digs 18446744073709551616 12 a).map (vi .u64)).toArray] [] [.agg ((digs 256 96 a).map (vi .u8)).toArray] [] := by
  refine GC.intro Try.func35 rfl (by show 1 ≤ 7; decide) (by first | exact Nat.le_refl _ | decide | simp) ?_
  refine AW.seqR ?_
  refine AWo.box 2000 1 _ rfl rfl rfl rfl rfl ?_
  refine AWo.alloc tbok 3000 1 ((List.replicate 96 0).map (vi .u8)) rfl rfl rfl rfl rfl rfl ?_
  refine AWo.nil trivial ?_
  refine AW.seqR ?_
  refine AWo.sliceA tbok (h := 12) rfl .none .none rfl rfl rfl rfl (by decide) (by decide) (.inl rfl) (by show 12 ≤ ((digs 18446744073709551616 12 (a)).map (vi .u64)).length; rw [List.length_map, digs_len]; decide) rfl rfl rfl ?_
  refine AWo.callX (lb12_ctr ha) bd98 [(2000, 0)] [5000] rfl (.cons rfl .nil) rfl (.cons rfl rfl .nil) (.flat rfl (by first | exact flatM flat_vi | exact flatM flat_bool | (simp [flatV, flat_vi]; done)) (by intro h; first | exact h | rfl) .nil) rfl (.keep rfl (.new (flat_map_ren (by first | exact flatM flat_vi | exact flatM flat_bool | (simp [flatV, flat_vi]; done))) (OkL.flat (by first | exact flatM flat_vi | exact flatM flat_bool | (simp [flatV, flat_vi]; done))) .nil)) (frC rfl frN) (by decide) (.cons rfl rfl .nil) rfl rfl rfl rfl ?_
  refine AWo.pure (PureOp.toArrT tbok rfl rfl (by decide) (by decide)) rfl rfl ?_
  refine AWo.loadAgg tbok (vs := (digs 256 96 a).map (vi .u8)) rfl rfl rfl rfl (by show 0 + 96 ≤ _; simp [digs_len]) (ld96 (digs_len _ _)) rfl rfl ?_
  refine AWo.storeAllN tbok rfl rfl rfl rfl (by rw [List.length_map, digs_len]) (by first | rfl | (simp [digs_len]; done)) (oneM (fun _ => rfl) _) rfl ?_
  refine AWo.nil trivial ?_
  refine AW.ret ?_
  refine RetQ.gc [_] [] [.cell 2 47] (.inl rfl) rfl (.val (RVal.cellAll tbok rfl rfl rfl rfl (by first | (simp [*]; done) | rfl)) .nil) rfl (.pure (by first | rfl | exact pure_aggM flat_vi | exact pure_aggM flat_bool) .nil) trivial (by decide) rfl
theorem redW_ctr {N : Nat} {b : List Nat} (hN : RN N) (hb : bd 256 b) (hlb : b.length ≤ 1000) : GC Try.prog 32 [.pointer (some ⟨0, 0, none⟩), .slice (some ⟨4, 0, none⟩) b.length 0] [⟨[.pointer (some ⟨1, 0, none⟩)], false, 1⟩, ⟨[.slice (some ⟨2, 0, none⟩) 12 0, vi .u64 (ninvR ((digs 18446744073709551616 12 N).getD 0 0)), .slice (some ⟨3, 0, none⟩) 12 0], false, 1⟩, ⟨((digs 18446744073709551616 12 N)).map (vi .u64), false, 1⟩, ⟨((digs 18446744073709551616 12 (RR2 N))).map (vi .u64), false, 1⟩, ⟨b.map (vi .u8), false, 1⟩] [.agg ((digs 18446744073709551616 12 (num 256 b % N)).map (vi .u64)).toArray] [⟨[.pointer (some ⟨1, 0, none⟩)], false, 1⟩, ⟨[.slice (some ⟨2, 0, none⟩) 12 0, vi .u64 (ninvR ((digs 18446744073709551616 12 N).getD 0 0)), .slice (some ⟨3, 0, none⟩) 12 0], false, 1⟩, ⟨((digs 18446744073709551616 12 N)).map (vi .u64), false, 1⟩, ⟨((digs 18446744073709551616 12 (RR2 N))).map (vi .u64), false, 1⟩, ⟨b.map (vi .u8), false, 1⟩] := by
  refine GC.intro Try.func32 rfl (by show 2 ≤ 14; decide) (by first | exact Nat.le_refl _ | decide | simp) ?_
  refine AW.seqR ?_
  refine AWo.alloc tbok 5000 1 ((List.replicate 12 0).map (vi .u64)) rfl rfl rfl rfl rfl rfl ?_
  refine AWo.nil trivial ?_
  refine AW.seqD mixed ?_
  refine AWo.pure (PureOp.move rfl) rfl rfl ?_
  refine AWo.pure (PureOp.nilCheck rfl) rfl rfl ?_
  refine AWo.pure (PureOp.fld tbok rfl rfl rfl (by decide)) rfl rfl ?_
  refine AWo.load tbok rfl rfl rfl rfl rfl rfl ?_
  refine AWo.pure (PureOp.move rfl) rfl rfl ?_
  refine AWo.callX (lwords_ctr hb (by omega)) bd95 [(4, 0)] [11000] rfl (.cons rfl .nil) rfl (.cons rfl rfl .nil) (.flat rfl (by first | exact flatM flat_vi | exact flatM flat_bool | (simp [flatV, flat_vi]; done)) (by intro h; first | exact h | rfl) .nil) rfl (.keep rfl (.new (flat_map_ren (by first | exact flatM flat_vi | exact flatM flat_bool | (simp [flatV, flat_vi]; done))) (OkL.flat (by first | exact flatM flat_vi | exact flatM flat_bool | (simp [flatV, flat_vi]; done))) .nil)) (frC rfl frN) (by decide) (.cons rfl rfl .nil) rfl rfl rfl rfl ?_
  refine AWo.callX (mredN_ctr (l := digs 18446744073709551616 ((b.length + 7) / 8) (num 256 b)) hN (digs_len _ _) (reads_num hb) (digs_bd (by decide) _ _) (by omega)) bd94 [(1, 0), (2, 0), (3, 0), (11000, 0)] [12000] rfl (.cons rfl (.cons rfl .nil)) rfl (.cons rfl rfl (.cons rfl rfl .nil)) (.whole rfl rfl (OkL.all rfl) (by intro h; first | exact h | rfl) (.flat rfl (flatM flat_vi) (by intro h; first | exact h | rfl) (.flat rfl (flatM flat_vi) (by intro h; first | exact h | rfl) (.flat rfl (by first | exact flatM flat_vi | exact flatM flat_bool | (simp [flatV, flat_vi]; done)) (by intro h; first | exact h | rfl) .nil)))) rfl (.keep rfl (.keep rfl (.keep rfl (.keep rfl (.new (flat_map_ren (by first | exact flatM flat_vi | exact flatM flat_bool | (simp [flatV, flat_vi]; done))) (OkL.flat (by first | exact flatM flat_vi | exact flatM flat_bool | (simp [flatV, flat_vi]; done))) .nil))))) (frC rfl frN) (by decide) (.cons rfl rfl .nil) rfl rfl rfl rfl ?_
  refine AWo.pure (PureOp.toArrT tbok rfl rfl (by decide) (by decide)) rfl rfl ?_
  refine AWo.loadAgg tbok (vs := (digs 18446744073709551616 12 (num 256 b % N)).map (vi .u64)) rfl rfl rfl rfl (by show 0 + 12 ≤ _; simp [digs_len]) (ld12 (digs_len _ _)) rfl rfl ?_
  refine AWo.storeAllN tbok rfl rfl rfl rfl (by rw [List.length_map, digs_len]) (by first | rfl | (simp [digs_len]; done)) (oneM (fun _ => rfl) _) rfl ?_
  refine AWo.nil (by kernel_rfl) ?_
  refine AW.ret ?_
  refine RetQ.gc [_] [] [.cell 4 24] (.inl rfl) rfl (.val (RVal.cellAll tbok rfl rfl rfl rfl (by first | (simp [*]; done) | rfl)) .nil) rfl (.pure (by first | rfl | exact pure_aggM flat_vi | exact pure_aggM flat_bool) .nil) (OutL.whole rfl rfl (OkL.all rfl) (by intro h; first | rfl | exact h.elim id fun h => absurd h.1 (by simp)) (OutL.whole rfl rfl (OkL.all rfl) (by intro h; first | rfl | exact h.elim id fun h => absurd h.1 (by simp)) (OutL.flat rfl (flatM flat_vi) (by intro h; first | rfl | exact h.elim id fun h => absurd h.1 (by simp)) (OutL.flat rfl (flatM flat_vi) (by intro h; first | rfl | exact h.elim id fun h => absurd h.1 (by simp)) (OutL.flat rfl (by first | exact flatM flat_vi | exact flatM flat_bool | (simp [flatV, flat_vi]; done)) (by intro h; first | rfl | exact h.elim id fun h => absurd h.1 (by simp)) trivial))))) (by decide) rfl
theorem readA_ctr {N : Nat} {b : List Nat} (hN : RN N) (hb : bd 256 b) (hl : b.length ≠ 96) : GC Try.prog 33 [.pointer (some ⟨0, 0, none⟩), .slice (some ⟨4, 0, none⟩) b.length 0] [⟨[.pointer (some ⟨1, 0, none⟩)], false, 1⟩, ⟨[.slice (some ⟨2, 0, none⟩) 12 0, vi .u64 (ninvR ((digs 18446744073709551616 12 N).getD 0 0)), .slice (some ⟨3, 0, none⟩) 12 0], false, 1⟩, ⟨((digs 18446744073709551616 12 N)).map (vi .u64), false, 1⟩, ⟨((digs 18446744073709551616 12 (RR2 N))).map (vi .u64), false, 1⟩, ⟨b.map (vi .u8), false, 1⟩] [.agg ((digs 18446744073709551616 12 0).map (vi .u64)).toArray, .int .i64 1] [⟨[.pointer (some ⟨1, 0, none⟩)], false, 1⟩, ⟨[.slice (some ⟨2, 0, none⟩) 12 0, vi .u64 (ninvR ((digs 18446744073709551616 12 N).getD 0 0)), .slice (some ⟨3, 0, none⟩) 12 0], false, 1⟩, ⟨((digs 18446744073709551616 12 N)).map (vi .u64), false, 1⟩, ⟨((digs 18446744073709551616 12 (RR2 N))).map (vi .u64), false, 1⟩, ⟨b.map (vi .u8), false, 1⟩] := by
  refine GC.intro Try.func33 rfl (by show 2 ≤ 25; decide) (by first | exact Nat.le_refl _ | decide | simp) ?_
  refine AW.seqR ?_
  refine AWo.alloc tbok 5000 1 ((List.replicate 12 0).map (vi .u64)) rfl rfl rfl rfl rfl rfl ?_
  refine AWo.pure (PureOp.assign rfl) rfl rfl ?_
  refine AWo.nil trivial ?_
  refine AW.seq ?_
  refine AW.seqR ?_
  refine AWo.pure (PureOp.move rfl) rfl rfl ?_
  first | refine AWo.pure (PureOp.lenS tbok rfl rfl) rfl rfl ?_ | refine AWo.pure (PureOp.lenD tbok rfl rfl) rfl rfl ?_
  first | refine AWo.pure (PureOp.neN (b := 96) rfl rfl) rfl rfl ?_ | refine AWo.pure (PureOp.bin rfl rfl rfl) rfl rfl ?_
  refine AWo.nil trivial ?_
  refine AW.cond rfl (fun hb0 => ?_) (fun hb0 => ?_)
  ·
    refine AW.seqR ?_
    refine AWo.pure ((PureOp.buildArr tbok [] rfl rfl rfl (by decide) rfl rfl).mono (v' := .agg ((digs 18446744073709551616 12 0).map (vi .u64)).toArray) (by kernel_rfl)) rfl rfl ?_
    refine AWo.storeAllN tbok rfl rfl rfl rfl (by rw [List.length_map, digs_len]) (by first | rfl | (simp [digs_len]; done)) (oneM (fun _ => rfl) _) rfl ?_
    refine AWo.pure (PureOp.assign rfl) rfl rfl ?_
    refine AWo.nil trivial ?_
    refine AW.ret ?_
    refine thenA_ret ?_
    refine RetQ.gc [_, _] [] [.cell 4 24, .tmp 5] (.inl rfl) rfl (.val (RVal.cellAll tbok rfl rfl rfl rfl (by first | (simp [*]; done) | rfl)) (.tmp rfl .nil)) rfl (.pure (by first | rfl | exact pure_aggM flat_vi | exact pure_aggM flat_bool) (.cons rfl rfl .nil)) (OutL.whole rfl rfl (OkL.all rfl) (by intro h; first | rfl | exact h.elim id fun h => absurd h.1 (by simp)) (OutL.whole rfl rfl (OkL.all rfl) (by intro h; first | rfl | exact h.elim id fun h => absurd h.1 (by simp)) (OutL.flat rfl (flatM flat_vi) (by intro h; first | rfl | exact h.elim id fun h => absurd h.1 (by simp)) (OutL.flat rfl (flatM flat_vi) (by intro h; first | rfl | exact h.elim id fun h => absurd h.1 (by simp)) (OutL.flat rfl (by first | exact flatM flat_vi | exact flatM flat_bool | (simp [flatV, flat_vi]; done)) (by intro h; first | rfl | exact h.elim id fun h => absurd h.1 (by simp)) trivial))))) (by decide) rfl
  ·
    exfalso
    simp at hb0; omega
theorem readC_ctr {N : Nat} {b : List Nat} (hN : RN N) (hb : bd 256 b) (hl : b.length = 96) (hc : N ≤ num 256 b) : GC Try.prog 33 [.pointer (some ⟨0, 0, none⟩), .slice (some ⟨4, 0, none⟩) b.length 0] [⟨[.pointer (some ⟨1, 0, none⟩)], false, 1⟩, ⟨[.slice (some ⟨2, 0, none⟩) 12 0, vi .u64 (ninvR ((digs 18446744073709551616 12 N).getD 0 0)), .slice (some ⟨3, 0, none⟩) 12 0], false, 1⟩, ⟨((digs 18446744073709551616 12 N)).map (vi .u64), false, 1⟩, ⟨((digs 18446744073709551616 12 (RR2 N))).map (vi .u64), false, 1⟩, ⟨b.map (vi .u8), false, 1⟩] [.agg ((digs 18446744073709551616 12 0).map (vi .u64)).toArray, .int .i64 4] [⟨[.pointer (some ⟨1, 0, none⟩)], false, 1⟩, ⟨[.slice (some ⟨2, 0, none⟩) 12 0, vi .u64 (ninvR ((digs 18446744073709551616 12 N).getD 0 0)), .slice (some ⟨3, 0, none⟩) 12 0], false, 1⟩, ⟨((digs 18446744073709551616 12 N)).map (vi .u64), false, 1⟩, ⟨((digs 18446744073709551616 12 (RR2 N))).map (vi .u64), false, 1⟩, ⟨b.map (vi .u8), false, 1⟩] := by
  refine GC.intro Try.func33 rfl (by show 2 ≤ 25; decide) (by first | exact Nat.le_refl _ | decide | simp) ?_
  refine AW.seqR ?_
  refine AWo.alloc tbok 5000 1 ((List.replicate 12 0).map (vi .u64)) rfl rfl rfl rfl rfl rfl ?_
  refine AWo.pure (PureOp.assign rfl) rfl rfl ?_
  refine AWo.nil trivial ?_
  refine AW.seq ?_
  refine AW.seqR ?_
  refine AWo.pure (PureOp.move rfl) rfl rfl ?_
  first | refine AWo.pure (PureOp.lenS tbok rfl rfl) rfl rfl ?_ | refine AWo.pure (PureOp.lenD tbok rfl rfl) rfl rfl ?_
  first | refine AWo.pure (PureOp.neN (b := 96) rfl rfl) rfl rfl ?_ | refine AWo.pure (PureOp.bin rfl rfl rfl) rfl rfl ?_
  refine AWo.nil trivial ?_
  refine AW.cond rfl (fun hb0 => ?_) (fun hb0 => ?_)
  ·
    exfalso
    simp at hb0; omega
  ·
    refine AW.skip ?_
    refine thenA_normal ?_
    refine AW.seqR ?_
    refine AWo.pure (PureOp.move rfl) rfl rfl ?_
    refine AWo.callX (lw96_ctr hb hl) bd95 [(4, 0)] [13000] rfl (.cons rfl .nil) rfl (.cons rfl rfl .nil) (.flat rfl (by first | exact flatM flat_vi | exact flatM flat_bool | (simp [flatV, flat_vi]; done)) (by intro h; first | exact h | rfl) .nil) rfl (.keep rfl (.new (flat_map_ren (by first | exact flatM flat_vi | exact flatM flat_bool | (simp [flatV, flat_vi]; done))) (OkL.flat (by first | exact flatM flat_vi | exact flatM flat_bool | (simp [flatV, flat_vi]; done))) .nil)) (frC rfl frN) (by decide) (.cons rfl rfl .nil) rfl rfl rfl rfl ?_
    refine AWo.pure (PureOp.assign rfl) rfl rfl ?_
    refine AWo.nil trivial ?_
    refine AW.seq ?_
    refine AW.seqR ?_
    refine AWo.pure (PureOp.move rfl) rfl rfl ?_
    refine AWo.pure (PureOp.move rfl) rfl rfl ?_
    refine AWo.pure (PureOp.nilCheck rfl) rfl rfl ?_
    refine AWo.pure (PureOp.fld tbok rfl rfl rfl (by decide)) rfl rfl ?_
    refine AWo.load tbok rfl rfl rfl rfl rfl rfl ?_
    refine AWo.callX (mwordsN_ctr hN) bd93 [(1, 0), (2, 0), (3, 0)] [19000] rfl (.cons rfl .nil) rfl (.cons rfl rfl .nil) (.whole rfl rfl (OkL.all rfl) (by intro h; first | exact h | rfl) (.flat rfl (flatM flat_vi) (by intro h; first | exact h | rfl) (.flat rfl (flatM flat_vi) (by intro h; first | exact h | rfl) .nil))) rfl (.keep rfl (.keep rfl (.keep rfl (.new (flat_map_ren (by first | exact flatM flat_vi | exact flatM flat_bool | (simp [flatV, flat_vi]; done))) (OkL.flat (by first | exact flatM flat_vi | exact flatM flat_bool | (simp [flatV, flat_vi]; done))) .nil)))) (frC rfl frN) (by decide) (.cons rfl rfl .nil) rfl rfl rfl rfl ?_
    refine AWo.callX (lcmp_ctrV (a := digs 18446744073709551616 12 (num 256 b)) (b := digs 18446744073709551616 12 N) (digs_len _ _) (num_digs_lt (by rw [← w96]; exact hl ▸ num_lt hb)) (digs_len _ _) (rn_num hN) (digs_bd (by decide) _ _) (digs_bd (by decide) _ _) (by rw [digs_len]; decide) (by rw [digs_len]; decide)) bd96 [(13000, 0), (19000, 0)] [] rfl (.cons rfl (.cons rfl .nil)) rfl (.cons rfl rfl (.cons rfl rfl .nil)) (.flat rfl (by first | exact flatM flat_vi | exact flatM flat_bool | (simp [flatV, flat_vi]; done)) (by intro h; first | exact h | rfl) (.flat rfl (by first | exact flatM flat_vi | exact flatM flat_bool | (simp [flatV, flat_vi]; done)) (by intro h; first | exact h | rfl) .nil)) rfl (.keep rfl (.keep rfl .nil)) frN (by decide) (.cons rfl rfl .nil) rfl rfl rfl rfl ?_
    first | refine AWo.pure ((PureOp.geP rfl rfl).mono (v' := .bool true) (congrArg Value.bool (cmp_ge hc))) rfl rfl ?_ | refine AWo.pure ((PureOp.geN (b := 0) rfl rfl).mono (v' := .bool true) (congrArg Value.bool (cmp_ge hc))) rfl rfl ?_ | refine AWo.pure ((PureOp.bin rfl rfl rfl).mono (v' := .bool true) (congrArg Value.bool (cmp_ge hc))) rfl rfl ?_
    refine AWo.nil trivial ?_
    refine AW.condT rfl ?_
    refine AW.seqR ?_
    refine AWo.pure ((PureOp.buildArr tbok [] rfl rfl rfl (by decide) rfl rfl).mono (v' := .agg ((digs 18446744073709551616 12 0).map (vi .u64)).toArray) (by kernel_rfl)) rfl rfl ?_
    refine AWo.storeAllN tbok rfl rfl rfl rfl (by rw [List.length_map, digs_len]) (by first | rfl | (simp [digs_len]; done)) (oneM (fun _ => rfl) _) rfl ?_
    refine AWo.pure (PureOp.assign rfl) rfl rfl ?_
    refine AWo.nil trivial ?_
    refine AW.ret ?_
    refine thenA_ret ?_
    refine RetQ.gc [_, _] [] [.cell 4 24, .tmp 5] (.inl rfl) rfl (.val (RVal.cellAll tbok rfl rfl rfl rfl (by first | (simp [*]; done) | rfl)) (.tmp rfl .nil)) rfl (.pure (by first | rfl | exact pure_aggM flat_vi | exact pure_aggM flat_bool) (.cons rfl rfl .nil)) (OutL.whole rfl rfl (OkL.all rfl) (by intro h; first | rfl | exact h.elim id fun h => absurd h.1 (by simp)) (OutL.whole rfl rfl (OkL.all rfl) (by intro h; first | rfl | exact h.elim id fun h => absurd h.1 (by simp)) (OutL.flat rfl (flatM flat_vi) (by intro h; first | rfl | exact h.elim id fun h => absurd h.1 (by simp)) (OutL.flat rfl (flatM flat_vi) (by intro h; first | rfl | exact h.elim id fun h => absurd h.1 (by simp)) (OutL.flat rfl (by first | exact flatM flat_vi | exact flatM flat_bool | (simp [flatV, flat_vi]; done)) (by intro h; first | rfl | exact h.elim id fun h => absurd h.1 (by simp)) trivial))))) (by decide) rfl
theorem readO_ctr {N : Nat} {b : List Nat} (hN : RN N) (hb : bd 256 b) (hl : b.length = 96) (hc : num 256 b < N) : GC Try.prog 33 [.pointer (some ⟨0, 0, none⟩), .slice (some ⟨4, 0, none⟩) b.length 0] [⟨[.pointer (some ⟨1, 0, none⟩)], false, 1⟩, ⟨[.slice (some ⟨2, 0, none⟩) 12 0, vi .u64 (ninvR ((digs 18446744073709551616 12 N).getD 0 0)), .slice (some ⟨3, 0, none⟩) 12 0], false, 1⟩, ⟨((digs 18446744073709551616 12 N)).map (vi .u64), false, 1⟩, ⟨((digs 18446744073709551616 12 (RR2 N))).map (vi .u64), false, 1⟩, ⟨b.map (vi .u8), false, 1⟩] [.agg ((digs 18446744073709551616 12 (num 256 b)).map (vi .u64)).toArray, .int .i64 0] [⟨[.pointer (some ⟨1, 0, none⟩)], false, 1⟩, ⟨[.slice (some ⟨2, 0, none⟩) 12 0, vi .u64 (ninvR ((digs 18446744073709551616 12 N).getD 0 0)), .slice (some ⟨3, 0, none⟩) 12 0], false, 1⟩, ⟨((digs 18446744073709551616 12 N)).map (vi .u64), false, 1⟩, ⟨((digs 18446744073709551616 12 (RR2 N))).map (vi .u64), false, 1⟩, ⟨b.map (vi .u8), false, 1⟩] := by
  refine GC.intro Try.func33 rfl (by show 2 ≤ 25; decide) (by first | exact Nat.le_refl _ | decide | simp) ?_
  refine AW.seqR ?_
  refine AWo.alloc tbok 5000 1 ((List.replicate 12 0).map (vi .u64)) rfl rfl rfl rfl rfl rfl ?_
  refine AWo.pure (PureOp.assign rfl) rfl rfl ?_
  refine AWo.nil trivial ?_
  refine AW.seq ?_
  refine AW.seqR ?_
  refine AWo.pure (PureOp.move rfl) rfl rfl ?_
  first | refine AWo.pure (PureOp.lenS tbok rfl rfl) rfl rfl ?_ | refine AWo.pure (PureOp.lenD tbok rfl rfl) rfl rfl ?_
  first | refine AWo.pure (PureOp.neN (b := 96) rfl rfl) rfl rfl ?_ | refine AWo.pure (PureOp.bin rfl rfl rfl) rfl rfl ?_
  refine AWo.nil trivial ?_
  refine AW.cond rfl (fun hb0 => ?_) (fun hb0 => ?_)
  ·
    exfalso
    simp at hb0; omega
  ·
    refine AW.skip ?_
    refine thenA_normal ?_
    refine AW.seqR ?_
    refine AWo.pure (PureOp.move rfl) rfl rfl ?_
    refine AWo.callX (lw96_ctr hb hl) bd95 [(4, 0)] [13000] rfl (.cons rfl .nil) rfl (.cons rfl rfl .nil) (.flat rfl (by first | exact flatM flat_vi | exact flatM flat_bool | (simp [flatV, flat_vi]; done)) (by intro h; first | exact h | rfl) .nil) rfl (.keep rfl (.new (flat_map_ren (by first | exact flatM flat_vi | exact flatM flat_bool | (simp [flatV, flat_vi]; done))) (OkL.flat (by first | exact flatM flat_vi | exact flatM flat_bool | (simp [flatV, flat_vi]; done))) .nil)) (frC rfl frN) (by decide) (.cons rfl rfl .nil) rfl rfl rfl rfl ?_
    refine AWo.pure (PureOp.assign rfl) rfl rfl ?_
    refine AWo.nil trivial ?_
    refine AW.seq ?_
    refine AW.seqR ?_
    refine AWo.pure (PureOp.move rfl) rfl rfl ?_
    refine AWo.pure (PureOp.move rfl) rfl rfl ?_
    refine AWo.pure (PureOp.nilCheck rfl) rfl rfl ?_
    refine AWo.pure (PureOp.fld tbok rfl rfl rfl (by decide)) rfl rfl ?_
    refine AWo.load tbok rfl rfl rfl rfl rfl rfl ?_
    refine AWo.callX (mwordsN_ctr hN) bd93 [(1, 0), (2, 0), (3, 0)] [19000] rfl (.cons rfl .nil) rfl (.cons rfl rfl .nil) (.whole rfl rfl (OkL.all rfl) (by intro h; first | exact h | rfl) (.flat rfl (flatM flat_vi) (by intro h; first | exact h | rfl) (.flat rfl (flatM flat_vi) (by intro h; first | exact h | rfl) .nil))) rfl (.keep rfl (.keep rfl (.keep rfl (.new (flat_map_ren (by first | exact flatM flat_vi | exact flatM flat_bool | (simp [flatV, flat_vi]; done))) (OkL.flat (by first | exact flatM flat_vi | exact flatM flat_bool | (simp [flatV, flat_vi]; done))) .nil)))) (frC rfl frN) (by decide) (.cons rfl rfl .nil) rfl rfl rfl rfl ?_
    refine AWo.callX (lcmp_ctrV (a := digs 18446744073709551616 12 (num 256 b)) (b := digs 18446744073709551616 12 N) (digs_len _ _) (num_digs_lt (by rw [← w96]; exact hl ▸ num_lt hb)) (digs_len _ _) (rn_num hN) (digs_bd (by decide) _ _) (digs_bd (by decide) _ _) (by rw [digs_len]; decide) (by rw [digs_len]; decide)) bd96 [(13000, 0), (19000, 0)] [] rfl (.cons rfl (.cons rfl .nil)) rfl (.cons rfl rfl (.cons rfl rfl .nil)) (.flat rfl (by first | exact flatM flat_vi | exact flatM flat_bool | (simp [flatV, flat_vi]; done)) (by intro h; first | exact h | rfl) (.flat rfl (by first | exact flatM flat_vi | exact flatM flat_bool | (simp [flatV, flat_vi]; done)) (by intro h; first | exact h | rfl) .nil)) rfl (.keep rfl (.keep rfl .nil)) frN (by decide) (.cons rfl rfl .nil) rfl rfl rfl rfl ?_
    first | refine AWo.pure ((PureOp.geP rfl rfl).mono (v' := .bool false) (congrArg Value.bool (cmp_lt hc))) rfl rfl ?_ | refine AWo.pure ((PureOp.geN (b := 0) rfl rfl).mono (v' := .bool false) (congrArg Value.bool (cmp_lt hc))) rfl rfl ?_ | refine AWo.pure ((PureOp.bin rfl rfl rfl).mono (v' := .bool false) (congrArg Value.bool (cmp_lt hc))) rfl rfl ?_
    refine AWo.nil trivial ?_
    refine AW.condF rfl ?_
    refine AW.skip ?_
    refine thenA_normal ?_
    refine AW.seqR ?_
    refine AWo.pure (PureOp.move rfl) rfl rfl ?_
    refine AWo.pure (PureOp.toArrT tbok rfl rfl (by decide) (by decide)) rfl rfl ?_
    refine AWo.loadAgg tbok (vs := (digs 18446744073709551616 12 (num 256 b)).map (vi .u64)) rfl rfl rfl rfl (by show 0 + 12 ≤ _; simp [digs_len]) (ld12 (digs_len _ _)) rfl rfl ?_
    refine AWo.storeAllN tbok rfl rfl rfl rfl (by rw [List.length_map, digs_len]) (by first | rfl | (simp [digs_len]; done)) (oneM (fun _ => rfl) _) rfl ?_
    refine AWo.pure (PureOp.assign rfl) rfl rfl ?_
    refine AWo.nil trivial ?_
    refine AW.ret ?_
    refine RetQ.gc [_, _] [] [.cell 4 24, .tmp 5] (.inl rfl) rfl (.val (RVal.cellAll tbok rfl rfl rfl rfl (by first | (simp [*]; done) | rfl)) (.tmp rfl .nil)) rfl (.pure (by first | rfl | exact pure_aggM flat_vi | exact pure_aggM flat_bool) (.cons rfl rfl .nil)) (OutL.whole rfl rfl (OkL.all rfl) (by intro h; first | rfl | exact h.elim id fun h => absurd h.1 (by simp)) (OutL.whole rfl rfl (OkL.all rfl) (by intro h; first | rfl | exact h.elim id fun h => absurd h.1 (by simp)) (OutL.flat rfl (flatM flat_vi) (by intro h; first | rfl | exact h.elim id fun h => absurd h.1 (by simp)) (OutL.flat rfl (flatM flat_vi) (by intro h; first | rfl | exact h.elim id fun h => absurd h.1 (by simp)) (OutL.flat rfl (by first | exact flatM flat_vi | exact flatM flat_bool | (simp [flatV, flat_vi]; done)) (by intro h; first | rfl | exact h.elim id fun h => absurd h.1 (by simp)) trivial))))) (by decide) rfl
end Go.Proofs.Ytpahdiljpnfkdaa
namespace Go.Proofs.Ytpahdiljpnfkdaa
open Go Sim
theorem digits_ctrV {a : List Nat} {na xa : Nat} (hna : a.length = na) (hxa : num 18446744073709551616 a = xa) (ha : bd 18446744073709551616 a) (hla : a.length < 100000000) : GC Try.prog 86 [.slice (some ⟨0, 0, none⟩) na 0] [⟨a.map (vi .u64), false, 1⟩] [.slice (some ⟨1, 0, none⟩) (D 4294967296 (xa)).length 0] [⟨a.map (vi .u64), false, 1⟩, ⟨(D 4294967296 (xa)).map (vi .u64), true, 1⟩] := by
 subst hna hxa
 exact digits_ctr ha hla
end Go.Proofs.Ytpahdiljpnfkdaa
namespace Go.Proofs.Ytpahdiljpnfkdaa
open Go Sim
theorem bytes_room {b : List Nat} (hb : bd 256 b) (hl : b.length ≤ 1000) : (D 4294967296 (num 256 b)).length < 1000000 := by
 have h : num 256 b < 4294967296 ^ b.length := Nat.lt_of_lt_of_le (num_lt hb) (Nat.pow_le_pow_left (by decide) _)
 have := (D_len_le (B := 4294967296) (by decide) _ _).2 h
 omega
end Go.Proofs.Ytpahdiljpnfkdaa
namespace Go.Proofs.Ytpahdiljpnfkdaa
def powm (n : Nat) : Nat → Nat → Nat → Nat
  | 0, _, _ => 1 % n
  | f + 1, a, e => if e = 0 then 1 % n else
      if e % 2 = 1 then a * powm n f (a * a % n) (e / 2) % n else powm n f (a * a % n) (e / 2)
theorem powm_eq (n : Nat) : ∀ (f a e : Nat), e < 2 ^ f → powm n f a e = a ^ e % n
  | 0, a, e, h => by
    have : e = 0 := by simpa using h
    subst this; simp [powm]
  | f + 1, a, e, h => by
    simp only [powm]
    split
    · rename_i h0; subst h0; simp
    · have h1 := powm_eq n f (a * a % n) (e / 2) (by rw [Nat.pow_succ] at h; omega)
      have h2 : (a * a % n) ^ (e / 2) % n = a ^ (2 * (e / 2)) % n := by
        rw [← Nat.pow_mod, Nat.pow_mul, Nat.pow_two]
      split
      · rename_i ho
        rw [h1, h2, Nat.mul_mod, Nat.mod_mod, ← Nat.mul_mod, ← Nat.pow_succ']
        rw [show (2 * (e / 2)).succ = e by omega]
      · rw [h1, h2, show 2 * (e / 2) = e by omega]
end Go.Proofs.Ytpahdiljpnfkdaa
namespace Go.Proofs.Ytpahdiljpnfkdaa.Rg
variable {n : Nat} [NeZero n] {x y z u v w : Fin n}
theorem add_comm (x y : Fin n) : x + y = y + x := by grind
theorem mul_comm (x y : Fin n) : x * y = y * x := by grind
theorem mul_assoc (x y z : Fin n) : x * (y * z) = x * y * z := by grind
theorem mul_add (x y z : Fin n) : x * (y + z) = x * y + x * z := by grind
theorem mul_one (x : Fin n) : x * 1 = x := by grind
theorem one_mul (x : Fin n) : 1 * x = x := by grind
theorem sub_self (x : Fin n) : x - x = 0 := by grind
theorem zero_mul (x : Fin n) : 0 * x = 0 := by grind
theorem mul_zero (x : Fin n) : x * 0 = 0 := by grind
theorem add_zero (x : Fin n) : x + 0 = x := by grind
theorem zero_add (x : Fin n) : 0 + x = x := by grind
theorem add_assoc (x y z : Fin n) : x + y + z = x + (y + z) := by grind
end Go.Proofs.Ytpahdiljpnfkdaa.Rg
namespace Go.Proofs.Ytpahdiljpnfkdaa
open Go Sim
abbrev Fp := Fin 21888242871839275222246405745257275088548364400416034343698204186575808495617
def fe (x : Fp) : List Nat := fel x.val
def fp (v : Nat) : Fp := ⟨v % 21888242871839275222246405745257275088548364400416034343698204186575808495617, Nat.mod_lt _ (by decide)⟩
@[simp] theorem fe_len (x : Fp) : (fe x).length = 4 := fel_len _
end Go.Proofs.Ytpahdiljpnfkdaa
namespace Go.Proofs.Ytpahdiljpnfkdaa
open Go Sim
abbrev dd (v : Nat) : Value := deep (D 4294967296 v).length 1 ((D 4294967296 v).map (vi .u64))
abbrev db (b : List Nat) : Value := deep b.length 1 (b.map (vi .u8))
theorem cloA {α : Type} {f : α → Value} {l : List α} (hf : ∀ x, flatV (f x) = true) : cloV (.agg (l.map f).toArray) = true := by
  simp only [cloV, List.all_eq_true]
  intro x hx
  obtain ⟨y, _, rfl⟩ := List.mem_map.1 (by simpa using hx)
  simp [clo1, hf y]
theorem ofbN {a : List Nat} (ha : bd 256 a) (hl : a.length < 100000000) : GC Try.prog 37 [.slice (some ⟨0, 0, none⟩) a.length 0] [⟨a.map (vi .u8), false, 1⟩] [dd (num 256 a)] [⟨a.map (vi .u8), false, 1⟩] :=
  GC.deepRes (ofb_ctr ha hl) (.new (Nat.le_refl _) rfl (by simp) (cloM fun _ => rfl) .nil) rfl (fun b hb => by simp at hb; subst hb; exact cloM fun _ => rfl)
end Go.Proofs.Ytpahdiljpnfkdaa
namespace Go.Proofs.Ytpahdiljpnfkdaa
open Go Sim
def blk (L : List (List Nat)) (c : Nat) : List Nat := L.getD (c % L.length) []
end Go.Proofs.Ytpahdiljpnfkdaa
namespace Go.Proofs.Ytpahdiljpnfkdaa
open Go Sim
attribute [local simp] digs_len
def bstr (xs : List Fp) (i : Nat) : Nat := (digs 256 32 (xs.getD (i / 31 % xs.length) 0).val).getD (i % 31) 0
def bts (xs : List Fp) (n : Nat) : List Nat := (List.range n).map (bstr xs)
@[simp] theorem bts_len (xs : List Fp) (n : Nat) : (bts xs n).length = n := by simp [bts]
theorem bts_step {xs : List Fp} {k n : Nat} (h : 31 * k < n) : bts xs (min (31 * k) n) ++ (digs 256 32 (xs.getD (k % xs.length) 0).val).take (min 31 (n - min (31 * k) n)) = bts xs (min (31 * (k + 1)) n) := by
  have h1 : min (31 * k) n = 31 * k := by omega
  rw [h1]
  obtain ⟨m, hm⟩ : ∃ m, m = min 31 (n - 31 * k) := ⟨_, rfl⟩
  rw [← hm, show min (31 * (k + 1)) n = 31 * k + m by omega]
  apply List.ext_getElem?
  intro i
  have hl : ((digs 256 32 (xs.getD (k % xs.length) 0).val).take m).length = m := by rw [List.length_take, digs_len]; omega
  rcases Nat.lt_or_ge i (31 * k) with hi | hi
  · rw [List.getElem?_append_left (by simpa using hi)]
    simp only [bts, List.getElem?_map, List.getElem?_range hi, List.getElem?_range (show i < 31 * k + m by omega)]
  · rw [List.getElem?_append_right (by simpa using hi), bts_len]
    rcases Nat.lt_or_ge i (31 * k + m) with hj | hj
    · simp only [bts, List.getElem?_map, List.getElem?_range hj, Option.map_some, bstr]
      rw [List.getElem?_take, if_pos (by omega), List.getElem?_eq_getElem (by rw [digs_len]; omega), show i / 31 = k by omega, show i % 31 = i - 31 * k by omega, List.getD_eq_getElem?_getD (i := i - 31 * k), List.getElem?_eq_getElem (by rw [digs_len]; omega)]
      rfl
    · rw [List.getElem?_eq_none (by omega), List.getElem?_eq_none (by simpa using hj)]
end Go.Proofs.Ytpahdiljpnfkdaa
namespace Go.Proofs.Ytpahdiljpnfkdaa
open Go Sim
theorem getD_lt {B : Nat} {l : List Nat} (h : bd B l) (hB : 0 < B) (i : Nat) : l.getD i 0 < B := by
 rw [List.getD_eq_getElem?_getD]
 cases hx : l[i]? with
 | none => exact hB
 | some v => exact h v (List.mem_of_getElem? hx)
end Go.Proofs.Ytpahdiljpnfkdaa
namespace Go.Proofs.Ytpahdiljpnfkdaa
open Go Sim
set_option maxRecDepth 100000 in
theorem expoW_ctr : GC Try.prog 39 [] [] [.pointer (some ⟨0, 0, none⟩)] [⟨[.pointer (some ⟨1, 0, none⟩)], true, 1⟩, ⟨[.slice (some ⟨2, 0, none⟩) 12 0, vi .u64 (ninvR ((digs 18446744073709551616 12 QG).getD 0 0)), .slice (some ⟨3, 0, none⟩) 12 0], true, 1⟩, ⟨((digs 18446744073709551616 12 QG)).map (vi .u64), true, 1⟩, ⟨((digs 18446744073709551616 12 (RR2 QG))).map (vi .u64), true, 1⟩] := by
  refine GC.intro Try.func39 rfl (by show 0 ≤ 24; decide) (by first | exact Nat.le_refl _ | decide | simp) ?_
  refine AW.seqR ?_
  refine AWo.pure (PureOp.assign rfl) rfl rfl ?_
  refine AWo.nil trivial ?_
  refine AW.seqR ?_
  refine AWo.callX (primeW_ctr) bd101 [] [] rfl .nil rfl .nil .nil rfl .nil frN (by decide) (.pure (by first | rfl | exact pure_aggM flat_vi | exact pure_aggM flat_bool) .nil) rfl rfl rfl rfl ?_
  refine AWo.alloc tbok 2000 1 ((List.replicate 12 0).map (vi .u64)) rfl rfl rfl rfl rfl rfl ?_
  refine AWo.storeAllN tbok rfl rfl rfl rfl (by rw [List.length_map, digs_len]) (by first | rfl | (simp [digs_len]; done)) (oneM (fun _ => rfl) _) rfl ?_
  rw [show (digs 18446744073709551616 12 PG).map (vi .u64) = [vi .u64 18446744073709551615, vi .u64 17603518614768072224, vi .u64 16466767132611215046, vi .u64 5755940542857986629, vi .u64 3470879405153129527, vi .u64 17263733006627652379, vi .u64 5857503583518590173, vi .u64 147421033984662306, vi .u64 2955010104097229940, vi .u64 14179128828124470481, vi .u64 14488038916154245684, vi .u64 18446744073709551615] from by kernel_rfl]
  refine AWo.pure (PureOp.assign rfl) rfl rfl ?_
  refine AWo.nil trivial ?_
  refine AW.seq ?_
  refine AW.seqR ?_
  refine AWo.pure (PureOp.assign rfl) rfl rfl ?_
  refine AWo.nil trivial ?_
  refine AW.block ?_
  refine AW.rounds 13 ?_
  refine roundsA_succ ?_
  refine AW.seq ?_
  refine AW.seqR ?_
  refine AWo.pure (PureOp.move rfl) rfl rfl ?_
  first | refine AWo.pure (PureOp.geP rfl rfl) rfl rfl ?_ | refine AWo.pure (PureOp.geN (b := 0) rfl rfl) rfl rfl ?_ | refine AWo.pure (PureOp.bin rfl rfl rfl) rfl rfl ?_
  refine AWo.nil trivial ?_
  refine AW.condT rfl ?_
  refine AW.skip ?_
  refine thenA_normal ?_
  refine AW.seq ?_
  refine AW.block ?_
  refine AW.draw mixed ?_
  refine AWo.pure (PureOp.move rfl) rfl rfl ?_
  refine AWo.pure (PureOp.move rfl) rfl rfl ?_
  first | refine AWo.pure (PureOp.arr1 tbok rfl rfl rfl rfl (by first | decide | omega)) rfl rfl ?_ | refine AWo.pure (PureOp.arr tbok rfl rfl rfl rfl (by first | decide | omega)) rfl rfl ?_
  refine AWo.load (v := vi .u64 18446744073709551615) tbok rfl rfl rfl rfl rfl rfl ?_
  first | refine AWo.pure ((PureOp.shrN (b := 1) 64 rfl rfl rfl (by first | decide | omega)).mono (v' := vi .u64 9223372036854775807) (by kernel_rfl)) rfl rfl ?_ | refine AWo.pure ((PureOp.shr rfl rfl (by first | decide | omega)).mono (v' := vi .u64 9223372036854775807) (by kernel_rfl)) rfl rfl ?_
  refine AWo.pure (PureOp.move rfl) rfl rfl ?_
  first | refine AWo.pure ((PureOp.shlUge (b := 63) 18446744073709551616 rfl rfl rfl rfl).mono (v' := vi .u64 0) (by kernel_rfl)) rfl rfl ?_ | refine AWo.pure ((PureOp.shl rfl rfl (by first | decide | omega)).mono (v' := vi .u64 0) (by kernel_rfl)) rfl rfl ?_
  first | refine AWo.pure ((PureOp.orN 18446744073709551616 rfl rfl (by decide) (by decide) (by first | decide | omega) (by first | decide | omega)).mono (v' := vi .u64 9223372036854775807) (by kernel_rfl)) rfl rfl ?_ | refine AWo.pure ((PureOp.bin rfl rfl rfl).mono (v' := vi .u64 9223372036854775807) (by kernel_rfl)) rfl rfl ?_
  refine AWo.pure (PureOp.move rfl) rfl rfl ?_
  first | refine AWo.pure (PureOp.arr1 tbok rfl rfl rfl rfl (by first | decide | omega)) rfl rfl ?_ | refine AWo.pure (PureOp.arr tbok rfl rfl rfl rfl (by first | decide | omega)) rfl rfl ?_
  refine AWo.load (v := vi .u64 18446744073709551615) tbok rfl rfl rfl rfl rfl rfl ?_
  first | refine AWo.pure ((PureOp.andN (b := 1) 18446744073709551616 rfl rfl (by decide) (by decide) (by first | decide | omega) (by first | decide | omega)).mono (v' := vi .u64 1) (by kernel_rfl)) rfl rfl ?_ | refine AWo.pure ((PureOp.bin rfl rfl rfl).mono (v' := vi .u64 1) (by kernel_rfl)) rfl rfl ?_
  first | refine AWo.pure (PureOp.arr1 tbok rfl rfl rfl rfl (by first | decide | omega)) rfl rfl ?_ | refine AWo.pure (PureOp.arr tbok rfl rfl rfl rfl (by first | decide | omega)) rfl rfl ?_
  refine AWo.store (cells := [vi .u64 18446744073709551615, vi .u64 17603518614768072224, vi .u64 16466767132611215046, vi .u64 5755940542857986629, vi .u64 3470879405153129527, vi .u64 17263733006627652379, vi .u64 5857503583518590173, vi .u64 147421033984662306, vi .u64 2955010104097229940, vi .u64 14179128828124470481, vi .u64 14488038916154245684, vi .u64 9223372036854775807]) tbok rfl rfl rfl rfl rfl (by decide) rfl rfl rfl ?_
  refine AWo.pure (PureOp.assign rfl) rfl rfl ?_
  refine AWo.nil (by kernel_rfl) ?_
  refine inBlockA_normal ?_
  refine thenA_normal ?_
  refine AW.region ?_
  refine AWo.pure (PureOp.move rfl) rfl rfl ?_
  first | refine AWo.pure (PureOp.subI (b := 1) rfl rfl (by first | decide | omega) (by first | decide | omega)) rfl rfl ?_ | refine AWo.pure (PureOp.subP rfl rfl (by first | decide | omega)) rfl rfl ?_ | refine AWo.pure (PureOp.bin rfl rfl rfl) rfl rfl ?_
  refine AWo.pure (PureOp.assign rfl) rfl rfl ?_
  refine AWo.nil trivial ?_
  refine thenA_normal ?_
  refine roundsA_succ ?_
  refine AW.seq ?_
  refine AW.seqR ?_
  refine AWo.pure (PureOp.move rfl) rfl rfl ?_
  first | refine AWo.pure (PureOp.geP rfl rfl) rfl rfl ?_ | refine AWo.pure (PureOp.geN (b := 0) rfl rfl) rfl rfl ?_ | refine AWo.pure (PureOp.bin rfl rfl rfl) rfl rfl ?_
  refine AWo.nil trivial ?_
  refine AW.condT rfl ?_
  refine AW.skip ?_
  refine thenA_normal ?_
  refine AW.seq ?_
  refine AW.block ?_
  refine AW.draw mixed ?_
  refine AWo.pure (PureOp.move rfl) rfl rfl ?_
  refine AWo.pure (PureOp.move rfl) rfl rfl ?_
  first | refine AWo.pure (PureOp.arr1 tbok rfl rfl rfl rfl (by first | decide | omega)) rfl rfl ?_ | refine AWo.pure (PureOp.arr tbok rfl rfl rfl rfl (by first | decide | omega)) rfl rfl ?_
  refine AWo.load (v := vi .u64 14488038916154245684) tbok rfl rfl rfl rfl rfl rfl ?_
  first | refine AWo.pure ((PureOp.shrN (b := 1) 64 rfl rfl rfl (by first | decide | omega)).mono (v' := vi .u64 7244019458077122842) (by kernel_rfl)) rfl rfl ?_ | refine AWo.pure ((PureOp.shr rfl rfl (by first | decide | omega)).mono (v' := vi .u64 7244019458077122842) (by kernel_rfl)) rfl rfl ?_
  refine AWo.pure (PureOp.move rfl) rfl rfl ?_
  first | refine AWo.pure ((PureOp.shlUge (b := 63) 18446744073709551616 rfl rfl rfl rfl).mono (v' := vi .u64 9223372036854775808) (by kernel_rfl)) rfl rfl ?_ | refine AWo.pure ((PureOp.shl rfl rfl (by first | decide | omega)).mono (v' := vi .u64 9223372036854775808) (by kernel_rfl)) rfl rfl ?_
  first | refine AWo.pure ((PureOp.orN 18446744073709551616 rfl rfl (by decide) (by decide) (by first | decide | omega) (by first | decide | omega)).mono (v' := vi .u64 16467391494931898650) (by kernel_rfl)) rfl rfl ?_ | refine AWo.pure ((PureOp.bin rfl rfl rfl).mono (v' := vi .u64 16467391494931898650) (by kernel_rfl)) rfl rfl ?_
  refine AWo.pure (PureOp.move rfl) rfl rfl ?_
  first | refine AWo.pure (PureOp.arr1 tbok rfl rfl rfl rfl (by first | decide | omega)) rfl rfl ?_ | refine AWo.pure (PureOp.arr tbok rfl rfl rfl rfl (by first | decide | omega)) rfl rfl ?_
  refine AWo.load (v := vi .u64 14488038916154245684) tbok rfl rfl rfl rfl rfl rfl ?_
  first | refine AWo.pure ((PureOp.andN (b := 1) 18446744073709551616 rfl rfl (by decide) (by decide) (by first | decide | omega) (by first | decide | omega)).mono (v' := vi .u64 0) (by kernel_rfl)) rfl rfl ?_ | refine AWo.pure ((PureOp.bin rfl rfl rfl).mono (v' := vi .u64 0) (by kernel_rfl)) rfl rfl ?_
  first | refine AWo.pure (PureOp.arr1 tbok rfl rfl rfl rfl (by first | decide | omega)) rfl rfl ?_ | refine AWo.pure (PureOp.arr tbok rfl rfl rfl rfl (by first | decide | omega)) rfl rfl ?_
  refine AWo.store (cells := [vi .u64 18446744073709551615, vi .u64 17603518614768072224, vi .u64 16466767132611215046, vi .u64 5755940542857986629, vi .u64 3470879405153129527, vi .u64 17263733006627652379, vi .u64 5857503583518590173, vi .u64 147421033984662306, vi .u64 2955010104097229940, vi .u64 14179128828124470481, vi .u64 16467391494931898650, vi .u64 9223372036854775807]) tbok rfl rfl rfl rfl rfl (by decide) rfl rfl rfl ?_
  refine AWo.pure (PureOp.assign rfl) rfl rfl ?_
  refine AWo.nil (by kernel_rfl) ?_
  refine inBlockA_normal ?_
  refine thenA_normal ?_
  refine AW.region ?_
  refine AWo.pure (PureOp.move rfl) rfl rfl ?_
  first | refine AWo.pure (PureOp.subI (b := 1) rfl rfl (by first | decide | omega) (by first | decide | omega)) rfl rfl ?_ | refine AWo.pure (PureOp.subP rfl rfl (by first | decide | omega)) rfl rfl ?_ | refine AWo.pure (PureOp.bin rfl rfl rfl) rfl rfl ?_
  refine AWo.pure (PureOp.assign rfl) rfl rfl ?_
  refine AWo.nil trivial ?_
  refine thenA_normal ?_
  refine roundsA_succ ?_
  refine AW.seq ?_
  refine AW.seqR ?_
  refine AWo.pure (PureOp.move rfl) rfl rfl ?_
  first | refine AWo.pure (PureOp.geP rfl rfl) rfl rfl ?_ | refine AWo.pure (PureOp.geN (b := 0) rfl rfl) rfl rfl ?_ | refine AWo.pure (PureOp.bin rfl rfl rfl) rfl rfl ?_
  refine AWo.nil trivial ?_
  refine AW.condT rfl ?_
  refine AW.skip ?_
  refine thenA_normal ?_
  refine AW.seq ?_
  refine AW.block ?_
  refine AW.draw mixed ?_
  refine AWo.pure (PureOp.move rfl) rfl rfl ?_
  refine AWo.pure (PureOp.move rfl) rfl rfl ?_
  first | refine AWo.pure (PureOp.arr1 tbok rfl rfl rfl rfl (by first | decide | omega)) rfl rfl ?_ | refine AWo.pure (PureOp.arr tbok rfl rfl rfl rfl (by first | decide | omega)) rfl rfl ?_
  refine AWo.load (v := vi .u64 14179128828124470481) tbok rfl rfl rfl rfl rfl rfl ?_
  first | refine AWo.pure ((PureOp.shrN (b := 1) 64 rfl rfl rfl (by first | decide | omega)).mono (v' := vi .u64 7089564414062235240) (by kernel_rfl)) rfl rfl ?_ | refine AWo.pure ((PureOp.shr rfl rfl (by first | decide | omega)).mono (v' := vi .u64 7089564414062235240) (by kernel_rfl)) rfl rfl ?_
  refine AWo.pure (PureOp.move rfl) rfl rfl ?_
  first | refine AWo.pure ((PureOp.shlUge (b := 63) 18446744073709551616 rfl rfl rfl rfl).mono (v' := vi .u64 0) (by kernel_rfl)) rfl rfl ?_ | refine AWo.pure ((PureOp.shl rfl rfl (by first | decide | omega)).mono (v' := vi .u64 0) (by kernel_rfl)) rfl rfl ?_
  first | refine AWo.pure ((PureOp.orN 18446744073709551616 rfl rfl (by decide) (by decide) (by first | decide | omega) (by first | decide | omega)).mono (v' := vi .u64 7089564414062235240) (by kernel_rfl)) rfl rfl ?_ | refine AWo.pure ((PureOp.bin rfl rfl rfl).mono (v' := vi .u64 7089564414062235240) (by kernel_rfl)) rfl rfl ?_
  refine AWo.pure (PureOp.move rfl) rfl rfl ?_
  first | refine AWo.pure (PureOp.arr1 tbok rfl rfl rfl rfl (by first | decide | omega)) rfl rfl ?_ | refine AWo.pure (PureOp.arr tbok rfl rfl rfl rfl (by first | decide | omega)) rfl rfl ?_
  refine AWo.load (v := vi .u64 14179128828124470481) tbok rfl rfl rfl rfl rfl rfl ?_
  first | refine AWo.pure ((PureOp.andN (b := 1) 18446744073709551616 rfl rfl (by decide) (by decide) (by first | decide | omega) (by first | decide | omega)).mono (v' := vi .u64 1) (by kernel_rfl)) rfl rfl ?_ | refine AWo.pure ((PureOp.bin rfl rfl rfl).mono (v' := vi .u64 1) (by kernel_rfl)) rfl rfl ?_
  first | refine AWo.pure (PureOp.arr1 tbok rfl rfl rfl rfl (by first | decide | omega)) rfl rfl ?_ | refine AWo.pure (PureOp.arr tbok rfl rfl rfl rfl (by first | decide | omega)) rfl rfl ?_
  refine AWo.store (cells := [vi .u64 18446744073709551615, vi .u64 17603518614768072224, vi .u64 16466767132611215046, vi .u64 5755940542857986629, vi .u64 3470879405153129527, vi .u64 17263733006627652379, vi .u64 5857503583518590173, vi .u64 147421033984662306, vi .u64 2955010104097229940, vi .u64 7089564414062235240, vi .u64 16467391494931898650, vi .u64 9223372036854775807]) tbok rfl rfl rfl rfl rfl (by decide) rfl rfl rfl ?_
  refine AWo.pure (PureOp.assign rfl) rfl rfl ?_
  refine AWo.nil (by kernel_rfl) ?_
  refine inBlockA_normal ?_
  refine thenA_normal ?_
  refine AW.region ?_
  refine AWo.pure (PureOp.move rfl) rfl rfl ?_
  first | refine AWo.pure (PureOp.subI (b := 1) rfl rfl (by first | decide | omega) (by first | decide | omega)) rfl rfl ?_ | refine AWo.pure (PureOp.subP rfl rfl (by first | decide | omega)) rfl rfl ?_ | refine AWo.pure (PureOp.bin rfl rfl rfl) rfl rfl ?_
  refine AWo.pure (PureOp.assign rfl) rfl rfl ?_
  refine AWo.nil trivial ?_
  refine thenA_normal ?_
  refine roundsA_succ ?_
  refine AW.seq ?_
  refine AW.seqR ?_
  refine AWo.pure (PureOp.move rfl) rfl rfl ?_
  first | refine AWo.pure (PureOp.geP rfl rfl) rfl rfl ?_ | refine AWo.pure (PureOp.geN (b := 0) rfl rfl) rfl rfl ?_ | refine AWo.pure (PureOp.bin rfl rfl rfl) rfl rfl ?_
  refine AWo.nil trivial ?_
  refine AW.condT rfl ?_
  refine AW.skip ?_
  refine thenA_normal ?_
  refine AW.seq ?_
  refine AW.block ?_
  refine AW.draw mixed ?_
  refine AWo.pure (PureOp.move rfl) rfl rfl ?_
  refine AWo.pure (PureOp.move rfl) rfl rfl ?_
  first | refine AWo.pure (PureOp.arr1 tbok rfl rfl rfl rfl (by first | decide | omega)) rfl rfl ?_ | refine AWo.pure (PureOp.arr tbok rfl rfl rfl rfl (by first | decide | omega)) rfl rfl ?_
  refine AWo.load (v := vi .u64 2955010104097229940) tbok rfl rfl rfl rfl rfl rfl ?_
  first | refine AWo.pure ((PureOp.shrN (b := 1) 64 rfl rfl rfl (by first | decide | omega)).mono (v' := vi .u64 1477505052048614970) (by kernel_rfl)) rfl rfl ?_ | refine AWo.pure ((PureOp.shr rfl rfl (by first | decide | omega)).mono (v' := vi .u64 1477505052048614970) (by kernel_rfl)) rfl rfl ?_
  refine AWo.pure (PureOp.move rfl) rfl rfl ?_
  first | refine AWo.pure ((PureOp.shlUge (b := 63) 18446744073709551616 rfl rfl rfl rfl).mono (v' := vi .u64 9223372036854775808) (by kernel_rfl)) rfl rfl ?_ | refine AWo.pure ((PureOp.shl rfl rfl (by first | decide | omega)).mono (v' := vi .u64 9223372036854775808) (by kernel_rfl)) rfl rfl ?_
  first | refine AWo.pure ((PureOp.orN 18446744073709551616 rfl rfl (by decide) (by decide) (by first | decide | omega) (by first | decide | omega)).mono (v' := vi .u64 10700877088903390778) (by kernel_rfl)) rfl rfl ?_ | refine AWo.pure ((PureOp.bin rfl rfl rfl).mono (v' := vi .u64 10700877088903390778) (by kernel_rfl)) rfl rfl ?_
  refine AWo.pure (PureOp.move rfl) rfl rfl ?_
  first | refine AWo.pure (PureOp.arr1 tbok rfl rfl rfl rfl (by first | decide | omega)) rfl rfl ?_ | refine AWo.pure (PureOp.arr tbok rfl rfl rfl rfl (by first | decide | omega)) rfl rfl ?_
  refine AWo.load (v := vi .u64 2955010104097229940) tbok rfl rfl rfl rfl rfl rfl ?_
  first | refine AWo.pure ((PureOp.andN (b := 1) 18446744073709551616 rfl rfl (by decide) (by decide) (by first | decide | omega) (by first | decide | omega)).mono (v' := vi .u64 0) (by kernel_rfl)) rfl rfl ?_ | refine AWo.pure ((PureOp.bin rfl rfl rfl).mono (v' := vi .u64 0) (by kernel_rfl)) rfl rfl ?_
  first | refine AWo.pure (PureOp.arr1 tbok rfl rfl rfl rfl (by first | decide | omega)) rfl rfl ?_ | refine AWo.pure (PureOp.arr tbok rfl rfl rfl rfl (by first | decide | omega)) rfl rfl ?_
  refine AWo.store (cells := [vi .u64 18446744073709551615, vi .u64 17603518614768072224, vi .u64 16466767132611215046, vi .u64 5755940542857986629, vi .u64 3470879405153129527, vi .u64 17263733006627652379, vi .u64 5857503583518590173, vi .u64 147421033984662306, vi .u64 10700877088903390778, vi .u64 7089564414062235240, vi .u64 16467391494931898650, vi .u64 9223372036854775807]) tbok rfl rfl rfl rfl rfl (by decide) rfl rfl rfl ?_
  refine AWo.pure (PureOp.assign rfl) rfl rfl ?_
  refine AWo.nil (by kernel_rfl) ?_
  refine inBlockA_normal ?_
  refine thenA_normal ?_
  refine AW.region ?_
  refine AWo.pure (PureOp.move rfl) rfl rfl ?_
  first | refine AWo.pure (PureOp.subI (b := 1) rfl rfl (by first | decide | omega) (by first | decide | omega)) rfl rfl ?_ | refine AWo.pure (PureOp.subP rfl rfl (by first | decide | omega)) rfl rfl ?_ | refine AWo.pure (PureOp.bin rfl rfl rfl) rfl rfl ?_
  refine AWo.pure (PureOp.assign rfl) rfl rfl ?_
  refine AWo.nil trivial ?_
  refine thenA_normal ?_
  refine roundsA_succ ?_
  refine AW.seq ?_
  refine AW.seqR ?_
  refine AWo.pure (PureOp.move rfl) rfl rfl ?_
  first | refine AWo.pure (PureOp.geP rfl rfl) rfl rfl ?_ | refine AWo.pure (PureOp.geN (b := 0) rfl rfl) rfl rfl ?_ | refine AWo.pure (PureOp.bin rfl rfl rfl) rfl rfl ?_
  refine AWo.nil trivial ?_
  refine AW.condT rfl ?_
  refine AW.skip ?_
  refine thenA_normal ?_
  refine AW.seq ?_
  refine AW.block ?_
  refine AW.draw mixed ?_
  refine AWo.pure (PureOp.move rfl) rfl rfl ?_
  refine AWo.pure (PureOp.move rfl) rfl rfl ?_
  first | refine AWo.pure (PureOp.arr1 tbok rfl rfl rfl rfl (by first | decide | omega)) rfl rfl ?_ | refine AWo.pure (PureOp.arr tbok rfl rfl rfl rfl (by first | decide | omega)) rfl rfl ?_
  refine AWo.load (v := vi .u64 147421033984662306) tbok rfl rfl rfl rfl rfl rfl ?_
  first | refine AWo.pure ((PureOp.shrN (b := 1) 64 rfl rfl rfl (by first | decide | omega)).mono (v' := vi .u64 73710516992331153) (by kernel_rfl)) rfl rfl ?_ | refine AWo.pure ((PureOp.shr rfl rfl (by first | decide | omega)).mono (v' := vi .u64 73710516992331153) (by kernel_rfl)) rfl rfl ?_
  refine AWo.pure (PureOp.move rfl) rfl rfl ?_
  first | refine AWo.pure ((PureOp.shlUge (b := 63) 18446744073709551616 rfl rfl rfl rfl).mono (v' := vi .u64 0) (by kernel_rfl)) rfl rfl ?_ | refine AWo.pure ((PureOp.shl rfl rfl (by first | decide | omega)).mono (v' := vi .u64 0) (by kernel_rfl)) rfl rfl ?_
  first | refine AWo.pure ((PureOp.orN 18446744073709551616 rfl rfl (by decide) (by decide) (by first | decide | omega) (by first | decide | omega)).mono (v' := vi .u64 73710516992331153) (by kernel_rfl)) rfl rfl ?_ | refine AWo.pure ((PureOp.bin rfl rfl rfl).mono (v' := vi .u64 73710516992331153) (by kernel_rfl)) rfl rfl ?_
  refine AWo.pure (PureOp.move rfl) rfl rfl ?_
  first | refine AWo.pure (PureOp.arr1 tbok rfl rfl rfl rfl (by first | decide | omega)) rfl rfl ?_ | refine AWo.pure (PureOp.arr tbok rfl rfl rfl rfl (by first | decide | omega)) rfl rfl ?_
  refine AWo.load (v := vi .u64 147421033984662306) tbok rfl rfl rfl rfl rfl rfl ?_
  first | refine AWo.pure ((PureOp.andN (b := 1) 18446744073709551616 rfl rfl (by decide) (by decide) (by first | decide | omega) (by first | decide | omega)).mono (v' := vi .u64 0) (by kernel_rfl)) rfl rfl ?_ | refine AWo.pure ((PureOp.bin rfl rfl rfl).mono (v' := vi .u64 0) (by kernel_rfl)) rfl rfl ?_
  first | refine AWo.pure (PureOp.arr1 tbok rfl rfl rfl rfl (by first | decide | omega)) rfl rfl ?_ | refine AWo.pure (PureOp.arr tbok rfl rfl rfl rfl (by first | decide | omega)) rfl rfl ?_
  refine AWo.store (cells := [vi .u64 18446744073709551615, vi .u64 17603518614768072224, vi .u64 16466767132611215046, vi .u64 5755940542857986629, vi .u64 3470879405153129527, vi .u64 17263733006627652379, vi .u64 5857503583518590173, vi .u64 73710516992331153, vi .u64 10700877088903390778, vi .u64 7089564414062235240, vi .u64 16467391494931898650, vi .u64 9223372036854775807]) tbok rfl rfl rfl rfl rfl (by decide) rfl rfl rfl ?_
  refine AWo.pure (PureOp.assign rfl) rfl rfl ?_
  refine AWo.nil (by kernel_rfl) ?_
  refine inBlockA_normal ?_
  refine thenA_normal ?_
  refine AW.region ?_
  refine AWo.pure (PureOp.move rfl) rfl rfl ?_
  first | refine AWo.pure (PureOp.subI (b := 1) rfl rfl (by first | decide | omega) (by first | decide | omega)) rfl rfl ?_ | refine AWo.pure (PureOp.subP rfl rfl (by first | decide | omega)) rfl rfl ?_ | refine AWo.pure (PureOp.bin rfl rfl rfl) rfl rfl ?_
  refine AWo.pure (PureOp.assign rfl) rfl rfl ?_
  refine AWo.nil trivial ?_
  refine thenA_normal ?_
  refine roundsA_succ ?_
  refine AW.seq ?_
  refine AW.seqR ?_
  refine AWo.pure (PureOp.move rfl) rfl rfl ?_
  first | refine AWo.pure (PureOp.geP rfl rfl) rfl rfl ?_ | refine AWo.pure (PureOp.geN (b := 0) rfl rfl) rfl rfl ?_ | refine AWo.pure (PureOp.bin rfl rfl rfl) rfl rfl ?_
  refine AWo.nil trivial ?_
  refine AW.condT rfl ?_
  refine AW.skip ?_
  refine thenA_normal ?_
  refine AW.seq ?_
  refine AW.block ?_
  refine AW.draw mixed ?_
  refine AWo.pure (PureOp.move rfl) rfl rfl ?_
  refine AWo.pure (PureOp.move rfl) rfl rfl ?_
  first | refine AWo.pure (PureOp.arr1 tbok rfl rfl rfl rfl (by first | decide | omega)) rfl rfl ?_ | refine AWo.pure (PureOp.arr tbok rfl rfl rfl rfl (by first | decide | omega)) rfl rfl ?_
  refine AWo.load (v := vi .u64 5857503583518590173) tbok rfl rfl rfl rfl rfl rfl ?_
  first | refine AWo.pure ((PureOp.shrN (b := 1) 64 rfl rfl rfl (by first | decide | omega)).mono (v' := vi .u64 2928751791759295086) (by kernel_rfl)) rfl rfl ?_ | refine AWo.pure ((PureOp.shr rfl rfl (by first | decide | omega)).mono (v' := vi .u64 2928751791759295086) (by kernel_rfl)) rfl rfl ?_
  refine AWo.pure (PureOp.move rfl) rfl rfl ?_
  first | refine AWo.pure ((PureOp.shlUge (b := 63) 18446744073709551616 rfl rfl rfl rfl).mono (v' := vi .u64 0) (by kernel_rfl)) rfl rfl ?_ | refine AWo.pure ((PureOp.shl rfl rfl (by first | decide | omega)).mono (v' := vi .u64 0) (by kernel_rfl)) rfl rfl ?_
  first | refine AWo.pure ((PureOp.orN 18446744073709551616 rfl rfl (by decide) (by decide) (by first | decide | omega) (by first | decide | omega)).mono (v' := vi .u64 2928751791759295086) (by kernel_rfl)) rfl rfl ?_ | refine AWo.pure ((PureOp.bin rfl rfl rfl).mono (v' := vi .u64 2928751791759295086) (by kernel_rfl)) rfl rfl ?_
  refine AWo.pure (PureOp.move rfl) rfl rfl ?_
  first | refine AWo.pure (PureOp.arr1 tbok rfl rfl rfl rfl (by first | decide | omega)) rfl rfl ?_ | refine AWo.pure (PureOp.arr tbok rfl rfl rfl rfl (by first | decide | omega)) rfl rfl ?_
  refine AWo.load (v := vi .u64 5857503583518590173) tbok rfl rfl rfl rfl rfl rfl ?_
  first | refine AWo.pure ((PureOp.andN (b := 1) 18446744073709551616 rfl rfl (by decide) (by decide) (by first | decide | omega) (by first | decide | omega)).mono (v' := vi .u64 1) (by kernel_rfl)) rfl rfl ?_ | refine AWo.pure ((PureOp.bin rfl rfl rfl).mono (v' := vi .u64 1) (by kernel_rfl)) rfl rfl ?_
  first | refine AWo.pure (PureOp.arr1 tbok rfl rfl rfl rfl (by first | decide | omega)) rfl rfl ?_ | refine AWo.pure (PureOp.arr tbok rfl rfl rfl rfl (by first | decide | omega)) rfl rfl ?_
  refine AWo.store (cells := [vi .u64 18446744073709551615, vi .u64 17603518614768072224, vi .u64 16466767132611215046, vi .u64 5755940542857986629, vi .u64 3470879405153129527, vi .u64 17263733006627652379, vi .u64 2928751791759295086, vi .u64 73710516992331153, vi .u64 10700877088903390778, vi .u64 7089564414062235240, vi .u64 16467391494931898650, vi .u64 9223372036854775807]) tbok rfl rfl rfl rfl rfl (by decide) rfl rfl rfl ?_
  refine AWo.pure (PureOp.assign rfl) rfl rfl ?_
  refine AWo.nil (by kernel_rfl) ?_
  refine inBlockA_normal ?_
  refine thenA_normal ?_
  refine AW.region ?_
  refine AWo.pure (PureOp.move rfl) rfl rfl ?_
  first | refine AWo.pure (PureOp.subI (b := 1) rfl rfl (by first | decide | omega) (by first | decide | omega)) rfl rfl ?_ | refine AWo.pure (PureOp.subP rfl rfl (by first | decide | omega)) rfl rfl ?_ | refine AWo.pure (PureOp.bin rfl rfl rfl) rfl rfl ?_
  refine AWo.pure (PureOp.assign rfl) rfl rfl ?_
  refine AWo.nil trivial ?_
  refine thenA_normal ?_
  refine roundsA_succ ?_
  refine AW.seq ?_
  refine AW.seqR ?_
  refine AWo.pure (PureOp.move rfl) rfl rfl ?_
  first | refine AWo.pure (PureOp.geP rfl rfl) rfl rfl ?_ | refine AWo.pure (PureOp.geN (b := 0) rfl rfl) rfl rfl ?_ | refine AWo.pure (PureOp.bin rfl rfl rfl) rfl rfl ?_
  refine AWo.nil trivial ?_
  refine AW.condT rfl ?_
  refine AW.skip ?_
  refine thenA_normal ?_
  refine AW.seq ?_
  refine AW.block ?_
  refine AW.draw mixed ?_
  refine AWo.pure (PureOp.move rfl) rfl rfl ?_
  refine AWo.pure (PureOp.move rfl) rfl rfl ?_
  first | refine AWo.pure (PureOp.arr1 tbok rfl rfl rfl rfl (by first | decide | omega)) rfl rfl ?_ | refine AWo.pure (PureOp.arr tbok rfl rfl rfl rfl (by first | decide | omega)) rfl rfl ?_
  refine AWo.load (v := vi .u64 17263733006627652379) tbok rfl rfl rfl rfl rfl rfl ?_
  first | refine AWo.pure ((PureOp.shrN (b := 1) 64 rfl rfl rfl (by first | decide | omega)).mono (v' := vi .u64 8631866503313826189) (by kernel_rfl)) rfl rfl ?_ | refine AWo.pure ((PureOp.shr rfl rfl (by first | decide | omega)).mono (v' := vi .u64 8631866503313826189) (by kernel_rfl)) rfl rfl ?_
  refine AWo.pure (PureOp.move rfl) rfl rfl ?_
  first | refine AWo.pure ((PureOp.shlUge (b := 63) 18446744073709551616 rfl rfl rfl rfl).mono (v' := vi .u64 9223372036854775808) (by kernel_rfl)) rfl rfl ?_ | refine AWo.pure ((PureOp.shl rfl rfl (by first | decide | omega)).mono (v' := vi .u64 9223372036854775808) (by kernel_rfl)) rfl rfl ?_
  first | refine AWo.pure ((PureOp.orN 18446744073709551616 rfl rfl (by decide) (by decide) (by first | decide | omega) (by first | decide | omega)).mono (v' := vi .u64 17855238540168601997) (by kernel_rfl)) rfl rfl ?_ | refine AWo.pure ((PureOp.bin rfl rfl rfl).mono (v' := vi .u64 17855238540168601997) (by kernel_rfl)) rfl rfl ?_
  refine AWo.pure (PureOp.move rfl) rfl rfl ?_
  first | refine AWo.pure (PureOp.arr1 tbok rfl rfl rfl rfl (by first | decide | omega)) rfl rfl ?_ | refine AWo.pure (PureOp.arr tbok rfl rfl rfl rfl (by first | decide | omega)) rfl rfl ?_
  refine AWo.load (v := vi .u64 17263733006627652379) tbok rfl rfl rfl rfl rfl rfl ?_
  first | refine AWo.pure ((PureOp.andN (b := 1) 18446744073709551616 rfl rfl (by decide) (by decide) (by first | decide | omega) (by first | decide | omega)).mono (v' := vi .u64 1) (by kernel_rfl)) rfl rfl ?_ | refine AWo.pure ((PureOp.bin rfl rfl rfl).mono (v' := vi .u64 1) (by kernel_rfl)) rfl rfl ?_
  first | refine AWo.pure (PureOp.arr1 tbok rfl rfl rfl rfl (by first | decide | omega)) rfl rfl ?_ | refine AWo.pure (PureOp.arr tbok rfl rfl rfl rfl (by first | decide | omega)) rfl rfl ?_
  refine AWo.store (cells := [vi .u64 18446744073709551615, vi .u64 17603518614768072224, vi .u64 16466767132611215046, vi .u64 5755940542857986629, vi .u64 3470879405153129527, vi .u64 17855238540168601997, vi .u64 2928751791759295086, vi .u64 73710516992331153, vi .u64 10700877088903390778, vi .u64 7089564414062235240, vi .u64 16467391494931898650, vi .u64 9223372036854775807]) tbok rfl rfl rfl rfl rfl (by decide) rfl rfl rfl ?_
  refine AWo.pure (PureOp.assign rfl) rfl rfl ?_
  refine AWo.nil (by kernel_rfl) ?_
  refine inBlockA_normal ?_
  refine thenA_normal ?_
  refine AW.region ?_
  refine AWo.pure (PureOp.move rfl) rfl rfl ?_
  first | refine AWo.pure (PureOp.subI (b := 1) rfl rfl (by first | decide | omega) (by first | decide | omega)) rfl rfl ?_ | refine AWo.pure (PureOp.subP rfl rfl (by first | decide | omega)) rfl rfl ?_ | refine AWo.pure (PureOp.bin rfl rfl rfl) rfl rfl ?_
  refine AWo.pure (PureOp.assign rfl) rfl rfl ?_
  refine AWo.nil trivial ?_
  refine thenA_normal ?_
  refine roundsA_succ ?_
  refine AW.seq ?_
  refine AW.seqR ?_
  refine AWo.pure (PureOp.move rfl) rfl rfl ?_
  first | refine AWo.pure (PureOp.geP rfl rfl) rfl rfl ?_ | refine AWo.pure (PureOp.geN (b := 0) rfl rfl) rfl rfl ?_ | refine AWo.pure (PureOp.bin rfl rfl rfl) rfl rfl ?_
  refine AWo.nil trivial ?_
  refine AW.condT rfl ?_
  refine AW.skip ?_
  refine thenA_normal ?_
  refine AW.seq ?_
  refine AW.block ?_
  refine AW.draw mixed ?_
  refine AWo.pure (PureOp.move rfl) rfl rfl ?_
  refine AWo.pure (PureOp.move rfl) rfl rfl ?_
  first | refine AWo.pure (PureOp.arr1 tbok rfl rfl rfl rfl (by first | decide | omega)) rfl rfl ?_ | refine AWo.pure (PureOp.arr tbok rfl rfl rfl rfl (by first | decide | omega)) rfl rfl ?_
  refine AWo.load (v := vi .u64 3470879405153129527) tbok rfl rfl rfl rfl rfl rfl ?_
  first | refine AWo.pure ((PureOp.shrN (b := 1) 64 rfl rfl rfl (by first | decide | omega)).mono (v' := vi .u64 1735439702576564763) (by kernel_rfl)) rfl rfl ?_ | refine AWo.pure ((PureOp.shr rfl rfl (by first | decide | omega)).mono (v' := vi .u64 1735439702576564763) (by kernel_rfl)) rfl rfl ?_
  refine AWo.pure (PureOp.move rfl) rfl rfl ?_
  first | refine AWo.pure ((PureOp.shlUge (b := 63) 18446744073709551616 rfl rfl rfl rfl).mono (v' := vi .u64 9223372036854775808) (by kernel_rfl)) rfl rfl ?_ | refine AWo.pure ((PureOp.shl rfl rfl (by first | decide | omega)).mono (v' := vi .u64 9223372036854775808) (by kernel_rfl)) rfl rfl ?_
  first | refine AWo.pure ((PureOp.orN 18446744073709551616 rfl rfl (by decide) (by decide) (by first | decide | omega) (by first | decide | omega)).mono (v' := vi .u64 10958811739431340571) (by kernel_rfl)) rfl rfl ?_ | refine AWo.pure ((PureOp.bin rfl rfl rfl).mono (v' := vi .u64 10958811739431340571) (by kernel_rfl)) rfl rfl ?_
  refine AWo.pure (PureOp.move rfl) rfl rfl ?_
  first | refine AWo.pure (PureOp.arr1 tbok rfl rfl rfl rfl (by first | decide | omega)) rfl rfl ?_ | refine AWo.pure (PureOp.arr tbok rfl rfl rfl rfl (by first | decide | omega)) rfl rfl ?_
  refine AWo.load (v := vi .u64 3470879405153129527) tbok rfl rfl rfl rfl rfl rfl ?_
  first | refine AWo.pure ((PureOp.andN (b := 1) 18446744073709551616 rfl rfl (by decide) (by decide) (by first | decide | omega) (by first | decide | omega)).mono (v' := vi .u64 1) (by kernel_rfl)) rfl rfl ?_ | refine AWo.pure ((PureOp.bin rfl rfl rfl).mono (v' := vi .u64 1) (by kernel_rfl)) rfl rfl ?_
  first | refine AWo.pure (PureOp.arr1 tbok rfl rfl rfl rfl (by first | decide | omega)) rfl rfl ?_ | refine AWo.pure (PureOp.arr tbok rfl rfl rfl rfl (by first | decide | omega)) rfl rfl ?_
  refine AWo.store (cells := [vi .u64 18446744073709551615, vi .u64 17603518614768072224, vi .u64 16466767132611215046, vi .u64 5755940542857986629, vi .u64 10958811739431340571, vi .u64 17855238540168601997, vi .u64 2928751791759295086, vi .u64 73710516992331153, vi .u64 10700877088903390778, vi .u64 7089564414062235240, vi .u64 16467391494931898650, vi .u64 9223372036854775807]) tbok rfl rfl rfl rfl rfl (by decide) rfl rfl rfl ?_
  refine AWo.pure (PureOp.assign rfl) rfl rfl ?_
  refine AWo.nil (by kernel_rfl) ?_
  refine inBlockA_normal ?_
  refine thenA_normal ?_
  refine AW.region ?_
  refine AWo.pure (PureOp.move rfl) rfl rfl ?_
  first | refine AWo.pure (PureOp.subI (b := 1) rfl rfl (by first | decide | omega) (by first | decide | omega)) rfl rfl ?_ | refine AWo.pure (PureOp.subP rfl rfl (by first | decide | omega)) rfl rfl ?_ | refine AWo.pure (PureOp.bin rfl rfl rfl) rfl rfl ?_
  refine AWo.pure (PureOp.assign rfl) rfl rfl ?_
  refine AWo.nil trivial ?_
  refine thenA_normal ?_
  refine roundsA_succ ?_
  refine AW.seq ?_
  refine AW.seqR ?_
  refine AWo.pure (PureOp.move rfl) rfl rfl ?_
  first | refine AWo.pure (PureOp.geP rfl rfl) rfl rfl ?_ | refine AWo.pure (PureOp.geN (b := 0) rfl rfl) rfl rfl ?_ | refine AWo.pure (PureOp.bin rfl rfl rfl) rfl rfl ?_
  refine AWo.nil trivial ?_
  refine AW.condT rfl ?_
  refine AW.skip ?_
  refine thenA_normal ?_
  refine AW.seq ?_
  refine AW.block ?_
  refine AW.draw mixed ?_
  refine AWo.pure (PureOp.move rfl) rfl rfl ?_
  refine AWo.pure (PureOp.move rfl) rfl rfl ?_
  first | refine AWo.pure (PureOp.arr1 tbok rfl rfl rfl rfl (by first | decide | omega)) rfl rfl ?_ | refine AWo.pure (PureOp.arr tbok rfl rfl rfl rfl (by first | decide | omega)) rfl rfl ?_
  refine AWo.load (v := vi .u64 5755940542857986629) tbok rfl rfl rfl rfl rfl rfl ?_
  first | refine AWo.pure ((PureOp.shrN (b := 1) 64 rfl rfl rfl (by first | decide | omega)).mono (v' := vi .u64 2877970271428993314) (by kernel_rfl)) rfl rfl ?_ | refine AWo.pure ((PureOp.shr rfl rfl (by first | decide | omega)).mono (v' := vi .u64 2877970271428993314) (by kernel_rfl)) rfl rfl ?_
  refine AWo.pure (PureOp.move rfl) rfl rfl ?_
  first | refine AWo.pure ((PureOp.shlUge (b := 63) 18446744073709551616 rfl rfl rfl rfl).mono (v' := vi .u64 9223372036854775808) (by kernel_rfl)) rfl rfl ?_ | refine AWo.pure ((PureOp.shl rfl rfl (by first | decide | omega)).mono (v' := vi .u64 9223372036854775808) (by kernel_rfl)) rfl rfl ?_
  first | refine AWo.pure ((PureOp.orN 18446744073709551616 rfl rfl (by decide) (by decide) (by first | decide | omega) (by first | decide | omega)).mono (v' := vi .u64 12101342308283769122) (by kernel_rfl)) rfl rfl ?_ | refine AWo.pure ((PureOp.bin rfl rfl rfl).mono (v' := vi .u64 12101342308283769122) (by kernel_rfl)) rfl rfl ?_
  refine AWo.pure (PureOp.move rfl) rfl rfl ?_
  first | refine AWo.pure (PureOp.arr1 tbok rfl rfl rfl rfl (by first | decide | omega)) rfl rfl ?_ | refine AWo.pure (PureOp.arr tbok rfl rfl rfl rfl (by first | decide | omega)) rfl rfl ?_
  refine AWo.load (v := vi .u64 5755940542857986629) tbok rfl rfl rfl rfl rfl rfl ?_
  first | refine AWo.pure ((PureOp.andN (b := 1) 18446744073709551616 rfl rfl (by decide) (by decide) (by first | decide | omega) (by first | decide | omega)).mono (v' := vi .u64 1) (by kernel_rfl)) rfl rfl ?_ | refine AWo.pure ((PureOp.bin rfl rfl rfl).mono (v' := vi .u64 1) (by kernel_rfl)) rfl rfl ?_
  first | refine AWo.pure (PureOp.arr1 tbok rfl rfl rfl rfl (by first | decide | omega)) rfl rfl ?_ | refine AWo.pure (PureOp.arr tbok rfl rfl rfl rfl (by first | decide | omega)) rfl rfl ?_
  refine AWo.store (cells := [vi .u64 18446744073709551615, vi .u64 17603518614768072224, vi .u64 16466767132611215046, vi .u64 12101342308283769122, vi .u64 10958811739431340571, vi .u64 17855238540168601997, vi .u64 2928751791759295086, vi .u64 73710516992331153, vi .u64 10700877088903390778, vi .u64 7089564414062235240, vi .u64 16467391494931898650, vi .u64 9223372036854775807]) tbok rfl rfl rfl rfl rfl (by decide) rfl rfl rfl ?_
  refine AWo.pure (PureOp.assign rfl) rfl rfl ?_
  refine AWo.nil (by kernel_rfl) ?_
  refine inBlockA_normal ?_
  refine thenA_normal ?_
  refine AW.region ?_
  refine AWo.pure (PureOp.move rfl) rfl rfl ?_
  first | refine AWo.pure (PureOp.subI (b := 1) rfl rfl (by first | decide | omega) (by first | decide | omega)) rfl rfl ?_ | refine AWo.pure (PureOp.subP rfl rfl (by first | decide | omega)) rfl rfl ?_ | refine AWo.pure (PureOp.bin rfl rfl rfl) rfl rfl ?_
  refine AWo.pure (PureOp.assign rfl) rfl rfl ?_
  refine AWo.nil trivial ?_
  refine thenA_normal ?_
  refine roundsA_succ ?_
  refine AW.seq ?_
  refine AW.seqR ?_
  refine AWo.pure (PureOp.move rfl) rfl rfl ?_
  first | refine AWo.pure (PureOp.geP rfl rfl) rfl rfl ?_ | refine AWo.pure (PureOp.geN (b := 0) rfl rfl) rfl rfl ?_ | refine AWo.pure (PureOp.bin rfl rfl rfl) rfl rfl ?_
  refine AWo.nil trivial ?_
  refine AW.condT rfl ?_
  refine AW.skip ?_
  refine thenA_normal ?_
  refine AW.seq ?_
  refine AW.block ?_
  refine AW.draw mixed ?_
  refine AWo.pure (PureOp.move rfl) rfl rfl ?_
  refine AWo.pure (PureOp.move rfl) rfl rfl ?_
  first | refine AWo.pure (PureOp.arr1 tbok rfl rfl rfl rfl (by first | decide | omega)) rfl rfl ?_ | refine AWo.pure (PureOp.arr tbok rfl rfl rfl rfl (by first | decide | omega)) rfl rfl ?_
  refine AWo.load (v := vi .u64 16466767132611215046) tbok rfl rfl rfl rfl rfl rfl ?_
  first | refine AWo.pure ((PureOp.shrN (b := 1) 64 rfl rfl rfl (by first | decide | omega)).mono (v' := vi .u64 8233383566305607523) (by kernel_rfl)) rfl rfl ?_ | refine AWo.pure ((PureOp.shr rfl rfl (by first | decide | omega)).mono (v' := vi .u64 8233383566305607523) (by kernel_rfl)) rfl rfl ?_
  refine AWo.pure (PureOp.move rfl) rfl rfl ?_
  first | refine AWo.pure ((PureOp.shlUge (b := 63) 18446744073709551616 rfl rfl rfl rfl).mono (v' := vi .u64 9223372036854775808) (by kernel_rfl)) rfl rfl ?_ | refine AWo.pure ((PureOp.shl rfl rfl (by first | decide | omega)).mono (v' := vi .u64 9223372036854775808) (by kernel_rfl)) rfl rfl ?_
  first | refine AWo.pure ((PureOp.orN 18446744073709551616 rfl rfl (by decide) (by decide) (by first | decide | omega) (by first | decide | omega)).mono (v' := vi .u64 17456755603160383331) (by kernel_rfl)) rfl rfl ?_ | refine AWo.pure ((PureOp.bin rfl rfl rfl).mono (v' := vi .u64 17456755603160383331) (by kernel_rfl)) rfl rfl ?_
  refine AWo.pure (PureOp.move rfl) rfl rfl ?_
  first | refine AWo.pure (PureOp.arr1 tbok rfl rfl rfl rfl (by first | decide | omega)) rfl rfl ?_ | refine AWo.pure (PureOp.arr tbok rfl rfl rfl rfl (by first | decide | omega)) rfl rfl ?_
  refine AWo.load (v := vi .u64 16466767132611215046) tbok rfl rfl rfl rfl rfl rfl ?_
  first | refine AWo.pure ((PureOp.andN (b := 1) 18446744073709551616 rfl rfl (by decide) (by decide) (by first | decide | omega) (by first | decide | omega)).mono (v' := vi .u64 0) (by kernel_rfl)) rfl rfl ?_ | refine AWo.pure ((PureOp.bin rfl rfl rfl).mono (v' := vi .u64 0) (by kernel_rfl)) rfl rfl ?_
  first | refine AWo.pure (PureOp.arr1 tbok rfl rfl rfl rfl (by first | decide | omega)) rfl rfl ?_ | refine AWo.pure (PureOp.arr tbok rfl rfl rfl rfl (by first | decide | omega)) rfl rfl ?_
  refine AWo.store (cells := [vi .u64 18446744073709551615, vi .u64 17603518614768072224, vi .u64 17456755603160383331, vi .u64 12101342308283769122, vi .u64 10958811739431340571, vi .u64 17855238540168601997, vi .u64 2928751791759295086, vi .u64 73710516992331153, vi .u64 10700877088903390778, vi .u64 7089564414062235240, vi .u64 16467391494931898650, vi .u64 9223372036854775807]) tbok rfl rfl rfl rfl rfl (by decide) rfl rfl rfl ?_
  refine AWo.pure (PureOp.assign rfl) rfl rfl ?_
  refine AWo.nil (by kernel_rfl) ?_
  refine inBlockA_normal ?_
  refine thenA_normal ?_
  refine AW.region ?_
  refine AWo.pure (PureOp.move rfl) rfl rfl ?_
  first | refine AWo.pure (PureOp.subI (b := 1) rfl rfl (by first | decide | omega) (by first | decide | omega)) rfl rfl ?_ | refine AWo.pure (PureOp.subP rfl rfl (by first | decide | omega)) rfl rfl ?_ | refine AWo.pure (PureOp.bin rfl rfl rfl) rfl rfl ?_
  refine AWo.pure (PureOp.assign rfl) rfl rfl ?_
  refine AWo.nil trivial ?_
  refine thenA_normal ?_
  refine roundsA_succ ?_
  refine AW.seq ?_
  refine AW.seqR ?_
  refine AWo.pure (PureOp.move rfl) rfl rfl ?_
  first | refine AWo.pure (PureOp.geP rfl rfl) rfl rfl ?_ | refine AWo.pure (PureOp.geN (b := 0) rfl rfl) rfl rfl ?_ | refine AWo.pure (PureOp.bin rfl rfl rfl) rfl rfl ?_
  refine AWo.nil trivial ?_
  refine AW.condT rfl ?_
  refine AW.skip ?_
  refine thenA_normal ?_
  refine AW.seq ?_
  refine AW.block ?_
  refine AW.draw mixed ?_
  refine AWo.pure (PureOp.move rfl) rfl rfl ?_
  refine AWo.pure (PureOp.move rfl) rfl rfl ?_
  first | refine AWo.pure (PureOp.arr1 tbok rfl rfl rfl rfl (by first | decide | omega)) rfl rfl ?_ | refine AWo.pure (PureOp.arr tbok rfl rfl rfl rfl (by first | decide | omega)) rfl rfl ?_
  refine AWo.load (v := vi .u64 17603518614768072224) tbok rfl rfl rfl rfl rfl rfl ?_
  first | refine AWo.pure ((PureOp.shrN (b := 1) 64 rfl rfl rfl (by first | decide | omega)).mono (v' := vi .u64 8801759307384036112) (by kernel_rfl)) rfl rfl ?_ | refine AWo.pure ((PureOp.shr rfl rfl (by first | decide | omega)).mono (v' := vi .u64 8801759307384036112) (by kernel_rfl)) rfl rfl ?_
  refine AWo.pure (PureOp.move rfl) rfl rfl ?_
  first | refine AWo.pure ((PureOp.shlUge (b := 63) 18446744073709551616 rfl rfl rfl rfl).mono (v' := vi .u64 0) (by kernel_rfl)) rfl rfl ?_ | refine AWo.pure ((PureOp.shl rfl rfl (by first | decide | omega)).mono (v' := vi .u64 0) (by kernel_rfl)) rfl rfl ?_
  first | refine AWo.pure ((PureOp.orN 18446744073709551616 rfl rfl (by decide) (by decide) (by first | decide | omega) (by first | decide | omega)).mono (v' := vi .u64 8801759307384036112) (by kernel_rfl)) rfl rfl ?_ | refine AWo.pure ((PureOp.bin rfl rfl rfl).mono (v' := vi .u64 8801759307384036112) (by kernel_rfl)) rfl rfl ?_
  refine AWo.pure (PureOp.move rfl) rfl rfl ?_
  first | refine AWo.pure (PureOp.arr1 tbok rfl rfl rfl rfl (by first | decide | omega)) rfl rfl ?_ | refine AWo.pure (PureOp.arr tbok rfl rfl rfl rfl (by first | decide | omega)) rfl rfl ?_
  refine AWo.load (v := vi .u64 17603518614768072224) tbok rfl rfl rfl rfl rfl rfl ?_
  first | refine AWo.pure ((PureOp.andN (b := 1) 18446744073709551616 rfl rfl (by decide) (by decide) (by first | decide | omega) (by first | decide | omega)).mono (v' := vi .u64 0) (by kernel_rfl)) rfl rfl ?_ | refine AWo.pure ((PureOp.bin rfl rfl rfl).mono (v' := vi .u64 0) (by kernel_rfl)) rfl rfl ?_
  first | refine AWo.pure (PureOp.arr1 tbok rfl rfl rfl rfl (by first | decide | omega)) rfl rfl ?_ | refine AWo.pure (PureOp.arr tbok rfl rfl rfl rfl (by first | decide | omega)) rfl rfl ?_
  refine AWo.store (cells := [vi .u64 18446744073709551615, vi .u64 8801759307384036112, vi .u64 17456755603160383331, vi .u64 12101342308283769122, vi .u64 10958811739431340571, vi .u64 17855238540168601997, vi .u64 2928751791759295086, vi .u64 73710516992331153, vi .u64 10700877088903390778, vi .u64 7089564414062235240, vi .u64 16467391494931898650, vi .u64 9223372036854775807]) tbok rfl rfl rfl rfl rfl (by decide) rfl rfl rfl ?_
  refine AWo.pure (PureOp.assign rfl) rfl rfl ?_
  refine AWo.nil (by kernel_rfl) ?_
  refine inBlockA_normal ?_
  refine thenA_normal ?_
  refine AW.region ?_
  refine AWo.pure (PureOp.move rfl) rfl rfl ?_
  first | refine AWo.pure (PureOp.subI (b := 1) rfl rfl (by first | decide | omega) (by first | decide | omega)) rfl rfl ?_ | refine AWo.pure (PureOp.subP rfl rfl (by first | decide | omega)) rfl rfl ?_ | refine AWo.pure (PureOp.bin rfl rfl rfl) rfl rfl ?_
  refine AWo.pure (PureOp.assign rfl) rfl rfl ?_
  refine AWo.nil trivial ?_
  refine thenA_normal ?_
  refine roundsA_succ ?_
  refine AW.seq ?_
  refine AW.seqR ?_
  refine AWo.pure (PureOp.move rfl) rfl rfl ?_
  first | refine AWo.pure (PureOp.geP rfl rfl) rfl rfl ?_ | refine AWo.pure (PureOp.geN (b := 0) rfl rfl) rfl rfl ?_ | refine AWo.pure (PureOp.bin rfl rfl rfl) rfl rfl ?_
  refine AWo.nil trivial ?_
  refine AW.condT rfl ?_
  refine AW.skip ?_
  refine thenA_normal ?_
  refine AW.seq ?_
  refine AW.block ?_
  refine AW.draw mixed ?_
  refine AWo.pure (PureOp.move rfl) rfl rfl ?_
  refine AWo.pure (PureOp.move rfl) rfl rfl ?_
  first | refine AWo.pure (PureOp.arr1 tbok rfl rfl rfl rfl (by first | decide | omega)) rfl rfl ?_ | refine AWo.pure (PureOp.arr tbok rfl rfl rfl rfl (by first | decide | omega)) rfl rfl ?_
  refine AWo.load (v := vi .u64 18446744073709551615) tbok rfl rfl rfl rfl rfl rfl ?_
  first | refine AWo.pure ((PureOp.shrN (b := 1) 64 rfl rfl rfl (by first | decide | omega)).mono (v' := vi .u64 9223372036854775807) (by kernel_rfl)) rfl rfl ?_ | refine AWo.pure ((PureOp.shr rfl rfl (by first | decide | omega)).mono (v' := vi .u64 9223372036854775807) (by kernel_rfl)) rfl rfl ?_
  refine AWo.pure (PureOp.move rfl) rfl rfl ?_
  first | refine AWo.pure ((PureOp.shlUge (b := 63) 18446744073709551616 rfl rfl rfl rfl).mono (v' := vi .u64 0) (by kernel_rfl)) rfl rfl ?_ | refine AWo.pure ((PureOp.shl rfl rfl (by first | decide | omega)).mono (v' := vi .u64 0) (by kernel_rfl)) rfl rfl ?_
  first | refine AWo.pure ((PureOp.orN 18446744073709551616 rfl rfl (by decide) (by decide) (by first | decide | omega) (by first | decide | omega)).mono (v' := vi .u64 9223372036854775807) (by kernel_rfl)) rfl rfl ?_ | refine AWo.pure ((PureOp.bin rfl rfl rfl).mono (v' := vi .u64 9223372036854775807) (by kernel_rfl)) rfl rfl ?_
  refine AWo.pure (PureOp.move rfl) rfl rfl ?_
  first | refine AWo.pure (PureOp.arr1 tbok rfl rfl rfl rfl (by first | decide | omega)) rfl rfl ?_ | refine AWo.pure (PureOp.arr tbok rfl rfl rfl rfl (by first | decide | omega)) rfl rfl ?_
  refine AWo.load (v := vi .u64 18446744073709551615) tbok rfl rfl rfl rfl rfl rfl ?_
  first | refine AWo.pure ((PureOp.andN (b := 1) 18446744073709551616 rfl rfl (by decide) (by decide) (by first | decide | omega) (by first | decide | omega)).mono (v' := vi .u64 1) (by kernel_rfl)) rfl rfl ?_ | refine AWo.pure ((PureOp.bin rfl rfl rfl).mono (v' := vi .u64 1) (by kernel_rfl)) rfl rfl ?_
  first | refine AWo.pure (PureOp.arr1 tbok rfl rfl rfl rfl (by first | decide | omega)) rfl rfl ?_ | refine AWo.pure (PureOp.arr tbok rfl rfl rfl rfl (by first | decide | omega)) rfl rfl ?_
  refine AWo.store (cells := [vi .u64 9223372036854775807, vi .u64 8801759307384036112, vi .u64 17456755603160383331, vi .u64 12101342308283769122, vi .u64 10958811739431340571, vi .u64 17855238540168601997, vi .u64 2928751791759295086, vi .u64 73710516992331153, vi .u64 10700877088903390778, vi .u64 7089564414062235240, vi .u64 16467391494931898650, vi .u64 9223372036854775807]) tbok rfl rfl rfl rfl rfl (by decide) rfl rfl rfl ?_
  refine AWo.pure (PureOp.assign rfl) rfl rfl ?_
  refine AWo.nil (by kernel_rfl) ?_
  refine inBlockA_normal ?_
  refine thenA_normal ?_
  refine AW.region ?_
  refine AWo.pure (PureOp.move rfl) rfl rfl ?_
  first | refine AWo.pure (PureOp.subI (b := 1) rfl rfl (by first | decide | omega) (by first | decide | omega)) rfl rfl ?_ | refine AWo.pure (PureOp.subP rfl rfl (by first | decide | omega)) rfl rfl ?_ | refine AWo.pure (PureOp.bin rfl rfl rfl) rfl rfl ?_
  refine AWo.pure (PureOp.assign rfl) rfl rfl ?_
  refine AWo.nil trivial ?_
  refine thenA_normal ?_
  refine roundsA_succ ?_
  refine AW.seq ?_
  refine AW.seqR ?_
  refine AWo.pure (PureOp.move rfl) rfl rfl ?_
  first | refine AWo.pure (PureOp.geP rfl rfl) rfl rfl ?_ | refine AWo.pure (PureOp.geN (b := 0) rfl rfl) rfl rfl ?_ | refine AWo.pure (PureOp.bin rfl rfl rfl) rfl rfl ?_
  refine AWo.nil trivial ?_
  refine AW.condF rfl ?_
  refine AW.exit ?_
  refine thenA_exit ?_
  refine thenA_exit ?_
  refine inBlockA_hit ?_
  refine thenA_normal ?_
  rw [show [vi .u64 9223372036854775807, vi .u64 8801759307384036112, vi .u64 17456755603160383331, vi .u64 12101342308283769122, vi .u64 10958811739431340571, vi .u64 17855238540168601997, vi .u64 2928751791759295086, vi .u64 73710516992331153, vi .u64 10700877088903390778, vi .u64 7089564414062235240, vi .u64 16467391494931898650, vi .u64 9223372036854775807] = (digs 18446744073709551616 12 QG).map (vi .u64) from by kernel_rfl]
  refine AW.seqR ?_
  refine AWo.loadAll tbok rfl rfl rfl rfl rfl rfl rfl ?_
  refine AWo.callX (ringW_ctr (N := QG) rn_q) bd100 [] [13024000, 13024001, 13024002, 13024003] rfl (.cons rfl .nil) rfl (.pure (by first | rfl | exact pure_aggM flat_vi | exact pure_aggM flat_bool) .nil) .nil rfl (.new rfl (OkL.all rfl) (.new rfl (OkL.all rfl) (.new (flat_map_ren (flatM flat_vi)) (OkL.flat (flatM flat_vi)) (.new (flat_map_ren (flatM flat_vi)) (OkL.flat (flatM flat_vi)) .nil)))) (frC rfl (frC rfl (frC rfl (frC rfl frN)))) (by decide) (.cons rfl rfl .nil) rfl rfl rfl rfl ?_
  refine AWo.pure (PureOp.assign rfl) rfl rfl ?_
  refine AWo.nil trivial ?_
  refine AW.ret ?_
  refine RetQ.gc [_] [13024000, 13024001, 13024002, 13024003] [.tmp 0] (.inl rfl) rfl (.tmp rfl .nil) rfl (.cons rfl rfl .nil) (OutL.whole rfl rfl (OkL.all rfl) (fun _ => rfl) (OutL.whole rfl rfl (OkL.all rfl) (fun _ => rfl) (OutL.flat rfl (flatM flat_vi) (fun _ => rfl) (OutL.flat rfl (flatM flat_vi) (fun _ => rfl) trivial)))) (by decide) rfl
def B24 : Nat := 4294967296 ^ 24
def NG (g : Bool) : Nat := if g then PG else QG
theorem b24_w : B24 = 18446744073709551616 ^ 12 := by decide +kernel
theorem pg_b24 : PG < B24 := by decide +kernel
theorem pg1_b24 : PG - 1 < B24 := by decide +kernel
theorem pg_D : D 4294967296 PG = [4294967295, 4294967295, 2788832800, 4098638569, 1650360006, 3833967990, 1834074693, 1340159341, 4066317367, 808127085, 3443147547, 4019526067, 2385773789, 1363806329, 991140642, 34324134, 2322058356, 688016904, 2161908945, 3301335691, 560513588, 3373259426, 4294967295, 4294967295] := by kernel_rfl
theorem qg_D : D 4294967296 QG = [4294967295, 2147483647, 3541900048, 2049319284, 825180003, 4064467643, 3064520994, 2817563318, 4180642331, 2551547190, 3869057421, 4157246681, 3340370542, 681903164, 495570321, 17162067, 1161029178, 2491492100, 3228438120, 1650667845, 280256794, 3834113361, 4294967295, 2147483647] := by kernel_rfl
theorem pg_len : (D 4294967296 PG).length = 24 := by rw [pg_D]; rfl
theorem qg_len : (D 4294967296 QG).length = 24 := by rw [qg_D]; rfl
theorem pg1_len : (D 4294967296 (PG - 1)).length = 24 := by kernel_rfl
theorem pg_deep : deep 24 1 [vi .u64 4294967295, vi .u64 4294967295, vi .u64 2788832800, vi .u64 4098638569, vi .u64 1650360006, vi .u64 3833967990, vi .u64 1834074693, vi .u64 1340159341, vi .u64 4066317367, vi .u64 808127085, vi .u64 3443147547, vi .u64 4019526067, vi .u64 2385773789, vi .u64 1363806329, vi .u64 991140642, vi .u64 34324134, vi .u64 2322058356, vi .u64 688016904, vi .u64 2161908945, vi .u64 3301335691, vi .u64 560513588, vi .u64 3373259426, vi .u64 4294967295, vi .u64 4294967295] = dd PG := by simp only [dd, pg_D]; rfl
theorem pg_lt (i : Nat) : (D 4294967296 PG).getD i 0 < 18446744073709551616 := Nat.lt_trans (getD_lt (bd_D (by decide) _) (by decide) _) (by decide)
theorem b24_D : D 4294967296 B24 = List.replicate 24 0 ++ [1] := by kernel_rfl
theorem b24_len : (D 4294967296 B24).length = 25 := by rw [b24_D]; rfl
theorem b24_deep : deep (24 + 1) 1 ((List.replicate 24 0 ++ [1]).map (vi .u64)) = dd B24 := by simp only [dd, b24_D]; rfl
theorem one_deep : deep 1 1 [vi .u64 1] = dd 1 := rfl
theorem q_lo {i : Nat} (h : i < 23) : ((D 4294967296 PG).getD i 0 / 2 + (D 4294967296 PG).getD (i + 1) 0 % 2 * 2147483648 % 18446744073709551616) % 18446744073709551616 = (D 4294967296 QG).getD i 0 := by
  rw [pg_D, qg_D]; revert i; decide
theorem q_hi {i : Nat} (h : i < 24) (h2 : ¬ i < 23) : ((D 4294967296 PG).getD i 0 / 2 + 0 * 2147483648 % 18446744073709551616) % 18446744073709551616 = (D 4294967296 QG).getD i 0 := by
  obtain rfl : i = 23 := by omega
  rw [pg_D, qg_D]; decide
theorem take_one {l : List Nat} {i : Nat} (h : i < l.length) : l.take i ++ [l.getD i 0] = l.take (i + 1) := by
  rw [List.take_add_one, List.getElem?_eq_getElem h, List.getD_eq_getElem?_getD, List.getElem?_eq_getElem h]; rfl
theorem dl_le {x y n : Nat} (h : x ≤ y) (hy : (D 4294967296 y).length < n) : (D 4294967296 x).length < n := by
  have : (D 4294967296 x).length ≤ (D 4294967296 y).length := (D_len_le (by decide) _ _).2 (Nat.lt_of_le_of_lt h ((D_len_le (by decide) _ _).1 (Nat.le_refl _)))
  omega
theorem dlen24 {x : Nat} (h : x < B24) : (D 4294967296 x).length ≤ 24 := (D_len_le (by decide) _ _).2 h
theorem d24_ge {x : Nat} (h : 24 < (D 4294967296 x).length) : B24 ≤ x := by
  rcases Nat.lt_or_ge x B24 with h1 | h1
  · have := dlen24 h1; omega
  · exact h1
theorem hi_take {l : List Nat} {k : Nat} (h : k ≤ l.length) : ((l.map (vi .u64)).drop (0 + k * 1)).take ((l.length - k) * 1) = (l.drop k).map (vi .u64) := by
  rw [List.map_drop, Nat.zero_add, Nat.mul_one, Nat.mul_one]; exact List.take_of_length_le (by simp)
theorem lo_take {l : List Nat} {k : Nat} (h : k ≤ l.length) : ((l.map (vi .u64)).drop (0 + 0 * 1)).take ((k - 0) * 1) = (l.take k).map (vi .u64) := by
  simp [List.map_take]
theorem num_dropk {l : List Nat} {k : Nat} (hb : bd 4294967296 l) (hk : k ≤ l.length) : num 4294967296 (l.drop k) = num 4294967296 l / 4294967296 ^ k := by
  have h1 := num_take_drop (B := 4294967296) l k hk
  have h2 : num 4294967296 (l.take k) < 4294967296 ^ k := by rw [num_take hb]; exact Nat.mod_lt _ (Nat.pow_pos (by decide))
  rw [h1, Nat.add_mul_div_left _ _ (Nat.pow_pos (by decide)), Nat.div_eq_of_lt h2, Nat.zero_add]
theorem D_shift {x k : Nat} (h : k ≤ (D 4294967296 x).length) : (D 4294967296 x).drop k = D 4294967296 (x / 4294967296 ^ k) := by
  have h1 : num 4294967296 ((D 4294967296 x).drop k) = x / 4294967296 ^ k := by rw [num_dropk (bd_D (by decide) _) h, num_D (by decide)]
  have h2 := D_len_num (B := 4294967296) (by decide) (l := (D 4294967296 x).drop k) (fun d hd => bd_D (by decide) x d (List.mem_of_mem_drop hd)) (Nat.le_refl _)
  rw [h1] at h2
  have h3 := D_take (B := 4294967296) (by decide) (l := (D 4294967296 x).drop k) (fun d hd => bd_D (by decide) x d (List.mem_of_mem_drop hd))
  rw [h1] at h3
  rw [h3]
  refine (List.take_of_length_le ?_).symm
  rw [List.length_drop]
  have h4 : x < 4294967296 ^ (k + (D 4294967296 (x / 4294967296 ^ k)).length) := by
    have := (D_len_le (B := 4294967296) (by decide) (x / 4294967296 ^ k) _).1 (Nat.le_refl _)
    rw [Nat.pow_add]
    exact Nat.lt_of_lt_of_eq ((Nat.div_lt_iff_lt_mul (Nat.pow_pos (by decide))).1 this) (Nat.mul_comm _ _)
  have := (D_len_le (B := 4294967296) (by decide) x _).2 h4
  omega
theorem hi_deep {y : Nat} (h : 24 ≤ (D 4294967296 y).length) : deep (0 + ((D 4294967296 y).length - 24)) 1 (((D 4294967296 y).drop 24).map (vi .u64)) = dd (y / B24) := by
  have e : (D 4294967296 y).drop 24 = D 4294967296 (y / B24) := D_shift h
  have e2 : 0 + ((D 4294967296 y).length - 24) = (D 4294967296 (y / B24)).length := by rw [← e, List.length_drop]; omega
  rw [e2, e]
theorem lo_num {y : Nat} : num 4294967296 ((D 4294967296 y).take 24) = y % B24 := by rw [num_take (bd_D (by decide) _), num_D (by decide)]; rfl
theorem bd_tk {l : List Nat} {k : Nat} (h : bd 4294967296 l) : bd 4294967296 (l.take k) := fun d hd => h d (List.mem_of_mem_take hd)
theorem fold_eq {y m : Nat} (hm : m ≤ B24) : y % B24 + y / B24 * (B24 - m) + y / B24 * m = y := by
  have h1 := Nat.mod_add_div y B24
  have h2 : y / B24 * (B24 - m) + y / B24 * m = y / B24 * B24 := by rw [← Nat.mul_add, Nat.sub_add_cancel hm]
  rw [Nat.add_assoc, h2, Nat.mul_comm]; exact h1
theorem fold_le {y m : Nat} (hm : m ≤ B24) : y % B24 + y / B24 * (B24 - m) ≤ y := by have := fold_eq (y := y) hm; omega
theorem fold_lt {y m : Nat} (hm : m ≤ B24) (h0 : 0 < m) (hy : B24 ≤ y) : y % B24 + y / B24 * (B24 - m) < y := by
  have := fold_eq (y := y) hm
  have h1 : 0 < y / B24 := Nat.div_pos hy (by decide +kernel)
  have := Nat.mul_pos h1 h0
  omega
theorem fold_mod {y m : Nat} (hm : m ≤ B24) : (y % B24 + y / B24 * (B24 - m)) % m = y % m := by
  have := fold_eq (y := y) hm
  conv => rhs; rw [← this]
  rw [Nat.add_mul_mod_self_right]
theorem sub_mod {y m : Nat} (h : m ≤ y) : (y - m) % m = y % m := by
  conv => rhs; rw [show y = y - m + m by omega]
  rw [Nat.add_mod_right]
theorem cmp_geB {x y : Nat} (h : decide (cmpI x y ≥ 0) = true) : y ≤ x := by have := of_decide_eq_true h; unfold cmpI at this; split at this <;> (try split at this) <;> omega
theorem cmp_ltB {x y : Nat} (h : decide (cmpI x y ≥ 0) = false) : x < y := by have := of_decide_eq_false h; unfold cmpI at this; split at this <;> (try split at this) <;> omega
theorem mod_half (x : Nat) : x % (PG - 1) % QG = x % QG := Nat.mod_mod_of_dvd _ ⟨2, by decide +kernel⟩
theorem sub_lt_q {y : Nat} (h : QG ≤ y) : y - QG < y := Nat.sub_lt_of_pos_le (by decide +kernel) h
theorem addd {x y : Nat} (hx : (D 4294967296 x).length < 100000000) (hy : (D 4294967296 y).length < 100000000) : GC Try.prog 25 [dd x, dd y] [] [dd (x + y)] [] := GC.deepen (addD_ctr hx hy) (.deep (.deep .nil)) (.new (Nat.le_refl _) rfl (by simp) (cloM fun _ => rfl) .nil)
theorem subd {x y : Nat} (hx : (D 4294967296 x).length < 100000000) (hy : (D 4294967296 y).length < 100000000) (h : y ≤ x) : GC Try.prog 27 [dd x, dd y] [] [dd (x - y)] [] := GC.deepen (subD_ctr hx hy h) (.deep (.deep .nil)) (.new (Nat.le_refl _) rfl (by simp) (cloM fun _ => rfl) .nil)
theorem muld {x y : Nat} (hx : (D 4294967296 x).length < 100000000) (hy : (D 4294967296 y).length < 100000000) : GC Try.prog 30 [dd x, dd y] [] [dd (x * y)] [] := GC.deepen (mulD_ctr hx hy) (.deep (.deep .nil)) (.new (Nat.le_refl _) rfl (by simp) (cloM fun _ => rfl) .nil)
theorem cmpd {x y : Nat} (hx : (D 4294967296 x).length < 100000000) (hy : (D 4294967296 y).length < 100000000) : GC Try.prog 97 [dd x, dd y] [] [.int .i64 (cmpI x y)] [] := GC.deepen (cmpD_ctr (x := x) (y := y) hx hy) (.deep (.deep .nil)) (.pure rfl .nil)
theorem triml {l : List Nat} {n : Nat} (hb : bd 4294967296 l) (hn : l.length = n) (hl : n < 1000000000) : GC Try.prog 89 [deep n 1 (l.map (vi .u64))] [] [dd (num 4294967296 l)] [] := by
  subst hn
  exact GC.deepen (trim_ctr (a := l) (v := num 4294967296 l) hb rfl rfl hl) (.deep .nil)
    (.part (k := 0) (o := 0) Nat.zero_lt_one Nat.zero_lt_one rfl (by rw [Nat.zero_add, Nat.mul_one, List.length_map]; exact D_len_num (by decide) hb (Nat.le_refl _)) (by rw [List.drop_zero, Nat.mul_one, ← List.map_take, ← D_take (by decide) hb]) (cloM fun _ => rfl) .nil)
theorem p04_ctr : GC Try.prog 91 [] [] [dd PG] [] := by
  refine GC.intro Try.func91 rfl (by show 0 ≤ 2; decide) (by first | exact Nat.le_refl _ | decide | simp) ?_
  refine AW.seqR ?_
  refine AWo.pure (PureOp.assign rfl) rfl rfl ?_
  refine AWo.nil trivial ?_
  refine AW.seqR ?_
  refine AWo.buildSliceF tbok 2000 [(0, vi .u64 4294967295), (1, vi .u64 4294967295), (2, vi .u64 2788832800), (3, vi .u64 4098638569), (4, vi .u64 1650360006), (5, vi .u64 3833967990), (6, vi .u64 1834074693), (7, vi .u64 1340159341), (8, vi .u64 4066317367), (9, vi .u64 808127085), (10, vi .u64 3443147547), (11, vi .u64 4019526067), (12, vi .u64 2385773789), (13, vi .u64 1363806329), (14, vi .u64 991140642), (15, vi .u64 34324134), (16, vi .u64 2322058356), (17, vi .u64 688016904), (18, vi .u64 2161908945), (19, vi .u64 3301335691), (20, vi .u64 560513588), (21, vi .u64 3373259426), (22, vi .u64 4294967295), (23, vi .u64 4294967295)] (out := [vi .u64 4294967295, vi .u64 4294967295, vi .u64 2788832800, vi .u64 4098638569, vi .u64 1650360006, vi .u64 3833967990, vi .u64 1834074693, vi .u64 1340159341, vi .u64 4066317367, vi .u64 808127085, vi .u64 3443147547, vi .u64 4019526067, vi .u64 2385773789, vi .u64 1363806329, vi .u64 991140642, vi .u64 34324134, vi .u64 2322058356, vi .u64 688016904, vi .u64 2161908945, vi .u64 3301335691, vi .u64 560513588, vi .u64 3373259426, vi .u64 4294967295, vi .u64 4294967295]) rfl rfl (by decide) rfl rfl rfl (by decide) rfl (by kernel_rfl) rfl rfl (fun x hx => cloM (f := vi .u64) (l := [4294967295, 4294967295, 2788832800, 4098638569, 1650360006, 3833967990, 1834074693, 1340159341, 4066317367, 808127085, 3443147547, 4019526067, 2385773789, 1363806329, 991140642, 34324134, 2322058356, 688016904, 2161908945, 3301335691, 560513588, 3373259426, 4294967295, 4294967295]) (fun _ => rfl) x hx) rfl rfl ?_
  rw [pg_deep]
  refine AWo.pure (PureOp.assign rfl) rfl rfl ?_
  refine AWo.nil trivial ?_
  refine AW.ret ?_
  refine RetQ.gc [_] [] [.tmp 0] (.inl rfl) rfl (.tmp rfl .nil) rfl (.cons rfl rfl .nil) trivial (by decide) rfl
theorem q04_ctr : GC Try.prog 61 [] [] [dd QG] [] := by
  refine GC.intro Try.func61 rfl (by show 0 ≤ 31; decide) (by first | exact Nat.le_refl _ | decide | simp) ?_
  refine AW.seqR ?_
  refine AWo.pure (PureOp.assign rfl) rfl rfl ?_
  refine AWo.nil trivial ?_
  refine AW.seqR ?_
  refine AWo.callX (p04_ctr) bd91 [] [] rfl .nil rfl .nil .nil rfl .nil frN (by decide) (.cons rfl rfl .nil) rfl rfl rfl rfl ?_
  refine AWo.pure (PureOp.assign rfl) rfl rfl ?_
  refine AWo.nil trivial ?_
  refine AW.seqR ?_
  refine AWo.makeSliceC (n := 0) tbok 7000 ((List.replicate 0 0).map (vi .u64)) rfl rfl (by first | decide | omega) rfl rfl (by decide) rfl rfl rfl rfl (by first | decide | omega) (by first | decide | omega) (by simp [vi]) rfl rfl rfl ?_
  refine AWo.pure (PureOp.assign rfl) rfl rfl ?_
  refine AWo.nil trivial ?_
  refine AW.seq ?_
  refine AW.seqR ?_
  refine AWo.pure (PureOp.assign rfl) rfl rfl ?_
  refine AWo.nil trivial ?_
  refine AW.block ?_
  refine AW.loopw (fun mm σ => ∃ i, (i ≤ 24) ∧ mm = 24 - i ∧ σ = ⟨(upd (upd (upd emp 1 (dd PG)) 2 (.slice (some ⟨77000, 0, none⟩) i 0)) 3 (vi .i64 i)), (upd emp 77000 ⟨((D 4294967296 QG).take i).map (vi .u64), true, 1⟩)⟩) (fm := [(77000, 7000)]) ?_ ⟨0, by omega, rfl, rfl⟩ ?_
  ·
    refine Wk.of [77000] ?_ ?_ ?_ (by decide) rfl
    ·
      refine WkE.upd rfl (by first | exact VR.flat _ rfl | exact VR.eqv (vp_succ _) rfl | exact VR.eqv (vp_succ _).symm rfl | exact VR.eqv (by first | rfl | (congr 1; omega) | (simp; done) | (simp; omega)) rfl) ?_
      refine WkE.upd rfl (.slice (77000) 0 _ 0 ⟨_, rfl⟩ (by simp) (by simp)) ?_
      refine WkE.upd rfl (clo_refl (by simp) rfl) ?_
      exact WkE.emp
    ·
      refine WkM.flat rfl (flatM flat_vi) (fun h => h) ?_
      exact WkM.emp
    ·
      repeat (refine dom_upd_mem (by decide) ?_)
      exact dom_emp
  ·
    rintro mm σ ⟨i, hinv, rfl, rfl⟩
    refine AW.seq ?_
    refine AW.seqR ?_
    refine AWo.pure (PureOp.move rfl) rfl rfl ?_
    first | refine AWo.pure (PureOp.ltN (b := 24) rfl rfl) rfl rfl ?_ | refine AWo.pure (PureOp.bin rfl rfl rfl) rfl rfl ?_
    refine AWo.nil trivial ?_
    refine AW.cond rfl (fun hb0 => ?_) (fun hb0 => ?_)
    ·
      have hi : i < 24 := by simpa using hb0
      refine AW.skip ?_
      refine thenA_normal ?_
      refine AW.seq ?_
      refine AW.block ?_
      refine AW.seqR ?_
      refine AWo.pure (PureOp.assign rfl) rfl rfl ?_
      refine AWo.nil trivial ?_
      refine AW.seq ?_
      refine AW.seqR ?_
      refine AWo.pure (PureOp.move rfl) rfl rfl ?_
      first | refine AWo.pure (PureOp.ltN (b := 23) rfl rfl) rfl rfl ?_ | refine AWo.pure (PureOp.bin rfl rfl rfl) rfl rfl ?_
      refine AWo.nil trivial ?_
      refine AW.cond rfl (fun hb1 => ?_) (fun hb1 => ?_)
      ·
        have hi23 : i < 23 := by simpa using hb1
        refine AW.region ?_
        refine AWo.pureX 14000 (n := (D 4294967296 PG).length) (es := 1) (cells := (D 4294967296 PG).map (vi .u64)) (PureOp.move rfl) rfl rfl rfl ?_
        refine AWo.pure (PureOp.move rfl) rfl rfl ?_
        first | refine AWo.pure (PureOp.addI (b := 1) rfl rfl (by first | decide | omega)) rfl rfl ?_ | refine AWo.pure (PureOp.bin rfl rfl rfl) rfl rfl ?_
        refine yP (PureOp.idx1 tbok (j := i + 1) rfl rfl rfl rfl (by rw [pg_len]; omega)) ?_
        refine AWo.loadM tbok 0 rfl rfl rfl (by rw [pg_len]; omega) rfl rfl ?_
        refine AWo.pure (PureOp.remN (a := (D 4294967296 PG).getD (i + 1) 0) (b := 2) rfl rfl (by omega)) rfl rfl ?_
        refine AWo.pure (PureOp.assign rfl) rfl rfl ?_
        refine AWo.nil trivial ?_
        refine thenA_normal ?_
        refine AW.region ?_
        refine AWo.pure (PureOp.move rfl) rfl rfl ?_
        refine AWo.pureX 21000 (n := (D 4294967296 PG).length) (es := 1) (cells := (D 4294967296 PG).map (vi .u64)) (PureOp.move rfl) rfl rfl rfl ?_
        refine AWo.pure (PureOp.move rfl) rfl rfl ?_
        refine yP (PureOp.idx1 tbok (j := i) rfl rfl rfl rfl (by rw [pg_len]; omega)) ?_
        refine AWo.loadM tbok 0 rfl rfl rfl (by rw [pg_len]; omega) rfl rfl ?_
        refine AWo.pure (PureOp.quoN (a := (D 4294967296 PG).getD i 0) (b := 2) 18446744073709551616 rfl rfl (by decide) (by decide) (by omega) (pg_lt _)) rfl rfl ?_
        refine AWo.pure (PureOp.move rfl) rfl rfl ?_
        first | refine AWo.pure (PureOp.mulU (b := 2147483648) 18446744073709551616 rfl rfl rfl rfl) rfl rfl ?_ | refine AWo.pure (PureOp.bin rfl rfl rfl) rfl rfl ?_
        first | refine AWo.pure ((PureOp.addU 18446744073709551616 rfl rfl rfl rfl).mono (v' := vi .u64 ((D 4294967296 QG).getD i 0)) (congrArg (vi .u64) (q_lo hi23))) rfl rfl ?_ | refine AWo.pure ((PureOp.bin rfl rfl rfl).mono (v' := vi .u64 ((D 4294967296 QG).getD i 0)) (congrArg (vi .u64) (q_lo hi23))) rfl rfl ?_
        refine AWo.buildSlice tbok 29000 [(0, vi .u64 ((D 4294967296 QG).getD i 0))] (out := [vi .u64 ((D 4294967296 QG).getD i 0)]) rfl rfl (by decide) rfl rfl rfl (by decide) rfl rfl rfl rfl rfl ?_
        refine AWo.append tbok (all := ((D 4294967296 QG).take (i + 1)).map (vi .u64)) (news := [(D 4294967296 QG).getD i 0].map (vi .u64)) 30000 rfl rfl rfl rfl (by simp [qg_len]; omega) (by show List.take _ (List.drop 0 _) = _; rw [List.drop_zero]; exact List.take_of_length_le (by simp)) (by simp; done) (by decide) rfl rfl rfl (by first | decide | exact Nat.one_ne_zero) rfl rfl rfl (by first | decide | omega) (by first | decide | omega) (by first | exact oneM (fun _ => rfl) _ | (simp; done)) (by rw [← List.map_append, take_one (by rw [qg_len]; exact hi)]) rfl rfl ?_
        refine AWo.pure (PureOp.assign rfl) rfl rfl ?_
        refine AWo.nil trivial ?_
        refine inBlockA_normal ?_
        refine thenA_normal ?_
        refine AW.region ?_
        refine AWo.pure (PureOp.move rfl) rfl rfl ?_
        first | refine AWo.pure (PureOp.addI (b := 1) rfl rfl (by first | decide | omega)) rfl rfl ?_ | refine AWo.pure (PureOp.bin rfl rfl rfl) rfl rfl ?_
        refine AWo.pure (PureOp.assign rfl) rfl rfl ?_
        refine AWo.nil trivial ?_
        refine thenA_normal ?_
        refine ⟨24 - (i + 1), [(77000, 30000)], _, by omega, ?_, i + 1, by omega, rfl, rfl⟩
        refine Wk.of [77000] ?_ ?_ ?_ (by decide) rfl
        ·
          refine WkE.upd rfl (by first | exact VR.flat _ rfl | exact VR.eqv (vp_succ _) rfl | exact VR.eqv (vp_succ _).symm rfl | exact VR.eqv (by first | rfl | (congr 1; omega) | (simp; done) | (simp; omega)) rfl) ?_
          refine WkE.upd rfl (.slice (77000) 0 _ 0 ⟨_, rfl⟩ (by simp) (by simp)) ?_
          refine WkE.upd rfl (clo_refl (by simp) rfl) ?_
          exact WkE.emp
        ·
          refine WkM.flat rfl (flatM flat_vi) (fun h => h) ?_
          exact WkM.emp
        ·
          repeat (refine dom_upd_mem (by decide) ?_)
          exact dom_emp
      ·
        have hi23 : ¬ i < 23 := by simpa using hb1
        refine AW.skip ?_
        refine thenA_normal ?_
        refine AW.region ?_
        refine AWo.pure (PureOp.move rfl) rfl rfl ?_
        refine AWo.pureX 21000 (n := (D 4294967296 PG).length) (es := 1) (cells := (D 4294967296 PG).map (vi .u64)) (PureOp.move rfl) rfl rfl rfl ?_
        refine AWo.pure (PureOp.move rfl) rfl rfl ?_
        refine yP (PureOp.idx1 tbok (j := i) rfl rfl rfl rfl (by rw [pg_len]; omega)) ?_
        refine AWo.loadM tbok 0 rfl rfl rfl (by rw [pg_len]; omega) rfl rfl ?_
        refine AWo.pure (PureOp.quoN (a := (D 4294967296 PG).getD i 0) (b := 2) 18446744073709551616 rfl rfl (by decide) (by decide) (by omega) (pg_lt _)) rfl rfl ?_
        refine AWo.pure (PureOp.move rfl) rfl rfl ?_
        first | refine AWo.pure (PureOp.mulU (b := 2147483648) 18446744073709551616 rfl rfl rfl rfl) rfl rfl ?_ | refine AWo.pure (PureOp.bin rfl rfl rfl) rfl rfl ?_
        first | refine AWo.pure ((PureOp.addU 18446744073709551616 rfl rfl rfl rfl).mono (v' := vi .u64 ((D 4294967296 QG).getD i 0)) (congrArg (vi .u64) (q_hi hi hi23))) rfl rfl ?_ | refine AWo.pure ((PureOp.bin rfl rfl rfl).mono (v' := vi .u64 ((D 4294967296 QG).getD i 0)) (congrArg (vi .u64) (q_hi hi hi23))) rfl rfl ?_
        refine AWo.buildSlice tbok 29000 [(0, vi .u64 ((D 4294967296 QG).getD i 0))] (out := [vi .u64 ((D 4294967296 QG).getD i 0)]) rfl rfl (by decide) rfl rfl rfl (by decide) rfl rfl rfl rfl rfl ?_
        refine AWo.append tbok (all := ((D 4294967296 QG).take (i + 1)).map (vi .u64)) (news := [(D 4294967296 QG).getD i 0].map (vi .u64)) 30000 rfl rfl rfl rfl (by simp [qg_len]; omega) (by show List.take _ (List.drop 0 _) = _; rw [List.drop_zero]; exact List.take_of_length_le (by simp)) (by simp; done) (by decide) rfl rfl rfl (by first | decide | exact Nat.one_ne_zero) rfl rfl rfl (by first | decide | omega) (by first | decide | omega) (by first | exact oneM (fun _ => rfl) _ | (simp; done)) (by rw [← List.map_append, take_one (by rw [qg_len]; exact hi)]) rfl rfl ?_
        refine AWo.pure (PureOp.assign rfl) rfl rfl ?_
        refine AWo.nil trivial ?_
        refine inBlockA_normal ?_
        refine thenA_normal ?_
        refine AW.region ?_
        refine AWo.pure (PureOp.move rfl) rfl rfl ?_
        first | refine AWo.pure (PureOp.addI (b := 1) rfl rfl (by first | decide | omega)) rfl rfl ?_ | refine AWo.pure (PureOp.bin rfl rfl rfl) rfl rfl ?_
        refine AWo.pure (PureOp.assign rfl) rfl rfl ?_
        refine AWo.nil trivial ?_
        refine thenA_normal ?_
        refine ⟨24 - (i + 1), [(77000, 30000)], _, by omega, ?_, i + 1, by omega, rfl, rfl⟩
        refine Wk.of [77000] ?_ ?_ ?_ (by decide) rfl
        ·
          refine WkE.upd rfl (by first | exact VR.flat _ rfl | exact VR.eqv (vp_succ _) rfl | exact VR.eqv (vp_succ _).symm rfl | exact VR.eqv (by first | rfl | (congr 1; omega) | (simp; done) | (simp; omega)) rfl) ?_
          refine WkE.upd rfl (.slice (77000) 0 _ 0 ⟨_, rfl⟩ (by simp) (by simp)) ?_
          refine WkE.upd rfl (clo_refl (by simp) rfl) ?_
          exact WkE.emp
        ·
          refine WkM.flat rfl (flatM flat_vi) (fun h => h) ?_
          exact WkM.emp
        ·
          repeat (refine dom_upd_mem (by decide) ?_)
          exact dom_emp
    ·
      obtain rfl : i = 24 := by simp at hb0; omega
      refine AW.exit ?_
      refine thenA_exit ?_
      refine thenA_exit ?_
      refine inBlockA_hit ?_
      refine thenA_normal ?_
      rw [show (D 4294967296 QG).take 24 = D 4294967296 QG from List.take_of_length_le (by rw [qg_len]; decide)]
      rw [show (24 : Nat) = (D 4294967296 QG).length from qg_len.symm]
      refine AW.freeze 2 77000 ((D 4294967296 QG).map (vi .u64)) ?_ rfl rfl (cloM fun _ => rfl) (by simp) (by rw [List.drop_zero]; exact List.take_of_length_le (by simp))
      refine AW.seqR ?_
      refine AWo.pure (PureOp.move rfl) rfl rfl ?_
      refine AWo.pure (PureOp.assign rfl) rfl rfl ?_
      refine AWo.nil trivial ?_
      refine AW.ret ?_
      refine RetQ.gc [_] [] [.tmp 0] (.inl rfl) rfl (.tmp rfl .nil) rfl (.cons rfl rfl .nil) trivial (by decide) rfl
theorem fold_ctr {x m : Nat} (hx : (D 4294967296 x).length < 100000) (hm : m < B24) (hm0 : 0 < m) : GC Try.prog 104 [dd x, dd m] [] [dd (x % m)] [] := by
  refine GC.intro Try.func104 rfl (by show 2 ≤ 40; decide) (by first | exact Nat.le_refl _ | decide | simp) ?_
  have hmle := Nat.le_of_lt hm
  have hxx : (D 4294967296 x).length < 100000000 := by omega
  refine AW.seqR ?_
  refine AWo.pure (PureOp.assign rfl) rfl rfl ?_
  refine AWo.nil trivial ?_
  refine AW.seqR ?_
  refine AWo.makeI tbok 9000 rfl rfl rfl rfl rfl rfl (by first | decide | omega) (by first | decide | omega) rfl rfl rfl ?_
  refine AWo.buildSlice tbok 10000 [(0, vi .u64 1)] (out := [vi .u64 1]) rfl rfl (by decide) rfl rfl rfl (by decide) rfl rfl rfl rfl rfl ?_
  refine AWo.appendF tbok (cs := (List.replicate 24 0).map (vi .u64)) (news := [vi .u64 1]) (all := (List.replicate 24 0 ++ [1]).map (vi .u64)) 11000 rfl rfl rfl rfl (by simp) rfl (by simp) (by decide) rfl rfl rfl (by decide) rfl rfl rfl (by decide) (by decide) rfl (by simp) (cloM fun _ => rfl) rfl rfl ?_
  rw [b24_deep]
  refine AWo.pure (PureOp.move rfl) rfl rfl ?_
  refine AWo.callX (subd (x := B24) (y := m) (by rw [b24_len]; decide) (Nat.lt_of_le_of_lt (dlen24 hm) (by decide)) (Nat.le_of_lt hm)) bd27 [] [] rfl (.cons rfl (.cons rfl .nil)) rfl (.cons rfl rfl (.cons rfl rfl .nil)) .nil rfl .nil frN (by decide) (.cons rfl rfl .nil) rfl rfl rfl rfl ?_
  refine AWo.pure (PureOp.assign rfl) rfl rfl ?_
  refine AWo.nil trivial ?_
  refine AW.seqR ?_
  refine AWo.pure (PureOp.move rfl) rfl rfl ?_
  refine AWo.callX (v := dd x) (triml (l := D 4294967296 x) (n := (D 4294967296 x).length) (bd_D (by decide) _) rfl (by omega)) bd89 [] [] rfl (.cons rfl .nil) rfl (.cons rfl rfl .nil) .nil rfl .nil frN (by decide) (.cons rfl rfl .nil) (by rw [num_D (by decide)]; rfl) rfl rfl rfl ?_
  refine AWo.pure (PureOp.assign rfl) rfl rfl ?_
  refine AWo.nil trivial ?_
  refine AW.seq ?_
  refine AW.block ?_
  refine AW.loopw (fun mm σ => ∃ y, (y % m = x % m ∧ y ≤ x) ∧ mm = 1 * y ∧ σ = ⟨(upd (upd (upd emp 0 (dd y)) 1 (dd m)) 5 (dd (B24 - m))), emp⟩) (fm := []) ?_ ⟨x, ⟨rfl, Nat.le_refl _⟩, rfl, rfl⟩ ?_
  ·
    refine Wk.of [] ?_ ?_ ?_ (by decide) rfl
    ·
      refine WkE.upd rfl (clo_refl (by simp) rfl) ?_
      refine WkE.upd rfl (clo_refl (by simp) rfl) ?_
      refine WkE.upd rfl (clo_refl (by simp) rfl) ?_
      exact WkE.emp
    ·
      exact WkM.emp
    ·
      repeat (refine dom_upd_mem (by decide) ?_)
      exact dom_emp
  ·
    rintro mm σ ⟨y, hy, rfl, rfl⟩
    have hyl := dl_le hy.2 hx
    refine AW.seq ?_
    refine AW.seqR ?_
    refine AWo.pure (PureOp.move rfl) rfl rfl ?_
    first | refine AWo.pure (PureOp.lenS tbok rfl rfl) rfl rfl ?_ | refine AWo.pure (PureOp.lenD tbok rfl rfl) rfl rfl ?_
    first | refine AWo.pure (PureOp.gtN (b := 24) rfl rfl) rfl rfl ?_ | refine AWo.pure (PureOp.bin rfl rfl rfl) rfl rfl ?_
    refine AWo.nil trivial ?_
    refine AW.cond rfl (fun hb0 => ?_) (fun hb0 => ?_)
    ·
      have hlen : 24 < (D 4294967296 y).length := by simpa using hb0
      refine AW.skip ?_
      refine thenA_normal ?_
      refine AW.block ?_
      refine AW.seqR ?_
      refine AWo.buildSlice tbok 19000 [] (out := []) rfl rfl (by decide) rfl rfl rfl (by decide) rfl rfl rfl rfl rfl ?_
      refine AWo.pureX 20000 (n := (D 4294967296 y).length) (es := 1) (cells := (D 4294967296 y).map (vi .u64)) (PureOp.move rfl) rfl rfl rfl ?_
      refine AWo.sliceS2 tbok (l := 24) rfl (.some rfl) .none rfl rfl rfl rfl (by omega) (Nat.le_refl _) rfl rfl rfl ?_
      refine AWo.appendF tbok (cs := []) (news := ((D 4294967296 y).drop 24).map (vi .u64)) (all := ((D 4294967296 y).drop 24).map (vi .u64)) 22000 rfl rfl rfl rfl rfl (hi_take (by omega)) (by simp; omega) (by decide) rfl rfl rfl (by decide) rfl rfl rfl (by omega) (by omega) (oneM (fun _ => rfl) _) rfl (cloM fun _ => rfl) rfl rfl ?_
      rw [hi_deep (by omega)]
      refine AWo.pure (PureOp.assign rfl) rfl rfl ?_
      refine AWo.nil trivial ?_
      refine AW.seqR ?_
      refine AWo.buildSlice tbok 23000 [] (out := []) rfl rfl (by decide) rfl rfl rfl (by decide) rfl rfl rfl rfl rfl ?_
      refine AWo.pureX 24000 (n := (D 4294967296 y).length) (es := 1) (cells := (D 4294967296 y).map (vi .u64)) (PureOp.move rfl) rfl rfl rfl ?_
      refine AWo.sliceS2 tbok (h := 24) rfl .none (.some rfl) rfl rfl rfl rfl (Nat.zero_le _) (by omega) rfl rfl rfl ?_
      refine AWo.appendF tbok (cs := []) (news := ((D 4294967296 y).take 24).map (vi .u64)) (all := ((D 4294967296 y).take 24).map (vi .u64)) 26000 rfl rfl rfl rfl rfl (lo_take (by omega)) (by simp; omega) (by decide) rfl rfl rfl (by decide) rfl rfl rfl (by omega) (by omega) (oneM (fun _ => rfl) _) rfl (cloM fun _ => rfl) rfl rfl ?_
      refine AWo.callX (v := dd (y % B24)) (triml (l := (D 4294967296 y).take 24) (n := 0 + 24) (bd_tk (bd_D (by decide) _)) (by rw [List.length_take]; omega) (by decide)) bd89 [] [] rfl (.cons rfl .nil) rfl (.cons rfl rfl .nil) .nil rfl .nil frN (by decide) (.cons rfl rfl .nil) (by rw [lo_num]; rfl) rfl rfl rfl ?_
      refine AWo.pure (PureOp.assign rfl) rfl rfl ?_
      refine AWo.nil trivial ?_
      refine AW.region ?_
      refine AWo.pure (PureOp.move rfl) rfl rfl ?_
      refine AWo.pure (PureOp.move rfl) rfl rfl ?_
      refine AWo.pure (PureOp.move rfl) rfl rfl ?_
      refine AWo.callX (muld (x := y / B24) (y := B24 - m) (dl_le (Nat.le_trans (Nat.div_le_self _ _) hy.2) hxx) (dl_le (Nat.sub_le _ _) (by rw [b24_len]; decide))) bd30 [] [] rfl (.cons rfl (.cons rfl .nil)) rfl (.cons rfl rfl (.cons rfl rfl .nil)) .nil rfl .nil frN (by decide) (.cons rfl rfl .nil) rfl rfl rfl rfl ?_
      refine AWo.callX (addd (x := y % B24) (y := y / B24 * (B24 - m)) (dl_le (Nat.le_trans (Nat.mod_le _ _) hy.2) hxx) (dl_le (Nat.le_trans (Nat.le_add_left _ _) (Nat.le_trans (fold_le hmle) hy.2)) hxx)) bd25 [] [] rfl (.cons rfl (.cons rfl .nil)) rfl (.cons rfl rfl (.cons rfl rfl .nil)) .nil rfl .nil frN (by decide) (.cons rfl rfl .nil) rfl rfl rfl rfl ?_
      refine AWo.pure (PureOp.assign rfl) rfl rfl ?_
      refine AWo.nil trivial ?_
      refine inBlockA_normal ?_
      refine thenA_normal ?_
      refine ⟨1 * (y % B24 + y / B24 * (B24 - m)), [], _, by have := fold_lt hmle hm0 (d24_ge hlen); omega, ?_, _, ⟨(fold_mod hmle).trans hy.1, Nat.le_trans (fold_le hmle) hy.2⟩, rfl, rfl⟩
      refine Wk.of [] ?_ ?_ ?_ (by decide) rfl
      ·
        refine WkE.upd rfl (clo_refl (by simp) rfl) ?_
        refine WkE.upd rfl (clo_refl (by simp) rfl) ?_
        refine WkE.upd rfl (clo_refl (by simp) rfl) ?_
        exact WkE.emp
      ·
        exact WkM.emp
      ·
        repeat (refine dom_upd_mem (by decide) ?_)
        exact dom_emp
    ·
      refine AW.exit ?_
      refine thenA_exit ?_
      refine thenA_exit ?_
      refine inBlockA_hit ?_
      refine thenA_normal ?_
      refine AW.seq ?_
      refine AW.block ?_
      refine AW.loopw (fun mm σ => ∃ y, (y % m = x % m ∧ y ≤ x) ∧ mm = 1 * y ∧ σ = ⟨(upd (upd emp 0 (dd y)) 1 (dd m)), emp⟩) (fm := []) ?_ ⟨y, hy, rfl, rfl⟩ ?_
      ·
        refine Wk.of [] ?_ ?_ ?_ (by decide) rfl
        ·
          refine WkE.upd rfl (clo_refl (by simp) rfl) ?_
          refine WkE.upd rfl (clo_refl (by simp) rfl) ?_
          exact WkE.emp
        ·
          exact WkM.emp
        ·
          repeat (refine dom_upd_mem (by decide) ?_)
          exact dom_emp
      ·
        rintro mm σ ⟨y, hy, rfl, rfl⟩
        refine AW.seq ?_
        refine AW.seqR ?_
        refine AWo.pure (PureOp.move rfl) rfl rfl ?_
        refine AWo.pure (PureOp.move rfl) rfl rfl ?_
        refine AWo.callX (cmpd (x := y) (y := m) (dl_le hy.2 hxx) (dl_le (Nat.le_of_lt hm) (by rw [b24_len]; decide))) bd97 [] [] rfl (.cons rfl (.cons rfl .nil)) rfl (.cons rfl rfl (.cons rfl rfl .nil)) .nil rfl .nil frN (by decide) (.cons rfl rfl .nil) rfl rfl rfl rfl ?_
        first | refine AWo.pure (PureOp.geP rfl rfl) rfl rfl ?_ | refine AWo.pure (PureOp.geN (b := 0) rfl rfl) rfl rfl ?_ | refine AWo.pure (PureOp.bin rfl rfl rfl) rfl rfl ?_
        refine AWo.nil trivial ?_
        refine AW.cond rfl (fun hb1 => ?_) (fun hb1 => ?_)
        ·
          have hge : m ≤ y := cmp_geB hb1
          refine AW.skip ?_
          refine thenA_normal ?_
          refine AW.block ?_
          refine AW.region ?_
          refine AWo.pure (PureOp.move rfl) rfl rfl ?_
          refine AWo.pure (PureOp.move rfl) rfl rfl ?_
          refine AWo.callX (subd (x := y) (y := m) (dl_le hy.2 hxx) (dl_le (Nat.le_of_lt hm) (by rw [b24_len]; decide)) hge) bd27 [] [] rfl (.cons rfl (.cons rfl .nil)) rfl (.cons rfl rfl (.cons rfl rfl .nil)) .nil rfl .nil frN (by decide) (.cons rfl rfl .nil) rfl rfl rfl rfl ?_
          refine AWo.pure (PureOp.assign rfl) rfl rfl ?_
          refine AWo.nil trivial ?_
          refine inBlockA_normal ?_
          refine thenA_normal ?_
          refine ⟨1 * (y - m), [], _, by omega, ?_, y - m, ⟨(sub_mod hge).trans hy.1, by omega⟩, rfl, rfl⟩
          refine Wk.of [] ?_ ?_ ?_ (by decide) rfl
          ·
            refine WkE.upd rfl (clo_refl (by simp) rfl) ?_
            refine WkE.upd rfl (clo_refl (by simp) rfl) ?_
            exact WkE.emp
          ·
            exact WkM.emp
          ·
            repeat (refine dom_upd_mem (by decide) ?_)
            exact dom_emp
        ·
          have hlt : y < m := cmp_ltB hb1
          have hfin : y = x % m := by rw [← hy.1, Nat.mod_eq_of_lt hlt]
          subst hfin
          refine AW.exit ?_
          refine thenA_exit ?_
          refine thenA_exit ?_
          refine inBlockA_hit ?_
          refine thenA_normal ?_
          refine AW.seqR ?_
          refine AWo.pure (PureOp.move rfl) rfl rfl ?_
          refine AWo.pure (PureOp.assign rfl) rfl rfl ?_
          refine AWo.nil trivial ?_
          refine AW.ret ?_
          refine RetQ.gc [_] [] [.tmp 4] (.inl rfl) rfl (.tmp rfl .nil) rfl (.cons rfl rfl .nil) trivial (by decide) rfl
theorem modP_ctr {x : Nat} (hx : (D 4294967296 x).length < 100000) : GC Try.prog 46 [dd x] [] [dd (x % PG)] [] := by
  refine GC.intro Try.func46 rfl (by show 1 ≤ 6; decide) (by first | exact Nat.le_refl _ | decide | simp) ?_
  refine AW.seqR ?_
  refine AWo.pure (PureOp.assign rfl) rfl rfl ?_
  refine AWo.nil trivial ?_
  refine AW.seqR ?_
  refine AWo.pure (PureOp.move rfl) rfl rfl ?_
  refine AWo.callX (p04_ctr) bd91 [] [] rfl .nil rfl .nil .nil rfl .nil frN (by decide) (.cons rfl rfl .nil) rfl rfl rfl rfl ?_
  refine AWo.callX (fold_ctr (x := x) (m := PG) hx pg_b24 (by decide +kernel)) bd104 [] [] rfl (.cons rfl (.cons rfl .nil)) rfl (.cons rfl rfl (.cons rfl rfl .nil)) .nil rfl .nil frN (by decide) (.cons rfl rfl .nil) rfl rfl rfl rfl ?_
  refine AWo.pure (PureOp.assign rfl) rfl rfl ?_
  refine AWo.nil trivial ?_
  refine AW.ret ?_
  refine RetQ.gc [_] [] [.tmp 2] (.inl rfl) rfl (.tmp rfl .nil) rfl (.cons rfl rfl .nil) trivial (by decide) rfl
theorem modQ_ctr {x : Nat} (hx : (D 4294967296 x).length < 100000) : GC Try.prog 50 [dd x] [] [dd (x % QG)] [] := by
  refine GC.intro Try.func50 rfl (by show 1 ≤ 16; decide) (by first | exact Nat.le_refl _ | decide | simp) ?_
  refine AW.seqR ?_
  refine AWo.pure (PureOp.assign rfl) rfl rfl ?_
  refine AWo.nil trivial ?_
  refine AW.seqR ?_
  refine AWo.pure (PureOp.move rfl) rfl rfl ?_
  refine AWo.callX (p04_ctr) bd91 [] [] rfl .nil rfl .nil .nil rfl .nil frN (by decide) (.cons rfl rfl .nil) rfl rfl rfl rfl ?_
  refine AWo.buildSliceF tbok 6000 [(0, vi .u64 1)] (out := [vi .u64 1]) rfl rfl (by decide) rfl rfl rfl (by decide) rfl rfl rfl rfl (fun x hx => by simp at hx; subst hx; rfl) rfl rfl ?_
  rw [one_deep]
  refine AWo.callX (subd (x := PG) (y := 1) (by rw [pg_len]; decide) (by decide +kernel) (by decide +kernel)) bd27 [] [] rfl (.cons rfl (.cons rfl .nil)) rfl (.cons rfl rfl (.cons rfl rfl .nil)) .nil rfl .nil frN (by decide) (.cons rfl rfl .nil) rfl rfl rfl rfl ?_
  refine AWo.callX (fold_ctr (x := x) (m := PG - 1) hx pg1_b24 (by decide +kernel)) bd104 [] [] rfl (.cons rfl (.cons rfl .nil)) rfl (.cons rfl rfl (.cons rfl rfl .nil)) .nil rfl .nil frN (by decide) (.cons rfl rfl .nil) rfl rfl rfl rfl ?_
  refine AWo.pure (PureOp.assign rfl) rfl rfl ?_
  refine AWo.nil trivial ?_
  refine AW.seq ?_
  refine AW.block ?_
  refine AW.loopw (fun mm σ => ∃ y, (y < PG - 1 ∧ y % QG = x % QG) ∧ mm = 1 * y ∧ σ = ⟨(upd emp 0 (dd y)), emp⟩) (fm := []) ?_ ⟨x % (PG - 1), ⟨Nat.mod_lt _ (by decide +kernel), mod_half x⟩, rfl, rfl⟩ ?_
  ·
    refine Wk.of [] ?_ ?_ ?_ (by decide) rfl
    ·
      refine WkE.upd rfl (clo_refl (by simp) rfl) ?_
      exact WkE.emp
    ·
      exact WkM.emp
    ·
      repeat (refine dom_upd_mem (by decide) ?_)
      exact dom_emp
  ·
    rintro mm σ ⟨y, hy, rfl, rfl⟩
    refine AW.seq ?_
    refine AW.seqR ?_
    refine AWo.pure (PureOp.move rfl) rfl rfl ?_
    refine AWo.callX (q04_ctr) bd61 [] [] rfl .nil rfl .nil .nil rfl .nil frN (by decide) (.cons rfl rfl .nil) rfl rfl rfl rfl ?_
    refine AWo.callX (cmpd (x := y) (y := QG) (dl_le (Nat.le_of_lt hy.1) (by rw [pg1_len]; decide)) (by rw [qg_len]; decide)) bd97 [] [] rfl (.cons rfl (.cons rfl .nil)) rfl (.cons rfl rfl (.cons rfl rfl .nil)) .nil rfl .nil frN (by decide) (.cons rfl rfl .nil) rfl rfl rfl rfl ?_
    first | refine AWo.pure (PureOp.geP rfl rfl) rfl rfl ?_ | refine AWo.pure (PureOp.geN (b := 0) rfl rfl) rfl rfl ?_ | refine AWo.pure (PureOp.bin rfl rfl rfl) rfl rfl ?_
    refine AWo.nil trivial ?_
    refine AW.cond rfl (fun hb0 => ?_) (fun hb0 => ?_)
    ·
      have hge : QG ≤ y := cmp_geB hb0
      refine AW.skip ?_
      refine thenA_normal ?_
      refine AW.block ?_
      refine AW.region ?_
      refine AWo.pure (PureOp.move rfl) rfl rfl ?_
      refine AWo.callX (q04_ctr) bd61 [] [] rfl .nil rfl .nil .nil rfl .nil frN (by decide) (.cons rfl rfl .nil) rfl rfl rfl rfl ?_
      refine AWo.callX (subd (x := y) (y := QG) (dl_le (Nat.le_of_lt hy.1) (by rw [pg1_len]; decide)) (by rw [qg_len]; decide) hge) bd27 [] [] rfl (.cons rfl (.cons rfl .nil)) rfl (.cons rfl rfl (.cons rfl rfl .nil)) .nil rfl .nil frN (by decide) (.cons rfl rfl .nil) rfl rfl rfl rfl ?_
      refine AWo.pure (PureOp.assign rfl) rfl rfl ?_
      refine AWo.nil trivial ?_
      refine inBlockA_normal ?_
      refine thenA_normal ?_
      refine ⟨1 * (y - QG), [], _, by have := sub_lt_q hge; omega, ?_, y - QG, ⟨Nat.lt_of_le_of_lt (Nat.sub_le _ _) hy.1, (sub_mod hge).trans hy.2⟩, rfl, rfl⟩
      refine Wk.of [] ?_ ?_ ?_ (by decide) rfl
      ·
        refine WkE.upd rfl (clo_refl (by simp) rfl) ?_
        exact WkE.emp
      ·
        exact WkM.emp
      ·
        repeat (refine dom_upd_mem (by decide) ?_)
        exact dom_emp
    ·
      have hlt : y < QG := cmp_ltB hb0
      have hfin : y = x % QG := by rw [← hy.2, Nat.mod_eq_of_lt hlt]
      subst hfin
      refine AW.exit ?_
      refine thenA_exit ?_
      refine thenA_exit ?_
      refine inBlockA_hit ?_
      refine thenA_normal ?_
      refine AW.seqR ?_
      refine AWo.pure (PureOp.move rfl) rfl rfl ?_
      refine AWo.pure (PureOp.assign rfl) rfl rfl ?_
      refine AWo.nil trivial ?_
      refine AW.ret ?_
      refine RetQ.gc [_] [] [.tmp 2] (.inl rfl) rfl (.tmp rfl .nil) rfl (.cons rfl rfl .nil) trivial (by decide) rfl
theorem mod4_ctr {g : Bool} {x : Nat} (hx : (D 4294967296 x).length < 100000) : GC Try.prog 23 [.bool g, dd x] [] [dd (x % NG g)] [] := by
  cases g
  ·
    refine GC.intro Try.func23 rfl (by show 2 ≤ 10; decide) (by first | exact Nat.le_refl _ | decide | simp) ?_
    refine AW.seqR ?_
    refine AWo.pure (PureOp.assign rfl) rfl rfl ?_
    refine AWo.nil trivial ?_
    refine AW.seq ?_
    refine AW.seqR ?_
    refine AWo.pure (PureOp.move rfl) rfl rfl ?_
    refine AWo.nil trivial ?_
    refine AW.condF rfl ?_
    refine AW.skip ?_
    refine thenA_normal ?_
    refine AW.seqR ?_
    refine AWo.pure (PureOp.move rfl) rfl rfl ?_
    refine AWo.callX (modQ_ctr hx) bd50 [] [] rfl (.cons rfl .nil) rfl (.cons rfl rfl .nil) .nil rfl .nil frN (by decide) (.cons rfl rfl .nil) rfl rfl rfl rfl ?_
    refine AWo.pure (PureOp.assign rfl) rfl rfl ?_
    refine AWo.nil trivial ?_
    refine AW.ret ?_
    refine RetQ.gc [_] [] [.tmp 4] (.inl rfl) rfl (.tmp rfl .nil) rfl (.cons rfl rfl .nil) trivial (by decide) rfl
  ·
    refine GC.intro Try.func23 rfl (by show 2 ≤ 10; decide) (by first | exact Nat.le_refl _ | decide | simp) ?_
    refine AW.seqR ?_
    refine AWo.pure (PureOp.assign rfl) rfl rfl ?_
    refine AWo.nil trivial ?_
    refine AW.seq ?_
    refine AW.seqR ?_
    refine AWo.pure (PureOp.move rfl) rfl rfl ?_
    refine AWo.nil trivial ?_
    refine AW.condT rfl ?_
    refine AW.seqR ?_
    refine AWo.pure (PureOp.move rfl) rfl rfl ?_
    refine AWo.callX (modP_ctr hx) bd46 [] [] rfl (.cons rfl .nil) rfl (.cons rfl rfl .nil) .nil rfl .nil frN (by decide) (.cons rfl rfl .nil) rfl rfl rfl rfl ?_
    refine AWo.pure (PureOp.assign rfl) rfl rfl ?_
    refine AWo.nil trivial ?_
    refine AW.ret ?_
    refine thenA_ret ?_
    refine RetQ.gc [_] [] [.tmp 4] (.inl rfl) rfl (.tmp rfl .nil) rfl (.cons rfl rfl .nil) trivial (by decide) rfl
theorem size4_ctr {g : Bool} : GC Try.prog 28 [.bool g] [] [dd (NG g)] [] := by
  cases g
  ·
    refine GC.intro Try.func28 rfl (by show 1 ≤ 6; decide) (by first | exact Nat.le_refl _ | decide | simp) ?_
    refine AW.seqR ?_
    refine AWo.pure (PureOp.assign rfl) rfl rfl ?_
    refine AWo.nil trivial ?_
    refine AW.seq ?_
    refine AW.seqR ?_
    refine AWo.pure (PureOp.move rfl) rfl rfl ?_
    refine AWo.nil trivial ?_
    refine AW.condF rfl ?_
    refine AW.skip ?_
    refine thenA_normal ?_
    refine AW.seqR ?_
    refine AWo.callX (q04_ctr) bd61 [] [] rfl .nil rfl .nil .nil rfl .nil frN (by decide) (.cons rfl rfl .nil) rfl rfl rfl rfl ?_
    refine AWo.pure (PureOp.assign rfl) rfl rfl ?_
    refine AWo.nil trivial ?_
    refine AW.ret ?_
    refine RetQ.gc [_] [] [.tmp 2] (.inl rfl) rfl (.tmp rfl .nil) rfl (.cons rfl rfl .nil) trivial (by decide) rfl
  ·
    refine GC.intro Try.func28 rfl (by show 1 ≤ 6; decide) (by first | exact Nat.le_refl _ | decide | simp) ?_
    refine AW.seqR ?_
    refine AWo.pure (PureOp.assign rfl) rfl rfl ?_
    refine AWo.nil trivial ?_
    refine AW.seq ?_
    refine AW.seqR ?_
    refine AWo.pure (PureOp.move rfl) rfl rfl ?_
    refine AWo.nil trivial ?_
    refine AW.condT rfl ?_
    refine AW.seqR ?_
    refine AWo.callX (p04_ctr) bd91 [] [] rfl .nil rfl .nil .nil rfl .nil frN (by decide) (.cons rfl rfl .nil) rfl rfl rfl rfl ?_
    refine AWo.pure (PureOp.assign rfl) rfl rfl ?_
    refine AWo.nil trivial ?_
    refine AW.ret ?_
    refine thenA_ret ?_
    refine RetQ.gc [_] [] [.tmp 2] (.inl rfl) rfl (.tmp rfl .nil) rfl (.cons rfl rfl .nil) trivial (by decide) rfl
theorem ring4_ctr {g : Bool} : GC Try.prog 18 [.bool g] [] [.pointer (some ⟨0, 0, none⟩)] [⟨[.pointer (some ⟨1, 0, none⟩)], true, 1⟩, ⟨[.slice (some ⟨2, 0, none⟩) 12 0, vi .u64 (ninvR ((digs 18446744073709551616 12 (NG g)).getD 0 0)), .slice (some ⟨3, 0, none⟩) 12 0], true, 1⟩, ⟨((digs 18446744073709551616 12 (NG g))).map (vi .u64), true, 1⟩, ⟨((digs 18446744073709551616 12 (RR2 (NG g)))).map (vi .u64), true, 1⟩] := by
  cases g
  ·
    refine GC.intro Try.func18 rfl (by show 1 ≤ 6; decide) (by first | exact Nat.le_refl _ | decide | simp) ?_
    refine AW.seqR ?_
    refine AWo.pure (PureOp.assign rfl) rfl rfl ?_
    refine AWo.nil trivial ?_
    refine AW.seq ?_
    refine AW.seqR ?_
    refine AWo.pure (PureOp.move rfl) rfl rfl ?_
    refine AWo.nil trivial ?_
    refine AW.condF rfl ?_
    refine AW.skip ?_
    refine thenA_normal ?_
    refine AW.seqR ?_
    refine AWo.callX (expoW_ctr) bd39 [] [6000, 6001, 6002, 6003] rfl .nil rfl .nil .nil rfl (.new rfl (OkL.all rfl) (.new rfl (OkL.all rfl) (.new (flat_map_ren (flatM flat_vi)) (OkL.flat (flatM flat_vi)) (.new (flat_map_ren (flatM flat_vi)) (OkL.flat (flatM flat_vi)) .nil)))) (frC rfl (frC rfl (frC rfl (frC rfl frN)))) (by decide) (.cons rfl rfl .nil) rfl rfl rfl rfl ?_
    refine AWo.pure (PureOp.assign rfl) rfl rfl ?_
    refine AWo.nil trivial ?_
    refine AW.ret ?_
    refine RetQ.gc [_] [6000, 6001, 6002, 6003] [.tmp 2] (.inl rfl) rfl (.tmp rfl .nil) rfl (.cons rfl rfl .nil) (OutL.whole rfl rfl (OkL.all rfl) (fun _ => rfl) (OutL.whole rfl rfl (OkL.all rfl) (fun _ => rfl) (OutL.flat rfl (flatM flat_vi) (fun _ => rfl) (OutL.flat rfl (flatM flat_vi) (fun _ => rfl) trivial)))) (by decide) rfl
  ·
    refine GC.intro Try.func18 rfl (by show 1 ≤ 6; decide) (by first | exact Nat.le_refl _ | decide | simp) ?_
    refine AW.seqR ?_
    refine AWo.pure (PureOp.assign rfl) rfl rfl ?_
    refine AWo.nil trivial ?_
    refine AW.seq ?_
    refine AW.seqR ?_
    refine AWo.pure (PureOp.move rfl) rfl rfl ?_
    refine AWo.nil trivial ?_
    refine AW.condT rfl ?_
    refine AW.seqR ?_
    refine AWo.callX (groupW_ctr) bd38 [] [5000, 5001, 5002, 5003] rfl .nil rfl .nil .nil rfl (.new rfl (OkL.all rfl) (.new rfl (OkL.all rfl) (.new (flat_map_ren (flatM flat_vi)) (OkL.flat (flatM flat_vi)) (.new (flat_map_ren (flatM flat_vi)) (OkL.flat (flatM flat_vi)) .nil)))) (frC rfl (frC rfl (frC rfl (frC rfl frN)))) (by decide) (.cons rfl rfl .nil) rfl rfl rfl rfl ?_
    refine AWo.pure (PureOp.assign rfl) rfl rfl ?_
    refine AWo.nil trivial ?_
    refine AW.ret ?_
    refine thenA_ret ?_
    refine RetQ.gc [_] [5000, 5001, 5002, 5003] [.tmp 2] (.inl rfl) rfl (.tmp rfl .nil) rfl (.cons rfl rfl .nil) (OutL.whole rfl rfl (OkL.all rfl) (fun _ => rfl) (OutL.whole rfl rfl (OkL.all rfl) (fun _ => rfl) (OutL.flat rfl (flatM flat_vi) (fun _ => rfl) (OutL.flat rfl (flatM flat_vi) (fun _ => rfl) trivial)))) (by decide) rfl
theorem digN_ctr {a : Nat} (ha : a < 18446744073709551616 ^ 12) : GC Try.prog 22 [.agg ((digs 18446744073709551616 12 a).map (vi .u64)).toArray] [] [.slice (some ⟨0, 0, none⟩) (D 4294967296 a).length 0] [⟨(D 4294967296 a).map (vi .u64), true, 1⟩] := by
  refine GC.intro Try.func22 rfl (by show 1 ≤ 5; decide) (by first | exact Nat.le_refl _ | decide | simp) ?_
  refine AW.seqR ?_
  refine AWo.box 2000 1 _ rfl rfl rfl rfl rfl ?_
  refine AWo.pure (PureOp.assign rfl) rfl rfl ?_
  refine AWo.nil trivial ?_
  refine AW.seqR ?_
  refine AWo.sliceA tbok (h := 12) rfl .none .none rfl rfl rfl rfl (by decide) (by decide) (.inl rfl) (by show 12 ≤ ((digs 18446744073709551616 12 (a)).map (vi .u64)).length; rw [List.length_map, digs_len]; decide) rfl rfl rfl ?_
  refine AWo.callX (digits_ctrV (a := digs 18446744073709551616 12 a) (digs_len _ _) (num_digs_lt ha) (digs_bd (by decide) _ _) (by rw [digs_len]; decide)) bd86 [(2000, 0)] [5000] rfl (.cons rfl .nil) rfl (.cons rfl rfl .nil) (.flat rfl (by first | exact flatM flat_vi | exact flatM flat_bool | (simp [flatV, flat_vi]; done)) (by intro h; first | exact h | rfl) .nil) rfl (.keep rfl (.new (flat_map_ren (by first | exact flatM flat_vi | exact flatM flat_bool | (simp [flatV, flat_vi]; done))) (OkL.flat (by first | exact flatM flat_vi | exact flatM flat_bool | (simp [flatV, flat_vi]; done))) .nil)) (frC rfl frN) (by decide) (.cons rfl rfl .nil) rfl rfl rfl rfl ?_
  refine AWo.pure (PureOp.assign rfl) rfl rfl ?_
  refine AWo.nil trivial ?_
  refine AW.ret ?_
  refine RetQ.gc [_] [5000] [.tmp 2] (.inl rfl) rfl (.tmp rfl .nil) rfl (.cons rfl rfl .nil) (OutL.flat rfl (by first | exact flatM flat_vi | exact flatM flat_bool | (simp [flatV, flat_vi]; done)) (by intro h; first | rfl | exact h.elim id fun h => absurd h.1 (by simp)) trivial) (by decide) rfl
theorem digits4_ctr {a : Nat} (ha : a < 18446744073709551616 ^ 12) : GC Try.prog 22 [.agg ((digs 18446744073709551616 12 a).map (vi .u64)).toArray] [] [dd a] [] := GC.deepen (digN_ctr ha) (.pure (cloA flat_vi) .nil) (.new (Nat.le_refl _) rfl (by simp) (cloM fun _ => rfl) .nil)
theorem of4_ctr {x : Nat} (hx : x < 18446744073709551616 ^ 12) : GC Try.prog 20 [dd x] [] [.agg ((digs 18446744073709551616 12 x).map (vi .u64)).toArray] [] := by
  refine GC.intro Try.func20 rfl (by show 1 ≤ 7; decide) (by first | exact Nat.le_refl _ | decide | simp) ?_
  refine AW.expose 0 88000 ?_
  refine AW.seqR ?_
  refine AWo.alloc tbok 3000 1 ((List.replicate 12 0).map (vi .u64)) rfl rfl rfl rfl rfl rfl ?_
  refine AWo.nil trivial ?_
  refine AW.seqR ?_
  refine AWo.pure (PureOp.move rfl) rfl rfl ?_
  refine AWo.callX (wordsD_ctr (x := x) (n := 12) (by decide)) bd83 [(88000, 0)] [5000] rfl (.cons rfl (.cons rfl .nil)) rfl (.cons rfl rfl (.cons rfl rfl .nil)) (.flat rfl (by first | exact flatM flat_vi | exact flatM flat_bool | (simp [flatV, flat_vi]; done)) (by intro h; first | exact h | rfl) .nil) rfl (.keep rfl (.new (flat_map_ren (by first | exact flatM flat_vi | exact flatM flat_bool | (simp [flatV, flat_vi]; done))) (OkL.flat (by first | exact flatM flat_vi | exact flatM flat_bool | (simp [flatV, flat_vi]; done))) .nil)) (frC rfl frN) (by decide) (.cons rfl rfl .nil) rfl rfl rfl rfl ?_
  refine AWo.pure (PureOp.toArrT tbok rfl rfl (by decide) (by decide)) rfl rfl ?_
  refine AWo.loadAgg tbok (vs := (digs 18446744073709551616 12 x).map (vi .u64)) rfl rfl rfl rfl (by show 0 + 12 ≤ _; simp [digs_len]) (ld12 (digs_len _ _)) rfl rfl ?_
  refine AWo.storeAllN tbok rfl rfl rfl rfl (by rw [List.length_map, digs_len]) (by first | rfl | (simp [digs_len]; done)) (oneM (fun _ => rfl) _) rfl ?_
  refine AWo.nil trivial ?_
  refine AW.ret ?_
  refine RetQ.gc [_] [] [.cell 2 24] (.inl rfl) rfl (.val (RVal.cellAll tbok rfl rfl rfl rfl (by first | (simp [*]; done) | rfl)) .nil) rfl (.pure (by first | rfl | exact pure_aggM flat_vi | exact pure_aggM flat_bool) .nil) trivial (by decide) rfl
theorem rb96_ctr {x : Nat} (hx : x < 18446744073709551616 ^ 12) : GC Try.prog 99 [.slice (some ⟨0, 0, none⟩) 12 0] [⟨(digs 18446744073709551616 12 x).map (vi .u64), false, 1⟩] [.slice (some ⟨1, 0, none⟩) 96 0] [⟨(digs 18446744073709551616 12 x).map (vi .u64), false, 1⟩, ⟨(digs 256 96 x).map (vi .u8), true, 1⟩] := by
  have h := rbytes_ctr (a := digs 18446744073709551616 12 x) (digs_bd (by decide) _ _) (by rw [digs_len]; decide)
  simp only [digs_len, num_digs_lt hx] at h
  exact h
theorem bytes4_ctr {x : Nat} (hx : x < 18446744073709551616 ^ 12) : GC Try.prog 36 [dd x] [] [.slice (some ⟨0, 0, none⟩) 96 0] [⟨(digs 256 96 x).map (vi .u8), true, 1⟩] := by
  refine GC.intro Try.func36 rfl (by show 1 ≤ 6; decide) (by first | exact Nat.le_refl _ | decide | simp) ?_
  refine AW.expose 0 88000 ?_
  refine AW.seqR ?_
  refine AWo.pure (PureOp.assign rfl) rfl rfl ?_
  refine AWo.nil trivial ?_
  refine AW.seqR ?_
  refine AWo.pure (PureOp.move rfl) rfl rfl ?_
  refine AWo.callX (wordsD_ctr (x := x) (n := 12) (by decide)) bd83 [(88000, 0)] [5000] rfl (.cons rfl (.cons rfl .nil)) rfl (.cons rfl rfl (.cons rfl rfl .nil)) (.flat rfl (by first | exact flatM flat_vi | exact flatM flat_bool | (simp [flatV, flat_vi]; done)) (by intro h; first | exact h | rfl) .nil) rfl (.keep rfl (.new (flat_map_ren (by first | exact flatM flat_vi | exact flatM flat_bool | (simp [flatV, flat_vi]; done))) (OkL.flat (by first | exact flatM flat_vi | exact flatM flat_bool | (simp [flatV, flat_vi]; done))) .nil)) (frC rfl frN) (by decide) (.cons rfl rfl .nil) rfl rfl rfl rfl ?_
  refine AWo.callX (rb96_ctr hx) bd99 [(5000, 0)] [6000] rfl (.cons rfl .nil) rfl (.cons rfl rfl .nil) (.flat rfl (by first | exact flatM flat_vi | exact flatM flat_bool | (simp [flatV, flat_vi]; done)) (by intro h; first | exact h | rfl) .nil) rfl (.keep rfl (.new (flat_map_ren (by first | exact flatM flat_vi | exact flatM flat_bool | (simp [flatV, flat_vi]; done))) (OkL.flat (by first | exact flatM flat_vi | exact flatM flat_bool | (simp [flatV, flat_vi]; done))) .nil)) (frC rfl frN) (by decide) (.cons rfl rfl .nil) rfl rfl rfl rfl ?_
  refine AWo.pure (PureOp.assign rfl) rfl rfl ?_
  refine AWo.nil trivial ?_
  refine AW.ret ?_
  refine RetQ.gc [_] [6000] [.tmp 2] (.inl rfl) rfl (.tmp rfl .nil) rfl (.cons rfl rfl .nil) (OutL.flat rfl (by first | exact flatM flat_vi | exact flatM flat_bool | (simp [flatV, flat_vi]; done)) (by intro h; first | rfl | exact h.elim id fun h => absurd h.1 (by simp)) trivial) (by decide) rfl
end Go.Proofs.Ytpahdiljpnfkdaa
namespace Go.Proofs.Ytpahdiljpnfkdaa
open Go Sim
theorem rn_g (g : Bool) : RN (NG g) := by cases g; exact rn_q; exact rn_p
theorem deep_dd0 : deep 0 1 [] = dd 0 := rfl
def rdW (N : Nat) (b : List Nat) : Nat := if b.length = 96 ∧ num 256 b < N then num 256 b else 0
def rcW (N : Nat) (b : List Nat) : Int := if b.length = 96 then if num 256 b < N then 0 else 4 else 1
theorem rd_lt {N : Nat} {b : List Nat} (h : RN N) : rdW N b < 18446744073709551616 ^ 12 := by
  unfold rdW; split
  · rename_i hc; exact Nat.lt_trans hc.2 h.lt
  · exact Nat.pow_pos (by decide)
theorem rc_ok {N : Nat} {b : List Nat} (h : rcW N b = 0) : b.length = 96 ∧ num 256 b < N := by
  unfold rcW at h; split at h
  · split at h
    · exact ⟨by assumption, by assumption⟩
    · cases h
  · cases h
theorem rd_bytes {N : Nat} {b : List Nat} (hb : bd 256 b) (h : b.length = 96 ∧ num 256 b < N) : Sim.bstr b = Sim.bstr (digs 256 96 (rdW N b)) := by
  rw [rdW, if_pos h, ← h.1, digs_num hb]
theorem mod_lt12 {N : Nat} (h : RN N) (x : Nat) : x % N < 18446744073709551616 ^ 12 := Nat.lt_trans (Nat.mod_lt _ (rn_pos h)) h.lt
theorem num_rm {x : Nat} (h : x < 18446744073709551616 ^ 12) : (D 4294967296 x).length < 100000 := Nat.lt_of_le_of_lt (dlen24 (b24_w ▸ h)) (by decide)
theorem mod_rm (g : Bool) (x : Nat) : (D 4294967296 (x % NG g)).length < 100000000 := Nat.lt_trans (num_rm (mod_lt12 (rn_g g) x)) (by decide)
theorem ng_rm (g : Bool) : (D 4294967296 (NG g)).length < 100000000 := Nat.lt_trans (num_rm (rn_g g).lt) (by decide)
theorem two_rm {x y : Nat} (hx : x < 18446744073709551616 ^ 12) (hy : y < 18446744073709551616 ^ 12) : (D 4294967296 (x + y)).length < 100000 := by
  refine Nat.lt_of_le_of_lt ((D_len_le (by decide) _ 25).2 ?_) (show 25 < 100000 by decide)
  have h1 : 18446744073709551616 ^ 12 + 18446744073709551616 ^ 12 ≤ 4294967296 ^ 25 := by decide +kernel
  generalize 18446744073709551616 ^ 12 = q at *
  generalize 4294967296 ^ 25 = r at *
  omega
theorem mul_rm {x y : Nat} (hx : x < 18446744073709551616 ^ 12) (hy : y < 18446744073709551616 ^ 12) : (D 4294967296 (x * y)).length < 100000 := by
  refine Nat.lt_of_le_of_lt ((D_len_le (by decide) _ 48).2 ?_) (show 48 < 100000 by decide)
  exact Nat.lt_of_lt_of_le (Nat.mul_lt_mul'' hx hy) (by decide +kernel)
theorem bytes_rm {b : List Nat} (hb : bd 256 b) (h : b.length = 96) : (D 4294967296 (num 256 b)).length < 100000000 := Nat.lt_trans (bytes_room hb (by omega)) (by decide)
theorem bytes_rm2 {b : List Nat} (hb : bd 256 b) (h : b.length ≤ 300) : (D 4294967296 (num 256 b)).length < 100000 := by
  refine Nat.lt_of_le_of_lt ((D_len_le (by decide) _ 75).2 ?_) (show 75 < 100000 by decide)
  exact Nat.lt_of_lt_of_le (num_lt hb) (Nat.le_trans (Nat.pow_le_pow_right (by decide) h) (by decide +kernel))
theorem sub_eq {N x y : Nat} (h : RN N) : (x % N + (N - y % N)) % N = (x % N + N - y % N) % N := by
  have := Nat.mod_lt y (rn_pos h)
  rw [Nat.add_sub_assoc (Nat.le_of_lt this)]
theorem sub_ok {N x y : Nat} (h : RN N) : y % N ≤ x % N + N := by
  have := Nat.mod_lt y (rn_pos h); omega
theorem two_q : 2 ^ QG % PG = 1 := by
  rw [← powm_eq PG 800 2 QG (by decide +kernel)]; decide +kernel
theorem readW_ctr {N : Nat} {b : List Nat} (hN : RN N) (hb : bd 256 b) : GC Try.prog 33 [.pointer (some ⟨0, 0, none⟩), .slice (some ⟨4, 0, none⟩) b.length 0] [⟨[.pointer (some ⟨1, 0, none⟩)], false, 1⟩, ⟨[.slice (some ⟨2, 0, none⟩) 12 0, vi .u64 (ninvR ((digs 18446744073709551616 12 N).getD 0 0)), .slice (some ⟨3, 0, none⟩) 12 0], false, 1⟩, ⟨((digs 18446744073709551616 12 N)).map (vi .u64), false, 1⟩, ⟨((digs 18446744073709551616 12 (RR2 N))).map (vi .u64), false, 1⟩, ⟨b.map (vi .u8), false, 1⟩] [.agg ((digs 18446744073709551616 12 (rdW N b)).map (vi .u64)).toArray, .int .i64 (rcW N b)] [⟨[.pointer (some ⟨1, 0, none⟩)], false, 1⟩, ⟨[.slice (some ⟨2, 0, none⟩) 12 0, vi .u64 (ninvR ((digs 18446744073709551616 12 N).getD 0 0)), .slice (some ⟨3, 0, none⟩) 12 0], false, 1⟩, ⟨((digs 18446744073709551616 12 N)).map (vi .u64), false, 1⟩, ⟨((digs 18446744073709551616 12 (RR2 N))).map (vi .u64), false, 1⟩, ⟨b.map (vi .u8), false, 1⟩] := by
  unfold rdW rcW
  by_cases hl : b.length = 96
  · by_cases hc : num 256 b < N
    · rw [if_pos ⟨hl, hc⟩, if_pos hl, if_pos hc]; exact readO_ctr hN hb hl hc
    · rw [if_neg (fun h => hc h.2), if_pos hl, if_neg hc]; exact readC_ctr hN hb hl (Nat.le_of_not_lt hc)
  · rw [if_neg (fun h => hl h.1), if_neg hl]; exact readA_ctr hN hb hl
theorem speaks4_ctr : GC Try.prog 17 [] [] [.bool true] [] := by
  refine GC.intro Try.func17 rfl (by show 0 ≤ 28; decide) (by first | exact Nat.le_refl _ | decide | simp) ?_
  refine AW.seqR ?_
  refine AWo.pure (PureOp.assign rfl) rfl rfl ?_
  refine AWo.nil trivial ?_
  refine AW.seqR ?_
  refine AWo.callX (groupW_ctr) bd38 [] [4000, 4001, 4002, 4003] rfl .nil rfl .nil .nil rfl (.new rfl (OkL.all rfl) (.new rfl (OkL.all rfl) (.new (flat_map_ren (flatM flat_vi)) (OkL.flat (flatM flat_vi)) (.new (flat_map_ren (flatM flat_vi)) (OkL.flat (flatM flat_vi)) .nil)))) (frC rfl (frC rfl (frC rfl (frC rfl frN)))) (by decide) (.cons rfl rfl .nil) rfl rfl rfl rfl ?_
  refine AWo.callX (expoW_ctr) bd39 [] [5000, 5001, 5002, 5003] rfl .nil rfl .nil .nil rfl (.new rfl (OkL.all rfl) (.new rfl (OkL.all rfl) (.new (flat_map_ren (flatM flat_vi)) (OkL.flat (flatM flat_vi)) (.new (flat_map_ren (flatM flat_vi)) (OkL.flat (flatM flat_vi)) .nil)))) (frC rfl (frC rfl (frC rfl (frC rfl frN)))) (by decide) (.cons rfl rfl .nil) rfl rfl rfl rfl ?_
  refine AWo.pure (PureOp.assign rfl) rfl rfl ?_
  refine AWo.pure (PureOp.assign rfl) rfl rfl ?_
  refine AWo.nil trivial ?_
  refine AW.seqR ?_
  refine AWo.pure (PureOp.move rfl) rfl rfl ?_
  first | refine AWo.pure ((PureOp.ptrNeNil Try.underlying26 rfl).mono (v' := .bool true) (congrArg Value.bool (by rfl))) rfl rfl ?_ | refine AWo.pure ((PureOp.nilNeNil Try.underlying26 rfl rfl).mono (v' := .bool true) (congrArg Value.bool (by rfl))) rfl rfl ?_
  refine AWo.pure (PureOp.move rfl) rfl rfl ?_
  refine AWo.pure (PureOp.move rfl) rfl rfl ?_
  first | refine AWo.pure ((PureOp.ptrNeNil Try.underlying26 rfl).mono (v' := .bool true) (congrArg Value.bool (by rfl))) rfl rfl ?_ | refine AWo.pure ((PureOp.nilNeNil Try.underlying26 rfl rfl).mono (v' := .bool true) (congrArg Value.bool (by rfl))) rfl rfl ?_
  refine AWo.pure (PureOp.pickT rfl rfl) rfl rfl ?_
  refine AWo.pure (PureOp.move rfl) rfl rfl ?_
  refine AWo.pure (PureOp.move rfl) rfl rfl ?_
  refine AWo.pure ((PureOp.buildArr tbok [(0, .int .u64 2)] rfl rfl rfl (by decide) rfl rfl).mono (v' := .agg ((digs 18446744073709551616 12 2).map (vi .u64)).toArray) (by kernel_rfl)) rfl rfl ?_
  refine AWo.pure (PureOp.move rfl) rfl rfl ?_
  refine AWo.callX (sizeW_ctr rn_q) bd31 [(5000, 0), (5001, 0), (5002, 0), (5003, 0)] [] rfl (.cons rfl .nil) rfl (.cons rfl rfl .nil) (.whole rfl rfl (OkL.all rfl) (by intro h; first | exact h | rfl) (.whole rfl rfl (OkL.all rfl) (by intro h; first | exact h | rfl) (.flat rfl (flatM flat_vi) (by intro h; first | exact h | rfl) (.flat rfl (flatM flat_vi) (by intro h; first | exact h | rfl) .nil)))) rfl (.keep rfl (.keep rfl (.keep rfl (.keep rfl .nil)))) frN (by decide) (.pure (by first | rfl | exact pure_aggM flat_vi | exact pure_aggM flat_bool) .nil) rfl rfl rfl rfl ?_
  refine AWo.callX (expW_ctr (N := PG) (a := 2) (b := QG) rn_p (by decide +kernel) rn_q.lt) bd19 [(4000, 0), (4001, 0), (4002, 0), (4003, 0)] [] rfl (.cons rfl (.cons rfl (.cons rfl .nil))) rfl (.cons rfl rfl (.pure (by first | rfl | exact pure_aggM flat_vi | exact pure_aggM flat_bool) (.pure (by first | rfl | exact pure_aggM flat_vi | exact pure_aggM flat_bool) .nil))) (.whole rfl rfl (OkL.all rfl) (by intro h; first | exact h | rfl) (.whole rfl rfl (OkL.all rfl) (by intro h; first | exact h | rfl) (.flat rfl (flatM flat_vi) (by intro h; first | exact h | rfl) (.flat rfl (flatM flat_vi) (by intro h; first | exact h | rfl) .nil)))) rfl (.keep rfl (.keep rfl (.keep rfl (.keep rfl .nil)))) frN (by decide) (.pure (by first | rfl | exact pure_aggM flat_vi | exact pure_aggM flat_bool) .nil) rfl rfl rfl rfl ?_
  refine AWo.pure ((PureOp.buildArr tbok [(0, .int .u64 1)] rfl rfl rfl (by decide) rfl rfl).mono (v' := .agg ((digs 18446744073709551616 12 1).map (vi .u64)).toArray) (by kernel_rfl)) rfl rfl ?_
  refine yP ((PureOp.eqArr rfl rfl Try.eqGuardType24 Try.underlying24 Try.underlying22 (tbok.sz 22 _ rfl) (by kernel_rfl) (digs_len _ _) (digs_len _ _)).mono (v' := .bool true) (congrArg Value.bool (decide_eq_true (congrArg (digs 18446744073709551616 12) (two_q))))) ?_
  refine AWo.pure (PureOp.pickT rfl rfl) rfl rfl ?_
  refine AWo.pure (PureOp.move rfl) rfl rfl ?_
  refine AWo.pure (PureOp.move rfl) rfl rfl ?_
  refine AWo.pure ((PureOp.buildArr tbok [(0, .int .u64 2)] rfl rfl rfl (by decide) rfl rfl).mono (v' := .agg ((digs 18446744073709551616 12 2).map (vi .u64)).toArray) (by kernel_rfl)) rfl rfl ?_
  refine AWo.pure ((PureOp.buildArr tbok [(0, .int .u64 3)] rfl rfl rfl (by decide) rfl rfl).mono (v' := .agg ((digs 18446744073709551616 12 3).map (vi .u64)).toArray) (by kernel_rfl)) rfl rfl ?_
  refine AWo.callX (addW_ctr (N := PG) (a := 2) (b := 3) rn_p (by decide +kernel) (by decide +kernel)) bd24 [(4000, 0), (4001, 0), (4002, 0), (4003, 0)] [] rfl (.cons rfl (.cons rfl (.cons rfl .nil))) rfl (.cons rfl rfl (.pure (by first | rfl | exact pure_aggM flat_vi | exact pure_aggM flat_bool) (.pure (by first | rfl | exact pure_aggM flat_vi | exact pure_aggM flat_bool) .nil))) (.whole rfl rfl (OkL.all rfl) (by intro h; first | exact h | rfl) (.whole rfl rfl (OkL.all rfl) (by intro h; first | exact h | rfl) (.flat rfl (flatM flat_vi) (by intro h; first | exact h | rfl) (.flat rfl (flatM flat_vi) (by intro h; first | exact h | rfl) .nil)))) rfl (.keep rfl (.keep rfl (.keep rfl (.keep rfl .nil)))) frN (by decide) (.pure (by first | rfl | exact pure_aggM flat_vi | exact pure_aggM flat_bool) .nil) rfl rfl rfl rfl ?_
  refine AWo.pure ((PureOp.buildArr tbok [(0, .int .u64 5)] rfl rfl rfl (by decide) rfl rfl).mono (v' := .agg ((digs 18446744073709551616 12 5).map (vi .u64)).toArray) (by kernel_rfl)) rfl rfl ?_
  refine yP ((PureOp.eqArr rfl rfl Try.eqGuardType24 Try.underlying24 Try.underlying22 (tbok.sz 22 _ rfl) (by kernel_rfl) (digs_len _ _) (digs_len _ _)).mono (v' := .bool true) (congrArg Value.bool (decide_eq_true (congrArg (digs 18446744073709551616 12) (by decide +kernel))))) ?_
  refine AWo.pure (PureOp.pickT rfl rfl) rfl rfl ?_
  refine AWo.pure (PureOp.assign rfl) rfl rfl ?_
  refine AWo.nil trivial ?_
  refine AW.ret ?_
  refine RetQ.gc [_] [] [.tmp 0] (.inl rfl) rfl (.tmp rfl .nil) rfl (.cons rfl rfl .nil) trivial (by decide) rfl
theorem rdA_ctr {g : Bool} {b : List Nat} (hl : b.length ≠ 96) : GC Try.prog 34 [.bool g, .slice (some ⟨0, 0, none⟩) b.length 0] [⟨b.map (vi .u8), false, 1⟩] [dd 0, .int .i64 1] [⟨b.map (vi .u8), false, 1⟩] := by
  refine GC.intro Try.func34 rfl (by show 2 ≤ 18; decide) (by first | exact Nat.le_refl _ | decide | simp) ?_
  refine AW.seqR ?_
  refine yP (PureOp.nilDeep 1) ?_
  rw [deep_dd0]
  refine AWo.pure (PureOp.assign rfl) rfl rfl ?_
  refine AWo.nil trivial ?_
  refine AW.seq ?_
  refine AW.seqR ?_
  refine AWo.pure (PureOp.move rfl) rfl rfl ?_
  first | refine AWo.pure (PureOp.lenS tbok rfl rfl) rfl rfl ?_ | refine AWo.pure (PureOp.lenD tbok rfl rfl) rfl rfl ?_
  first | refine AWo.pure (PureOp.neN (b := 96) rfl rfl) rfl rfl ?_ | refine AWo.pure (PureOp.bin rfl rfl rfl) rfl rfl ?_
  refine AWo.nil trivial ?_
  refine AW.cond rfl (fun hb0 => ?_) (fun hb0 => ?_)
  ·
    refine AW.seqR ?_
    refine yP (PureOp.nilDeep 1) ?_
    rw [deep_dd0]
    refine AWo.pure (PureOp.assign rfl) rfl rfl ?_
    refine AWo.nil trivial ?_
    refine AW.ret ?_
    refine thenA_ret ?_
    refine RetQ.gc [_, _] [] [.tmp 4, .tmp 5] (.inl rfl) rfl (.tmp rfl (.tmp rfl .nil)) rfl (.cons rfl rfl (.cons rfl rfl .nil)) (OutL.flat rfl (by first | exact flatM flat_vi | exact flatM flat_bool | (simp [flatV, flat_vi]; done)) (by intro h; first | rfl | exact h.elim id fun h => absurd h.1 (by simp)) trivial) (by decide) rfl
  ·
    exfalso
    simp at hb0; omega
theorem rdC_ctr {g : Bool} {b : List Nat} (hb : bd 256 b) (hl : b.length = 96) (hc : NG g ≤ num 256 b) : GC Try.prog 34 [.bool g, .slice (some ⟨0, 0, none⟩) b.length 0] [⟨b.map (vi .u8), false, 1⟩] [dd 0, .int .i64 4] [⟨b.map (vi .u8), false, 1⟩] := by
  refine GC.intro Try.func34 rfl (by show 2 ≤ 18; decide) (by first | exact Nat.le_refl _ | decide | simp) ?_
  refine AW.seqR ?_
  refine yP (PureOp.nilDeep 1) ?_
  rw [deep_dd0]
  refine AWo.pure (PureOp.assign rfl) rfl rfl ?_
  refine AWo.nil trivial ?_
  refine AW.seq ?_
  refine AW.seqR ?_
  refine AWo.pure (PureOp.move rfl) rfl rfl ?_
  first | refine AWo.pure (PureOp.lenS tbok rfl rfl) rfl rfl ?_ | refine AWo.pure (PureOp.lenD tbok rfl rfl) rfl rfl ?_
  first | refine AWo.pure (PureOp.neN (b := 96) rfl rfl) rfl rfl ?_ | refine AWo.pure (PureOp.bin rfl rfl rfl) rfl rfl ?_
  refine AWo.nil trivial ?_
  refine AW.cond rfl (fun hb0 => ?_) (fun hb0 => ?_)
  ·
    exfalso
    simp at hb0; omega
  ·
    refine AW.skip ?_
    refine thenA_normal ?_
    refine AW.seqR ?_
    refine AWo.pure (PureOp.move rfl) rfl rfl ?_
    refine AWo.callX (ofbN hb (by omega)) bd37 [(0, 0)] [] rfl (.cons rfl .nil) rfl (.cons rfl rfl .nil) (.flat rfl (by first | exact flatM flat_vi | exact flatM flat_bool | (simp [flatV, flat_vi]; done)) (by intro h; first | exact h | rfl) .nil) rfl (.keep rfl .nil) frN (by decide) (.cons rfl rfl .nil) rfl rfl rfl rfl ?_
    refine AWo.pure (PureOp.assign rfl) rfl rfl ?_
    refine AWo.nil trivial ?_
    refine AW.seq ?_
    refine AW.seqR ?_
    refine AWo.pure (PureOp.move rfl) rfl rfl ?_
    refine AWo.pure (PureOp.move rfl) rfl rfl ?_
    refine AWo.callX (size4_ctr (g := g)) bd28 [] [] rfl (.cons rfl .nil) rfl (.cons rfl rfl .nil) .nil rfl .nil frN (by decide) (.cons rfl rfl .nil) rfl rfl rfl rfl ?_
    refine AWo.callX (cmpd (x := num 256 b) (y := NG g) (bytes_rm hb hl) (ng_rm g)) bd97 [] [] rfl (.cons rfl (.cons rfl .nil)) rfl (.cons rfl rfl (.cons rfl rfl .nil)) .nil rfl .nil frN (by decide) (.cons rfl rfl .nil) rfl rfl rfl rfl ?_
    first | refine AWo.pure ((PureOp.geP rfl rfl).mono (v' := .bool true) (congrArg Value.bool (cmp_ge hc))) rfl rfl ?_ | refine AWo.pure ((PureOp.geN (b := 0) rfl rfl).mono (v' := .bool true) (congrArg Value.bool (cmp_ge hc))) rfl rfl ?_ | refine AWo.pure ((PureOp.bin rfl rfl rfl).mono (v' := .bool true) (congrArg Value.bool (cmp_ge hc))) rfl rfl ?_
    refine AWo.nil trivial ?_
    refine AW.condT rfl ?_
    refine AW.seqR ?_
    refine yP (PureOp.nilDeep 1) ?_
    rw [deep_dd0]
    refine AWo.pure (PureOp.assign rfl) rfl rfl ?_
    refine AWo.nil trivial ?_
    refine AW.ret ?_
    refine thenA_ret ?_
    refine RetQ.gc [_, _] [] [.tmp 4, .tmp 5] (.inl rfl) rfl (.tmp rfl (.tmp rfl .nil)) rfl (.cons rfl rfl (.cons rfl rfl .nil)) (OutL.flat rfl (by first | exact flatM flat_vi | exact flatM flat_bool | (simp [flatV, flat_vi]; done)) (by intro h; first | rfl | exact h.elim id fun h => absurd h.1 (by simp)) trivial) (by decide) rfl
theorem rdO_ctr {g : Bool} {b : List Nat} (hb : bd 256 b) (hl : b.length = 96) (hc : num 256 b < NG g) : GC Try.prog 34 [.bool g, .slice (some ⟨0, 0, none⟩) b.length 0] [⟨b.map (vi .u8), false, 1⟩] [dd (num 256 b), .int .i64 0] [⟨b.map (vi .u8), false, 1⟩] := by
  refine GC.intro Try.func34 rfl (by show 2 ≤ 18; decide) (by first | exact Nat.le_refl _ | decide | simp) ?_
  refine AW.seqR ?_
  refine yP (PureOp.nilDeep 1) ?_
  rw [deep_dd0]
  refine AWo.pure (PureOp.assign rfl) rfl rfl ?_
  refine AWo.nil trivial ?_
  refine AW.seq ?_
  refine AW.seqR ?_
  refine AWo.pure (PureOp.move rfl) rfl rfl ?_
  first | refine AWo.pure (PureOp.lenS tbok rfl rfl) rfl rfl ?_ | refine AWo.pure (PureOp.lenD tbok rfl rfl) rfl rfl ?_
  first | refine AWo.pure (PureOp.neN (b := 96) rfl rfl) rfl rfl ?_ | refine AWo.pure (PureOp.bin rfl rfl rfl) rfl rfl ?_
  refine AWo.nil trivial ?_
  refine AW.cond rfl (fun hb0 => ?_) (fun hb0 => ?_)
  ·
    exfalso
    simp at hb0; omega
  ·
    refine AW.skip ?_
    refine thenA_normal ?_
    refine AW.seqR ?_
    refine AWo.pure (PureOp.move rfl) rfl rfl ?_
    refine AWo.callX (ofbN hb (by omega)) bd37 [(0, 0)] [] rfl (.cons rfl .nil) rfl (.cons rfl rfl .nil) (.flat rfl (by first | exact flatM flat_vi | exact flatM flat_bool | (simp [flatV, flat_vi]; done)) (by intro h; first | exact h | rfl) .nil) rfl (.keep rfl .nil) frN (by decide) (.cons rfl rfl .nil) rfl rfl rfl rfl ?_
    refine AWo.pure (PureOp.assign rfl) rfl rfl ?_
    refine AWo.nil trivial ?_
    refine AW.seq ?_
    refine AW.seqR ?_
    refine AWo.pure (PureOp.move rfl) rfl rfl ?_
    refine AWo.pure (PureOp.move rfl) rfl rfl ?_
    refine AWo.callX (size4_ctr (g := g)) bd28 [] [] rfl (.cons rfl .nil) rfl (.cons rfl rfl .nil) .nil rfl .nil frN (by decide) (.cons rfl rfl .nil) rfl rfl rfl rfl ?_
    refine AWo.callX (cmpd (x := num 256 b) (y := NG g) (bytes_rm hb hl) (ng_rm g)) bd97 [] [] rfl (.cons rfl (.cons rfl .nil)) rfl (.cons rfl rfl (.cons rfl rfl .nil)) .nil rfl .nil frN (by decide) (.cons rfl rfl .nil) rfl rfl rfl rfl ?_
    first | refine AWo.pure ((PureOp.geP rfl rfl).mono (v' := .bool false) (congrArg Value.bool (cmp_lt hc))) rfl rfl ?_ | refine AWo.pure ((PureOp.geN (b := 0) rfl rfl).mono (v' := .bool false) (congrArg Value.bool (cmp_lt hc))) rfl rfl ?_ | refine AWo.pure ((PureOp.bin rfl rfl rfl).mono (v' := .bool false) (congrArg Value.bool (cmp_lt hc))) rfl rfl ?_
    refine AWo.nil trivial ?_
    refine AW.condF rfl ?_
    refine AW.skip ?_
    refine thenA_normal ?_
    refine AW.seqR ?_
    refine AWo.pure (PureOp.move rfl) rfl rfl ?_
    refine yA ?_
    refine AWo.pure (PureOp.assign rfl) rfl rfl ?_
    refine AWo.nil trivial ?_
    refine AW.ret ?_
    refine RetQ.gc [_, _] [] [.tmp 4, .tmp 5] (.inl rfl) rfl (.tmp rfl (.tmp rfl .nil)) rfl (.cons rfl rfl (.cons rfl rfl .nil)) (OutL.flat rfl (by first | exact flatM flat_vi | exact flatM flat_bool | (simp [flatV, flat_vi]; done)) (by intro h; first | rfl | exact h.elim id fun h => absurd h.1 (by simp)) trivial) (by decide) rfl
theorem read4_ctr {g : Bool} {b : List Nat} (hb : bd 256 b) : GC Try.prog 34 [.bool g, .slice (some ⟨0, 0, none⟩) b.length 0] [⟨b.map (vi .u8), false, 1⟩] [dd (rdW (NG g) b), .int .i64 (rcW (NG g) b)] [⟨b.map (vi .u8), false, 1⟩] := by
  unfold rdW rcW
  by_cases hl : b.length = 96
  · by_cases hc : num 256 b < NG g
    · rw [if_pos ⟨hl, hc⟩, if_pos hl, if_pos hc]; exact rdO_ctr hb hl hc
    · rw [if_neg (fun h => hc h.2), if_pos hl, if_neg hc]; exact rdC_ctr hb hl (Nat.le_of_not_lt hc)
  · rw [if_neg (fun h => hl h.1), if_neg hl]; exact rdA_ctr hl
theorem wreads_ctr {g : Bool} {b : List Nat} (hb : bd 256 b) : GC Try.prog 6 [.bool g, .slice (some ⟨0, 0, none⟩) b.length 0] [⟨b.map (vi .u8), false, 1⟩] [.bool true] [⟨b.map (vi .u8), false, 1⟩] := by
  refine GC.intro Try.func6 rfl (by show 2 ≤ 78; decide) (by first | exact Nat.le_refl _ | decide | simp) ?_
  refine AW.seqR ?_
  refine AWo.pure (PureOp.assign rfl) rfl rfl ?_
  refine AWo.nil trivial ?_
  refine AW.seq ?_
  refine AW.seqR ?_
  refine AWo.callX (speaks4_ctr) bd17 [] [] rfl .nil rfl .nil .nil rfl .nil frN (by decide) (.cons rfl rfl .nil) rfl rfl rfl rfl ?_
  first | refine AWo.pure ((PureOp.not rfl).mono (v' := .bool false) (congrArg Value.bool (by rfl))) rfl rfl ?_
  refine AWo.pure (PureOp.move rfl) rfl rfl ?_
  refine AWo.pure (PureOp.move rfl) rfl rfl ?_
  first | refine AWo.pure (PureOp.lenS tbok rfl rfl) rfl rfl ?_ | refine AWo.pure (PureOp.lenD tbok rfl rfl) rfl rfl ?_
  first | refine AWo.pure (PureOp.gtN (b := 300) rfl rfl) rfl rfl ?_ | refine AWo.pure (PureOp.bin rfl rfl rfl) rfl rfl ?_
  refine AWo.pure (PureOp.pickF rfl rfl) rfl rfl ?_
  refine AWo.nil trivial ?_
  refine AW.cond rfl (fun hb0 => ?_) (fun hb0 => ?_)
  ·
    refine AW.seqR ?_
    refine AWo.callX (speaks4_ctr) bd17 [] [] rfl .nil rfl .nil .nil rfl .nil frN (by decide) (.cons rfl rfl .nil) rfl rfl rfl rfl ?_
    refine AWo.pure (PureOp.assign rfl) rfl rfl ?_
    refine AWo.nil trivial ?_
    refine AW.ret ?_
    refine thenA_ret ?_
    refine RetQ.gc [_] [] [.tmp 4] (.inl rfl) rfl (.tmp rfl .nil) rfl (.cons rfl rfl .nil) (OutL.flat rfl (by first | exact flatM flat_vi | exact flatM flat_bool | (simp [flatV, flat_vi]; done)) (by intro h; first | rfl | exact h.elim id fun h => absurd h.1 (by simp)) trivial) (by decide) rfl
  ·
    have hbl : b.length ≤ 300 := by simpa using hb0
    refine AW.skip ?_
    refine thenA_normal ?_
    refine AW.seqR ?_
    refine AWo.pure (PureOp.move rfl) rfl rfl ?_
    refine AWo.callX (ring4_ctr) bd18 [] [21000, 21001, 21002, 21003] rfl (.cons rfl .nil) rfl (.cons rfl rfl .nil) .nil rfl (.new rfl (OkL.all rfl) (.new rfl (OkL.all rfl) (.new (flat_map_ren (flatM flat_vi)) (OkL.flat (flatM flat_vi)) (.new (flat_map_ren (flatM flat_vi)) (OkL.flat (flatM flat_vi)) .nil)))) (frC rfl (frC rfl (frC rfl (frC rfl frN)))) (by decide) (.cons rfl rfl .nil) rfl rfl rfl rfl ?_
    refine AWo.pure (PureOp.assign rfl) rfl rfl ?_
    refine AWo.nil trivial ?_
    refine AW.seqR ?_
    refine AWo.pure (PureOp.move rfl) rfl rfl ?_
    refine AWo.pure (PureOp.move rfl) rfl rfl ?_
    refine AWo.callX (readW_ctr (rn_g g) hb) bd33 [(21000, 0), (21001, 0), (21002, 0), (21003, 0), (0, 0)] [] rfl (.cons rfl (.cons rfl .nil)) rfl (.cons rfl rfl (.cons rfl rfl .nil)) (.whole rfl rfl (OkL.all rfl) (by intro h; first | exact h | rfl) (.whole rfl rfl (OkL.all rfl) (by intro h; first | exact h | rfl) (.flat rfl (flatM flat_vi) (by intro h; first | exact h | rfl) (.flat rfl (flatM flat_vi) (by intro h; first | exact h | rfl) (.flat rfl (by first | exact flatM flat_vi | exact flatM flat_bool | (simp [flatV, flat_vi]; done)) (by intro h; first | exact h | rfl) .nil))))) rfl (.keep rfl (.keep rfl (.keep rfl (.keep rfl (.keep rfl .nil))))) frN (by decide) (.pure (by first | rfl | exact pure_aggM flat_vi | exact pure_aggM flat_bool) (.cons rfl rfl .nil)) rfl rfl rfl rfl ?_
    refine AWo.pure (PureOp.move rfl) rfl rfl ?_
    refine AWo.pure (PureOp.extract rfl rfl) rfl rfl ?_
    refine AWo.pure (PureOp.extract rfl rfl) rfl rfl ?_
    refine AWo.alloc tbok 7000 1 ((List.replicate 12 0).map (vi .u64)) rfl rfl rfl rfl rfl rfl ?_
    refine AWo.storeAllN tbok rfl rfl rfl rfl (by rw [List.length_map, digs_len]) (by first | rfl | (simp [digs_len]; done)) (oneM (fun _ => rfl) _) rfl ?_
    refine AWo.pure (PureOp.assign rfl) rfl rfl ?_
    refine AWo.nil trivial ?_
    refine AW.seqR ?_
    refine AWo.pure (PureOp.move rfl) rfl rfl ?_
    refine AWo.pure (PureOp.move rfl) rfl rfl ?_
    refine AWo.callX (read4_ctr hb) bd34 [(0, 0)] [] rfl (.cons rfl (.cons rfl .nil)) rfl (.cons rfl rfl (.cons rfl rfl .nil)) (.flat rfl (by first | exact flatM flat_vi | exact flatM flat_bool | (simp [flatV, flat_vi]; done)) (by intro h; first | exact h | rfl) .nil) rfl (.keep rfl .nil) frN (by decide) (.cons rfl rfl (.cons rfl rfl .nil)) rfl rfl rfl rfl ?_
    refine AWo.pure (PureOp.move rfl) rfl rfl ?_
    refine AWo.pure (PureOp.extract rfl rfl) rfl rfl ?_
    refine AWo.pure (PureOp.extract rfl rfl) rfl rfl ?_
    refine AWo.pure (PureOp.assign rfl) rfl rfl ?_
    refine AWo.pure (PureOp.assign rfl) rfl rfl ?_
    refine AWo.nil trivial ?_
    refine AW.seq ?_
    refine AW.seqD mixed ?_
    refine AWo.pure (PureOp.move rfl) rfl rfl ?_
    refine AWo.pure (PureOp.move rfl) rfl rfl ?_
    first | refine AWo.pure ((PureOp.neN rfl rfl).mono (v' := .bool false) (congrArg Value.bool (by simp))) rfl rfl ?_ | refine AWo.pure ((PureOp.bin rfl rfl rfl).mono (v' := .bool false) (congrArg Value.bool (by simp))) rfl rfl ?_
    refine AWo.pure (PureOp.move rfl) rfl rfl ?_
    refine AWo.loadAll tbok rfl rfl rfl rfl (by show ((digs 18446744073709551616 12 (rdW (NG g) b)).map (vi .u64)).length = 12; rw [List.length_map, digs_len]) rfl rfl ?_
    refine AWo.pure (PureOp.move rfl) rfl rfl ?_
    refine AWo.callX (of4_ctr (rd_lt (rn_g g))) bd20 [] [] rfl (.cons rfl .nil) rfl (.cons rfl rfl .nil) .nil rfl .nil frN (by decide) (.pure (by first | rfl | exact pure_aggM flat_vi | exact pure_aggM flat_bool) .nil) rfl rfl rfl rfl ?_
    refine yP ((PureOp.neArr rfl rfl Try.eqGuardType24 Try.underlying24 Try.underlying22 (tbok.sz 22 _ rfl) (by kernel_rfl) (digs_len _ _) (digs_len _ _)).mono (v' := .bool false) (congrArg Value.bool (by rw [decide_eq_true (congrArg (digs 18446744073709551616 12) (rfl))]; rfl))) ?_
    refine AWo.pure (PureOp.pickF rfl rfl) rfl rfl ?_
    refine AWo.pure (PureOp.move rfl) rfl rfl ?_
    refine AWo.pure (PureOp.move rfl) rfl rfl ?_
    refine AWo.callX (sizeW_ctr (rn_g g)) bd31 [(21000, 0), (21001, 0), (21002, 0), (21003, 0)] [] rfl (.cons rfl .nil) rfl (.cons rfl rfl .nil) (.whole rfl rfl (OkL.all rfl) (by intro h; first | exact h | rfl) (.whole rfl rfl (OkL.all rfl) (by intro h; first | exact h | rfl) (.flat rfl (flatM flat_vi) (by intro h; first | exact h | rfl) (.flat rfl (flatM flat_vi) (by intro h; first | exact h | rfl) .nil)))) rfl (.keep rfl (.keep rfl (.keep rfl (.keep rfl .nil)))) frN (by decide) (.pure (by first | rfl | exact pure_aggM flat_vi | exact pure_aggM flat_bool) .nil) rfl rfl rfl rfl ?_
    refine AWo.pure (PureOp.move rfl) rfl rfl ?_
    refine AWo.callX (size4_ctr (g := g)) bd28 [] [] rfl (.cons rfl .nil) rfl (.cons rfl rfl .nil) .nil rfl .nil frN (by decide) (.cons rfl rfl .nil) rfl rfl rfl rfl ?_
    refine AWo.callX (of4_ctr (rn_g g).lt) bd20 [] [] rfl (.cons rfl .nil) rfl (.cons rfl rfl .nil) .nil rfl .nil frN (by decide) (.pure (by first | rfl | exact pure_aggM flat_vi | exact pure_aggM flat_bool) .nil) rfl rfl rfl rfl ?_
    refine yP ((PureOp.neArr rfl rfl Try.eqGuardType24 Try.underlying24 Try.underlying22 (tbok.sz 22 _ rfl) (by kernel_rfl) (digs_len _ _) (digs_len _ _)).mono (v' := .bool false) (congrArg Value.bool (by rw [decide_eq_true (congrArg (digs 18446744073709551616 12) (rfl))]; rfl))) ?_
    refine AWo.pure (PureOp.pickF rfl rfl) rfl rfl ?_
    refine AWo.nil (by kernel_rfl) ?_
    refine AW.condF rfl ?_
    refine AW.skip ?_
    refine thenA_normal ?_
    refine AW.seqR ?_
    refine AWo.loadAll tbok rfl rfl rfl rfl (by show ((digs 18446744073709551616 12 (rdW (NG g) b)).map (vi .u64)).length = 12; rw [List.length_map, digs_len]) rfl rfl ?_
    refine AWo.callX (writeW_ctr (rd_lt (rn_g g))) bd35 [] [] rfl (.cons rfl .nil) rfl (.pure (by first | rfl | exact pure_aggM flat_vi | exact pure_aggM flat_bool) .nil) .nil rfl .nil frN (by decide) (.pure (by first | rfl | exact pure_aggM flat_vi | exact pure_aggM flat_bool) .nil) rfl rfl rfl rfl ?_
    refine AWo.alloc tbok 11000 1 ((List.replicate 96 0).map (vi .u8)) rfl rfl rfl rfl rfl rfl ?_
    refine AWo.storeAllN tbok rfl rfl rfl rfl (by rw [List.length_map, digs_len]) (by first | rfl | (simp [digs_len]; done)) (oneM (fun _ => rfl) _) rfl ?_
    refine AWo.nil trivial ?_
    refine AW.seq ?_
    refine AW.seqD mixed ?_
    refine AWo.sliceA tbok (h := 96) rfl .none .none rfl rfl rfl rfl (by decide) (by decide) (.inl rfl) (by simp [digs_len]) rfl rfl rfl ?_
    refine AWo.bytesStr tbok (digs 256 96 (rdW (NG g) b)) rfl rfl (List.take_of_length_le (by simp [digs_len])) (digs_len _ _) rfl Try.underlying5 Try.underlying9 rfl rfl ?_
    refine AWo.pure (PureOp.move rfl) rfl rfl ?_
    refine AWo.callX (bytes4_ctr (rd_lt (rn_g g))) bd36 [] [56000] rfl (.cons rfl .nil) rfl (.cons rfl rfl .nil) .nil rfl (.new (flat_map_ren (by first | exact flatM flat_vi | exact flatM flat_bool | (simp [flatV, flat_vi]; done))) (OkL.flat (by first | exact flatM flat_vi | exact flatM flat_bool | (simp [flatV, flat_vi]; done))) .nil) (frC rfl frN) (by decide) (.cons rfl rfl .nil) rfl rfl rfl rfl ?_
    refine AWo.bytesStr tbok (digs 256 96 (rdW (NG g) b)) rfl rfl (List.take_of_length_le (by simp [digs_len])) (digs_len _ _) rfl Try.underlying5 Try.underlying9 rfl rfl ?_
    refine yP (PureOp.neStr rfl rfl) ?_
    refine AWo.pure (PureOp.move rfl) rfl rfl ?_
    refine AWo.pure (PureOp.move rfl) rfl rfl ?_
    first | refine AWo.pure (PureOp.eqN (b := 0) rfl rfl) rfl rfl ?_ | refine AWo.pure (PureOp.bin rfl rfl rfl) rfl rfl ?_
    first | refine AWo.pureB (PureOp.move rfl) rfl rfl (fun hb1 => ?_) (fun hb1 => ?_)
    ·
      have hrc := rc_ok (of_decide_eq_true hb1)
      refine AWo.sliceA tbok (h := 96) rfl .none .none rfl rfl rfl rfl (by decide) (by decide) (.inl rfl) (by simp [digs_len]) rfl rfl rfl ?_
      refine AWo.bytesStr tbok (digs 256 96 (rdW (NG g) b)) rfl rfl (List.take_of_length_le (by simp [digs_len])) (digs_len _ _) rfl Try.underlying5 Try.underlying9 rfl rfl ?_
      refine AWo.pure (PureOp.move rfl) rfl rfl ?_
      refine AWo.bytesStr tbok (b) rfl rfl (List.take_of_length_le (by simp [digs_len])) (rfl) rfl Try.underlying5 Try.underlying9 rfl rfl ?_
      rw [rd_bytes hb hrc]
      refine yP (PureOp.neStr rfl rfl) ?_
      refine AWo.pure (PureOp.pickT rfl rfl) rfl rfl ?_
      refine AWo.pure (PureOp.pickF rfl rfl) rfl rfl ?_
      refine AWo.nil (by kernel_rfl) ?_
      refine AW.condF rfl ?_
      refine AW.skip ?_
      refine thenA_normal ?_
      refine AW.seqR ?_
      refine AWo.pure (PureOp.move rfl) rfl rfl ?_
      refine AWo.pure (PureOp.move rfl) rfl rfl ?_
      refine AWo.callX (redW_ctr (rn_g g) hb (by omega)) bd32 [(21000, 0), (21001, 0), (21002, 0), (21003, 0), (0, 0)] [] rfl (.cons rfl (.cons rfl .nil)) rfl (.cons rfl rfl (.cons rfl rfl .nil)) (.whole rfl rfl (OkL.all rfl) (by intro h; first | exact h | rfl) (.whole rfl rfl (OkL.all rfl) (by intro h; first | exact h | rfl) (.flat rfl (flatM flat_vi) (by intro h; first | exact h | rfl) (.flat rfl (flatM flat_vi) (by intro h; first | exact h | rfl) (.flat rfl (by first | exact flatM flat_vi | exact flatM flat_bool | (simp [flatV, flat_vi]; done)) (by intro h; first | exact h | rfl) .nil))))) rfl (.keep rfl (.keep rfl (.keep rfl (.keep rfl (.keep rfl .nil))))) frN (by decide) (.pure (by first | rfl | exact pure_aggM flat_vi | exact pure_aggM flat_bool) .nil) rfl rfl rfl rfl ?_
      refine AWo.pure (PureOp.move rfl) rfl rfl ?_
      refine AWo.pure (PureOp.move rfl) rfl rfl ?_
      refine AWo.callX (ofbN hb (by omega)) bd37 [(0, 0)] [] rfl (.cons rfl .nil) rfl (.cons rfl rfl .nil) (.flat rfl (by first | exact flatM flat_vi | exact flatM flat_bool | (simp [flatV, flat_vi]; done)) (by intro h; first | exact h | rfl) .nil) rfl (.keep rfl .nil) frN (by decide) (.cons rfl rfl .nil) rfl rfl rfl rfl ?_
      refine AWo.callX (mod4_ctr (g := g) (x := num 256 b) (bytes_rm2 hb (by omega))) bd23 [] [] rfl (.cons rfl (.cons rfl .nil)) rfl (.cons rfl rfl (.cons rfl rfl .nil)) .nil rfl .nil frN (by decide) (.cons rfl rfl .nil) rfl rfl rfl rfl ?_
      refine AWo.callX (of4_ctr (mod_lt12 (rn_g g) _)) bd20 [] [] rfl (.cons rfl .nil) rfl (.cons rfl rfl .nil) .nil rfl .nil frN (by decide) (.pure (by first | rfl | exact pure_aggM flat_vi | exact pure_aggM flat_bool) .nil) rfl rfl rfl rfl ?_
      refine yP ((PureOp.eqArr rfl rfl Try.eqGuardType24 Try.underlying24 Try.underlying22 (tbok.sz 22 _ rfl) (by kernel_rfl) (digs_len _ _) (digs_len _ _)).mono (v' := .bool true) (congrArg Value.bool (decide_eq_true (congrArg (digs 18446744073709551616 12) (rfl))))) ?_
      refine AWo.pure (PureOp.assign rfl) rfl rfl ?_
      refine AWo.nil trivial ?_
      refine AW.ret ?_
      refine RetQ.gc [_] [] [.tmp 4] (.inl rfl) rfl (.tmp rfl .nil) rfl (.cons rfl rfl .nil) (OutL.flat rfl (by first | exact flatM flat_vi | exact flatM flat_bool | (simp [flatV, flat_vi]; done)) (by intro h; first | rfl | exact h.elim id fun h => absurd h.1 (by simp)) trivial) (by decide) rfl
    ·
      refine AWo.skipped rfl rfl ?_
      refine AWo.skipped rfl rfl ?_
      refine AWo.skipped rfl rfl ?_
      refine AWo.skipped rfl rfl ?_
      refine AWo.skipped rfl rfl ?_
      refine AWo.pure (PureOp.pickF rfl rfl) rfl rfl ?_
      refine AWo.pure (PureOp.pickF rfl rfl) rfl rfl ?_
      refine AWo.nil (by kernel_rfl) ?_
      refine AW.condF rfl ?_
      refine AW.skip ?_
      refine thenA_normal ?_
      refine AW.seqR ?_
      refine AWo.pure (PureOp.move rfl) rfl rfl ?_
      refine AWo.pure (PureOp.move rfl) rfl rfl ?_
      refine AWo.callX (redW_ctr (rn_g g) hb (by omega)) bd32 [(21000, 0), (21001, 0), (21002, 0), (21003, 0), (0, 0)] [] rfl (.cons rfl (.cons rfl .nil)) rfl (.cons rfl rfl (.cons rfl rfl .nil)) (.whole rfl rfl (OkL.all rfl) (by intro h; first | exact h | rfl) (.whole rfl rfl (OkL.all rfl) (by intro h; first | exact h | rfl) (.flat rfl (flatM flat_vi) (by intro h; first | exact h | rfl) (.flat rfl (flatM flat_vi) (by intro h; first | exact h | rfl) (.flat rfl (by first | exact flatM flat_vi | exact flatM flat_bool | (simp [flatV, flat_vi]; done)) (by intro h; first | exact h | rfl) .nil))))) rfl (.keep rfl (.keep rfl (.keep rfl (.keep rfl (.keep rfl .nil))))) frN (by decide) (.pure (by first | rfl | exact pure_aggM flat_vi | exact pure_aggM flat_bool) .nil) rfl rfl rfl rfl ?_
      refine AWo.pure (PureOp.move rfl) rfl rfl ?_
      refine AWo.pure (PureOp.move rfl) rfl rfl ?_
      refine AWo.callX (ofbN hb (by omega)) bd37 [(0, 0)] [] rfl (.cons rfl .nil) rfl (.cons rfl rfl .nil) (.flat rfl (by first | exact flatM flat_vi | exact flatM flat_bool | (simp [flatV, flat_vi]; done)) (by intro h; first | exact h | rfl) .nil) rfl (.keep rfl .nil) frN (by decide) (.cons rfl rfl .nil) rfl rfl rfl rfl ?_
      refine AWo.callX (mod4_ctr (g := g) (x := num 256 b) (bytes_rm2 hb (by omega))) bd23 [] [] rfl (.cons rfl (.cons rfl .nil)) rfl (.cons rfl rfl (.cons rfl rfl .nil)) .nil rfl .nil frN (by decide) (.cons rfl rfl .nil) rfl rfl rfl rfl ?_
      refine AWo.callX (of4_ctr (mod_lt12 (rn_g g) _)) bd20 [] [] rfl (.cons rfl .nil) rfl (.cons rfl rfl .nil) .nil rfl .nil frN (by decide) (.pure (by first | rfl | exact pure_aggM flat_vi | exact pure_aggM flat_bool) .nil) rfl rfl rfl rfl ?_
      refine yP ((PureOp.eqArr rfl rfl Try.eqGuardType24 Try.underlying24 Try.underlying22 (tbok.sz 22 _ rfl) (by kernel_rfl) (digs_len _ _) (digs_len _ _)).mono (v' := .bool true) (congrArg Value.bool (decide_eq_true (congrArg (digs 18446744073709551616 12) (rfl))))) ?_
      refine AWo.pure (PureOp.assign rfl) rfl rfl ?_
      refine AWo.nil trivial ?_
      refine AW.ret ?_
      refine RetQ.gc [_] [] [.tmp 4] (.inl rfl) rfl (.tmp rfl .nil) rfl (.cons rfl rfl .nil) (OutL.flat rfl (by first | exact flatM flat_vi | exact flatM flat_bool | (simp [flatV, flat_vi]; done)) (by intro h; first | rfl | exact h.elim id fun h => absurd h.1 (by simp)) trivial) (by decide) rfl
theorem wreck_ctr {g : Bool} {a b : Nat} (ha : a < 18446744073709551616 ^ 12) (hb : b < 18446744073709551616 ^ 12) : GC Try.prog 4 [.bool g, .agg ((digs 18446744073709551616 12 a).map (vi .u64)).toArray, .agg ((digs 18446744073709551616 12 b).map (vi .u64)).toArray] [] [.bool true] [] := by
  refine GC.intro Try.func4 rfl (by show 3 ≤ 60; decide) (by first | exact Nat.le_refl _ | decide | simp) ?_
  refine AW.seqR ?_
  refine AWo.box 5000 1 _ rfl rfl rfl rfl rfl ?_
  refine AWo.box 6000 1 _ rfl rfl rfl rfl rfl ?_
  refine AWo.pure (PureOp.assign rfl) rfl rfl ?_
  refine AWo.nil trivial ?_
  refine AW.seq ?_
  refine AW.seqR ?_
  refine AWo.callX (speaks4_ctr) bd17 [] [] rfl .nil rfl .nil .nil rfl .nil frN (by decide) (.cons rfl rfl .nil) rfl rfl rfl rfl ?_
  first | refine AWo.pure ((PureOp.not rfl).mono (v' := .bool false) (congrArg Value.bool (by rfl))) rfl rfl ?_
  refine AWo.nil trivial ?_
  refine AW.condF rfl ?_
  refine AW.skip ?_
  refine thenA_normal ?_
  refine AW.seqR ?_
  refine AWo.pure (PureOp.move rfl) rfl rfl ?_
  refine AWo.callX (ring4_ctr) bd18 [] [14000, 14001, 14002, 14003] rfl (.cons rfl .nil) rfl (.cons rfl rfl .nil) .nil rfl (.new rfl (OkL.all rfl) (.new rfl (OkL.all rfl) (.new (flat_map_ren (flatM flat_vi)) (OkL.flat (flatM flat_vi)) (.new (flat_map_ren (flatM flat_vi)) (OkL.flat (flatM flat_vi)) .nil)))) (frC rfl (frC rfl (frC rfl (frC rfl frN)))) (by decide) (.cons rfl rfl .nil) rfl rfl rfl rfl ?_
  refine AWo.pure (PureOp.assign rfl) rfl rfl ?_
  refine AWo.nil trivial ?_
  refine AW.seqD mixed ?_
  refine AWo.pure (PureOp.move rfl) rfl rfl ?_
  refine AWo.loadAll tbok rfl rfl rfl rfl (by show ((digs 18446744073709551616 12 a).map (vi .u64)).length = 12; rw [List.length_map, digs_len]) rfl rfl ?_
  refine AWo.callX (digits4_ctr ha) bd22 [] [] rfl (.cons rfl .nil) rfl (.pure (by first | rfl | exact pure_aggM flat_vi | exact pure_aggM flat_bool) .nil) .nil rfl .nil frN (by decide) (.cons rfl rfl .nil) rfl rfl rfl rfl ?_
  refine AWo.callX (mod4_ctr (g := g) (x := a) (num_rm ha)) bd23 [] [] rfl (.cons rfl (.cons rfl .nil)) rfl (.cons rfl rfl (.cons rfl rfl .nil)) .nil rfl .nil frN (by decide) (.cons rfl rfl .nil) rfl rfl rfl rfl ?_
  refine AWo.pure (PureOp.move rfl) rfl rfl ?_
  refine AWo.loadAll tbok rfl rfl rfl rfl (by show ((digs 18446744073709551616 12 b).map (vi .u64)).length = 12; rw [List.length_map, digs_len]) rfl rfl ?_
  refine AWo.callX (digits4_ctr hb) bd22 [] [] rfl (.cons rfl .nil) rfl (.pure (by first | rfl | exact pure_aggM flat_vi | exact pure_aggM flat_bool) .nil) .nil rfl .nil frN (by decide) (.cons rfl rfl .nil) rfl rfl rfl rfl ?_
  refine AWo.callX (mod4_ctr (g := g) (x := b) (num_rm hb)) bd23 [] [] rfl (.cons rfl (.cons rfl .nil)) rfl (.cons rfl rfl (.cons rfl rfl .nil)) .nil rfl .nil frN (by decide) (.cons rfl rfl .nil) rfl rfl rfl rfl ?_
  refine AWo.pure (PureOp.assign rfl) rfl rfl ?_
  refine AWo.pure (PureOp.assign rfl) rfl rfl ?_
  refine AWo.nil (by kernel_rfl) ?_
  refine AW.seq ?_
  refine AW.seqR ?_
  refine AWo.pure (PureOp.move rfl) rfl rfl ?_
  refine AWo.loadAll tbok rfl rfl rfl rfl (by show ((digs 18446744073709551616 12 a).map (vi .u64)).length = 12; rw [List.length_map, digs_len]) rfl rfl ?_
  refine AWo.loadAll tbok rfl rfl rfl rfl (by show ((digs 18446744073709551616 12 b).map (vi .u64)).length = 12; rw [List.length_map, digs_len]) rfl rfl ?_
  refine AWo.callX (addW_ctr (rn_g g) ha hb) bd24 [(14000, 0), (14001, 0), (14002, 0), (14003, 0)] [] rfl (.cons rfl (.cons rfl (.cons rfl .nil))) rfl (.cons rfl rfl (.pure (by first | rfl | exact pure_aggM flat_vi | exact pure_aggM flat_bool) (.pure (by first | rfl | exact pure_aggM flat_vi | exact pure_aggM flat_bool) .nil))) (.whole rfl rfl (OkL.all rfl) (by intro h; first | exact h | rfl) (.whole rfl rfl (OkL.all rfl) (by intro h; first | exact h | rfl) (.flat rfl (flatM flat_vi) (by intro h; first | exact h | rfl) (.flat rfl (flatM flat_vi) (by intro h; first | exact h | rfl) .nil)))) rfl (.keep rfl (.keep rfl (.keep rfl (.keep rfl .nil)))) frN (by decide) (.pure (by first | rfl | exact pure_aggM flat_vi | exact pure_aggM flat_bool) .nil) rfl rfl rfl rfl ?_
  refine AWo.pure (PureOp.move rfl) rfl rfl ?_
  refine AWo.pure (PureOp.move rfl) rfl rfl ?_
  refine AWo.pure (PureOp.move rfl) rfl rfl ?_
  refine AWo.callX (addd (x := a % NG g) (y := b % NG g) (mod_rm g a) (mod_rm g b)) bd25 [] [] rfl (.cons rfl (.cons rfl .nil)) rfl (.cons rfl rfl (.cons rfl rfl .nil)) .nil rfl .nil frN (by decide) (.cons rfl rfl .nil) rfl rfl rfl rfl ?_
  refine AWo.callX (mod4_ctr (g := g) (x := a % NG g + b % NG g) (two_rm (mod_lt12 (rn_g g) a) (mod_lt12 (rn_g g) b))) bd23 [] [] rfl (.cons rfl (.cons rfl .nil)) rfl (.cons rfl rfl (.cons rfl rfl .nil)) .nil rfl .nil frN (by decide) (.cons rfl rfl .nil) rfl rfl rfl rfl ?_
  refine AWo.callX (of4_ctr (mod_lt12 (rn_g g) _)) bd20 [] [] rfl (.cons rfl .nil) rfl (.cons rfl rfl .nil) .nil rfl .nil frN (by decide) (.pure (by first | rfl | exact pure_aggM flat_vi | exact pure_aggM flat_bool) .nil) rfl rfl rfl rfl ?_
  refine yP ((PureOp.neArr rfl rfl Try.eqGuardType24 Try.underlying24 Try.underlying22 (tbok.sz 22 _ rfl) (by kernel_rfl) (digs_len _ _) (digs_len _ _)).mono (v' := .bool false) (congrArg Value.bool (by rw [decide_eq_true (congrArg (digs 18446744073709551616 12) (rfl))]; rfl))) ?_
  refine AWo.pure (PureOp.move rfl) rfl rfl ?_
  refine AWo.pure (PureOp.move rfl) rfl rfl ?_
  refine AWo.loadAll tbok rfl rfl rfl rfl (by show ((digs 18446744073709551616 12 a).map (vi .u64)).length = 12; rw [List.length_map, digs_len]) rfl rfl ?_
  refine AWo.loadAll tbok rfl rfl rfl rfl (by show ((digs 18446744073709551616 12 b).map (vi .u64)).length = 12; rw [List.length_map, digs_len]) rfl rfl ?_
  refine AWo.callX (subW_ctr (rn_g g) ha hb) bd26 [(14000, 0), (14001, 0), (14002, 0), (14003, 0)] [] rfl (.cons rfl (.cons rfl (.cons rfl .nil))) rfl (.cons rfl rfl (.pure (by first | rfl | exact pure_aggM flat_vi | exact pure_aggM flat_bool) (.pure (by first | rfl | exact pure_aggM flat_vi | exact pure_aggM flat_bool) .nil))) (.whole rfl rfl (OkL.all rfl) (by intro h; first | exact h | rfl) (.whole rfl rfl (OkL.all rfl) (by intro h; first | exact h | rfl) (.flat rfl (flatM flat_vi) (by intro h; first | exact h | rfl) (.flat rfl (flatM flat_vi) (by intro h; first | exact h | rfl) .nil)))) rfl (.keep rfl (.keep rfl (.keep rfl (.keep rfl .nil)))) frN (by decide) (.pure (by first | rfl | exact pure_aggM flat_vi | exact pure_aggM flat_bool) .nil) rfl rfl rfl rfl ?_
  refine AWo.pure (PureOp.move rfl) rfl rfl ?_
  refine AWo.pure (PureOp.move rfl) rfl rfl ?_
  refine AWo.pure (PureOp.move rfl) rfl rfl ?_
  refine AWo.callX (size4_ctr (g := g)) bd28 [] [] rfl (.cons rfl .nil) rfl (.cons rfl rfl .nil) .nil rfl .nil frN (by decide) (.cons rfl rfl .nil) rfl rfl rfl rfl ?_
  refine AWo.callX (addd (x := a % NG g) (y := NG g) (mod_rm g a) (ng_rm g)) bd25 [] [] rfl (.cons rfl (.cons rfl .nil)) rfl (.cons rfl rfl (.cons rfl rfl .nil)) .nil rfl .nil frN (by decide) (.cons rfl rfl .nil) rfl rfl rfl rfl ?_
  refine AWo.pure (PureOp.move rfl) rfl rfl ?_
  refine AWo.callX (subd (x := a % NG g + NG g) (y := b % NG g) (Nat.lt_trans (two_rm (mod_lt12 (rn_g g) a) (rn_g g).lt) (by decide)) (mod_rm g b) (sub_ok (rn_g g))) bd27 [] [] rfl (.cons rfl (.cons rfl .nil)) rfl (.cons rfl rfl (.cons rfl rfl .nil)) .nil rfl .nil frN (by decide) (.cons rfl rfl .nil) rfl rfl rfl rfl ?_
  refine AWo.callX (mod4_ctr (g := g) (x := a % NG g + NG g - b % NG g) (dl_le (Nat.sub_le _ _) (two_rm (mod_lt12 (rn_g g) a) (rn_g g).lt))) bd23 [] [] rfl (.cons rfl (.cons rfl .nil)) rfl (.cons rfl rfl (.cons rfl rfl .nil)) .nil rfl .nil frN (by decide) (.cons rfl rfl .nil) rfl rfl rfl rfl ?_
  refine AWo.callX (of4_ctr (mod_lt12 (rn_g g) _)) bd20 [] [] rfl (.cons rfl .nil) rfl (.cons rfl rfl .nil) .nil rfl .nil frN (by decide) (.pure (by first | rfl | exact pure_aggM flat_vi | exact pure_aggM flat_bool) .nil) rfl rfl rfl rfl ?_
  refine yP ((PureOp.neArr rfl rfl Try.eqGuardType24 Try.underlying24 Try.underlying22 (tbok.sz 22 _ rfl) (by kernel_rfl) (digs_len _ _) (digs_len _ _)).mono (v' := .bool false) (congrArg Value.bool (by rw [decide_eq_true (congrArg (digs 18446744073709551616 12) (sub_eq (rn_g g)))]; rfl))) ?_
  refine AWo.pure (PureOp.pickF rfl rfl) rfl rfl ?_
  refine AWo.nil trivial ?_
  refine AW.condF rfl ?_
  refine AW.skip ?_
  refine thenA_normal ?_
  refine AW.seqR ?_
  refine AWo.pure (PureOp.move rfl) rfl rfl ?_
  refine AWo.loadAll tbok rfl rfl rfl rfl (by show ((digs 18446744073709551616 12 a).map (vi .u64)).length = 12; rw [List.length_map, digs_len]) rfl rfl ?_
  refine AWo.loadAll tbok rfl rfl rfl rfl (by show ((digs 18446744073709551616 12 b).map (vi .u64)).length = 12; rw [List.length_map, digs_len]) rfl rfl ?_
  refine AWo.callX (mulW_ctr (rn_g g) ha hb) bd29 [(14000, 0), (14001, 0), (14002, 0), (14003, 0)] [] rfl (.cons rfl (.cons rfl (.cons rfl .nil))) rfl (.cons rfl rfl (.pure (by first | rfl | exact pure_aggM flat_vi | exact pure_aggM flat_bool) (.pure (by first | rfl | exact pure_aggM flat_vi | exact pure_aggM flat_bool) .nil))) (.whole rfl rfl (OkL.all rfl) (by intro h; first | exact h | rfl) (.whole rfl rfl (OkL.all rfl) (by intro h; first | exact h | rfl) (.flat rfl (flatM flat_vi) (by intro h; first | exact h | rfl) (.flat rfl (flatM flat_vi) (by intro h; first | exact h | rfl) .nil)))) rfl (.keep rfl (.keep rfl (.keep rfl (.keep rfl .nil)))) frN (by decide) (.pure (by first | rfl | exact pure_aggM flat_vi | exact pure_aggM flat_bool) .nil) rfl rfl rfl rfl ?_
  refine AWo.pure (PureOp.move rfl) rfl rfl ?_
  refine AWo.pure (PureOp.move rfl) rfl rfl ?_
  refine AWo.pure (PureOp.move rfl) rfl rfl ?_
  refine AWo.callX (muld (x := a % NG g) (y := b % NG g) (mod_rm g a) (mod_rm g b)) bd30 [] [] rfl (.cons rfl (.cons rfl .nil)) rfl (.cons rfl rfl (.cons rfl rfl .nil)) .nil rfl .nil frN (by decide) (.cons rfl rfl .nil) rfl rfl rfl rfl ?_
  refine AWo.callX (mod4_ctr (g := g) (x := a % NG g * (b % NG g)) (mul_rm (mod_lt12 (rn_g g) a) (mod_lt12 (rn_g g) b))) bd23 [] [] rfl (.cons rfl (.cons rfl .nil)) rfl (.cons rfl rfl (.cons rfl rfl .nil)) .nil rfl .nil frN (by decide) (.cons rfl rfl .nil) rfl rfl rfl rfl ?_
  refine AWo.callX (of4_ctr (mod_lt12 (rn_g g) _)) bd20 [] [] rfl (.cons rfl .nil) rfl (.cons rfl rfl .nil) .nil rfl .nil frN (by decide) (.pure (by first | rfl | exact pure_aggM flat_vi | exact pure_aggM flat_bool) .nil) rfl rfl rfl rfl ?_
  refine yP ((PureOp.eqArr rfl rfl Try.eqGuardType24 Try.underlying24 Try.underlying22 (tbok.sz 22 _ rfl) (by kernel_rfl) (digs_len _ _) (digs_len _ _)).mono (v' := .bool true) (congrArg Value.bool (decide_eq_true (congrArg (digs 18446744073709551616 12) (Nat.mul_mod a b (NG g)))))) ?_
  refine AWo.pure (PureOp.assign rfl) rfl rfl ?_
  refine AWo.nil trivial ?_
  refine AW.ret ?_
  refine RetQ.gc [_] [] [.tmp 6] (.inl rfl) rfl (.tmp rfl .nil) rfl (.cons rfl rfl .nil) trivial (by decide) rfl
end Go.Proofs.Ytpahdiljpnfkdaa
namespace Go.Proofs.Ytpahdiljpnfkdaa
open Go
namespace Head
set_option maxRecDepth 100000 in
theorem words : ∃ l, Try.prog.initOrder = String.ofList l ∧ (behindMainWord (wordsSigns l)).head? = some "cut".toList := ⟨_, rfl, by kernel_rfl⟩
theorem head_of {P : Program} (h : ∃ l, P.initOrder = String.ofList l ∧ (behindMainWord (wordsSigns l)).head? = some "cut".toList) :
    ∃ rest, behindMainWord (wordsSigns P.initOrder.toList) = "cut".toList :: rest := by
  obtain ⟨l, h, hh⟩ := h
  rw [h, String.toList_ofList]
  cases hb : behindMainWord (wordsSigns l) with
  | nil => rw [hb] at hh; cases hh
  | cons c r => rw [hb] at hh; simp only [List.head?_cons, Option.some.injEq] at hh; exact ⟨r, by rw [hh]⟩
theorem cut_words : (liftWords.all fun s => !("cut".toList == s.toList)) = true := by decide +kernel
theorem strip_cut (rest : List (List Char)) : stripLifts liftWords ("cut".toList :: rest) = ([], "cut".toList :: rest) := by
  have key : ∀ o : List String, (o.all fun s => !("cut".toList == s.toList)) = true → stripLifts o ("cut".toList :: rest) = ([], "cut".toList :: rest) := by
    intro o
    induction o with
    | nil => intro _; rfl
    | cons s o ih =>
      intro h
      simp only [List.all_cons, Bool.and_eq_true, Bool.not_eq_true'] at h
      rw [stripLifts, if_neg (by rw [h.1]; exact Bool.false_ne_true)]
      exact ih h.2
  exact key liftWords cut_words
theorem mayEnter_of {P : Program} {rest : List (List Char)} (hr : behindMainWord (wordsSigns P.initOrder.toList) = "cut".toList :: rest) (e1 : P.laysLater = false) (e2 : P.bearsReflect = false) (e3 : P.doorFits [] = true) : P.mayEnter = true := by
  unfold Program.mayEnter
  rw [hr]
  simp only [strip_cut, e1, e2, e3]
  simp
theorem headLifts_of {P : Program} {rest : List (List Char)} (hr : behindMainWord (wordsSigns P.initOrder.toList) = "cut".toList :: rest) : P.headLifts = [] := by
  unfold Program.headLifts
  rw [hr, strip_cut]
  simp
theorem cut_ne : ("cut".toList == "carried".toList) = false ∧ ("cut".toList == "gc".toList) = false ∧ ("cut".toList == "spec".toList) = false := by decide +kernel
theorem liftsFinal_of {P : Program} {rest : List (List Char)} (hr : behindMainWord (wordsSigns P.initOrder.toList) = "cut".toList :: rest) : P.liftsFinal = false := by
  unfold Program.liftsFinal
  rw [hr, headLifts_of hr]
  simp
theorem make_of {P : Program} {rest : List (List Char)} (hr : behindMainWord (wordsSigns P.initOrder.toList) = "cut".toList :: rest) : P.make = some .cut := by
  unfold Program.make
  rw [hr]
  simp only [cut_ne.2.1, cut_ne.2.2, beq_self_eq_true]
  simp
theorem laysLater : Try.prog.laysLater = false := by kernel_rfl
theorem bearsReflect : Try.prog.bearsReflect = false := by kernel_rfl
theorem doorFits : Try.prog.doorFits [] = true := by kernel_rfl
theorem mayEnter : Try.prog.mayEnter = true := let ⟨_, hr⟩ := head_of words; mayEnter_of hr laysLater bearsReflect doorFits
theorem liftsFinal : Try.prog.liftsFinal = false := let ⟨_, hr⟩ := head_of words; liftsFinal_of hr
theorem make_cut : Try.prog.make = some .cut := let ⟨_, hr⟩ := head_of words; make_of hr
theorem band {a b : Bool} (ha : a = true) (hb : b = true) : (a && b) = true := by rw [ha, hb]; rfl
end Head
end Go.Proofs.Ytpahdiljpnfkdaa
