/- What the proof stands on, part 4: the walk of each function, and plain laws of numbers. -/
import Derived.Test.YtpahdiljpnfkdaaK3
import Derived.KernelRfl
namespace Go.Proofs.Ytpahdiljpnfkdaa
open Go Sim
section
variable {P : Program} {T : Tab} (H : TabOk P T) {E : Env} {M : Mem} {n' i' : Nat} {ty : TypeId} {ps : String} {af : Array Edge} {g : Option (Nat × Bool)} {ops : Array Oper} {os : List Oper} {D : List Eff → Prop} {K : ASt → Prop}
include H
end
theorem cmp_eq {x y : Nat} : (cmpI x y == (0 : Int)) = decide (x = y) := by
  simp only [cmpI]
  rcases Nat.lt_trichotomy x y with h | h | h
  · rw [if_pos h, decide_eq_false (by omega)]; rfl
  · subst h; simp
  · rw [if_neg (by omega), if_pos h, decide_eq_false (by omega)]; rfl
set_option maxRecDepth 10000 in
theorem same02_ctr {x y : Nat} (hlx : (D 4294967296 x).length < 100000000) (hly : (D 4294967296 y).length < 100000000) : GC Try.prog 49 [.slice (some ⟨0, 0, none⟩) (D 4294967296 x).length 0, .slice (some ⟨1, 0, none⟩) (D 4294967296 y).length 0] [⟨(D 4294967296 x).map (vi .u64), false, 1⟩, ⟨(D 4294967296 y).map (vi .u64), false, 1⟩] [.bool (decide (x = y))] [⟨(D 4294967296 x).map (vi .u64), false, 1⟩, ⟨(D 4294967296 y).map (vi .u64), false, 1⟩] := by
 refine gi Try.func49 ?_
 refine zS ?_
 refine yA ?_
 refine zN (zS ?_)
 refine yM ?_
 refine yM ?_
 refine yC (cmpD_ctr (x := x) (y := y) hlx hly) bd97 [(0, 0), (1, 0)] [] ?_
 refine yP ((PureOp.bin rfl rfl rfl).mono (v' := .bool (decide (x = y))) (congrArg Value.bool cmp_eq)) ?_
 refine yA ?_
 refine zN (zE ?_)
 exact rq [] [.tmp 4]
end Go.Proofs.Ytpahdiljpnfkdaa
namespace Go.Proofs.Ytpahdiljpnfkdaa
open Go Sim
def pw : List Nat := digs 18446744073709551616 4 21888242871839275222246405745257275088548364400416034343698204186575808495617
end Go.Proofs.Ytpahdiljpnfkdaa
namespace Go.Proofs.Ytpahdiljpnfkdaa
open Go Sim
def PG : Nat := 1552518092300708935130918131258481755631334049434514313202351194902966239949102107258669453876591642442910007680288864229150803718918046342632727613031282983744380820890196288509170691316593175367469551763119843371637221007210577919
def QG : Nat := 776259046150354467565459065629240877815667024717257156601175597451483119974551053629334726938295821221455003840144432114575401859459023171316363806515641491872190410445098144254585345658296587683734775881559921685818610503605288959
def RR2 (N : Nat) : Nat := 18446744073709551616 ^ 12 * 18446744073709551616 ^ 12 % N
structure RN (N : Nat) : Prop where
  lt : N < 18446744073709551616 ^ 12
  odd : N % 2 = 1
  top : (digs 18446744073709551616 12 N).getD 11 0 ≠ 0
theorem rn_p : RN PG := ⟨by decide +kernel, by decide +kernel, by decide +kernel⟩
theorem rn_q : RN QG := ⟨by decide +kernel, by decide +kernel, by decide +kernel⟩
theorem rn_num {N : Nat} (h : RN N) : num 18446744073709551616 (digs 18446744073709551616 12 N) = N := num_digs_lt h.lt
theorem rn_pos {N : Nat} (h : RN N) : 0 < N := by have := h.odd; omega
theorem rn_mw {N : Nat} (h : RN N) : MwOk (digs 18446744073709551616 12 N) := ⟨digs_bd (by decide) _ _, by rw [digs_len]; decide, by rw [digs_len]; decide, by rw [(rn_num h)]; exact (rn_pos h)⟩
theorem rn_low {N : Nat} (h : RN N) : (digs 18446744073709551616 12 N).getD 0 0 % 2 = 1 := by
  have e : (digs 18446744073709551616 12 N).getD 0 0 = N % 18446744073709551616 := rfl
  rw [e]; have := h.odd; omega
theorem rn_iv {N : Nat} (h : RN N) : (num 18446744073709551616 (digs 18446744073709551616 12 N) * ninvR ((digs 18446744073709551616 12 N).getD 0 0) + 1) % 18446744073709551616 = 0 := ninvR_ok (digs_bd (by decide) _ _) (rn_low h)
theorem rn_one {N : Nat} (h : RN N) : 1 < num 18446744073709551616 (digs 18446744073709551616 12 N) := right_gt (digs_bd (by decide) _ _) (by rw [digs_len]; decide) (by rw [digs_len]; exact h.top) (by rw [digs_len]; exact fun h => absurd h.1 (by decide))
theorem ld12 {l : List Nat} (h : l.length = 12) : ((l.map (vi .u64)).drop 0).take 12 = l.map (vi .u64) := List.take_of_length_le (by simp [h])
theorem ld96 {l : List Nat} (h : l.length = 96) : ((l.map (vi .u8)).drop 0).take 96 = l.map (vi .u8) := List.take_of_length_le (by simp [h])
theorem w96 : 256 ^ 96 = 18446744073709551616 ^ 12 := by kernel_rfl
theorem newN_ctr {N : Nat} (hN : RN N) : GC Try.prog 109 [.slice (some ⟨0, 0, none⟩) 12 0] [⟨(digs 18446744073709551616 12 N).map (vi .u64), false, 1⟩] [.pointer (some ⟨1, 0, none⟩), .int .i64 0] [⟨(digs 18446744073709551616 12 N).map (vi .u64), false, 1⟩, ⟨[.slice (some ⟨2, 0, none⟩) 12 0, vi .u64 (ninvR ((digs 18446744073709551616 12 N).getD 0 0)), .slice (some ⟨3, 0, none⟩) 12 0], true, 1⟩, ⟨((digs 18446744073709551616 12 N)).map (vi .u64), true, 1⟩, ⟨((digs 18446744073709551616 12 (RR2 N))).map (vi .u64), true, 1⟩] := by
  have h := lnew_ctr (mw := digs 18446744073709551616 12 N) (digs_bd (by decide) _ _) (by rw [digs_len]; decide) (by rw [digs_len]; decide) (rn_low hN) (by rw [digs_len]; exact hN.top) (by rw [digs_len]; exact fun h => absurd h.1 (by decide))
  simp only [digs_len, (rn_num hN)] at h
  exact h
theorem maddN_ctr {N a b : Nat} (hN : RN N) (ha : a < 18446744073709551616 ^ 12) (hb : b < 18446744073709551616 ^ 12) : GC Try.prog 87 [.pointer (some ⟨0, 0, none⟩), .slice (some ⟨3, 0, none⟩) 12 0, .slice (some ⟨4, 0, none⟩) 12 0] [⟨[.slice (some ⟨1, 0, none⟩) 12 0, vi .u64 (ninvR ((digs 18446744073709551616 12 N).getD 0 0)), .slice (some ⟨2, 0, none⟩) 12 0], false, 1⟩, ⟨((digs 18446744073709551616 12 N)).map (vi .u64), false, 1⟩, ⟨((digs 18446744073709551616 12 (RR2 N))).map (vi .u64), false, 1⟩, ⟨(digs 18446744073709551616 12 a).map (vi .u64), false, 1⟩, ⟨(digs 18446744073709551616 12 b).map (vi .u64), false, 1⟩] [.slice (some ⟨5, 0, none⟩) 12 0] [⟨[.slice (some ⟨1, 0, none⟩) 12 0, vi .u64 (ninvR ((digs 18446744073709551616 12 N).getD 0 0)), .slice (some ⟨2, 0, none⟩) 12 0], false, 1⟩, ⟨((digs 18446744073709551616 12 N)).map (vi .u64), false, 1⟩, ⟨((digs 18446744073709551616 12 (RR2 N))).map (vi .u64), false, 1⟩, ⟨(digs 18446744073709551616 12 a).map (vi .u64), false, 1⟩, ⟨(digs 18446744073709551616 12 b).map (vi .u64), false, 1⟩, ⟨(digs 18446744073709551616 12 ((a % N + b % N) % N)).map (vi .u64), true, 1⟩] := by
  have h := madd_ctr (sq := digs 18446744073709551616 12 (RR2 N)) (iv := ninvR ((digs 18446744073709551616 12 N).getD 0 0)) (ns := 12) (rn_mw hN) (a := digs 18446744073709551616 12 a) (b := digs 18446744073709551616 12 b) (digs_bd (by decide) _ _) (digs_bd (by decide) _ _) (by rw [digs_len]; decide) (by rw [digs_len]; decide)
  simp only [digs_len, (rn_num hN), num_digs_lt ha, num_digs_lt hb] at h
  exact h
theorem mmulN_ctr {N a b : Nat} (hN : RN N) (ha : a < 18446744073709551616 ^ 12) (hb : b < 18446744073709551616 ^ 12) : GC Try.prog 92 [.pointer (some ⟨0, 0, none⟩), .slice (some ⟨3, 0, none⟩) 12 0, .slice (some ⟨4, 0, none⟩) 12 0] [⟨[.slice (some ⟨1, 0, none⟩) 12 0, vi .u64 (ninvR ((digs 18446744073709551616 12 N).getD 0 0)), .slice (some ⟨2, 0, none⟩) 12 0], false, 1⟩, ⟨((digs 18446744073709551616 12 N)).map (vi .u64), false, 1⟩, ⟨((digs 18446744073709551616 12 (RR2 N))).map (vi .u64), false, 1⟩, ⟨(digs 18446744073709551616 12 a).map (vi .u64), false, 1⟩, ⟨(digs 18446744073709551616 12 b).map (vi .u64), false, 1⟩] [.slice (some ⟨5, 0, none⟩) 12 0] [⟨[.slice (some ⟨1, 0, none⟩) 12 0, vi .u64 (ninvR ((digs 18446744073709551616 12 N).getD 0 0)), .slice (some ⟨2, 0, none⟩) 12 0], false, 1⟩, ⟨((digs 18446744073709551616 12 N)).map (vi .u64), false, 1⟩, ⟨((digs 18446744073709551616 12 (RR2 N))).map (vi .u64), false, 1⟩, ⟨(digs 18446744073709551616 12 a).map (vi .u64), false, 1⟩, ⟨(digs 18446744073709551616 12 b).map (vi .u64), false, 1⟩, ⟨(digs 18446744073709551616 12 (a * b % N)).map (vi .u64), true, 1⟩] := by
  have h := mmul_ctr (rn_mw hN) (a := digs 18446744073709551616 12 a) (b := digs 18446744073709551616 12 b) (digs_bd (by decide) _ _) (digs_bd (by decide) _ _) (by rw [digs_len]; decide) (by rw [digs_len]; decide) (rn_iv hN)
  simp only [digs_len, (rn_num hN), num_digs_lt ha, num_digs_lt hb] at h
  exact h
theorem mexpN_ctr {N a b : Nat} (hN : RN N) (ha : a < 18446744073709551616 ^ 12) (hb : b < 18446744073709551616 ^ 12) : GC Try.prog 82 [.pointer (some ⟨0, 0, none⟩), .slice (some ⟨3, 0, none⟩) 12 0, .slice (some ⟨4, 0, none⟩) 12 0] [⟨[.slice (some ⟨1, 0, none⟩) 12 0, vi .u64 (ninvR ((digs 18446744073709551616 12 N).getD 0 0)), .slice (some ⟨2, 0, none⟩) 12 0], false, 1⟩, ⟨((digs 18446744073709551616 12 N)).map (vi .u64), false, 1⟩, ⟨((digs 18446744073709551616 12 (RR2 N))).map (vi .u64), false, 1⟩, ⟨(digs 18446744073709551616 12 a).map (vi .u64), false, 1⟩, ⟨(digs 18446744073709551616 12 b).map (vi .u64), false, 1⟩] [.slice (some ⟨5, 0, none⟩) 12 0] [⟨[.slice (some ⟨1, 0, none⟩) 12 0, vi .u64 (ninvR ((digs 18446744073709551616 12 N).getD 0 0)), .slice (some ⟨2, 0, none⟩) 12 0], false, 1⟩, ⟨((digs 18446744073709551616 12 N)).map (vi .u64), false, 1⟩, ⟨((digs 18446744073709551616 12 (RR2 N))).map (vi .u64), false, 1⟩, ⟨(digs 18446744073709551616 12 a).map (vi .u64), false, 1⟩, ⟨(digs 18446744073709551616 12 b).map (vi .u64), false, 1⟩, ⟨(digs 18446744073709551616 12 (a ^ b % N)).map (vi .u64), true, 1⟩] := by
  have h := mexp_ctr (rn_mw hN) (a := digs 18446744073709551616 12 a) (b := digs 18446744073709551616 12 b) (digs_bd (by decide) _ _) (digs_bd (by decide) _ _) (by rw [digs_len]; decide) (by rw [digs_len]; decide) (rn_iv hN) (rn_one hN)
  simp only [digs_len, (rn_num hN), num_digs_lt ha, num_digs_lt hb] at h
  exact h
theorem mwordsN_ctr {N : Nat} (hN : RN N) : GC Try.prog 93 [.pointer (some ⟨0, 0, none⟩)] [⟨[.slice (some ⟨1, 0, none⟩) 12 0, vi .u64 (ninvR ((digs 18446744073709551616 12 N).getD 0 0)), .slice (some ⟨2, 0, none⟩) 12 0], false, 1⟩, ⟨((digs 18446744073709551616 12 N)).map (vi .u64), false, 1⟩, ⟨((digs 18446744073709551616 12 (RR2 N))).map (vi .u64), false, 1⟩] [.slice (some ⟨3, 0, none⟩) 12 0] [⟨[.slice (some ⟨1, 0, none⟩) 12 0, vi .u64 (ninvR ((digs 18446744073709551616 12 N).getD 0 0)), .slice (some ⟨2, 0, none⟩) 12 0], false, 1⟩, ⟨((digs 18446744073709551616 12 N)).map (vi .u64), false, 1⟩, ⟨((digs 18446744073709551616 12 (RR2 N))).map (vi .u64), false, 1⟩, ⟨(digs 18446744073709551616 12 N).map (vi .u64), true, 1⟩] := by
  have h := mwords_ctr (mw := digs 18446744073709551616 12 N) (sq := digs 18446744073709551616 12 (RR2 N)) (iv := ninvR ((digs 18446744073709551616 12 N).getD 0 0)) (ns := 12) (by rw [digs_len]; decide) (by rw [digs_len]; decide)
  simp only [digs_len, (rn_num hN)] at h
  exact h
theorem lb12_ctr {a : Nat} (ha : a < 18446744073709551616 ^ 12) : GC Try.prog 98 [.slice (some ⟨0, 0, none⟩) 12 0] [⟨(digs 18446744073709551616 12 a).map (vi .u64), false, 1⟩] [.slice (some ⟨1, 0, none⟩) 96 0] [⟨(digs 18446744073709551616 12 a).map (vi .u64), false, 1⟩, ⟨(digs 256 96 a).map (vi .u8), true, 1⟩] := by
  have h := lbytes_ctr (a := digs 18446744073709551616 12 a) (digs_bd (by decide) _ _) (by rw [digs_len]; decide)
  simp only [digs_len, num_digs_lt ha] at h
  exact h
theorem lw96_ctr {b : List Nat} (hb : bd 256 b) (hl : b.length = 96) : GC Try.prog 95 [.slice (some ⟨0, 0, none⟩) b.length 0] [⟨b.map (vi .u8), false, 1⟩] [.slice (some ⟨1, 0, none⟩) 12 0] [⟨b.map (vi .u8), false, 1⟩, ⟨(digs 18446744073709551616 12 (num 256 b)).map (vi .u64), true, 1⟩] := by
  have h := lwords_ctr hb (by omega)
  rw [hl] at h ⊢
  exact h
theorem cmp_lt {x y : Nat} (h : x < y) : decide (cmpI x y ≥ 0) = false := decide_eq_false (by unfold cmpI; split <;> (try split) <;> omega)
theorem ofA_ctr {N a b : Nat} (hN : RN N) (ha : a < 18446744073709551616 ^ 12) (hb : b < 18446744073709551616 ^ 12) : GC Try.prog 81 [.func (.func 87) #[.pointer (some ⟨0, 0, none⟩)] #[], .agg ((digs 18446744073709551616 12 a).map (vi .u64)).toArray, .agg ((digs 18446744073709551616 12 b).map (vi .u64)).toArray] [⟨[.slice (some ⟨1, 0, none⟩) 12 0, vi .u64 (ninvR ((digs 18446744073709551616 12 N).getD 0 0)), .slice (some ⟨2, 0, none⟩) 12 0], false, 1⟩, ⟨((digs 18446744073709551616 12 N)).map (vi .u64), false, 1⟩, ⟨((digs 18446744073709551616 12 (RR2 N))).map (vi .u64), false, 1⟩] [.agg ((digs 18446744073709551616 12 ((a % N + b % N) % N)).map (vi .u64)).toArray] [⟨[.slice (some ⟨1, 0, none⟩) 12 0, vi .u64 (ninvR ((digs 18446744073709551616 12 N).getD 0 0)), .slice (some ⟨2, 0, none⟩) 12 0], false, 1⟩, ⟨((digs 18446744073709551616 12 N)).map (vi .u64), false, 1⟩, ⟨((digs 18446744073709551616 12 (RR2 N))).map (vi .u64), false, 1⟩] := by
  refine GC.intro Try.func81 rfl (by show 3 ≤ 13; decide) (by first | exact Nat.le_refl _ | decide | simp) ?_
  refine AW.seqR ?_
  refine AWo.box 5000 1 _ rfl rfl rfl rfl rfl ?_
  refine AWo.box 6000 1 _ rfl rfl rfl rfl rfl ?_
  refine AWo.alloc tbok 7000 1 ((List.replicate 12 0).map (vi .u64)) rfl rfl rfl rfl rfl rfl ?_
  refine AWo.nil trivial ?_
  refine AW.seqD mixed ?_
  refine AWo.pure (PureOp.move rfl) rfl rfl ?_
  refine AWo.sliceA tbok (h := 12) rfl .none .none rfl rfl rfl rfl (by decide) (by decide) (.inl rfl) (by show 12 ≤ ((digs 18446744073709551616 12 (a)).map (vi .u64)).length; rw [List.length_map, digs_len]; decide) rfl rfl rfl ?_
  refine AWo.sliceA tbok (h := 12) rfl .none .none rfl rfl rfl rfl (by decide) (by decide) (.inl rfl) (by show 12 ≤ ((digs 18446744073709551616 12 (b)).map (vi .u64)).length; rw [List.length_map, digs_len]; decide) rfl rfl rfl ?_
  refine AWo.callX (maddN_ctr (a := a) (b := b) hN ha hb) bd87 [(0, 0), (1, 0), (2, 0), (5000, 0), (6000, 0)] [11000] rfl (.cons rfl (.cons rfl .nil)) rfl (.cons rfl rfl (.cons rfl rfl (.cons rfl rfl .nil))) (.whole rfl rfl (OkL.all rfl) (by intro h; first | exact h | rfl) (.flat rfl (flatM flat_vi) (by intro h; first | exact h | rfl) (.flat rfl (flatM flat_vi) (by intro h; first | exact h | rfl) (.flat rfl (by first | exact flatM flat_vi | exact flatM flat_bool | (simp [flatV, flat_vi]; done)) (by intro h; first | exact h | rfl) (.flat rfl (by first | exact flatM flat_vi | exact flatM flat_bool | (simp [flatV, flat_vi]; done)) (by intro h; first | exact h | rfl) .nil))))) rfl (.keep rfl (.keep rfl (.keep rfl (.keep rfl (.keep rfl (.new (flat_map_ren (by first | exact flatM flat_vi | exact flatM flat_bool | (simp [flatV, flat_vi]; done))) (OkL.flat (by first | exact flatM flat_vi | exact flatM flat_bool | (simp [flatV, flat_vi]; done))) .nil)))))) (frC rfl frN) (by decide) (.cons rfl rfl .nil) rfl rfl rfl rfl ?_
  refine AWo.pure (PureOp.toArrT tbok rfl rfl (by decide) (by decide)) rfl rfl ?_
  refine AWo.loadAgg tbok (vs := (digs 18446744073709551616 12 ((a % N + b % N) % N)).map (vi .u64)) rfl rfl rfl rfl (by show 0 + 12 ≤ _; simp [digs_len]) (ld12 (digs_len _ _)) rfl rfl ?_
  refine AWo.storeAllN tbok rfl rfl rfl rfl (by rw [List.length_map, digs_len]) (by first | rfl | (simp [digs_len]; done)) (oneM (fun _ => rfl) _) rfl ?_
  refine AWo.nil (by kernel_rfl) ?_
  refine AW.ret ?_
  refine RetQ.gc [_] [] [.cell 6 24] (.inl rfl) rfl (.val (RVal.cellAll tbok rfl rfl rfl rfl (by first | (simp [*]; done) | rfl)) .nil) rfl (.pure (by first | rfl | exact pure_aggM flat_vi | exact pure_aggM flat_bool) .nil) (OutL.whole rfl rfl (OkL.all rfl) (by intro h; first | rfl | exact h.elim id fun h => absurd h.1 (by simp)) (OutL.flat rfl (flatM flat_vi) (by intro h; first | rfl | exact h.elim id fun h => absurd h.1 (by simp)) (OutL.flat rfl (flatM flat_vi) (by intro h; first | rfl | exact h.elim id fun h => absurd h.1 (by simp)) trivial))) (by decide) rfl
theorem ofM_ctr {N a b : Nat} (hN : RN N) (ha : a < 18446744073709551616 ^ 12) (hb : b < 18446744073709551616 ^ 12) : GC Try.prog 81 [.func (.func 92) #[.pointer (some ⟨0, 0, none⟩)] #[], .agg ((digs 18446744073709551616 12 a).map (vi .u64)).toArray, .agg ((digs 18446744073709551616 12 b).map (vi .u64)).toArray] [⟨[.slice (some ⟨1, 0, none⟩) 12 0, vi .u64 (ninvR ((digs 18446744073709551616 12 N).getD 0 0)), .slice (some ⟨2, 0, none⟩) 12 0], false, 1⟩, ⟨((digs 18446744073709551616 12 N)).map (vi .u64), false, 1⟩, ⟨((digs 18446744073709551616 12 (RR2 N))).map (vi .u64), false, 1⟩] [.agg ((digs 18446744073709551616 12 (a * b % N)).map (vi .u64)).toArray] [⟨[.slice (some ⟨1, 0, none⟩) 12 0, vi .u64 (ninvR ((digs 18446744073709551616 12 N).getD 0 0)), .slice (some ⟨2, 0, none⟩) 12 0], false, 1⟩, ⟨((digs 18446744073709551616 12 N)).map (vi .u64), false, 1⟩, ⟨((digs 18446744073709551616 12 (RR2 N))).map (vi .u64), false, 1⟩] := by
  refine GC.intro Try.func81 rfl (by show 3 ≤ 13; decide) (by first | exact Nat.le_refl _ | decide | simp) ?_
  refine AW.seqR ?_
  refine AWo.box 5000 1 _ rfl rfl rfl rfl rfl ?_
  refine AWo.box 6000 1 _ rfl rfl rfl rfl rfl ?_
  refine AWo.alloc tbok 7000 1 ((List.replicate 12 0).map (vi .u64)) rfl rfl rfl rfl rfl rfl ?_
  refine AWo.nil trivial ?_
  refine AW.seqD mixed ?_
  refine AWo.pure (PureOp.move rfl) rfl rfl ?_
  refine AWo.sliceA tbok (h := 12) rfl .none .none rfl rfl rfl rfl (by decide) (by decide) (.inl rfl) (by show 12 ≤ ((digs 18446744073709551616 12 (a)).map (vi .u64)).length; rw [List.length_map, digs_len]; decide) rfl rfl rfl ?_
  refine AWo.sliceA tbok (h := 12) rfl .none .none rfl rfl rfl rfl (by decide) (by decide) (.inl rfl) (by show 12 ≤ ((digs 18446744073709551616 12 (b)).map (vi .u64)).length; rw [List.length_map, digs_len]; decide) rfl rfl rfl ?_
  refine AWo.callX (mmulN_ctr (a := a) (b := b) hN ha hb) bd92 [(0, 0), (1, 0), (2, 0), (5000, 0), (6000, 0)] [11000] rfl (.cons rfl (.cons rfl .nil)) rfl (.cons rfl rfl (.cons rfl rfl (.cons rfl rfl .nil))) (.whole rfl rfl (OkL.all rfl) (by intro h; first | exact h | rfl) (.flat rfl (flatM flat_vi) (by intro h; first | exact h | rfl) (.flat rfl (flatM flat_vi) (by intro h; first | exact h | rfl) (.flat rfl (by first | exact flatM flat_vi | exact flatM flat_bool | (simp [flatV, flat_vi]; done)) (by intro h; first | exact h | rfl) (.flat rfl (by first | exact flatM flat_vi | exact flatM flat_bool | (simp [flatV, flat_vi]; done)) (by intro h; first | exact h | rfl) .nil))))) rfl (.keep rfl (.keep rfl (.keep rfl (.keep rfl (.keep rfl (.new (flat_map_ren (by first | exact flatM flat_vi | exact flatM flat_bool | (simp [flatV, flat_vi]; done))) (OkL.flat (by first | exact flatM flat_vi | exact flatM flat_bool | (simp [flatV, flat_vi]; done))) .nil)))))) (frC rfl frN) (by decide) (.cons rfl rfl .nil) rfl rfl rfl rfl ?_
  refine AWo.pure (PureOp.toArrT tbok rfl rfl (by decide) (by decide)) rfl rfl ?_
  refine AWo.loadAgg tbok (vs := (digs 18446744073709551616 12 (a * b % N)).map (vi .u64)) rfl rfl rfl rfl (by show 0 + 12 ≤ _; simp [digs_len]) (ld12 (digs_len _ _)) rfl rfl ?_
  refine AWo.storeAllN tbok rfl rfl rfl rfl (by rw [List.length_map, digs_len]) (by first | rfl | (simp [digs_len]; done)) (oneM (fun _ => rfl) _) rfl ?_
  refine AWo.nil (by kernel_rfl) ?_
  refine AW.ret ?_
  refine RetQ.gc [_] [] [.cell 6 24] (.inl rfl) rfl (.val (RVal.cellAll tbok rfl rfl rfl rfl (by first | (simp [*]; done) | rfl)) .nil) rfl (.pure (by first | rfl | exact pure_aggM flat_vi | exact pure_aggM flat_bool) .nil) (OutL.whole rfl rfl (OkL.all rfl) (by intro h; first | rfl | exact h.elim id fun h => absurd h.1 (by simp)) (OutL.flat rfl (flatM flat_vi) (by intro h; first | rfl | exact h.elim id fun h => absurd h.1 (by simp)) (OutL.flat rfl (flatM flat_vi) (by intro h; first | rfl | exact h.elim id fun h => absurd h.1 (by simp)) trivial))) (by decide) rfl
theorem ofE_ctr {N a b : Nat} (hN : RN N) (ha : a < 18446744073709551616 ^ 12) (hb : b < 18446744073709551616 ^ 12) : GC Try.prog 81 [.func (.func 82) #[.pointer (some ⟨0, 0, none⟩)] #[], .agg ((digs 18446744073709551616 12 a).map (vi .u64)).toArray, .agg ((digs 18446744073709551616 12 b).map (vi .u64)).toArray] [⟨[.slice (some ⟨1, 0, none⟩) 12 0, vi .u64 (ninvR ((digs 18446744073709551616 12 N).getD 0 0)), .slice (some ⟨2, 0, none⟩) 12 0], false, 1⟩, ⟨((digs 18446744073709551616 12 N)).map (vi .u64), false, 1⟩, ⟨((digs 18446744073709551616 12 (RR2 N))).map (vi .u64), false, 1⟩] [.agg ((digs 18446744073709551616 12 (a ^ b % N)).map (vi .u64)).toArray] [⟨[.slice (some ⟨1, 0, none⟩) 12 0, vi .u64 (ninvR ((digs 18446744073709551616 12 N).getD 0 0)), .slice (some ⟨2, 0, none⟩) 12 0], false, 1⟩, ⟨((digs 18446744073709551616 12 N)).map (vi .u64), false, 1⟩, ⟨((digs 18446744073709551616 12 (RR2 N))).map (vi .u64), false, 1⟩] := by
  refine GC.intro Try.func81 rfl (by show 3 ≤ 13; decide) (by first | exact Nat.le_refl _ | decide | simp) ?_
  refine AW.seqR ?_
  refine AWo.box 5000 1 _ rfl rfl rfl rfl rfl ?_
  refine AWo.box 6000 1 _ rfl rfl rfl rfl rfl ?_
  refine AWo.alloc tbok 7000 1 ((List.replicate 12 0).map (vi .u64)) rfl rfl rfl rfl rfl rfl ?_
  refine AWo.nil trivial ?_
  refine AW.seqD mixed ?_
  refine AWo.pure (PureOp.move rfl) rfl rfl ?_
  refine AWo.sliceA tbok (h := 12) rfl .none .none rfl rfl rfl rfl (by decide) (by decide) (.inl rfl) (by show 12 ≤ ((digs 18446744073709551616 12 (a)).map (vi .u64)).length; rw [List.length_map, digs_len]; decide) rfl rfl rfl ?_
  refine AWo.sliceA tbok (h := 12) rfl .none .none rfl rfl rfl rfl (by decide) (by decide) (.inl rfl) (by show 12 ≤ ((digs 18446744073709551616 12 (b)).map (vi .u64)).length; rw [List.length_map, digs_len]; decide) rfl rfl rfl ?_
  refine AWo.callX (mexpN_ctr (a := a) (b := b) hN ha hb) bd82 [(0, 0), (1, 0), (2, 0), (5000, 0), (6000, 0)] [11000] rfl (.cons rfl (.cons rfl .nil)) rfl (.cons rfl rfl (.cons rfl rfl (.cons rfl rfl .nil))) (.whole rfl rfl (OkL.all rfl) (by intro h; first | exact h | rfl) (.flat rfl (flatM flat_vi) (by intro h; first | exact h | rfl) (.flat rfl (flatM flat_vi) (by intro h; first | exact h | rfl) (.flat rfl (by first | exact flatM flat_vi | exact flatM flat_bool | (simp [flatV, flat_vi]; done)) (by intro h; first | exact h | rfl) (.flat rfl (by first | exact flatM flat_vi | exact flatM flat_bool | (simp [flatV, flat_vi]; done)) (by intro h; first | exact h | rfl) .nil))))) rfl (.keep rfl (.keep rfl (.keep rfl (.keep rfl (.keep rfl (.new (flat_map_ren (by first | exact flatM flat_vi | exact flatM flat_bool | (simp [flatV, flat_vi]; done))) (OkL.flat (by first | exact flatM flat_vi | exact flatM flat_bool | (simp [flatV, flat_vi]; done))) .nil)))))) (frC rfl frN) (by decide) (.cons rfl rfl .nil) rfl rfl rfl rfl ?_
  refine AWo.pure (PureOp.toArrT tbok rfl rfl (by decide) (by decide)) rfl rfl ?_
  refine AWo.loadAgg tbok (vs := (digs 18446744073709551616 12 (a ^ b % N)).map (vi .u64)) rfl rfl rfl rfl (by show 0 + 12 ≤ _; simp [digs_len]) (ld12 (digs_len _ _)) rfl rfl ?_
  refine AWo.storeAllN tbok rfl rfl rfl rfl (by rw [List.length_map, digs_len]) (by first | rfl | (simp [digs_len]; done)) (oneM (fun _ => rfl) _) rfl ?_
  refine AWo.nil (by kernel_rfl) ?_
  refine AW.ret ?_
  refine RetQ.gc [_] [] [.cell 6 24] (.inl rfl) rfl (.val (RVal.cellAll tbok rfl rfl rfl rfl (by first | (simp [*]; done) | rfl)) .nil) rfl (.pure (by first | rfl | exact pure_aggM flat_vi | exact pure_aggM flat_bool) .nil) (OutL.whole rfl rfl (OkL.all rfl) (by intro h; first | rfl | exact h.elim id fun h => absurd h.1 (by simp)) (OutL.flat rfl (flatM flat_vi) (by intro h; first | rfl | exact h.elim id fun h => absurd h.1 (by simp)) (OutL.flat rfl (flatM flat_vi) (by intro h; first | rfl | exact h.elim id fun h => absurd h.1 (by simp)) trivial))) (by decide) rfl
theorem addW_ctr {N a b : Nat} (hN : RN N) (ha : a < 18446744073709551616 ^ 12) (hb : b < 18446744073709551616 ^ 12) : GC Try.prog 24 [.pointer (some ⟨0, 0, none⟩), .agg ((digs 18446744073709551616 12 a).map (vi .u64)).toArray, .agg ((digs 18446744073709551616 12 b).map (vi .u64)).toArray] [⟨[.pointer (some ⟨1, 0, none⟩)], false, 1⟩, ⟨[.slice (some ⟨2, 0, none⟩) 12 0, vi .u64 (ninvR ((digs 18446744073709551616 12 N).getD 0 0)), .slice (some ⟨3, 0, none⟩) 12 0], false, 1⟩, ⟨((digs 18446744073709551616 12 N)).map (vi .u64), false, 1⟩, ⟨((digs 18446744073709551616 12 (RR2 N))).map (vi .u64), false, 1⟩] [.agg ((digs 18446744073709551616 12 ((a % N + b % N) % N)).map (vi .u64)).toArray] [⟨[.pointer (some ⟨1, 0, none⟩)], false, 1⟩, ⟨[.slice (some ⟨2, 0, none⟩) 12 0, vi .u64 (ninvR ((digs 18446744073709551616 12 N).getD 0 0)), .slice (some ⟨3, 0, none⟩) 12 0], false, 1⟩, ⟨((digs 18446744073709551616 12 N)).map (vi .u64), false, 1⟩, ⟨((digs 18446744073709551616 12 (RR2 N))).map (vi .u64), false, 1⟩] := by
  refine GC.intro Try.func24 rfl (by show 3 ≤ 15; decide) (by first | exact Nat.le_refl _ | decide | simp) ?_
  refine AW.seqR ?_
  refine AWo.box 5000 1 _ rfl rfl rfl rfl rfl ?_
  refine AWo.box 6000 1 _ rfl rfl rfl rfl rfl ?_
  refine AWo.alloc tbok 7000 1 ((List.replicate 12 0).map (vi .u64)) rfl rfl rfl rfl rfl rfl ?_
  refine AWo.nil trivial ?_
  refine AW.seqD mixed ?_
  refine AWo.pure (PureOp.move rfl) rfl rfl ?_
  refine AWo.pure (PureOp.nilCheck rfl) rfl rfl ?_
  refine AWo.pure (PureOp.fld tbok rfl rfl rfl (by decide)) rfl rfl ?_
  refine AWo.load tbok rfl rfl rfl rfl rfl rfl ?_
  refine yP (PureOp.makeFunc (xs := #[.pointer (some ⟨1, 0, none⟩)]) (ys := #[]) rfl (by apply Array.ext'; rw [Array.toList_map, Array.toList_map]; rfl) (by apply Array.ext'; rw [Array.toList_map, Array.toList_map]; rfl)) ?_
  refine AWo.loadAll tbok rfl rfl rfl rfl (by show ((digs 18446744073709551616 12 a).map (vi .u64)).length = 12; rw [List.length_map, digs_len]) rfl rfl ?_
  refine AWo.loadAll tbok rfl rfl rfl rfl (by show ((digs 18446744073709551616 12 b).map (vi .u64)).length = 12; rw [List.length_map, digs_len]) rfl rfl ?_
  refine AWo.callX (ofA_ctr (a := a) (b := b) hN ha hb) bd81 [(1, 0), (2, 0), (3, 0)] [] rfl (.cons rfl (.cons rfl (.cons rfl .nil))) rfl (.cons rfl rfl (.pure (by first | rfl | exact pure_aggM flat_vi | exact pure_aggM flat_bool) (.pure (by first | rfl | exact pure_aggM flat_vi | exact pure_aggM flat_bool) .nil))) (.whole rfl rfl (OkL.all rfl) (by intro h; first | exact h | rfl) (.flat rfl (flatM flat_vi) (by intro h; first | exact h | rfl) (.flat rfl (flatM flat_vi) (by intro h; first | exact h | rfl) .nil))) rfl (.keep rfl (.keep rfl (.keep rfl .nil))) frN (by decide) (.pure (by first | rfl | exact pure_aggM flat_vi | exact pure_aggM flat_bool) .nil) rfl rfl rfl rfl ?_
  refine AWo.storeAllN tbok rfl rfl rfl rfl (by rw [List.length_map, digs_len]) (by first | rfl | (simp [digs_len]; done)) (oneM (fun _ => rfl) _) rfl ?_
  refine AWo.nil (by kernel_rfl) ?_
  refine AW.ret ?_
  refine RetQ.gc [_] [] [.cell 6 24] (.inl rfl) rfl (.val (RVal.cellAll tbok rfl rfl rfl rfl (by first | (simp [*]; done) | rfl)) .nil) rfl (.pure (by first | rfl | exact pure_aggM flat_vi | exact pure_aggM flat_bool) .nil) (OutL.whole rfl rfl (OkL.all rfl) (by intro h; first | rfl | exact h.elim id fun h => absurd h.1 (by simp)) (OutL.whole rfl rfl (OkL.all rfl) (by intro h; first | rfl | exact h.elim id fun h => absurd h.1 (by simp)) (OutL.flat rfl (flatM flat_vi) (by intro h; first | rfl | exact h.elim id fun h => absurd h.1 (by simp)) (OutL.flat rfl (flatM flat_vi) (by intro h; first | rfl | exact h.elim id fun h => absurd h.1 (by simp)) trivial)))) (by decide) rfl
theorem mulW_ctr {N a b : Nat} (hN : RN N) (ha : a < 18446744073709551616 ^ 12) (hb : b < 18446744073709551616 ^ 12) : GC Try.prog 29 [.pointer (some ⟨0, 0, none⟩), .agg ((digs 18446744073709551616 12 a).map (vi .u64)).toArray, .agg ((digs 18446744073709551616 12 b).map (vi .u64)).toArray] [⟨[.pointer (some ⟨1, 0, none⟩)], false, 1⟩, ⟨[.slice (some ⟨2, 0, none⟩) 12 0, vi .u64 (ninvR ((digs 18446744073709551616 12 N).getD 0 0)), .slice (some ⟨3, 0, none⟩) 12 0], false, 1⟩, ⟨((digs 18446744073709551616 12 N)).map (vi .u64), false, 1⟩, ⟨((digs 18446744073709551616 12 (RR2 N))).map (vi .u64), false, 1⟩] [.agg ((digs 18446744073709551616 12 (a * b % N)).map (vi .u64)).toArray] [⟨[.pointer (some ⟨1, 0, none⟩)], false, 1⟩, ⟨[.slice (some ⟨2, 0, none⟩) 12 0, vi .u64 (ninvR ((digs 18446744073709551616 12 N).getD 0 0)), .slice (some ⟨3, 0, none⟩) 12 0], false, 1⟩, ⟨((digs 18446744073709551616 12 N)).map (vi .u64), false, 1⟩, ⟨((digs 18446744073709551616 12 (RR2 N))).map (vi .u64), false, 1⟩] := by
  refine GC.intro Try.func29 rfl (by show 3 ≤ 15; decide) (by first | exact Nat.le_refl _ | decide | simp) ?_
  refine AW.seqR ?_
  refine AWo.box 5000 1 _ rfl rfl rfl rfl rfl ?_
  refine AWo.box 6000 1 _ rfl rfl rfl rfl rfl ?_
  refine AWo.alloc tbok 7000 1 ((List.replicate 12 0).map (vi .u64)) rfl rfl rfl rfl rfl rfl ?_
  refine AWo.nil trivial ?_
  refine AW.seqD mixed ?_
  refine AWo.pure (PureOp.move rfl) rfl rfl ?_
  refine AWo.pure (PureOp.nilCheck rfl) rfl rfl ?_
  refine AWo.pure (PureOp.fld tbok rfl rfl rfl (by decide)) rfl rfl ?_
  refine AWo.load tbok rfl rfl rfl rfl rfl rfl ?_
  refine yP (PureOp.makeFunc (xs := #[.pointer (some ⟨1, 0, none⟩)]) (ys := #[]) rfl (by apply Array.ext'; rw [Array.toList_map, Array.toList_map]; rfl) (by apply Array.ext'; rw [Array.toList_map, Array.toList_map]; rfl)) ?_
  refine AWo.loadAll tbok rfl rfl rfl rfl (by show ((digs 18446744073709551616 12 a).map (vi .u64)).length = 12; rw [List.length_map, digs_len]) rfl rfl ?_
  refine AWo.loadAll tbok rfl rfl rfl rfl (by show ((digs 18446744073709551616 12 b).map (vi .u64)).length = 12; rw [List.length_map, digs_len]) rfl rfl ?_
  refine AWo.callX (ofM_ctr (a := a) (b := b) hN ha hb) bd81 [(1, 0), (2, 0), (3, 0)] [] rfl (.cons rfl (.cons rfl (.cons rfl .nil))) rfl (.cons rfl rfl (.pure (by first | rfl | exact pure_aggM flat_vi | exact pure_aggM flat_bool) (.pure (by first | rfl | exact pure_aggM flat_vi | exact pure_aggM flat_bool) .nil))) (.whole rfl rfl (OkL.all rfl) (by intro h; first | exact h | rfl) (.flat rfl (flatM flat_vi) (by intro h; first | exact h | rfl) (.flat rfl (flatM flat_vi) (by intro h; first | exact h | rfl) .nil))) rfl (.keep rfl (.keep rfl (.keep rfl .nil))) frN (by decide) (.pure (by first | rfl | exact pure_aggM flat_vi | exact pure_aggM flat_bool) .nil) rfl rfl rfl rfl ?_
  refine AWo.storeAllN tbok rfl rfl rfl rfl (by rw [List.length_map, digs_len]) (by first | rfl | (simp [digs_len]; done)) (oneM (fun _ => rfl) _) rfl ?_
  refine AWo.nil (by kernel_rfl) ?_
  refine AW.ret ?_
  refine RetQ.gc [_] [] [.cell 6 24] (.inl rfl) rfl (.val (RVal.cellAll tbok rfl rfl rfl rfl (by first | (simp [*]; done) | rfl)) .nil) rfl (.pure (by first | rfl | exact pure_aggM flat_vi | exact pure_aggM flat_bool) .nil) (OutL.whole rfl rfl (OkL.all rfl) (by intro h; first | rfl | exact h.elim id fun h => absurd h.1 (by simp)) (OutL.whole rfl rfl (OkL.all rfl) (by intro h; first | rfl | exact h.elim id fun h => absurd h.1 (by simp)) (OutL.flat rfl (flatM flat_vi) (by intro h; first | rfl | exact h.elim id fun h => absurd h.1 (by simp)) (OutL.flat rfl (flatM flat_vi) (by intro h; first | rfl | exact h.elim id fun h => absurd h.1 (by simp)) trivial)))) (by decide) rfl
theorem expW_ctr {N a b : Nat} (hN : RN N) (ha : a < 18446744073709551616 ^ 12) (hb : b < 18446744073709551616 ^ 12) : GC Try.prog 19 [.pointer (some ⟨0, 0, none⟩), .agg ((digs 18446744073709551616 12 a).map (vi .u64)).toArray, .agg ((digs 18446744073709551616 12 b).map (vi .u64)).toArray] [⟨[.pointer (some ⟨1, 0, none⟩)], false, 1⟩, ⟨[.slice (some ⟨2, 0, none⟩) 12 0, vi .u64 (ninvR ((digs 18446744073709551616 12 N).getD 0 0)), .slice (some ⟨3, 0, none⟩) 12 0], false, 1⟩, ⟨((digs 18446744073709551616 12 N)).map (vi .u64), false, 1⟩, ⟨((digs 18446744073709551616 12 (RR2 N))).map (vi .u64), false, 1⟩] [.agg ((digs 18446744073709551616 12 (a ^ b % N)).map (vi .u64)).toArray] [⟨[.pointer (some ⟨1, 0, none⟩)], false, 1⟩, ⟨[.slice (some ⟨2, 0, none⟩) 12 0, vi .u64 (ninvR ((digs 18446744073709551616 12 N).getD 0 0)), .slice (some ⟨3, 0, none⟩) 12 0], false, 1⟩, ⟨((digs 18446744073709551616 12 N)).map (vi .u64), false, 1⟩, ⟨((digs 18446744073709551616 12 (RR2 N))).map (vi .u64), false, 1⟩] := by
  refine GC.intro Try.func19 rfl (by show 3 ≤ 15; decide) (by first | exact Nat.le_refl _ | decide | simp) ?_
  refine AW.seqR ?_
  refine AWo.box 5000 1 _ rfl rfl rfl rfl rfl ?_
  refine AWo.box 6000 1 _ rfl rfl rfl rfl rfl ?_
  refine AWo.alloc tbok 7000 1 ((List.replicate 12 0).map (vi .u64)) rfl rfl rfl rfl rfl rfl ?_
  refine AWo.nil trivial ?_
  refine AW.seqD mixed ?_
  refine AWo.pure (PureOp.move rfl) rfl rfl ?_
  refine AWo.pure (PureOp.nilCheck rfl) rfl rfl ?_
  refine AWo.pure (PureOp.fld tbok rfl rfl rfl (by decide)) rfl rfl ?_
  refine AWo.load tbok rfl rfl rfl rfl rfl rfl ?_
  refine yP (PureOp.makeFunc (xs := #[.pointer (some ⟨1, 0, none⟩)]) (ys := #[]) rfl (by apply Array.ext'; rw [Array.toList_map, Array.toList_map]; rfl) (by apply Array.ext'; rw [Array.toList_map, Array.toList_map]; rfl)) ?_
  refine AWo.loadAll tbok rfl rfl rfl rfl (by show ((digs 18446744073709551616 12 a).map (vi .u64)).length = 12; rw [List.length_map, digs_len]) rfl rfl ?_
  refine AWo.loadAll tbok rfl rfl rfl rfl (by show ((digs 18446744073709551616 12 b).map (vi .u64)).length = 12; rw [List.length_map, digs_len]) rfl rfl ?_
  refine AWo.callX (ofE_ctr (a := a) (b := b) hN ha hb) bd81 [(1, 0), (2, 0), (3, 0)] [] rfl (.cons rfl (.cons rfl (.cons rfl .nil))) rfl (.cons rfl rfl (.pure (by first | rfl | exact pure_aggM flat_vi | exact pure_aggM flat_bool) (.pure (by first | rfl | exact pure_aggM flat_vi | exact pure_aggM flat_bool) .nil))) (.whole rfl rfl (OkL.all rfl) (by intro h; first | exact h | rfl) (.flat rfl (flatM flat_vi) (by intro h; first | exact h | rfl) (.flat rfl (flatM flat_vi) (by intro h; first | exact h | rfl) .nil))) rfl (.keep rfl (.keep rfl (.keep rfl .nil))) frN (by decide) (.pure (by first | rfl | exact pure_aggM flat_vi | exact pure_aggM flat_bool) .nil) rfl rfl rfl rfl ?_
  refine AWo.storeAllN tbok rfl rfl rfl rfl (by rw [List.length_map, digs_len]) (by first | rfl | (simp [digs_len]; done)) (oneM (fun _ => rfl) _) rfl ?_
  refine AWo.nil (by kernel_rfl) ?_
  refine AW.ret ?_
  refine RetQ.gc [_] [] [.cell 6 24] (.inl rfl) rfl (.val (RVal.cellAll tbok rfl rfl rfl rfl (by first | (simp [*]; done) | rfl)) .nil) rfl (.pure (by first | rfl | exact pure_aggM flat_vi | exact pure_aggM flat_bool) .nil) (OutL.whole rfl rfl (OkL.all rfl) (by intro h; first | rfl | exact h.elim id fun h => absurd h.1 (by simp)) (OutL.whole rfl rfl (OkL.all rfl) (by intro h; first | rfl | exact h.elim id fun h => absurd h.1 (by simp)) (OutL.flat rfl (flatM flat_vi) (by intro h; first | rfl | exact h.elim id fun h => absurd h.1 (by simp)) (OutL.flat rfl (flatM flat_vi) (by intro h; first | rfl | exact h.elim id fun h => absurd h.1 (by simp)) trivial)))) (by decide) rfl
theorem primeW_ctr : GC Try.prog 101 [] [] [.agg ((digs 18446744073709551616 12 PG).map (vi .u64)).toArray] [] := by
  refine GC.intro Try.func101 rfl (by show 0 ≤ 2; decide) (by first | exact Nat.le_refl _ | decide | simp) ?_
  refine AW.seqR ?_
  refine AWo.alloc tbok 1000 1 ((List.replicate 12 0).map (vi .u64)) rfl rfl rfl rfl rfl rfl ?_
  refine AWo.nil trivial ?_
  refine AW.seqR ?_
  refine AWo.pure ((PureOp.buildArr tbok [(0, .int .u64 18446744073709551615), (1, .int .u64 17603518614768072224), (2, .int .u64 16466767132611215046), (3, .int .u64 5755940542857986629), (4, .int .u64 3470879405153129527), (5, .int .u64 17263733006627652379), (6, .int .u64 5857503583518590173), (7, .int .u64 147421033984662306), (8, .int .u64 2955010104097229940), (9, .int .u64 14179128828124470481), (10, .int .u64 14488038916154245684), (11, .int .u64 18446744073709551615)] rfl rfl rfl (by decide) rfl rfl).mono (v' := .agg ((digs 18446744073709551616 12 PG).map (vi .u64)).toArray) (by kernel_rfl)) rfl rfl ?_
  refine AWo.storeAllN tbok rfl rfl rfl rfl (by rw [List.length_map, digs_len]) (by first | rfl | (simp [digs_len]; done)) (oneM (fun _ => rfl) _) rfl ?_
  refine AWo.nil trivial ?_
  refine AW.ret ?_
  refine RetQ.gc [_] [] [.cell 0 24] (.inl rfl) rfl (.val (RVal.cellAll tbok rfl rfl rfl rfl (by first | (simp [*]; done) | rfl)) .nil) rfl (.pure (by first | rfl | exact pure_aggM flat_vi | exact pure_aggM flat_bool) .nil) trivial (by decide) rfl
theorem ringW_ctr {N : Nat} (hN : RN N) : GC Try.prog 100 [.agg ((digs 18446744073709551616 12 N).map (vi .u64)).toArray] [] [.pointer (some ⟨0, 0, none⟩)] [⟨[.pointer (some ⟨1, 0, none⟩)], true, 1⟩, ⟨[.slice (some ⟨2, 0, none⟩) 12 0, vi .u64 (ninvR ((digs 18446744073709551616 12 N).getD 0 0)), .slice (some ⟨3, 0, none⟩) 12 0], true, 1⟩, ⟨((digs 18446744073709551616 12 N)).map (vi .u64), true, 1⟩, ⟨((digs 18446744073709551616 12 (RR2 N))).map (vi .u64), true, 1⟩] := by
  refine GC.intro Try.func100 rfl (by show 1 ≤ 13; decide) (by first | exact Nat.le_refl _ | decide | simp) ?_
  refine AW.seqR ?_
  refine AWo.box 2000 1 _ rfl rfl rfl rfl rfl ?_
  refine AWo.pure (PureOp.assign rfl) rfl rfl ?_
  refine AWo.nil trivial ?_
  refine AW.seqR ?_
  refine AWo.sliceA tbok (h := 12) rfl .none .none rfl rfl rfl rfl (by decide) (by decide) (.inl rfl) (by show 12 ≤ ((digs 18446744073709551616 12 (N)).map (vi .u64)).length; rw [List.length_map, digs_len]; decide) rfl rfl rfl ?_
  refine AWo.callX (newN_ctr hN) bd109 [(2000, 0)] [8000, 8001, 8002] rfl (.cons rfl .nil) rfl (.cons rfl rfl .nil) (.flat rfl (by first | exact flatM flat_vi | exact flatM flat_bool | (simp [flatV, flat_vi]; done)) (by intro h; first | exact h | rfl) .nil) rfl (.keep rfl (.new rfl (OkL.all rfl) (.new (flat_map_ren (flatM flat_vi)) (OkL.flat (flatM flat_vi)) (.new (flat_map_ren (flatM flat_vi)) (OkL.flat (flatM flat_vi)) .nil)))) (frC rfl (frC rfl (frC rfl frN))) (by decide) (.cons rfl rfl (.cons rfl rfl .nil)) rfl rfl rfl rfl ?_
  refine AWo.pure (PureOp.move rfl) rfl rfl ?_
  refine AWo.pure (PureOp.extract rfl rfl) rfl rfl ?_
  refine AWo.pure (PureOp.extract rfl rfl) rfl rfl ?_
  refine AWo.pure (PureOp.assign rfl) rfl rfl ?_
  refine AWo.pure (PureOp.assign rfl) rfl rfl ?_
  refine AWo.nil trivial ?_
  refine AW.seqR ?_
  refine AWo.pure (PureOp.move rfl) rfl rfl ?_
  refine AWo.pure (PureOp.buildStruct [(0, .pointer (some ⟨8000, 0, none⟩))] pl111.choose_spec.1 zr111 (by decide) pl111.choose_spec.2 rfl rfl) rfl rfl ?_
  refine AWo.box 13000 1 _ rfl rfl rfl rfl rfl ?_
  refine AWo.pure (PureOp.assign rfl) rfl rfl ?_
  refine AWo.nil trivial ?_
  refine AW.ret ?_
  refine RetQ.gc [_] [13000, 8000, 8001, 8002] [.tmp 2] (.inl rfl) rfl (.tmp rfl .nil) rfl (.cons rfl rfl .nil) (OutL.whole rfl rfl (OkL.all rfl) (fun _ => rfl) (OutL.whole rfl rfl (OkL.all rfl) (fun _ => rfl) (OutL.flat rfl (flatM flat_vi) (fun _ => rfl) (OutL.flat rfl (flatM flat_vi) (fun _ => rfl) trivial)))) (by decide) rfl
theorem groupW_ctr : GC Try.prog 38 [] [] [.pointer (some ⟨0, 0, none⟩)] [⟨[.pointer (some ⟨1, 0, none⟩)], true, 1⟩, ⟨[.slice (some ⟨2, 0, none⟩) 12 0, vi .u64 (ninvR ((digs 18446744073709551616 12 PG).getD 0 0)), .slice (some ⟨3, 0, none⟩) 12 0], true, 1⟩, ⟨((digs 18446744073709551616 12 PG)).map (vi .u64), true, 1⟩, ⟨((digs 18446744073709551616 12 (RR2 PG))).map (vi .u64), true, 1⟩] := by
  refine GC.intro Try.func38 rfl (by show 0 ≤ 3; decide) (by first | exact Nat.le_refl _ | decide | simp) ?_
  refine AW.seqR ?_
  refine AWo.pure (PureOp.assign rfl) rfl rfl ?_
  refine AWo.nil trivial ?_
  refine AW.seqR ?_
  refine AWo.callX (primeW_ctr) bd101 [] [] rfl .nil rfl .nil .nil rfl .nil frN (by decide) (.pure (by first | rfl | exact pure_aggM flat_vi | exact pure_aggM flat_bool) .nil) rfl rfl rfl rfl ?_
  refine AWo.callX (ringW_ctr (N := PG) rn_p) bd100 [] [3000, 3001, 3002, 3003] rfl (.cons rfl .nil) rfl (.pure (by first | rfl | exact pure_aggM flat_vi | exact pure_aggM flat_bool) .nil) .nil rfl (.new rfl (OkL.all rfl) (.new rfl (OkL.all rfl) (.new (flat_map_ren (flatM flat_vi)) (OkL.flat (flatM flat_vi)) (.new (flat_map_ren (flatM flat_vi)) (OkL.flat (flatM flat_vi)) .nil)))) (frC rfl (frC rfl (frC rfl (frC rfl frN)))) (by decide) (.cons rfl rfl .nil) rfl rfl rfl rfl ?_
  refine AWo.pure (PureOp.assign rfl) rfl rfl ?_
  refine AWo.nil trivial ?_
  refine AW.ret ?_
  refine RetQ.gc [_] [3000, 3001, 3002, 3003] [.tmp 0] (.inl rfl) rfl (.tmp rfl .nil) rfl (.cons rfl rfl .nil) (OutL.whole rfl rfl (OkL.all rfl) (fun _ => rfl) (OutL.whole rfl rfl (OkL.all rfl) (fun _ => rfl) (OutL.flat rfl (flatM flat_vi) (fun _ => rfl) (OutL.flat rfl (flatM flat_vi) (fun _ => rfl) trivial)))) (by decide) rfl
theorem sizeW_ctr {N : Nat} (hN : RN N) : GC Try.prog 31 [.pointer (some ⟨0, 0, none⟩)] [⟨[.pointer (some ⟨1, 0, none⟩)], false, 1⟩, ⟨[.slice (some ⟨2, 0, none⟩) 12 0, vi .u64 (ninvR ((digs 18446744073709551616 12 N).getD 0 0)), .slice (some ⟨3, 0, none⟩) 12 0], false, 1⟩, ⟨((digs 18446744073709551616 12 N)).map (vi .u64), false, 1⟩, ⟨((digs 18446744073709551616 12 (RR2 N))).map (vi .u64), false, 1⟩] [.agg ((digs 18446744073709551616 12 N).map (vi .u64)).toArray] [⟨[.pointer (some ⟨1, 0, none⟩)], false, 1⟩, ⟨[.slice (some ⟨2, 0, none⟩) 12 0, vi .u64 (ninvR ((digs 18446744073709551616 12 N).getD 0 0)), .slice (some ⟨3, 0, none⟩) 12 0], false, 1⟩, ⟨((digs 18446744073709551616 12 N)).map (vi .u64), false, 1⟩, ⟨((digs 18446744073709551616 12 (RR2 N))).map (vi .u64), false, 1⟩] := by
  refine GC.intro Try.func31 rfl (by show 1 ≤ 10; decide) (by first | exact Nat.le_refl _ | decide | simp) ?_
  refine AW.seqR ?_
  refine AWo.alloc tbok 3000 1 ((List.replicate 12 0).map (vi .u64)) rfl rfl rfl rfl rfl rfl ?_
  refine AWo.nil trivial ?_
  refine AW.seqR ?_
  refine AWo.pure (PureOp.move rfl) rfl rfl ?_
  refine AWo.pure (PureOp.nilCheck rfl) rfl rfl ?_
  refine AWo.pure (PureOp.fld tbok rfl rfl rfl (by decide)) rfl rfl ?_
  refine AWo.load tbok rfl rfl rfl rfl rfl rfl ?_
  refine AWo.callX (mwordsN_ctr hN) bd93 [(1, 0), (2, 0), (3, 0)] [8000] rfl (.cons rfl .nil) rfl (.cons rfl rfl .nil) (.whole rfl rfl (OkL.all rfl) (by intro h; first | exact h | rfl) (.flat rfl (flatM flat_vi) (by intro h; first | exact h | rfl) (.flat rfl (flatM flat_vi) (by intro h; first | exact h | rfl) .nil))) rfl (.keep rfl (.keep rfl (.keep rfl (.new (flat_map_ren (by first | exact flatM flat_vi | exact flatM flat_bool | (simp [flatV, flat_vi]; done))) (OkL.flat (by first | exact flatM flat_vi | exact flatM flat_bool | (simp [flatV, flat_vi]; done))) .nil)))) (frC rfl frN) (by decide) (.cons rfl rfl .nil) rfl rfl rfl rfl ?_
  refine AWo.pure (PureOp.toArrT tbok rfl rfl (by decide) (by decide)) rfl rfl ?_
  refine AWo.loadAgg tbok (vs := (digs 18446744073709551616 12 N).map (vi .u64)) rfl rfl rfl rfl (by show 0 + 12 ≤ _; simp [digs_len]) (ld12 (digs_len _ _)) rfl rfl ?_
  refine AWo.storeAllN tbok rfl rfl rfl rfl (by rw [List.length_map, digs_len]) (by first | rfl | (simp [digs_len]; done)) (oneM (fun _ => rfl) _) rfl ?_
  refine AWo.nil trivial ?_
  refine AW.ret ?_
  refine RetQ.gc [_] [] [.cell 2 24] (.inl rfl) rfl (.val (RVal.cellAll tbok rfl rfl rfl rfl (by first | (simp [*]; done) | rfl)) .nil) rfl (.pure (by first | rfl | exact pure_aggM flat_vi | exact pure_aggM flat_bool) .nil) (OutL.whole rfl rfl (OkL.all rfl) (by intro h; first | rfl | exact h.elim id fun h => absurd h.1 (by simp)) (OutL.whole rfl rfl (OkL.all rfl) (by intro h; first | rfl | exact h.elim id fun h => absurd h.1 (by simp)) (OutL.flat rfl (flatM flat_vi) (by intro h; first | rfl | exact h.elim id fun h => absurd h.1 (by simp)) (OutL.flat rfl (flatM flat_vi) (by intro h; first | rfl | exact h.elim id fun h => absurd h.1 (by simp)) trivial)))) (by decide) rfl
theorem writeW_ctr {a : Nat} (ha : a < 18446744073709551616 ^ 12) : GC Try.prog 35 [.agg ((digs 18446744073709551616 12 a).map (vi .u64)).toArray] [] [.agg ((digs 256 96 a).map (vi .u8)).toArray] [] := by
  refine GC.intro Try.func35 rfl (by show 1 ≤ 7; decide) (by first | exact Nat.le_refl _ | decide | simp) ?_
  refine AW.seqR ?_
  refine AWo.box 2000 1 _ rfl rfl rfl rfl rfl ?_
  refine AWo.alloc tbok 3000 1 ((List.replicate 96 0).map (vi .u8)) rfl rfl rfl rfl rfl rfl ?_
  refine AWo.nil trivial ?_
  refine AW.seqR ?_
  refine AWo.sliceA tbok (h := 12) rfl .none .none rfl rfl rfl rfl (by decide) (by decide) (.inl rfl) (by show 12 ≤ ((digs 18446744073709551616 12 (a)).map (vi .u64)).length; rw [List.length_map, digs_len]; decide) rfl rfl rfl ?_
  refine AWo.callX (lb12_ctr ha) bd98 [(2000, 0)] [5000] rfl (.cons rfl .nil) rfl (.cons rfl rfl .nil) (.flat rfl (by first | exact flatM flat_vi | exact flatM flat_bool | (simp [flatV, flat_vi]; done)) (by intro h; first | exact h | rfl) .nil) rfl (.keep rfl (.new (flat_map_ren (by first | exact flatM flat_vi | exact flatM flat_bool | (simp [flatV, flat_vi]; done))) (OkL.flat (by first | exact flatM flat_vi | exact flatM flat_bool | (simp [flatV, flat_vi]; done))) .nil)) (frC rfl frN) (by decide) (.cons rfl rfl .nil) rfl rfl rfl rfl ?_
  refine AWo.pure (PureOp.toArrT tbok rfl rfl (by decide) (by decide)) rfl rfl ?_
  refine AWo.loadAgg tbok (vs := (digs 256 96 a).map (vi .u8)) rfl rfl rfl rfl (by show 0 + 96 ≤ _; simp [digs_len]) (ld96 (digs_len _ _)) rfl rfl ?_
  refine AWo.storeAllN tbok rfl rfl rfl rfl (by rw [List.length_map, digs_len]) (by first | rfl | (simp [digs_len]; done)) (oneM (fun _ => rfl) _) rfl ?_
  refine AWo.nil trivial ?_
  refine AW.ret ?_
  refine RetQ.gc [_] [] [.cell 2 47] (.inl rfl) rfl (.val (RVal.cellAll tbok rfl rfl rfl rfl (by first | (simp [*]; done) | rfl)) .nil) rfl (.pure (by first | rfl | exact pure_aggM flat_vi | exact pure_aggM flat_bool) .nil) trivial (by decide) rfl
theorem readO_ctr {N : Nat} {b : List Nat} (hN : RN N) (hb : bd 256 b) (hl : b.length = 96) (hc : num 256 b < N) : GC Try.prog 33 [.pointer (some ⟨0, 0, none⟩), .slice (some ⟨4, 0, none⟩) b.length 0] [⟨[.pointer (some ⟨1, 0, none⟩)], false, 1⟩, ⟨[.slice (some ⟨2, 0, none⟩) 12 0, vi .u64 (ninvR ((digs 18446744073709551616 12 N).getD 0 0)), .slice (some ⟨3, 0, none⟩) 12 0], false, 1⟩, ⟨((digs 18446744073709551616 12 N)).map (vi .u64), false, 1⟩, ⟨((digs 18446744073709551616 12 (RR2 N))).map (vi .u64), false, 1⟩, ⟨b.map (vi .u8), false, 1⟩] [.agg ((digs 18446744073709551616 12 (num 256 b)).map (vi .u64)).toArray, .int .i64 0] [⟨[.pointer (some ⟨1, 0, none⟩)], false, 1⟩, ⟨[.slice (some ⟨2, 0, none⟩) 12 0, vi .u64 (ninvR ((digs 18446744073709551616 12 N).getD 0 0)), .slice (some ⟨3, 0, none⟩) 12 0], false, 1⟩, ⟨((digs 18446744073709551616 12 N)).map (vi .u64), false, 1⟩, ⟨((digs 18446744073709551616 12 (RR2 N))).map (vi .u64), false, 1⟩, ⟨b.map (vi .u8), false, 1⟩] := by
  refine GC.intro Try.func33 rfl (by show 2 ≤ 25; decide) (by first | exact Nat.le_refl _ | decide | simp) ?_
  refine AW.seqR ?_
  refine AWo.alloc tbok 5000 1 ((List.replicate 12 0).map (vi .u64)) rfl rfl rfl rfl rfl rfl ?_
  refine AWo.pure (PureOp.assign rfl) rfl rfl ?_
  refine AWo.nil trivial ?_
  refine AW.seq ?_
  refine AW.seqR ?_
  refine AWo.pure (PureOp.move rfl) rfl rfl ?_
  first | refine AWo.pure (PureOp.lenS tbok rfl rfl) rfl rfl ?_ | refine AWo.pure (PureOp.lenD tbok rfl rfl) rfl rfl ?_
  first | refine AWo.pure (PureOp.neN (b := 96) rfl rfl) rfl rfl ?_ | refine AWo.pure (PureOp.bin rfl rfl rfl) rfl rfl ?_
  refine AWo.nil trivial ?_
  refine AW.cond rfl (fun hb0 => ?_) (fun hb0 => ?_)
  ·
    exfalso
    simp at hb0; omega
  ·
    refine AW.skip ?_
    refine thenA_normal ?_
    refine AW.seqR ?_
    refine AWo.pure (PureOp.move rfl) rfl rfl ?_
    refine AWo.callX (lw96_ctr hb hl) bd95 [(4, 0)] [13000] rfl (.cons rfl .nil) rfl (.cons rfl rfl .nil) (.flat rfl (by first | exact flatM flat_vi | exact flatM flat_bool | (simp [flatV, flat_vi]; done)) (by intro h; first | exact h | rfl) .nil) rfl (.keep rfl (.new (flat_map_ren (by first | exact flatM flat_vi | exact flatM flat_bool | (simp [flatV, flat_vi]; done))) (OkL.flat (by first | exact flatM flat_vi | exact flatM flat_bool | (simp [flatV, flat_vi]; done))) .nil)) (frC rfl frN) (by decide) (.cons rfl rfl .nil) rfl rfl rfl rfl ?_
    refine AWo.pure (PureOp.assign rfl) rfl rfl ?_
    refine AWo.nil trivial ?_
    refine AW.seq ?_
    refine AW.seqR ?_
    refine AWo.pure (PureOp.move rfl) rfl rfl ?_
    refine AWo.pure (PureOp.move rfl) rfl rfl ?_
    refine AWo.pure (PureOp.nilCheck rfl) rfl rfl ?_
    refine AWo.pure (PureOp.fld tbok rfl rfl rfl (by decide)) rfl rfl ?_
    refine AWo.load tbok rfl rfl rfl rfl rfl rfl ?_
    refine AWo.callX (mwordsN_ctr hN) bd93 [(1, 0), (2, 0), (3, 0)] [19000] rfl (.cons rfl .nil) rfl (.cons rfl rfl .nil) (.whole rfl rfl (OkL.all rfl) (by intro h; first | exact h | rfl) (.flat rfl (flatM flat_vi) (by intro h; first | exact h | rfl) (.flat rfl (flatM flat_vi) (by intro h; first | exact h | rfl) .nil))) rfl (.keep rfl (.keep rfl (.keep rfl (.new (flat_map_ren (by first | exact flatM flat_vi | exact flatM flat_bool | (simp [flatV, flat_vi]; done))) (OkL.flat (by first | exact flatM flat_vi | exact flatM flat_bool | (simp [flatV, flat_vi]; done))) .nil)))) (frC rfl frN) (by decide) (.cons rfl rfl .nil) rfl rfl rfl rfl ?_
    refine AWo.callX (lcmp_ctrV (a := digs 18446744073709551616 12 (num 256 b)) (b := digs 18446744073709551616 12 N) (digs_len _ _) (num_digs_lt (by rw [← w96]; exact hl ▸ num_lt hb)) (digs_len _ _) (rn_num hN) (digs_bd (by decide) _ _) (digs_bd (by decide) _ _) (by rw [digs_len]; decide) (by rw [digs_len]; decide)) bd96 [(13000, 0), (19000, 0)] [] rfl (.cons rfl (.cons rfl .nil)) rfl (.cons rfl rfl (.cons rfl rfl .nil)) (.flat rfl (by first | exact flatM flat_vi | exact flatM flat_bool | (simp [flatV, flat_vi]; done)) (by intro h; first | exact h | rfl) (.flat rfl (by first | exact flatM flat_vi | exact flatM flat_bool | (simp [flatV, flat_vi]; done)) (by intro h; first | exact h | rfl) .nil)) rfl (.keep rfl (.keep rfl .nil)) frN (by decide) (.cons rfl rfl .nil) rfl rfl rfl rfl ?_
    first | refine AWo.pure ((PureOp.geP rfl rfl).mono (v' := .bool false) (congrArg Value.bool (cmp_lt hc))) rfl rfl ?_ | refine AWo.pure ((PureOp.geN (b := 0) rfl rfl).mono (v' := .bool false) (congrArg Value.bool (cmp_lt hc))) rfl rfl ?_ | refine AWo.pure ((PureOp.bin rfl rfl rfl).mono (v' := .bool false) (congrArg Value.bool (cmp_lt hc))) rfl rfl ?_
    refine AWo.nil trivial ?_
    refine AW.condF rfl ?_
    refine AW.skip ?_
    refine thenA_normal ?_
    refine AW.seqR ?_
    refine AWo.pure (PureOp.move rfl) rfl rfl ?_
    refine AWo.pure (PureOp.toArrT tbok rfl rfl (by decide) (by decide)) rfl rfl ?_
    refine AWo.loadAgg tbok (vs := (digs 18446744073709551616 12 (num 256 b)).map (vi .u64)) rfl rfl rfl rfl (by show 0 + 12 ≤ _; simp [digs_len]) (ld12 (digs_len _ _)) rfl rfl ?_
    refine AWo.storeAllN tbok rfl rfl rfl rfl (by rw [List.length_map, digs_len]) (by first | rfl | (simp [digs_len]; done)) (oneM (fun _ => rfl) _) rfl ?_
    refine AWo.pure (PureOp.assign rfl) rfl rfl ?_
    refine AWo.nil trivial ?_
    refine AW.ret ?_
    refine RetQ.gc [_, _] [] [.cell 4 24, .tmp 5] (.inl rfl) rfl (.val (RVal.cellAll tbok rfl rfl rfl rfl (by first | (simp [*]; done) | rfl)) (.tmp rfl .nil)) rfl (.pure (by first | rfl | exact pure_aggM flat_vi | exact pure_aggM flat_bool) (.cons rfl rfl .nil)) (OutL.whole rfl rfl (OkL.all rfl) (by intro h; first | rfl | exact h.elim id fun h => absurd h.1 (by simp)) (OutL.whole rfl rfl (OkL.all rfl) (by intro h; first | rfl | exact h.elim id fun h => absurd h.1 (by simp)) (OutL.flat rfl (flatM flat_vi) (by intro h; first | rfl | exact h.elim id fun h => absurd h.1 (by simp)) (OutL.flat rfl (flatM flat_vi) (by intro h; first | rfl | exact h.elim id fun h => absurd h.1 (by simp)) (OutL.flat rfl (by first | exact flatM flat_vi | exact flatM flat_bool | (simp [flatV, flat_vi]; done)) (by intro h; first | rfl | exact h.elim id fun h => absurd h.1 (by simp)) trivial))))) (by decide) rfl
end Go.Proofs.Ytpahdiljpnfkdaa
namespace Go.Proofs.Ytpahdiljpnfkdaa
open Go Sim
theorem digits_ctrV {a : List Nat} {na xa : Nat} (hna : a.length = na) (hxa : num 18446744073709551616 a = xa) (ha : bd 18446744073709551616 a) (hla : a.length < 100000000) : GC Try.prog 86 [.slice (some ⟨0, 0, none⟩) na 0] [⟨a.map (vi .u64), false, 1⟩] [.slice (some ⟨1, 0, none⟩) (D 4294967296 (xa)).length 0] [⟨a.map (vi .u64), false, 1⟩, ⟨(D 4294967296 (xa)).map (vi .u64), true, 1⟩] := by
 subst hna hxa
 exact digits_ctr ha hla
end Go.Proofs.Ytpahdiljpnfkdaa
namespace Go.Proofs.Ytpahdiljpnfkdaa
def Irr (p : Nat) : Prop := 2 ≤ p ∧ ∀ d, d ∣ p → d = 1 ∨ d = p
theorem Irr.pos {p : Nat} (h : Irr p) : 0 < p := by have := h.1; omega
theorem Irr.coprime {p a : Nat} (h : Irr p) (ha : ¬ p ∣ a) : Nat.Coprime p a := by
  rcases h.2 (Nat.gcd p a) (Nat.gcd_dvd_left p a) with h1 | h1
  · exact h1
  · exact absurd (h1 ▸ Nat.gcd_dvd_right p a) ha
theorem Irr.euclid {p a b : Nat} (h : Irr p) (hd : p ∣ a * b) : p ∣ a ∨ p ∣ b := by
  by_cases ha : p ∣ a
  · exact .inl ha
  · exact .inr ((h.coprime ha).dvd_of_dvd_mul_left hd)
theorem Irr.dvd_pow {p a : Nat} (h : Irr p) : ∀ {k : Nat}, p ∣ a ^ k → p ∣ a
  | 0, hd => by
    have h1 := h.1
    rw [Nat.pow_zero] at hd
    have := Nat.le_of_dvd (by decide) hd
    omega
  | k + 1, hd => by
    rw [Nat.pow_succ] at hd
    rcases h.euclid hd with h1 | h1
    · exact h.dvd_pow h1
    · exact h1
theorem exists_irr : ∀ {n : Nat}, 2 ≤ n → ∃ p, Irr p ∧ p ∣ n := by
  intro n
  induction n using Nat.strongRecOn with
  | _ n ih =>
    intro hn
    by_cases h : ∃ d, d ∣ n ∧ d ≠ 1 ∧ d ≠ n
    · obtain ⟨d, hd, h1, h2⟩ := h
      have hle := Nat.le_of_dvd (by omega) hd
      have h0 : d ≠ 0 := fun e => by subst e; have := Nat.eq_zero_of_zero_dvd hd; omega
      obtain ⟨p, hp, hpd⟩ := ih d (by omega) (by omega)
      exact ⟨p, hp, Nat.dvd_trans hpd hd⟩
    · refine ⟨n, ⟨hn, fun d hd => ?_⟩, Nat.dvd_refl n⟩
      by_cases h1 : d = 1
      · exact .inl h1
      · by_cases h2 : d = n
        · exact .inr h2
        · exact absurd ⟨d, hd, h1, h2⟩ h
theorem irr_of_small {n : Nat} (hn : 2 ≤ n) (h : ∀ p, Irr p → p ∣ n → n < p * p) : Irr n := by
  refine ⟨hn, fun d hd => ?_⟩
  obtain ⟨e, he⟩ := hd
  by_cases h1 : d = 1
  · exact .inl h1
  by_cases h2 : e = 1
  · subst h2; exact .inr (by omega)
  have hd0 : d ≠ 0 := fun e' => by subst e'; omega
  have he0 : e ≠ 0 := fun e' => by subst e'; omega
  obtain ⟨p, hp, a, rfl⟩ := exists_irr (n := d) (by omega)
  obtain ⟨q, hq, b, rfl⟩ := exists_irr (n := e) (by omega)
  exfalso
  have g1 := h p hp ⟨a * (q * b), by rw [he, Nat.mul_assoc]⟩
  have g2 := h q hq ⟨p * a * b, by rw [he]; simp [Nat.mul_comm, Nat.mul_left_comm]⟩
  have ha : a ≠ 0 := fun e' => by subst e'; simp at hd0
  have hb : b ≠ 0 := fun e' => by subst e'; simp at he0
  have g3 : p * q ≤ n := by
    rw [he]
    have : p * q * 1 ≤ p * q * (a * b) := Nat.mul_le_mul_left _ (Nat.mul_pos (by omega) (by omega))
    calc p * q = p * q * 1 := (Nat.mul_one _).symm
      _ ≤ p * q * (a * b) := this
      _ = p * a * (q * b) := by simp [Nat.mul_comm, Nat.mul_left_comm]
  rcases Nat.le_total p q with hle | hle
  · have := Nat.mul_le_mul_left p hle
    omega
  · have := Nat.mul_le_mul_right q hle
    omega
theorem pow_one_mod {a n k : Nat} (h : a % n = 1 % n) : a ^ k % n = 1 % n := by
  rw [Nat.pow_mod, h, ← Nat.pow_mod, Nat.one_pow]
theorem mul_mod_one {a b n : Nat} (ha : a % n = 1 % n) : a * b % n = b % n := by
  rw [Nat.mul_mod, ha, ← Nat.mul_mod, Nat.one_mul]
theorem pow_sub_mod {a n m k : Nat} (hk : a ^ k % n = 1 % n) (hm : a ^ m % n = 1 % n) : a ^ (m % k) % n = 1 % n := by
  have h : a ^ m = (a ^ k) ^ (m / k) * a ^ (m % k) := by
    rw [← Nat.pow_mul, ← Nat.pow_add, Nat.div_add_mod]
  rw [h, mul_mod_one (pow_one_mod hk)] at hm
  exact hm
theorem pow_gcd_mod {a n : Nat} : ∀ (k m : Nat), a ^ k % n = 1 % n → a ^ m % n = 1 % n → a ^ Nat.gcd k m % n = 1 % n := by
  intro k
  induction k using Nat.strongRecOn with
  | _ k ih =>
    intro m hk hm
    by_cases h0 : k = 0
    · subst h0; simpa using hm
    · rw [Nat.gcd_rec]
      exact ih (m % k) (Nat.mod_lt _ (by omega)) k (pow_sub_mod hk hm) hk
theorem dvd_pow_irr {q : Nat} (hq : Irr q) : ∀ {e d : Nat}, d ∣ q ^ e → ∃ j, j ≤ e ∧ d = q ^ j
  | 0, d, h => ⟨0, Nat.le_refl _, by simpa using h⟩
  | e + 1, d, h => by
    by_cases hd : q ∣ d
    · obtain ⟨c, rfl⟩ := hd
      rw [Nat.pow_succ, Nat.mul_comm (q ^ e) q] at h
      obtain ⟨j, hj, rfl⟩ := dvd_pow_irr hq (Nat.dvd_of_mul_dvd_mul_left hq.pos h)
      exact ⟨j + 1, by omega, by rw [Nat.pow_succ, Nat.mul_comm]⟩
    · have hc : Nat.Coprime d q := (hq.coprime hd).symm
      rw [Nat.pow_succ] at h
      obtain ⟨j, hj, rfl⟩ := dvd_pow_irr hq (hc.dvd_of_dvd_mul_right h)
      exact ⟨j, by omega, rfl⟩
def prodL : List Nat → Nat
  | [] => 1
  | x :: l => x * prodL l
theorem prodL_perm {l m : List Nat} (h : l.Perm m) : prodL l = prodL m := by
  induction h with
  | nil => rfl
  | cons x _ ih => simp [prodL, ih]
  | swap x y l => simp [prodL, Nat.mul_left_comm]
  | trans _ _ ih1 ih2 => exact ih1.trans ih2
theorem prodL_map_mod (a p : Nat) : ∀ l : List Nat, prodL (l.map fun i => a * i % p) % p = a ^ l.length * prodL l % p
  | [] => by simp [prodL]
  | x :: l => by
    simp only [List.map_cons, prodL, List.length_cons]
    rw [Nat.mul_mod, prodL_map_mod a p l, Nat.mod_mod, ← Nat.mul_mod, Nat.pow_succ]
    rw [Nat.mul_comm (a ^ l.length) a, Nat.mul_assoc, Nat.mul_assoc, Nat.mul_left_comm x]
theorem nodup_sub_perm {l m : List Nat} (hl : l.Nodup) (hs : ∀ x ∈ l, x ∈ m) (hlen : m.length ≤ l.length) : l.Perm m := by
  induction l generalizing m with
  | nil =>
    have : m = [] := List.length_eq_zero_iff.1 (by simpa using hlen)
    subst this; exact .nil
  | cons x l ih =>
    have hx := hs x (List.mem_cons_self ..)
    have hp := List.perm_cons_erase hx
    refine List.Perm.trans (.cons x (ih (List.nodup_cons.1 hl).2 (fun y hy => ?_) ?_)) hp.symm
    · have hne : y ≠ x := fun e => (List.nodup_cons.1 hl).1 (e ▸ hy)
      exact (List.mem_erase_of_ne hne).2 (hs y (List.mem_cons_of_mem _ hy))
    · rw [List.length_erase_of_mem hx]
      simp only [List.length_cons] at hlen
      omega
theorem prodL_not_dvd {p : Nat} (hp : Irr p) : ∀ {l : List Nat}, (∀ x ∈ l, ¬ p ∣ x) → ¬ p ∣ prodL l
  | [], _ => fun h => by have := Nat.le_of_dvd (by decide) h; have := hp.1; simp [prodL] at *; omega
  | x :: l, h => fun hd => by
    rcases hp.euclid hd with h1 | h1
    · exact h x (List.mem_cons_self ..) h1
    · exact prodL_not_dvd hp (fun y hy => h y (List.mem_cons_of_mem _ hy)) h1
theorem dvd_sub_of_mod {p a b : Nat} (h : a % p = b % p) : p ∣ b - a :=
  Nat.dvd_of_mod_eq_zero (Nat.sub_mod_eq_zero_of_mod_eq h.symm)
theorem mod_of_dvd_sub {p a b : Nat} (hle : a ≤ b) (h : p ∣ b - a) : a % p = b % p := by
  obtain ⟨c, hc⟩ := h
  rw [show b = a + p * c by omega, Nat.add_mul_mod_self_left]
theorem mod_cancel_le {p a b c : Nat} (hc : Nat.Coprime p c) (hab : a ≤ b) (h : c * a % p = c * b % p) : a % p = b % p := by
  have h1 := dvd_sub_of_mod h
  rw [← Nat.mul_sub] at h1
  exact mod_of_dvd_sub hab (hc.dvd_of_dvd_mul_left h1)
theorem mod_cancel {p a b c : Nat} (hc : Nat.Coprime p c) (h : c * a % p = c * b % p) : a % p = b % p := by
  rcases Nat.le_total a b with hab | hab
  · exact mod_cancel_le hc hab h
  · exact (mod_cancel_le hc hab h.symm).symm
theorem fermat {p a : Nat} (hp : Irr p) (ha : ¬ p ∣ a) : a ^ (p - 1) % p = 1 % p := by
  have h2 := hp.1
  let l := List.range' 1 (p - 1)
  have hl : ∀ x ∈ l, 1 ≤ x ∧ x < p := fun x hx => by
    have := List.mem_range'_1.1 hx
    omega
  have hnd : ∀ x ∈ l, ¬ p ∣ x := fun x hx hd => by
    have := Nat.le_of_dvd (by have := hl x hx; omega) hd
    have := hl x hx
    omega
  have hinj : (l.map fun i => a * i % p).Nodup := by
    rw [List.nodup_iff_pairwise_ne, List.pairwise_map]
    refine List.Pairwise.imp_of_mem (fun {x y} hx hy hne he => hne ?_) (List.nodup_iff_pairwise_ne.1 List.nodup_range')
    have := mod_cancel (hp.coprime ha) he
    rwa [Nat.mod_eq_of_lt (hl x hx).2, Nat.mod_eq_of_lt (hl y hy).2] at this
  have hperm : (l.map fun i => a * i % p).Perm l := by
    refine nodup_sub_perm hinj (fun x hx => ?_) (by simp)
    obtain ⟨i, hi, rfl⟩ := List.mem_map.1 hx
    refine List.mem_range'_1.2 ⟨?_, ?_⟩
    · rcases Nat.eq_zero_or_pos (a * i % p) with h0 | h0
      · rcases hp.euclid (Nat.dvd_of_mod_eq_zero h0) with h1 | h1
        · exact absurd h1 ha
        · exact absurd h1 (hnd i hi)
      · omega
    · have := Nat.mod_lt (a * i) hp.pos
      omega
  have h1 := prodL_map_mod a p l
  rw [prodL_perm hperm, List.length_range'] at h1
  have h3 : prodL l * 1 % p = prodL l * a ^ (p - 1) % p := by rw [Nat.mul_one, h1, Nat.mul_comm]
  exact (mod_cancel (hp.coprime (prodL_not_dvd hp hnd)) h3).symm
theorem pock_step {N p q e a : Nat} (hN : 2 ≤ N) (hp : Irr p) (hpN : p ∣ N) (hq : Irr q) (he : 0 < e) (hF : q ^ e ∣ N - 1) (h1 : a ^ (N - 1) % N = 1 % N)
    (h2 : Nat.gcd (a ^ ((N - 1) / q) % N + (N - 1)) N = 1) : q ^ e ∣ p - 1 := by
  have down : ∀ {x : Nat}, x % N = 1 % N → x % p = 1 % p := fun {x} h => by
    rw [← Nat.mod_mod_of_dvd x hpN, h, Nat.mod_mod_of_dvd _ hpN]
  obtain ⟨m, hm⟩ := hF
  have hqe : q ^ e = q * q ^ (e - 1) := by rw [← Nat.pow_succ', Nat.succ_eq_add_one, Nat.sub_add_cancel he]
  have ha : ¬ p ∣ a := fun hd => by
    have h3 := down h1
    have h4 : p ∣ a ^ (N - 1) := Nat.dvd_trans hd ⟨a ^ (N - 2), by rw [← Nat.pow_succ', show (N - 2).succ = N - 1 by omega]⟩
    rw [Nat.mod_eq_zero_of_dvd h4, Nat.mod_eq_of_lt hp.1] at h3
    cases h3
  have hb1 : (a ^ m) ^ (q ^ e) % p = 1 % p := by
    rw [← Nat.pow_mul, Nat.mul_comm, ← hm]
    exact down h1
  have hb2 : (a ^ m) ^ (p - 1) % p = 1 % p := by
    rw [← Nat.pow_mul, Nat.mul_comm, Nat.pow_mul]
    exact pow_one_mod (fermat hp ha)
  have hg := pow_gcd_mod _ _ hb1 hb2
  obtain ⟨j, hj, hgj⟩ := dvd_pow_irr hq (Nat.gcd_dvd_left (q ^ e) (p - 1))
  by_cases hje : j = e
  · subst hje
    exact hgj ▸ Nat.gcd_dvd_right _ _
  · exfalso
    have hdv : q ^ j ∣ q ^ (e - 1) := Nat.pow_dvd_pow q (by omega)
    obtain ⟨c, hc⟩ := hdv
    have h5 : (a ^ m) ^ (q ^ (e - 1)) % p = 1 % p := by
      rw [hc, Nat.pow_mul, ← hgj]
      exact pow_one_mod hg
    have h6 : (N - 1) / q = m * q ^ (e - 1) := by
      rw [hm, hqe, Nat.mul_assoc, Nat.mul_div_cancel_left _ hq.pos, Nat.mul_comm]
    rw [← Nat.pow_mul, ← h6] at h5
    have h7 : p ∣ a ^ ((N - 1) / q) % N + (N - 1) := by
      apply Nat.dvd_of_mod_eq_zero
      rw [Nat.add_mod, Nat.mod_mod_of_dvd _ hpN, h5]
      have : (N - 1) % p = p - 1 := by
        obtain ⟨c', rfl⟩ := hpN
        have hp1 := hp.1
        cases c' with
        | zero => omega
        | succ c' =>
          rw [Nat.mul_succ, Nat.add_sub_assoc (by omega), Nat.mul_add_mod, Nat.mod_eq_of_lt (by omega)]
      rw [this, Nat.mod_eq_of_lt hp.1, Nat.add_sub_cancel' (by have := hp.1; omega), Nat.mod_self]
    have h8 := Nat.dvd_gcd h7 hpN
    rw [h2] at h8
    have := Nat.le_of_dvd (by decide) h8
    have := hp.1
    omega
theorem coprime_pow_irr {p q : Nat} (hp : Irr p) (hq : Irr q) (h : p ≠ q) (e f : Nat) : Nat.Coprime (p ^ e) (q ^ f) := by
  apply Nat.Coprime.pow
  apply hp.coprime
  intro hd
  rcases hq.2 p hd with h1 | h1
  · have := hp.1; omega
  · exact h h1
def powm (n : Nat) : Nat → Nat → Nat → Nat
  | 0, _, _ => 1 % n
  | f + 1, a, e => if e = 0 then 1 % n else
      if e % 2 = 1 then a * powm n f (a * a % n) (e / 2) % n else powm n f (a * a % n) (e / 2)
theorem powm_eq (n : Nat) : ∀ (f a e : Nat), e < 2 ^ f → powm n f a e = a ^ e % n
  | 0, a, e, h => by
    have : e = 0 := by simpa using h
    subst this; simp [powm]
  | f + 1, a, e, h => by
    simp only [powm]
    split
    · rename_i h0; subst h0; simp
    · have h1 := powm_eq n f (a * a % n) (e / 2) (by rw [Nat.pow_succ] at h; omega)
      have h2 : (a * a % n) ^ (e / 2) % n = a ^ (2 * (e / 2)) % n := by
        rw [← Nat.pow_mod, Nat.pow_mul, Nat.pow_two]
      split
      · rename_i ho
        rw [h1, h2, Nat.mul_mod, Nat.mod_mod, ← Nat.mul_mod, ← Nat.pow_succ']
        rw [show (2 * (e / 2)).succ = e by omega]
      · rw [h1, h2, show 2 * (e / 2) = e by omega]
def noDiv (n : Nat) : Nat → Nat → Bool
  | 0, _ => true
  | f + 1, d => n % d != 0 && noDiv n f (d + 1)
theorem noDiv_spec {n : Nat} : ∀ {f d : Nat}, noDiv n f d = true → ∀ k, d ≤ k → k < d + f → ¬ k ∣ n
  | 0, d, _, k, h1, h2 => by omega
  | f + 1, d, h, k, h1, h2 => by
    simp only [noDiv, Bool.and_eq_true, bne_iff_ne, ne_eq] at h
    by_cases hk : k = d
    · subst hk; exact fun hd => h.1 (Nat.mod_eq_zero_of_dvd hd)
    · exact noDiv_spec h.2 k (by omega) (by omega)
theorem irr_trial {n f : Nat} (hn : 2 ≤ n) (hf : n < (f + 2) * (f + 2)) (h : noDiv n f 2 = true) : Irr n :=
  irr_of_small hn fun p hp hpd => by
    rcases Nat.lt_or_ge p (2 + f) with h1 | h1
    · exact absurd hpd (noDiv_spec h p hp.1 h1)
    · exact Nat.lt_of_lt_of_le hf (Nat.mul_le_mul (by omega) (by omega))
def pockB (N : Nat) (c : Nat × Nat × Nat) : Bool :=
  Nat.blt 0 c.2.1 && (N - 1) % c.1 ^ c.2.1 == 0 && powm N 800 c.2.2 (N - 1) == 1 % N && Nat.gcd (powm N 800 c.2.2 ((N - 1) / c.1) + (N - 1)) N == 1
def factL : List (Nat × Nat × Nat) → Nat
  | [] => 1
  | c :: l => c.1 ^ c.2.1 * factL l
theorem factL_coprime {q f : Nat} (hq : Irr q) : ∀ {l : List (Nat × Nat × Nat)}, (∀ c ∈ l, Irr c.1 ∧ q ≠ c.1) → Nat.Coprime (q ^ f) (factL l)
  | [], _ => Nat.coprime_one_right _
  | c :: l, h => by
    have h1 := h c (List.mem_cons_self ..)
    exact Nat.Coprime.mul_right (coprime_pow_irr hq h1.1 h1.2 f c.2.1) (factL_coprime hq fun d hd => h d (List.mem_cons_of_mem _ hd))
theorem factL_dvd {m : Nat} : ∀ {l : List (Nat × Nat × Nat)}, (∀ c ∈ l, Irr c.1 ∧ c.1 ^ c.2.1 ∣ m) → (l.map (·.1)).Nodup → factL l ∣ m
  | [], _, _ => Nat.one_dvd _
  | c :: l, h, hn => by
    have h1 := h c (List.mem_cons_self ..)
    rw [List.map_cons, List.nodup_cons] at hn
    refine Nat.Coprime.mul_dvd_of_dvd_of_dvd (factL_coprime h1.1 fun d hd => ⟨(h d (List.mem_cons_of_mem _ hd)).1, fun e => hn.1 ?_⟩) h1.2 (factL_dvd (fun d hd => h d (List.mem_cons_of_mem _ hd)) hn.2)
    rw [e]
    exact List.mem_map.2 ⟨d, hd, rfl⟩
theorem pock {N : Nat} (l : List (Nat × Nat × Nat)) (hN : Nat.ble 2 N = true) (hb : Nat.blt N (2 ^ 800) = true) (hc : l.all (pockB N) = true) (hF : Nat.blt N ((factL l + 1) * (factL l + 1)) = true)
    (hn : (l.map (·.1)).Nodup) (hq : ∀ c ∈ l, Irr c.1) : Irr N := by
  have hN' := Nat.le_of_ble_eq_true hN
  have hb' : N < 2 ^ 800 := Nat.le_of_ble_eq_true hb
  refine irr_of_small hN' fun p hp hpd => ?_
  have hd : factL l ∣ p - 1 := factL_dvd (fun c hm => ⟨hq c hm, ?_⟩) hn
  · have h1 := Nat.le_of_dvd (by have := hp.1; omega) hd
    have h2 : N < (factL l + 1) * (factL l + 1) := Nat.le_of_ble_eq_true hF
    exact Nat.lt_of_lt_of_le h2 (Nat.mul_le_mul (by have := hp.1; omega) (by have := hp.1; omega))
  · have h3 := List.all_eq_true.1 hc c hm
    simp only [pockB, Bool.and_eq_true, beq_iff_eq] at h3
    obtain ⟨⟨⟨g1, g2⟩, g3⟩, g4⟩ := h3
    rw [powm_eq N 800 _ _ (by omega)] at g3
    rw [powm_eq N 800 _ _ (Nat.lt_of_le_of_lt (Nat.div_le_self _ _) (by omega))] at g4
    exact pock_step hN' hp hpd (hq c hm) (Nat.le_of_ble_eq_true g1) (Nat.dvd_of_mod_eq_zero g2) g3 g4
end Go.Proofs.Ytpahdiljpnfkdaa
namespace Go.Proofs.Ytpahdiljpnfkdaa
theorem irr_2 : Irr 2 := irr_trial (f := 0) (by decide) (by decide) (by kernel_rfl)
theorem irr_3 : Irr 3 := irr_trial (f := 0) (by decide) (by decide) (by kernel_rfl)
theorem irr_13 : Irr 13 := irr_trial (f := 2) (by decide) (by decide) (by kernel_rfl)
theorem irr_11 : Irr 11 := irr_trial (f := 2) (by decide) (by decide) (by kernel_rfl)
theorem irr_7 : Irr 7 := irr_trial (f := 1) (by decide) (by decide) (by kernel_rfl)
end Go.Proofs.Ytpahdiljpnfkdaa
namespace Go.Proofs.Ytpahdiljpnfkdaa.Rg
variable {n : Nat} [NeZero n] {x y z u v w : Fin n}
theorem add_comm (x y : Fin n) : x + y = y + x := by grind
theorem mul_comm (x y : Fin n) : x * y = y * x := by grind
theorem mul_assoc (x y z : Fin n) : x * (y * z) = x * y * z := by grind
theorem mul_add (x y z : Fin n) : x * (y + z) = x * y + x * z := by grind
theorem add_neg (x : Fin n) : x + -x = 0 := by grind
theorem mul_one (x : Fin n) : x * 1 = x := by grind
theorem one_mul (x : Fin n) : 1 * x = x := by grind
theorem sub_self (x : Fin n) : x - x = 0 := by grind
theorem zero_mul (x : Fin n) : 0 * x = 0 := by grind
theorem mul_zero (x : Fin n) : x * 0 = 0 := by grind
theorem add_zero (x : Fin n) : x + 0 = x := by grind
theorem zero_add (x : Fin n) : 0 + x = x := by grind
theorem add_assoc (x y z : Fin n) : x + y + z = x + (y + z) := by grind
end Go.Proofs.Ytpahdiljpnfkdaa.Rg
namespace Go.Proofs.Ytpahdiljpnfkdaa
open Go Sim
abbrev Fp := Fin 21888242871839275222246405745257275088548364400416034343698204186575808495617
def fe (x : Fp) : List Nat := fel x.val
def fp (v : Nat) : Fp := ⟨v % 21888242871839275222246405745257275088548364400416034343698204186575808495617, Nat.mod_lt _ (by decide)⟩
@[simp] theorem fe_len (x : Fp) : (fe x).length = 4 := fel_len _
end Go.Proofs.Ytpahdiljpnfkdaa
namespace Go.Proofs.Ytpahdiljpnfkdaa
open Go Sim
abbrev dd (v : Nat) : Value := deep (D 4294967296 v).length 1 ((D 4294967296 v).map (vi .u64))
abbrev db (b : List Nat) : Value := deep b.length 1 (b.map (vi .u8))
theorem cloA {α : Type} {f : α → Value} {l : List α} (hf : ∀ x, flatV (f x) = true) : cloV (.agg (l.map f).toArray) = true := by
  simp only [cloV, List.all_eq_true]
  intro x hx
  obtain ⟨y, _, rfl⟩ := List.mem_map.1 (by simpa using hx)
  simp [clo1, hf y]
theorem sameRd {x y : Nat} (hx : (D 4294967296 x).length < 100000000) (hy : (D 4294967296 y).length < 100000000) : GC Try.prog 49 [dd x, dd y] [] [.bool (decide (x = y))] [] := GC.deepen (same02_ctr hx hy) (.deep (.deep .nil)) (.pure rfl .nil)
end Go.Proofs.Ytpahdiljpnfkdaa
namespace Go.Proofs.Ytpahdiljpnfkdaa
open Go Sim
def blk (L : List (List Nat)) (c : Nat) : List Nat := L.getD (c % L.length) []
end Go.Proofs.Ytpahdiljpnfkdaa
namespace Go.Proofs.Ytpahdiljpnfkdaa
open Go Sim
attribute [local simp] digs_len
def bstr (xs : List Fp) (i : Nat) : Nat := (digs 256 32 (xs.getD (i / 31 % xs.length) 0).val).getD (i % 31) 0
def bts (xs : List Fp) (n : Nat) : List Nat := (List.range n).map (bstr xs)
@[simp] theorem bts_len (xs : List Fp) (n : Nat) : (bts xs n).length = n := by simp [bts]
theorem bts_step {xs : List Fp} {k n : Nat} (h : 31 * k < n) : bts xs (min (31 * k) n) ++ (digs 256 32 (xs.getD (k % xs.length) 0).val).take (min 31 (n - min (31 * k) n)) = bts xs (min (31 * (k + 1)) n) := by
  have h1 : min (31 * k) n = 31 * k := by omega
  rw [h1]
  obtain ⟨m, hm⟩ : ∃ m, m = min 31 (n - 31 * k) := ⟨_, rfl⟩
  rw [← hm, show min (31 * (k + 1)) n = 31 * k + m by omega]
  apply List.ext_getElem?
  intro i
  have hl : ((digs 256 32 (xs.getD (k % xs.length) 0).val).take m).length = m := by rw [List.length_take, digs_len]; omega
  rcases Nat.lt_or_ge i (31 * k) with hi | hi
  · rw [List.getElem?_append_left (by simpa using hi)]
    simp only [bts, List.getElem?_map, List.getElem?_range hi, List.getElem?_range (show i < 31 * k + m by omega)]
  · rw [List.getElem?_append_right (by simpa using hi), bts_len]
    rcases Nat.lt_or_ge i (31 * k + m) with hj | hj
    · simp only [bts, List.getElem?_map, List.getElem?_range hj, Option.map_some, bstr]
      rw [List.getElem?_take, if_pos (by omega), List.getElem?_eq_getElem (by rw [digs_len]; omega), show i / 31 = k by omega, show i % 31 = i - 31 * k by omega, List.getD_eq_getElem?_getD (i := i - 31 * k), List.getElem?_eq_getElem (by rw [digs_len]; omega)]
      rfl
    · rw [List.getElem?_eq_none (by omega), List.getElem?_eq_none (by simpa using hj)]
end Go.Proofs.Ytpahdiljpnfkdaa
namespace Go.Proofs.Ytpahdiljpnfkdaa
open Go Sim
theorem getD_lt {B : Nat} {l : List Nat} (h : bd B l) (hB : 0 < B) (i : Nat) : l.getD i 0 < B := by
 rw [List.getD_eq_getElem?_getD]
 cases hx : l[i]? with
 | none => exact hB
 | some v => exact h v (List.mem_of_getElem? hx)
end Go.Proofs.Ytpahdiljpnfkdaa
namespace Go.Proofs.Ytpahdiljpnfkdaa
open Go Sim
set_option maxRecDepth 100000 in
theorem expoW_ctr : GC Try.prog 39 [] [] [.pointer (some ⟨0, 0, none⟩)] [⟨[.pointer (some ⟨1, 0, none⟩)], true, 1⟩, ⟨[.slice (some ⟨2, 0, none⟩) 12 0, vi .u64 (ninvR ((digs 18446744073709551616 12 QG).getD 0 0)), .slice (some ⟨3, 0, none⟩) 12 0], true, 1⟩, ⟨((digs 18446744073709551616 12 QG)).map (vi .u64), true, 1⟩, ⟨((digs 18446744073709551616 12 (RR2 QG))).map (vi .u64), true, 1⟩] := by
  refine GC.intro Try.func39 rfl (by show 0 ≤ 24; decide) (by first | exact Nat.le_refl _ | decide | simp) ?_
  refine AW.seqR ?_
  refine AWo.pure (PureOp.assign rfl) rfl rfl ?_
  refine AWo.nil trivial ?_
  refine AW.seqR ?_
  refine AWo.callX (primeW_ctr) bd101 [] [] rfl .nil rfl .nil .nil rfl .nil frN (by decide) (.pure (by first | rfl | exact pure_aggM flat_vi | exact pure_aggM flat_bool) .nil) rfl rfl rfl rfl ?_
  refine AWo.alloc tbok 2000 1 ((List.replicate 12 0).map (vi .u64)) rfl rfl rfl rfl rfl rfl ?_
  refine AWo.storeAllN tbok rfl rfl rfl rfl (by rw [List.length_map, digs_len]) (by first | rfl | (simp [digs_len]; done)) (oneM (fun _ => rfl) _) rfl ?_
  rw [show (digs 18446744073709551616 12 PG).map (vi .u64) = [vi .u64 18446744073709551615, vi .u64 17603518614768072224, vi .u64 16466767132611215046, vi .u64 5755940542857986629, vi .u64 3470879405153129527, vi .u64 17263733006627652379, vi .u64 5857503583518590173, vi .u64 147421033984662306, vi .u64 2955010104097229940, vi .u64 14179128828124470481, vi .u64 14488038916154245684, vi .u64 18446744073709551615] from by kernel_rfl]
  refine AWo.pure (PureOp.assign rfl) rfl rfl ?_
  refine AWo.nil trivial ?_
  refine AW.seq ?_
  refine AW.seqR ?_
  refine AWo.pure (PureOp.assign rfl) rfl rfl ?_
  refine AWo.nil trivial ?_
  refine AW.block ?_
  refine AW.rounds 13 ?_
  refine roundsA_succ ?_
  refine AW.seq ?_
  refine AW.seqR ?_
  refine AWo.pure (PureOp.move rfl) rfl rfl ?_
  first | refine AWo.pure (PureOp.geP rfl rfl) rfl rfl ?_ | refine AWo.pure (PureOp.geN (b := 0) rfl rfl) rfl rfl ?_ | refine AWo.pure (PureOp.bin rfl rfl rfl) rfl rfl ?_
  refine AWo.nil trivial ?_
  refine AW.condT rfl ?_
  refine AW.skip ?_
  refine thenA_normal ?_
  refine AW.seq ?_
  refine AW.block ?_
  refine AW.draw mixed ?_
  refine AWo.pure (PureOp.move rfl) rfl rfl ?_
  refine AWo.pure (PureOp.move rfl) rfl rfl ?_
  first | refine AWo.pure (PureOp.arr1 tbok rfl rfl rfl rfl (by first | decide | omega)) rfl rfl ?_ | refine AWo.pure (PureOp.arr tbok rfl rfl rfl rfl (by first | decide | omega)) rfl rfl ?_
  refine AWo.load (v := vi .u64 18446744073709551615) tbok rfl rfl rfl rfl rfl rfl ?_
  first | refine AWo.pure ((PureOp.shrN (b := 1) 64 rfl rfl rfl (by first | decide | omega)).mono (v' := vi .u64 9223372036854775807) (by kernel_rfl)) rfl rfl ?_ | refine AWo.pure ((PureOp.shr rfl rfl (by first | decide | omega)).mono (v' := vi .u64 9223372036854775807) (by kernel_rfl)) rfl rfl ?_
  refine AWo.pure (PureOp.move rfl) rfl rfl ?_
  first | refine AWo.pure ((PureOp.shlUge (b := 63) 18446744073709551616 rfl rfl rfl rfl).mono (v' := vi .u64 0) (by kernel_rfl)) rfl rfl ?_ | refine AWo.pure ((PureOp.shl rfl rfl (by first | decide | omega)).mono (v' := vi .u64 0) (by kernel_rfl)) rfl rfl ?_
  first | refine AWo.pure ((PureOp.orN 18446744073709551616 rfl rfl (by decide) (by decide) (by first | decide | omega) (by first | decide | omega)).mono (v' := vi .u64 9223372036854775807) (by kernel_rfl)) rfl rfl ?_ | refine AWo.pure ((PureOp.bin rfl rfl rfl).mono (v' := vi .u64 9223372036854775807) (by kernel_rfl)) rfl rfl ?_
  refine AWo.pure (PureOp.move rfl) rfl rfl ?_
  first | refine AWo.pure (PureOp.arr1 tbok rfl rfl rfl rfl (by first | decide | omega)) rfl rfl ?_ | refine AWo.pure (PureOp.arr tbok rfl rfl rfl rfl (by first | decide | omega)) rfl rfl ?_
  refine AWo.load (v := vi .u64 18446744073709551615) tbok rfl rfl rfl rfl rfl rfl ?_
  first | refine AWo.pure ((PureOp.andN (b := 1) 18446744073709551616 rfl rfl (by decide) (by decide) (by first | decide | omega) (by first | decide | omega)).mono (v' := vi .u64 1) (by kernel_rfl)) rfl rfl ?_ | refine AWo.pure ((PureOp.bin rfl rfl rfl).mono (v' := vi .u64 1) (by kernel_rfl)) rfl rfl ?_
  first | refine AWo.pure (PureOp.arr1 tbok rfl rfl rfl rfl (by first | decide | omega)) rfl rfl ?_ | refine AWo.pure (PureOp.arr tbok rfl rfl rfl rfl (by first | decide | omega)) rfl rfl ?_
  refine AWo.store (cells := [vi .u64 18446744073709551615, vi .u64 17603518614768072224, vi .u64 16466767132611215046, vi .u64 5755940542857986629, vi .u64 3470879405153129527, vi .u64 17263733006627652379, vi .u64 5857503583518590173, vi .u64 147421033984662306, vi .u64 2955010104097229940, vi .u64 14179128828124470481, vi .u64 14488038916154245684, vi .u64 9223372036854775807]) tbok rfl rfl rfl rfl rfl (by decide) rfl rfl rfl ?_
  refine AWo.pure (PureOp.assign rfl) rfl rfl ?_
  refine AWo.nil (by kernel_rfl) ?_
  refine inBlockA_normal ?_
  refine thenA_normal ?_
  refine AW.region ?_
  refine AWo.pure (PureOp.move rfl) rfl rfl ?_
  first | refine AWo.pure (PureOp.subI (b := 1) rfl rfl (by first | decide | omega) (by first | decide | omega)) rfl rfl ?_ | refine AWo.pure (PureOp.subP rfl rfl (by first | decide | omega)) rfl rfl ?_ | refine AWo.pure (PureOp.bin rfl rfl rfl) rfl rfl ?_
  refine AWo.pure (PureOp.assign rfl) rfl rfl ?_
  refine AWo.nil trivial ?_
  refine thenA_normal ?_
  refine roundsA_succ ?_
  refine AW.seq ?_
  refine AW.seqR ?_
  refine AWo.pure (PureOp.move rfl) rfl rfl ?_
  first | refine AWo.pure (PureOp.geP rfl rfl) rfl rfl ?_ | refine AWo.pure (PureOp.geN (b := 0) rfl rfl) rfl rfl ?_ | refine AWo.pure (PureOp.bin rfl rfl rfl) rfl rfl ?_
  refine AWo.nil trivial ?_
  refine AW.condT rfl ?_
  refine AW.skip ?_
  refine thenA_normal ?_
  refine AW.seq ?_
  refine AW.block ?_
  refine AW.draw mixed ?_
  refine AWo.pure (PureOp.move rfl) rfl rfl ?_
  refine AWo.pure (PureOp.move rfl) rfl rfl ?_
  first | refine AWo.pure (PureOp.arr1 tbok rfl rfl rfl rfl (by first | decide | omega)) rfl rfl ?_ | refine AWo.pure (PureOp.arr tbok rfl rfl rfl rfl (by first | decide | omega)) rfl rfl ?_
  refine AWo.load (v := vi .u64 14488038916154245684) tbok rfl rfl rfl rfl rfl rfl ?_
  first | refine AWo.pure ((PureOp.shrN (b := 1) 64 rfl rfl rfl (by first | decide | omega)).mono (v' := vi .u64 7244019458077122842) (by kernel_rfl)) rfl rfl ?_ | refine AWo.pure ((PureOp.shr rfl rfl (by first | decide | omega)).mono (v' := vi .u64 7244019458077122842) (by kernel_rfl)) rfl rfl ?_
  refine AWo.pure (PureOp.move rfl) rfl rfl ?_
  first | refine AWo.pure ((PureOp.shlUge (b := 63) 18446744073709551616 rfl rfl rfl rfl).mono (v' := vi .u64 9223372036854775808) (by kernel_rfl)) rfl rfl ?_ | refine AWo.pure ((PureOp.shl rfl rfl (by first | decide | omega)).mono (v' := vi .u64 9223372036854775808) (by kernel_rfl)) rfl rfl ?_
  first | refine AWo.pure ((PureOp.orN 18446744073709551616 rfl rfl (by decide) (by decide) (by first | decide | omega) (by first | decide | omega)).mono (v' := vi .u64 16467391494931898650) (by kernel_rfl)) rfl rfl ?_ | refine AWo.pure ((PureOp.bin rfl rfl rfl).mono (v' := vi .u64 16467391494931898650) (by kernel_rfl)) rfl rfl ?_
  refine AWo.pure (PureOp.move rfl) rfl rfl ?_
  first | refine AWo.pure (PureOp.arr1 tbok rfl rfl rfl rfl (by first | decide | omega)) rfl rfl ?_ | refine AWo.pure (PureOp.arr tbok rfl rfl rfl rfl (by first | decide | omega)) rfl rfl ?_
  refine AWo.load (v := vi .u64 14488038916154245684) tbok rfl rfl rfl rfl rfl rfl ?_
  first | refine AWo.pure ((PureOp.andN (b := 1) 18446744073709551616 rfl rfl (by decide) (by decide) (by first | decide | omega) (by first | decide | omega)).mono (v' := vi .u64 0) (by kernel_rfl)) rfl rfl ?_ | refine AWo.pure ((PureOp.bin rfl rfl rfl).mono (v' := vi .u64 0) (by kernel_rfl)) rfl rfl ?_
  first | refine AWo.pure (PureOp.arr1 tbok rfl rfl rfl rfl (by first | decide | omega)) rfl rfl ?_ | refine AWo.pure (PureOp.arr tbok rfl rfl rfl rfl (by first | decide | omega)) rfl rfl ?_
  refine AWo.store (cells := [vi .u64 18446744073709551615, vi .u64 17603518614768072224, vi .u64 16466767132611215046, vi .u64 5755940542857986629, vi .u64 3470879405153129527, vi .u64 17263733006627652379, vi .u64 5857503583518590173, vi .u64 147421033984662306, vi .u64 2955010104097229940, vi .u64 14179128828124470481, vi .u64 16467391494931898650, vi .u64 9223372036854775807]) tbok rfl rfl rfl rfl rfl (by decide) rfl rfl rfl ?_
  refine AWo.pure (PureOp.assign rfl) rfl rfl ?_
  refine AWo.nil (by kernel_rfl) ?_
  refine inBlockA_normal ?_
  refine thenA_normal ?_
  refine AW.region ?_
  refine AWo.pure (PureOp.move rfl) rfl rfl ?_
  first | refine AWo.pure (PureOp.subI (b := 1) rfl rfl (by first | decide | omega) (by first | decide | omega)) rfl rfl ?_ | refine AWo.pure (PureOp.subP rfl rfl (by first | decide | omega)) rfl rfl ?_ | refine AWo.pure (PureOp.bin rfl rfl rfl) rfl rfl ?_
  refine AWo.pure (PureOp.assign rfl) rfl rfl ?_
  refine AWo.nil trivial ?_
  refine thenA_normal ?_
  refine roundsA_succ ?_
  refine AW.seq ?_
  refine AW.seqR ?_
  refine AWo.pure (PureOp.move rfl) rfl rfl ?_
  first | refine AWo.pure (PureOp.geP rfl rfl) rfl rfl ?_ | refine AWo.pure (PureOp.geN (b := 0) rfl rfl) rfl rfl ?_ | refine AWo.pure (PureOp.bin rfl rfl rfl) rfl rfl ?_
  refine AWo.nil trivial ?_
  refine AW.condT rfl ?_
  refine AW.skip ?_
  refine thenA_normal ?_
  refine AW.seq ?_
  refine AW.block ?_
  refine AW.draw mixed ?_
  refine AWo.pure (PureOp.move rfl) rfl rfl ?_
  refine AWo.pure (PureOp.move rfl) rfl rfl ?_
  first | refine AWo.pure (PureOp.arr1 tbok rfl rfl rfl rfl (by first | decide | omega)) rfl rfl ?_ | refine AWo.pure (PureOp.arr tbok rfl rfl rfl rfl (by first | decide | omega)) rfl rfl ?_
  refine AWo.load (v := vi .u64 14179128828124470481) tbok rfl rfl rfl rfl rfl rfl ?_
  first | refine AWo.pure ((PureOp.shrN (b := 1) 64 rfl rfl rfl (by first | decide | omega)).mono (v' := vi .u64 7089564414062235240) (by kernel_rfl)) rfl rfl ?_ | refine AWo.pure ((PureOp.shr rfl rfl (by first | decide | omega)).mono (v' := vi .u64 7089564414062235240) (by kernel_rfl)) rfl rfl ?_
  refine AWo.pure (PureOp.move rfl) rfl rfl ?_
  first | refine AWo.pure ((PureOp.shlUge (b := 63) 18446744073709551616 rfl rfl rfl rfl).mono (v' := vi .u64 0) (by kernel_rfl)) rfl rfl ?_ | refine AWo.pure ((PureOp.shl rfl rfl (by first | decide | omega)).mono (v' := vi .u64 0) (by kernel_rfl)) rfl rfl ?_
  first | refine AWo.pure ((PureOp.orN 18446744073709551616 rfl rfl (by decide) (by decide) (by first | decide | omega) (by first | decide | omega)).mono (v' := vi .u64 7089564414062235240) (by kernel_rfl)) rfl rfl ?_ | refine AWo.pure ((PureOp.bin rfl rfl rfl).mono (v' := vi .u64 7089564414062235240) (by kernel_rfl)) rfl rfl ?_
  refine AWo.pure (PureOp.move rfl) rfl rfl ?_
  first | refine AWo.pure (PureOp.arr1 tbok rfl rfl rfl rfl (by first | decide | omega)) rfl rfl ?_ | refine AWo.pure (PureOp.arr tbok rfl rfl rfl rfl (by first | decide | omega)) rfl rfl ?_
  refine AWo.load (v := vi .u64 14179128828124470481) tbok rfl rfl rfl rfl rfl rfl ?_
  first | refine AWo.pure ((PureOp.andN (b := 1) 18446744073709551616 rfl rfl (by decide) (by decide) (by first | decide | omega) (by first | decide | omega)).mono (v' := vi .u64 1) (by kernel_rfl)) rfl rfl ?_ | refine AWo.pure ((PureOp.bin rfl rfl rfl).mono (v' := vi .u64 1) (by kernel_rfl)) rfl rfl ?_
  first | refine AWo.pure (PureOp.arr1 tbok rfl rfl rfl rfl (by first | decide | omega)) rfl rfl ?_ | refine AWo.pure (PureOp.arr tbok rfl rfl rfl rfl (by first | decide | omega)) rfl rfl ?_
  refine AWo.store (cells := [vi .u64 18446744073709551615, vi .u64 17603518614768072224, vi .u64 16466767132611215046, vi .u64 5755940542857986629, vi .u64 3470879405153129527, vi .u64 17263733006627652379, vi .u64 5857503583518590173, vi .u64 147421033984662306, vi .u64 2955010104097229940, vi .u64 7089564414062235240, vi .u64 16467391494931898650, vi .u64 9223372036854775807]) tbok rfl rfl rfl rfl rfl (by decide) rfl rfl rfl ?_
  refine AWo.pure (PureOp.assign rfl) rfl rfl ?_
  refine AWo.nil (by kernel_rfl) ?_
  refine inBlockA_normal ?_
  refine thenA_normal ?_
  refine AW.region ?_
  refine AWo.pure (PureOp.move rfl) rfl rfl ?_
  first | refine AWo.pure (PureOp.subI (b := 1) rfl rfl (by first | decide | omega) (by first | decide | omega)) rfl rfl ?_ | refine AWo.pure (PureOp.subP rfl rfl (by first | decide | omega)) rfl rfl ?_ | refine AWo.pure (PureOp.bin rfl rfl rfl) rfl rfl ?_
  refine AWo.pure (PureOp.assign rfl) rfl rfl ?_
  refine AWo.nil trivial ?_
  refine thenA_normal ?_
  refine roundsA_succ ?_
  refine AW.seq ?_
  refine AW.seqR ?_
  refine AWo.pure (PureOp.move rfl) rfl rfl ?_
  first | refine AWo.pure (PureOp.geP rfl rfl) rfl rfl ?_ | refine AWo.pure (PureOp.geN (b := 0) rfl rfl) rfl rfl ?_ | refine AWo.pure (PureOp.bin rfl rfl rfl) rfl rfl ?_
  refine AWo.nil trivial ?_
  refine AW.condT rfl ?_
  refine AW.skip ?_
  refine thenA_normal ?_
  refine AW.seq ?_
  refine AW.block ?_
  refine AW.draw mixed ?_
  refine AWo.pure (PureOp.move rfl) rfl rfl ?_
  refine AWo.pure (PureOp.move rfl) rfl rfl ?_
  first | refine AWo.pure (PureOp.arr1 tbok rfl rfl rfl rfl (by first | decide | omega)) rfl rfl ?_ | refine AWo.pure (PureOp.arr tbok rfl rfl rfl rfl (by first | decide | omega)) rfl rfl ?_
  refine AWo.load (v := vi .u64 2955010104097229940) tbok rfl rfl rfl rfl rfl rfl ?_
  first | refine AWo.pure ((PureOp.shrN (b := 1) 64 rfl rfl rfl (by first | decide | omega)).mono (v' := vi .u64 1477505052048614970) (by kernel_rfl)) rfl rfl ?_ | refine AWo.pure ((PureOp.shr rfl rfl (by first | decide | omega)).mono (v' := vi .u64 1477505052048614970) (by kernel_rfl)) rfl rfl ?_
  refine AWo.pure (PureOp.move rfl) rfl rfl ?_
  first | refine AWo.pure ((PureOp.shlUge (b := 63) 18446744073709551616 rfl rfl rfl rfl).mono (v' := vi .u64 9223372036854775808) (by kernel_rfl)) rfl rfl ?_ | refine AWo.pure ((PureOp.shl rfl rfl (by first | decide | omega)).mono (v' := vi .u64 9223372036854775808) (by kernel_rfl)) rfl rfl ?_
  first | refine AWo.pure ((PureOp.orN 18446744073709551616 rfl rfl (by decide) (by decide) (by first | decide | omega) (by first | decide | omega)).mono (v' := vi .u64 10700877088903390778) (by kernel_rfl)) rfl rfl ?_ | refine AWo.pure ((PureOp.bin rfl rfl rfl).mono (v' := vi .u64 10700877088903390778) (by kernel_rfl)) rfl rfl ?_
  refine AWo.pure (PureOp.move rfl) rfl rfl ?_
  first | refine AWo.pure (PureOp.arr1 tbok rfl rfl rfl rfl (by first | decide | omega)) rfl rfl ?_ | refine AWo.pure (PureOp.arr tbok rfl rfl rfl rfl (by first | decide | omega)) rfl rfl ?_
  refine AWo.load (v := vi .u64 2955010104097229940) tbok rfl rfl rfl rfl rfl rfl ?_
  first | refine AWo.pure ((PureOp.andN (b := 1) 18446744073709551616 rfl rfl (by decide) (by decide) (by first | decide | omega) (by first | decide | omega)).mono (v' := vi .u64 0) (by kernel_rfl)) rfl rfl ?_ | refine AWo.pure ((PureOp.bin rfl rfl rfl).mono (v' := vi .u64 0) (by kernel_rfl)) rfl rfl ?_
  first | refine AWo.pure (PureOp.arr1 tbok rfl rfl rfl rfl (by first | decide | omega)) rfl rfl ?_ | refine AWo.pure (PureOp.arr tbok rfl rfl rfl rfl (by first | decide | omega)) rfl rfl ?_
  refine AWo.store (cells := [vi .u64 18446744073709551615, vi .u64 17603518614768072224, vi .u64 16466767132611215046, vi .u64 5755940542857986629, vi .u64 3470879405153129527, vi .u64 17263733006627652379, vi .u64 5857503583518590173, vi .u64 147421033984662306, vi .u64 10700877088903390778, vi .u64 7089564414062235240, vi .u64 16467391494931898650, vi .u64 9223372036854775807]) tbok rfl rfl rfl rfl rfl (by decide) rfl rfl rfl ?_
  refine AWo.pure (PureOp.assign rfl) rfl rfl ?_
  refine AWo.nil (by kernel_rfl) ?_
  refine inBlockA_normal ?_
  refine thenA_normal ?_
  refine AW.region ?_
  refine AWo.pure (PureOp.move rfl) rfl rfl ?_
  first | refine AWo.pure (PureOp.subI (b := 1) rfl rfl (by first | decide | omega) (by first | decide | omega)) rfl rfl ?_ | refine AWo.pure (PureOp.subP rfl rfl (by first | decide | omega)) rfl rfl ?_ | refine AWo.pure (PureOp.bin rfl rfl rfl) rfl rfl ?_
  refine AWo.pure (PureOp.assign rfl) rfl rfl ?_
  refine AWo.nil trivial ?_
  refine thenA_normal ?_
  refine roundsA_succ ?_
  refine AW.seq ?_
  refine AW.seqR ?_
  refine AWo.pure (PureOp.move rfl) rfl rfl ?_
  first | refine AWo.pure (PureOp.geP rfl rfl) rfl rfl ?_ | refine AWo.pure (PureOp.geN (b := 0) rfl rfl) rfl rfl ?_ | refine AWo.pure (PureOp.bin rfl rfl rfl) rfl rfl ?_
  refine AWo.nil trivial ?_
  refine AW.condT rfl ?_
  refine AW.skip ?_
  refine thenA_normal ?_
  refine AW.seq ?_
  refine AW.block ?_
  refine AW.draw mixed ?_
  refine AWo.pure (PureOp.move rfl) rfl rfl ?_
  refine AWo.pure (PureOp.move rfl) rfl rfl ?_
  first | refine AWo.pure (PureOp.arr1 tbok rfl rfl rfl rfl (by first | decide | omega)) rfl rfl ?_ | refine AWo.pure (PureOp.arr tbok rfl rfl rfl rfl (by first | decide | omega)) rfl rfl ?_
  refine AWo.load (v := vi .u64 147421033984662306) tbok rfl rfl rfl rfl rfl rfl ?_
  first | refine AWo.pure ((PureOp.shrN (b := 1) 64 rfl rfl rfl (by first | decide | omega)).mono (v' := vi .u64 73710516992331153) (by kernel_rfl)) rfl rfl ?_ | refine AWo.pure ((PureOp.shr rfl rfl (by first | decide | omega)).mono (v' := vi .u64 73710516992331153) (by kernel_rfl)) rfl rfl ?_
  refine AWo.pure (PureOp.move rfl) rfl rfl ?_
  first | refine AWo.pure ((PureOp.shlUge (b := 63) 18446744073709551616 rfl rfl rfl rfl).mono (v' := vi .u64 0) (by kernel_rfl)) rfl rfl ?_ | refine AWo.pure ((PureOp.shl rfl rfl (by first | decide | omega)).mono (v' := vi .u64 0) (by kernel_rfl)) rfl rfl ?_
  first | refine AWo.pure ((PureOp.orN 18446744073709551616 rfl rfl (by decide) (by decide) (by first | decide | omega) (by first | decide | omega)).mono (v' := vi .u64 73710516992331153) (by kernel_rfl)) rfl rfl ?_ | refine AWo.pure ((PureOp.bin rfl rfl rfl).mono (v' := vi .u64 73710516992331153) (by kernel_rfl)) rfl rfl ?_
  refine AWo.pure (PureOp.move rfl) rfl rfl ?_
  first | refine AWo.pure (PureOp.arr1 tbok rfl rfl rfl rfl (by first | decide | omega)) rfl rfl ?_ | refine AWo.pure (PureOp.arr tbok rfl rfl rfl rfl (by first | decide | omega)) rfl rfl ?_
  refine AWo.load (v := vi .u64 147421033984662306) tbok rfl rfl rfl rfl rfl rfl ?_
  first | refine AWo.pure ((PureOp.andN (b := 1) 18446744073709551616 rfl rfl (by decide) (by decide) (by first | decide | omega) (by first | decide | omega)).mono (v' := vi .u64 0) (by kernel_rfl)) rfl rfl ?_ | refine AWo.pure ((PureOp.bin rfl rfl rfl).mono (v' := vi .u64 0) (by kernel_rfl)) rfl rfl ?_
  first | refine AWo.pure (PureOp.arr1 tbok rfl rfl rfl rfl (by first | decide | omega)) rfl rfl ?_ | refine AWo.pure (PureOp.arr tbok rfl rfl rfl rfl (by first | decide | omega)) rfl rfl ?_
  refine AWo.store (cells := [vi .u64 18446744073709551615, vi .u64 17603518614768072224, vi .u64 16466767132611215046, vi .u64 5755940542857986629, vi .u64 3470879405153129527, vi .u64 17263733006627652379, vi .u64 5857503583518590173, vi .u64 73710516992331153, vi .u64 10700877088903390778, vi .u64 7089564414062235240, vi .u64 16467391494931898650, vi .u64 9223372036854775807]) tbok rfl rfl rfl rfl rfl (by decide) rfl rfl rfl ?_
  refine AWo.pure (PureOp.assign rfl) rfl rfl ?_
  refine AWo.nil (by kernel_rfl) ?_
  refine inBlockA_normal ?_
  refine thenA_normal ?_
  refine AW.region ?_
  refine AWo.pure (PureOp.move rfl) rfl rfl ?_
  first | refine AWo.pure (PureOp.subI (b := 1) rfl rfl (by first | decide | omega) (by first | decide | omega)) rfl rfl ?_ | refine AWo.pure (PureOp.subP rfl rfl (by first | decide | omega)) rfl rfl ?_ | refine AWo.pure (PureOp.bin rfl rfl rfl) rfl rfl ?_
  refine AWo.pure (PureOp.assign rfl) rfl rfl ?_
  refine AWo.nil trivial ?_
  refine thenA_normal ?_
  refine roundsA_succ ?_
  refine AW.seq ?_
  refine AW.seqR ?_
  refine AWo.pure (PureOp.move rfl) rfl rfl ?_
  first | refine AWo.pure (PureOp.geP rfl rfl) rfl rfl ?_ | refine AWo.pure (PureOp.geN (b := 0) rfl rfl) rfl rfl ?_ | refine AWo.pure (PureOp.bin rfl rfl rfl) rfl rfl ?_
  refine AWo.nil trivial ?_
  refine AW.condT rfl ?_
  refine AW.skip ?_
  refine thenA_normal ?_
  refine AW.seq ?_
  refine AW.block ?_
  refine AW.draw mixed ?_
  refine AWo.pure (PureOp.move rfl) rfl rfl ?_
  refine AWo.pure (PureOp.move rfl) rfl rfl ?_
  first | refine AWo.pure (PureOp.arr1 tbok rfl rfl rfl rfl (by first | decide | omega)) rfl rfl ?_ | refine AWo.pure (PureOp.arr tbok rfl rfl rfl rfl (by first | decide | omega)) rfl rfl ?_
  refine AWo.load (v := vi .u64 5857503583518590173) tbok rfl rfl rfl rfl rfl rfl ?_
  first | refine AWo.pure ((PureOp.shrN (b := 1) 64 rfl rfl rfl (by first | decide | omega)).mono (v' := vi .u64 2928751791759295086) (by kernel_rfl)) rfl rfl ?_ | refine AWo.pure ((PureOp.shr rfl rfl (by first | decide | omega)).mono (v' := vi .u64 2928751791759295086) (by kernel_rfl)) rfl rfl ?_
  refine AWo.pure (PureOp.move rfl) rfl rfl ?_
  first | refine AWo.pure ((PureOp.shlUge (b := 63) 18446744073709551616 rfl rfl rfl rfl).mono (v' := vi .u64 0) (by kernel_rfl)) rfl rfl ?_ | refine AWo.pure ((PureOp.shl rfl rfl (by first | decide | omega)).mono (v' := vi .u64 0) (by kernel_rfl)) rfl rfl ?_
  first | refine AWo.pure ((PureOp.orN 18446744073709551616 rfl rfl (by decide) (by decide) (by first | decide | omega) (by first | decide | omega)).mono (v' := vi .u64 2928751791759295086) (by kernel_rfl)) rfl rfl ?_ | refine AWo.pure ((PureOp.bin rfl rfl rfl).mono (v' := vi .u64 2928751791759295086) (by kernel_rfl)) rfl rfl ?_
  refine AWo.pure (PureOp.move rfl) rfl rfl ?_
  first | refine AWo.pure (PureOp.arr1 tbok rfl rfl rfl rfl (by first | decide | omega)) rfl rfl ?_ | refine AWo.pure (PureOp.arr tbok rfl rfl rfl rfl (by first | decide | omega)) rfl rfl ?_
  refine AWo.load (v := vi .u64 5857503583518590173) tbok rfl rfl rfl rfl rfl rfl ?_
  first | refine AWo.pure ((PureOp.andN (b := 1) 18446744073709551616 rfl rfl (by decide) (by decide) (by first | decide | omega) (by first | decide | omega)).mono (v' := vi .u64 1) (by kernel_rfl)) rfl rfl ?_ | refine AWo.pure ((PureOp.bin rfl rfl rfl).mono (v' := vi .u64 1) (by kernel_rfl)) rfl rfl ?_
  first | refine AWo.pure (PureOp.arr1 tbok rfl rfl rfl rfl (by first | decide | omega)) rfl rfl ?_ | refine AWo.pure (PureOp.arr tbok rfl rfl rfl rfl (by first | decide | omega)) rfl rfl ?_
  refine AWo.store (cells := [vi .u64 18446744073709551615, vi .u64 17603518614768072224, vi .u64 16466767132611215046, vi .u64 5755940542857986629, vi .u64 3470879405153129527, vi .u64 17263733006627652379, vi .u64 2928751791759295086, vi .u64 73710516992331153, vi .u64 10700877088903390778, vi .u64 7089564414062235240, vi .u64 16467391494931898650, vi .u64 9223372036854775807]) tbok rfl rfl rfl rfl rfl (by decide) rfl rfl rfl ?_
  refine AWo.pure (PureOp.assign rfl) rfl rfl ?_
  refine AWo.nil (by kernel_rfl) ?_
  refine inBlockA_normal ?_
  refine thenA_normal ?_
  refine AW.region ?_
  refine AWo.pure (PureOp.move rfl) rfl rfl ?_
  first | refine AWo.pure (PureOp.subI (b := 1) rfl rfl (by first | decide | omega) (by first | decide | omega)) rfl rfl ?_ | refine AWo.pure (PureOp.subP rfl rfl (by first | decide | omega)) rfl rfl ?_ | refine AWo.pure (PureOp.bin rfl rfl rfl) rfl rfl ?_
  refine AWo.pure (PureOp.assign rfl) rfl rfl ?_
  refine AWo.nil trivial ?_
  refine thenA_normal ?_
  refine roundsA_succ ?_
  refine AW.seq ?_
  refine AW.seqR ?_
  refine AWo.pure (PureOp.move rfl) rfl rfl ?_
  first | refine AWo.pure (PureOp.geP rfl rfl) rfl rfl ?_ | refine AWo.pure (PureOp.geN (b := 0) rfl rfl) rfl rfl ?_ | refine AWo.pure (PureOp.bin rfl rfl rfl) rfl rfl ?_
  refine AWo.nil trivial ?_
  refine AW.condT rfl ?_
  refine AW.skip ?_
  refine thenA_normal ?_
  refine AW.seq ?_
  refine AW.block ?_
  refine AW.draw mixed ?_
  refine AWo.pure (PureOp.move rfl) rfl rfl ?_
  refine AWo.pure (PureOp.move rfl) rfl rfl ?_
  first | refine AWo.pure (PureOp.arr1 tbok rfl rfl rfl rfl (by first | decide | omega)) rfl rfl ?_ | refine AWo.pure (PureOp.arr tbok rfl rfl rfl rfl (by first | decide | omega)) rfl rfl ?_
  refine AWo.load (v := vi .u64 17263733006627652379) tbok rfl rfl rfl rfl rfl rfl ?_
  first | refine AWo.pure ((PureOp.shrN (b := 1) 64 rfl rfl rfl (by first | decide | omega)).mono (v' := vi .u64 8631866503313826189) (by kernel_rfl)) rfl rfl ?_ | refine AWo.pure ((PureOp.shr rfl rfl (by first | decide | omega)).mono (v' := vi .u64 8631866503313826189) (by kernel_rfl)) rfl rfl ?_
  refine AWo.pure (PureOp.move rfl) rfl rfl ?_
  first | refine AWo.pure ((PureOp.shlUge (b := 63) 18446744073709551616 rfl rfl rfl rfl).mono (v' := vi .u64 9223372036854775808) (by kernel_rfl)) rfl rfl ?_ | refine AWo.pure ((PureOp.shl rfl rfl (by first | decide | omega)).mono (v' := vi .u64 9223372036854775808) (by kernel_rfl)) rfl rfl ?_
  first | refine AWo.pure ((PureOp.orN 18446744073709551616 rfl rfl (by decide) (by decide) (by first | decide | omega) (by first | decide | omega)).mono (v' := vi .u64 17855238540168601997) (by kernel_rfl)) rfl rfl ?_ | refine AWo.pure ((PureOp.bin rfl rfl rfl).mono (v' := vi .u64 17855238540168601997) (by kernel_rfl)) rfl rfl ?_
  refine AWo.pure (PureOp.move rfl) rfl rfl ?_
  first | refine AWo.pure (PureOp.arr1 tbok rfl rfl rfl rfl (by first | decide | omega)) rfl rfl ?_ | refine AWo.pure (PureOp.arr tbok rfl rfl rfl rfl (by first | decide | omega)) rfl rfl ?_
  refine AWo.load (v := vi .u64 17263733006627652379) tbok rfl rfl rfl rfl rfl rfl ?_
  first | refine AWo.pure ((PureOp.andN (b := 1) 18446744073709551616 rfl rfl (by decide) (by decide) (by first | decide | omega) (by first | decide | omega)).mono (v' := vi .u64 1) (by kernel_rfl)) rfl rfl ?_ | refine AWo.pure ((PureOp.bin rfl rfl rfl).mono (v' := vi .u64 1) (by kernel_rfl)) rfl rfl ?_
  first | refine AWo.pure (PureOp.arr1 tbok rfl rfl rfl rfl (by first | decide | omega)) rfl rfl ?_ | refine AWo.pure (PureOp.arr tbok rfl rfl rfl rfl (by first | decide | omega)) rfl rfl ?_
  refine AWo.store (cells := [vi .u64 18446744073709551615, vi .u64 17603518614768072224, vi .u64 16466767132611215046, vi .u64 5755940542857986629, vi .u64 3470879405153129527, vi .u64 17855238540168601997, vi .u64 2928751791759295086, vi .u64 73710516992331153, vi .u64 10700877088903390778, vi .u64 7089564414062235240, vi .u64 16467391494931898650, vi .u64 9223372036854775807]) tbok rfl rfl rfl rfl rfl (by decide) rfl rfl rfl ?_
  refine AWo.pure (PureOp.assign rfl) rfl rfl ?_
  refine AWo.nil (by kernel_rfl) ?_
  refine inBlockA_normal ?_
  refine thenA_normal ?_
  refine AW.region ?_
  refine AWo.pure (PureOp.move rfl) rfl rfl ?_
  first | refine AWo.pure (PureOp.subI (b := 1) rfl rfl (by first | decide | omega) (by first | decide | omega)) rfl rfl ?_ | refine AWo.pure (PureOp.subP rfl rfl (by first | decide | omega)) rfl rfl ?_ | refine AWo.pure (PureOp.bin rfl rfl rfl) rfl rfl ?_
  refine AWo.pure (PureOp.assign rfl) rfl rfl ?_
  refine AWo.nil trivial ?_
  refine thenA_normal ?_
  refine roundsA_succ ?_
  refine AW.seq ?_
  refine AW.seqR ?_
  refine AWo.pure (PureOp.move rfl) rfl rfl ?_
  first | refine AWo.pure (PureOp.geP rfl rfl) rfl rfl ?_ | refine AWo.pure (PureOp.geN (b := 0) rfl rfl) rfl rfl ?_ | refine AWo.pure (PureOp.bin rfl rfl rfl) rfl rfl ?_
  refine AWo.nil trivial ?_
  refine AW.condT rfl ?_
  refine AW.skip ?_
  refine thenA_normal ?_
  refine AW.seq ?_
  refine AW.block ?_
  refine AW.draw mixed ?_
  refine AWo.pure (PureOp.move rfl) rfl rfl ?_
  refine AWo.pure (PureOp.move rfl) rfl rfl ?_
  first | refine AWo.pure (PureOp.arr1 tbok rfl rfl rfl rfl (by first | decide | omega)) rfl rfl ?_ | refine AWo.pure (PureOp.arr tbok rfl rfl rfl rfl (by first | decide | omega)) rfl rfl ?_
  refine AWo.load (v := vi .u64 3470879405153129527) tbok rfl rfl rfl rfl rfl rfl ?_
  first | refine AWo.pure ((PureOp.shrN (b := 1) 64 rfl rfl rfl (by first | decide | omega)).mono (v' := vi .u64 1735439702576564763) (by kernel_rfl)) rfl rfl ?_ | refine AWo.pure ((PureOp.shr rfl rfl (by first | decide | omega)).mono (v' := vi .u64 1735439702576564763) (by kernel_rfl)) rfl rfl ?_
  refine AWo.pure (PureOp.move rfl) rfl rfl ?_
  first | refine AWo.pure ((PureOp.shlUge (b := 63) 18446744073709551616 rfl rfl rfl rfl).mono (v' := vi .u64 9223372036854775808) (by kernel_rfl)) rfl rfl ?_ | refine AWo.pure ((PureOp.shl rfl rfl (by first | decide | omega)).mono (v' := vi .u64 9223372036854775808) (by kernel_rfl)) rfl rfl ?_
  first | refine AWo.pure ((PureOp.orN 18446744073709551616 rfl rfl (by decide) (by decide) (by first | decide | omega) (by first | decide | omega)).mono (v' := vi .u64 10958811739431340571) (by kernel_rfl)) rfl rfl ?_ | refine AWo.pure ((PureOp.bin rfl rfl rfl).mono (v' := vi .u64 10958811739431340571) (by kernel_rfl)) rfl rfl ?_
  refine AWo.pure (PureOp.move rfl) rfl rfl ?_
  first | refine AWo.pure (PureOp.arr1 tbok rfl rfl rfl rfl (by first | decide | omega)) rfl rfl ?_ | refine AWo.pure (PureOp.arr tbok rfl rfl rfl rfl (by first | decide | omega)) rfl rfl ?_
  refine AWo.load (v := vi .u64 3470879405153129527) tbok rfl rfl rfl rfl rfl rfl ?_
  first | refine AWo.pure ((PureOp.andN (b := 1) 18446744073709551616 rfl rfl (by decide) (by decide) (by first | decide | omega) (by first | decide | omega)).mono (v' := vi .u64 1) (by kernel_rfl)) rfl rfl ?_ | refine AWo.pure ((PureOp.bin rfl rfl rfl).mono (v' := vi .u64 1) (by kernel_rfl)) rfl rfl ?_
  first | refine AWo.pure (PureOp.arr1 tbok rfl rfl rfl rfl (by first | decide | omega)) rfl rfl ?_ | refine AWo.pure (PureOp.arr tbok rfl rfl rfl rfl (by first | decide | omega)) rfl rfl ?_
  refine AWo.store (cells := [vi .u64 18446744073709551615, vi .u64 17603518614768072224, vi .u64 16466767132611215046, vi .u64 5755940542857986629, vi .u64 10958811739431340571, vi .u64 17855238540168601997, vi .u64 2928751791759295086, vi .u64 73710516992331153, vi .u64 10700877088903390778, vi .u64 7089564414062235240, vi .u64 16467391494931898650, vi .u64 9223372036854775807]) tbok rfl rfl rfl rfl rfl (by decide) rfl rfl rfl ?_
  refine AWo.pure (PureOp.assign rfl) rfl rfl ?_
  refine AWo.nil (by kernel_rfl) ?_
  refine inBlockA_normal ?_
  refine thenA_normal ?_
  refine AW.region ?_
  refine AWo.pure (PureOp.move rfl) rfl rfl ?_
  first | refine AWo.pure (PureOp.subI (b := 1) rfl rfl (by first | decide | omega) (by first | decide | omega)) rfl rfl ?_ | refine AWo.pure (PureOp.subP rfl rfl (by first | decide | omega)) rfl rfl ?_ | refine AWo.pure (PureOp.bin rfl rfl rfl) rfl rfl ?_
  refine AWo.pure (PureOp.assign rfl) rfl rfl ?_
  refine AWo.nil trivial ?_
  refine thenA_normal ?_
  refine roundsA_succ ?_
  refine AW.seq ?_
  refine AW.seqR ?_
  refine AWo.pure (PureOp.move rfl) rfl rfl ?_
  first | refine AWo.pure (PureOp.geP rfl rfl) rfl rfl ?_ | refine AWo.pure (PureOp.geN (b := 0) rfl rfl) rfl rfl ?_ | refine AWo.pure (PureOp.bin rfl rfl rfl) rfl rfl ?_
  refine AWo.nil trivial ?_
  refine AW.condT rfl ?_
  refine AW.skip ?_
  refine thenA_normal ?_
  refine AW.seq ?_
  refine AW.block ?_
  refine AW.draw mixed ?_
  refine AWo.pure (PureOp.move rfl) rfl rfl ?_
  refine AWo.pure (PureOp.move rfl) rfl rfl ?_
  first | refine AWo.pure (PureOp.arr1 tbok rfl rfl rfl rfl (by first | decide | omega)) rfl rfl ?_ | refine AWo.pure (PureOp.arr tbok rfl rfl rfl rfl (by first | decide | omega)) rfl rfl ?_
  refine AWo.load (v := vi .u64 5755940542857986629) tbok rfl rfl rfl rfl rfl rfl ?_
  first | refine AWo.pure ((PureOp.shrN (b := 1) 64 rfl rfl rfl (by first | decide | omega)).mono (v' := vi .u64 2877970271428993314) (by kernel_rfl)) rfl rfl ?_ | refine AWo.pure ((PureOp.shr rfl rfl (by first | decide | omega)).mono (v' := vi .u64 2877970271428993314) (by kernel_rfl)) rfl rfl ?_
  refine AWo.pure (PureOp.move rfl) rfl rfl ?_
  first | refine AWo.pure ((PureOp.shlUge (b := 63) 18446744073709551616 rfl rfl rfl rfl).mono (v' := vi .u64 9223372036854775808) (by kernel_rfl)) rfl rfl ?_ | refine AWo.pure ((PureOp.shl rfl rfl (by first | decide | omega)).mono (v' := vi .u64 9223372036854775808) (by kernel_rfl)) rfl rfl ?_
  first | refine AWo.pure ((PureOp.orN 18446744073709551616 rfl rfl (by decide) (by decide) (by first | decide | omega) (by first | decide | omega)).mono (v' := vi .u64 12101342308283769122) (by kernel_rfl)) rfl rfl ?_ | refine AWo.pure ((PureOp.bin rfl rfl rfl).mono (v' := vi .u64 12101342308283769122) (by kernel_rfl)) rfl rfl ?_
  refine AWo.pure (PureOp.move rfl) rfl rfl ?_
  first | refine AWo.pure (PureOp.arr1 tbok rfl rfl rfl rfl (by first | decide | omega)) rfl rfl ?_ | refine AWo.pure (PureOp.arr tbok rfl rfl rfl rfl (by first | decide | omega)) rfl rfl ?_
  refine AWo.load (v := vi .u64 5755940542857986629) tbok rfl rfl rfl rfl rfl rfl ?_
  first | refine AWo.pure ((PureOp.andN (b := 1) 18446744073709551616 rfl rfl (by decide) (by decide) (by first | decide | omega) (by first | decide | omega)).mono (v' := vi .u64 1) (by kernel_rfl)) rfl rfl ?_ | refine AWo.pure ((PureOp.bin rfl rfl rfl).mono (v' := vi .u64 1) (by kernel_rfl)) rfl rfl ?_
  first | refine AWo.pure (PureOp.arr1 tbok rfl rfl rfl rfl (by first | decide | omega)) rfl rfl ?_ | refine AWo.pure (PureOp.arr tbok rfl rfl rfl rfl (by first | decide | omega)) rfl rfl ?_
  refine AWo.store (cells := [vi .u64 18446744073709551615, vi .u64 17603518614768072224, vi .u64 16466767132611215046, vi .u64 12101342308283769122, vi .u64 10958811739431340571, vi .u64 17855238540168601997, vi .u64 2928751791759295086, vi .u64 73710516992331153, vi .u64 10700877088903390778, vi .u64 7089564414062235240, vi .u64 16467391494931898650, vi .u64 9223372036854775807]) tbok rfl rfl rfl rfl rfl (by decide) rfl rfl rfl ?_
  refine AWo.pure (PureOp.assign rfl) rfl rfl ?_
  refine AWo.nil (by kernel_rfl) ?_
  refine inBlockA_normal ?_
  refine thenA_normal ?_
  refine AW.region ?_
  refine AWo.pure (PureOp.move rfl) rfl rfl ?_
  first | refine AWo.pure (PureOp.subI (b := 1) rfl rfl (by first | decide | omega) (by first | decide | omega)) rfl rfl ?_ | refine AWo.pure (PureOp.subP rfl rfl (by first | decide | omega)) rfl rfl ?_ | refine AWo.pure (PureOp.bin rfl rfl rfl) rfl rfl ?_
  refine AWo.pure (PureOp.assign rfl) rfl rfl ?_
  refine AWo.nil trivial ?_
  refine thenA_normal ?_
  refine roundsA_succ ?_
  refine AW.seq ?_
  refine AW.seqR ?_
  refine AWo.pure (PureOp.move rfl) rfl rfl ?_
  first | refine AWo.pure (PureOp.geP rfl rfl) rfl rfl ?_ | refine AWo.pure (PureOp.geN (b := 0) rfl rfl) rfl rfl ?_ | refine AWo.pure (PureOp.bin rfl rfl rfl) rfl rfl ?_
  refine AWo.nil trivial ?_
  refine AW.condT rfl ?_
  refine AW.skip ?_
  refine thenA_normal ?_
  refine AW.seq ?_
  refine AW.block ?_
  refine AW.draw mixed ?_
  refine AWo.pure (PureOp.move rfl) rfl rfl ?_
  refine AWo.pure (PureOp.move rfl) rfl rfl ?_
  first | refine AWo.pure (PureOp.arr1 tbok rfl rfl rfl rfl (by first | decide | omega)) rfl rfl ?_ | refine AWo.pure (PureOp.arr tbok rfl rfl rfl rfl (by first | decide | omega)) rfl rfl ?_
  refine AWo.load (v := vi .u64 16466767132611215046) tbok rfl rfl rfl rfl rfl rfl ?_
  first | refine AWo.pure ((PureOp.shrN (b := 1) 64 rfl rfl rfl (by first | decide | omega)).mono (v' := vi .u64 8233383566305607523) (by kernel_rfl)) rfl rfl ?_ | refine AWo.pure ((PureOp.shr rfl rfl (by first | decide | omega)).mono (v' := vi .u64 8233383566305607523) (by kernel_rfl)) rfl rfl ?_
  refine AWo.pure (PureOp.move rfl) rfl rfl ?_
  first | refine AWo.pure ((PureOp.shlUge (b := 63) 18446744073709551616 rfl rfl rfl rfl).mono (v' := vi .u64 9223372036854775808) (by kernel_rfl)) rfl rfl ?_ | refine AWo.pure ((PureOp.shl rfl rfl (by first | decide | omega)).mono (v' := vi .u64 9223372036854775808) (by kernel_rfl)) rfl rfl ?_
  first | refine AWo.pure ((PureOp.orN 18446744073709551616 rfl rfl (by decide) (by decide) (by first | decide | omega) (by first | decide | omega)).mono (v' := vi .u64 17456755603160383331) (by kernel_rfl)) rfl rfl ?_ | refine AWo.pure ((PureOp.bin rfl rfl rfl).mono (v' := vi .u64 17456755603160383331) (by kernel_rfl)) rfl rfl ?_
  refine AWo.pure (PureOp.move rfl) rfl rfl ?_
  first | refine AWo.pure (PureOp.arr1 tbok rfl rfl rfl rfl (by first | decide | omega)) rfl rfl ?_ | refine AWo.pure (PureOp.arr tbok rfl rfl rfl rfl (by first | decide | omega)) rfl rfl ?_
  refine AWo.load (v := vi .u64 16466767132611215046) tbok rfl rfl rfl rfl rfl rfl ?_
  first | refine AWo.pure ((PureOp.andN (b := 1) 18446744073709551616 rfl rfl (by decide) (by decide) (by first | decide | omega) (by first | decide | omega)).mono (v' := vi .u64 0) (by kernel_rfl)) rfl rfl ?_ | refine AWo.pure ((PureOp.bin rfl rfl rfl).mono (v' := vi .u64 0) (by kernel_rfl)) rfl rfl ?_
  first | refine AWo.pure (PureOp.arr1 tbok rfl rfl rfl rfl (by first | decide | omega)) rfl rfl ?_ | refine AWo.pure (PureOp.arr tbok rfl rfl rfl rfl (by first | decide | omega)) rfl rfl ?_
  refine AWo.store (cells := [vi .u64 18446744073709551615, vi .u64 17603518614768072224, vi .u64 17456755603160383331, vi .u64 12101342308283769122, vi .u64 10958811739431340571, vi .u64 17855238540168601997, vi .u64 2928751791759295086, vi .u64 73710516992331153, vi .u64 10700877088903390778, vi .u64 7089564414062235240, vi .u64 16467391494931898650, vi .u64 9223372036854775807]) tbok rfl rfl rfl rfl rfl (by decide) rfl rfl rfl ?_
  refine AWo.pure (PureOp.assign rfl) rfl rfl ?_
  refine AWo.nil (by kernel_rfl) ?_
  refine inBlockA_normal ?_
  refine thenA_normal ?_
  refine AW.region ?_
  refine AWo.pure (PureOp.move rfl) rfl rfl ?_
  first | refine AWo.pure (PureOp.subI (b := 1) rfl rfl (by first | decide | omega) (by first | decide | omega)) rfl rfl ?_ | refine AWo.pure (PureOp.subP rfl rfl (by first | decide | omega)) rfl rfl ?_ | refine AWo.pure (PureOp.bin rfl rfl rfl) rfl rfl ?_
  refine AWo.pure (PureOp.assign rfl) rfl rfl ?_
  refine AWo.nil trivial ?_
  refine thenA_normal ?_
  refine roundsA_succ ?_
  refine AW.seq ?_
  refine AW.seqR ?_
  refine AWo.pure (PureOp.move rfl) rfl rfl ?_
  first | refine AWo.pure (PureOp.geP rfl rfl) rfl rfl ?_ | refine AWo.pure (PureOp.geN (b := 0) rfl rfl) rfl rfl ?_ | refine AWo.pure (PureOp.bin rfl rfl rfl) rfl rfl ?_
  refine AWo.nil trivial ?_
  refine AW.condT rfl ?_
  refine AW.skip ?_
  refine thenA_normal ?_
  refine AW.seq ?_
  refine AW.block ?_
  refine AW.draw mixed ?_
  refine AWo.pure (PureOp.move rfl) rfl rfl ?_
  refine AWo.pure (PureOp.move rfl) rfl rfl ?_
  first | refine AWo.pure (PureOp.arr1 tbok rfl rfl rfl rfl (by first | decide | omega)) rfl rfl ?_ | refine AWo.pure (PureOp.arr tbok rfl rfl rfl rfl (by first | decide | omega)) rfl rfl ?_
  refine AWo.load (v := vi .u64 17603518614768072224) tbok rfl rfl rfl rfl rfl rfl ?_
  first | refine AWo.pure ((PureOp.shrN (b := 1) 64 rfl rfl rfl (by first | decide | omega)).mono (v' := vi .u64 8801759307384036112) (by kernel_rfl)) rfl rfl ?_ | refine AWo.pure ((PureOp.shr rfl rfl (by first | decide | omega)).mono (v' := vi .u64 8801759307384036112) (by kernel_rfl)) rfl rfl ?_
  refine AWo.pure (PureOp.move rfl) rfl rfl ?_
  first | refine AWo.pure ((PureOp.shlUge (b := 63) 18446744073709551616 rfl rfl rfl rfl).mono (v' := vi .u64 0) (by kernel_rfl)) rfl rfl ?_ | refine AWo.pure ((PureOp.shl rfl rfl (by first | decide | omega)).mono (v' := vi .u64 0) (by kernel_rfl)) rfl rfl ?_
  first | refine AWo.pure ((PureOp.orN 18446744073709551616 rfl rfl (by decide) (by decide) (by first | decide | omega) (by first | decide | omega)).mono (v' := vi .u64 8801759307384036112) (by kernel_rfl)) rfl rfl ?_ | refine AWo.pure ((PureOp.bin rfl rfl rfl).mono (v' := vi .u64 8801759307384036112) (by kernel_rfl)) rfl rfl ?_
  refine AWo.pure (PureOp.move rfl) rfl rfl ?_
  first | refine AWo.pure (PureOp.arr1 tbok rfl rfl rfl rfl (by first | decide | omega)) rfl rfl ?_ | refine AWo.pure (PureOp.arr tbok rfl rfl rfl rfl (by first | decide | omega)) rfl rfl ?_
  refine AWo.load (v := vi .u64 17603518614768072224) tbok rfl rfl rfl rfl rfl rfl ?_
  first | refine AWo.pure ((PureOp.andN (b := 1) 18446744073709551616 rfl rfl (by decide) (by decide) (by first | decide | omega) (by first | decide | omega)).mono (v' := vi .u64 0) (by kernel_rfl)) rfl rfl ?_ | refine AWo.pure ((PureOp.bin rfl rfl rfl).mono (v' := vi .u64 0) (by kernel_rfl)) rfl rfl ?_
  first | refine AWo.pure (PureOp.arr1 tbok rfl rfl rfl rfl (by first | decide | omega)) rfl rfl ?_ | refine AWo.pure (PureOp.arr tbok rfl rfl rfl rfl (by first | decide | omega)) rfl rfl ?_
  refine AWo.store (cells := [vi .u64 18446744073709551615, vi .u64 8801759307384036112, vi .u64 17456755603160383331, vi .u64 12101342308283769122, vi .u64 10958811739431340571, vi .u64 17855238540168601997, vi .u64 2928751791759295086, vi .u64 73710516992331153, vi .u64 10700877088903390778, vi .u64 7089564414062235240, vi .u64 16467391494931898650, vi .u64 9223372036854775807]) tbok rfl rfl rfl rfl rfl (by decide) rfl rfl rfl ?_
  refine AWo.pure (PureOp.assign rfl) rfl rfl ?_
  refine AWo.nil (by kernel_rfl) ?_
  refine inBlockA_normal ?_
  refine thenA_normal ?_
  refine AW.region ?_
  refine AWo.pure (PureOp.move rfl) rfl rfl ?_
  first | refine AWo.pure (PureOp.subI (b := 1) rfl rfl (by first | decide | omega) (by first | decide | omega)) rfl rfl ?_ | refine AWo.pure (PureOp.subP rfl rfl (by first | decide | omega)) rfl rfl ?_ | refine AWo.pure (PureOp.bin rfl rfl rfl) rfl rfl ?_
  refine AWo.pure (PureOp.assign rfl) rfl rfl ?_
  refine AWo.nil trivial ?_
  refine thenA_normal ?_
  refine roundsA_succ ?_
  refine AW.seq ?_
  refine AW.seqR ?_
  refine AWo.pure (PureOp.move rfl) rfl rfl ?_
  first | refine AWo.pure (PureOp.geP rfl rfl) rfl rfl ?_ | refine AWo.pure (PureOp.geN (b := 0) rfl rfl) rfl rfl ?_ | refine AWo.pure (PureOp.bin rfl rfl rfl) rfl rfl ?_
  refine AWo.nil trivial ?_
  refine AW.condT rfl ?_
  refine AW.skip ?_
  refine thenA_normal ?_
  refine AW.seq ?_
  refine AW.block ?_
  refine AW.draw mixed ?_
  refine AWo.pure (PureOp.move rfl) rfl rfl ?_
  refine AWo.pure (PureOp.move rfl) rfl rfl ?_
  first | refine AWo.pure (PureOp.arr1 tbok rfl rfl rfl rfl (by first | decide | omega)) rfl rfl ?_ | refine AWo.pure (PureOp.arr tbok rfl rfl rfl rfl (by first | decide | omega)) rfl rfl ?_
  refine AWo.load (v := vi .u64 18446744073709551615) tbok rfl rfl rfl rfl rfl rfl ?_
  first | refine AWo.pure ((PureOp.shrN (b := 1) 64 rfl rfl rfl (by first | decide | omega)).mono (v' := vi .u64 9223372036854775807) (by kernel_rfl)) rfl rfl ?_ | refine AWo.pure ((PureOp.shr rfl rfl (by first | decide | omega)).mono (v' := vi .u64 9223372036854775807) (by kernel_rfl)) rfl rfl ?_
  refine AWo.pure (PureOp.move rfl) rfl rfl ?_
  first | refine AWo.pure ((PureOp.shlUge (b := 63) 18446744073709551616 rfl rfl rfl rfl).mono (v' := vi .u64 0) (by kernel_rfl)) rfl rfl ?_ | refine AWo.pure ((PureOp.shl rfl rfl (by first | decide | omega)).mono (v' := vi .u64 0) (by kernel_rfl)) rfl rfl ?_
  first | refine AWo.pure ((PureOp.orN 18446744073709551616 rfl rfl (by decide) (by decide) (by first | decide | omega) (by first | decide | omega)).mono (v' := vi .u64 9223372036854775807) (by kernel_rfl)) rfl rfl ?_ | refine AWo.pure ((PureOp.bin rfl rfl rfl).mono (v' := vi .u64 9223372036854775807) (by kernel_rfl)) rfl rfl ?_
  refine AWo.pure (PureOp.move rfl) rfl rfl ?_
  first | refine AWo.pure (PureOp.arr1 tbok rfl rfl rfl rfl (by first | decide | omega)) rfl rfl ?_ | refine AWo.pure (PureOp.arr tbok rfl rfl rfl rfl (by first | decide | omega)) rfl rfl ?_
  refine AWo.load (v := vi .u64 18446744073709551615) tbok rfl rfl rfl rfl rfl rfl ?_
  first | refine AWo.pure ((PureOp.andN (b := 1) 18446744073709551616 rfl rfl (by decide) (by decide) (by first | decide | omega) (by first | decide | omega)).mono (v' := vi .u64 1) (by kernel_rfl)) rfl rfl ?_ | refine AWo.pure ((PureOp.bin rfl rfl rfl).mono (v' := vi .u64 1) (by kernel_rfl)) rfl rfl ?_
  first | refine AWo.pure (PureOp.arr1 tbok rfl rfl rfl rfl (by first | decide | omega)) rfl rfl ?_ | refine AWo.pure (PureOp.arr tbok rfl rfl rfl rfl (by first | decide | omega)) rfl rfl ?_
  refine AWo.store (cells := [vi .u64 9223372036854775807, vi .u64 8801759307384036112, vi .u64 17456755603160383331, vi .u64 12101342308283769122, vi .u64 10958811739431340571, vi .u64 17855238540168601997, vi .u64 2928751791759295086, vi .u64 73710516992331153, vi .u64 10700877088903390778, vi .u64 7089564414062235240, vi .u64 16467391494931898650, vi .u64 9223372036854775807]) tbok rfl rfl rfl rfl rfl (by decide) rfl rfl rfl ?_
  refine AWo.pure (PureOp.assign rfl) rfl rfl ?_
  refine AWo.nil (by kernel_rfl) ?_
  refine inBlockA_normal ?_
  refine thenA_normal ?_
  refine AW.region ?_
  refine AWo.pure (PureOp.move rfl) rfl rfl ?_
  first | refine AWo.pure (PureOp.subI (b := 1) rfl rfl (by first | decide | omega) (by first | decide | omega)) rfl rfl ?_ | refine AWo.pure (PureOp.subP rfl rfl (by first | decide | omega)) rfl rfl ?_ | refine AWo.pure (PureOp.bin rfl rfl rfl) rfl rfl ?_
  refine AWo.pure (PureOp.assign rfl) rfl rfl ?_
  refine AWo.nil trivial ?_
  refine thenA_normal ?_
  refine roundsA_succ ?_
  refine AW.seq ?_
  refine AW.seqR ?_
  refine AWo.pure (PureOp.move rfl) rfl rfl ?_
  first | refine AWo.pure (PureOp.geP rfl rfl) rfl rfl ?_ | refine AWo.pure (PureOp.geN (b := 0) rfl rfl) rfl rfl ?_ | refine AWo.pure (PureOp.bin rfl rfl rfl) rfl rfl ?_
  refine AWo.nil trivial ?_
  refine AW.condF rfl ?_
  refine AW.exit ?_
  refine thenA_exit ?_
  refine thenA_exit ?_
  refine inBlockA_hit ?_
  refine thenA_normal ?_
  rw [show [vi .u64 9223372036854775807, vi .u64 8801759307384036112, vi .u64 17456755603160383331, vi .u64 12101342308283769122, vi .u64 10958811739431340571, vi .u64 17855238540168601997, vi .u64 2928751791759295086, vi .u64 73710516992331153, vi .u64 10700877088903390778, vi .u64 7089564414062235240, vi .u64 16467391494931898650, vi .u64 9223372036854775807] = (digs 18446744073709551616 12 QG).map (vi .u64) from by kernel_rfl]
  refine AW.seqR ?_
  refine AWo.loadAll tbok rfl rfl rfl rfl rfl rfl rfl ?_
  refine AWo.callX (ringW_ctr (N := QG) rn_q) bd100 [] [13024000, 13024001, 13024002, 13024003] rfl (.cons rfl .nil) rfl (.pure (by first | rfl | exact pure_aggM flat_vi | exact pure_aggM flat_bool) .nil) .nil rfl (.new rfl (OkL.all rfl) (.new rfl (OkL.all rfl) (.new (flat_map_ren (flatM flat_vi)) (OkL.flat (flatM flat_vi)) (.new (flat_map_ren (flatM flat_vi)) (OkL.flat (flatM flat_vi)) .nil)))) (frC rfl (frC rfl (frC rfl (frC rfl frN)))) (by decide) (.cons rfl rfl .nil) rfl rfl rfl rfl ?_
  refine AWo.pure (PureOp.assign rfl) rfl rfl ?_
  refine AWo.nil trivial ?_
  refine AW.ret ?_
  refine RetQ.gc [_] [13024000, 13024001, 13024002, 13024003] [.tmp 0] (.inl rfl) rfl (.tmp rfl .nil) rfl (.cons rfl rfl .nil) (OutL.whole rfl rfl (OkL.all rfl) (fun _ => rfl) (OutL.whole rfl rfl (OkL.all rfl) (fun _ => rfl) (OutL.flat rfl (flatM flat_vi) (fun _ => rfl) (OutL.flat rfl (flatM flat_vi) (fun _ => rfl) trivial)))) (by decide) rfl
def B24 : Nat := 4294967296 ^ 24
def NG (g : Bool) : Nat := if g then PG else QG
theorem b24_w : B24 = 18446744073709551616 ^ 12 := by decide +kernel
theorem pg_b24 : PG < B24 := by decide +kernel
theorem pg1_b24 : PG - 1 < B24 := by decide +kernel
theorem pg_D : D 4294967296 PG = [4294967295, 4294967295, 2788832800, 4098638569, 1650360006, 3833967990, 1834074693, 1340159341, 4066317367, 808127085, 3443147547, 4019526067, 2385773789, 1363806329, 991140642, 34324134, 2322058356, 688016904, 2161908945, 3301335691, 560513588, 3373259426, 4294967295, 4294967295] := by kernel_rfl
theorem qg_D : D 4294967296 QG = [4294967295, 2147483647, 3541900048, 2049319284, 825180003, 4064467643, 3064520994, 2817563318, 4180642331, 2551547190, 3869057421, 4157246681, 3340370542, 681903164, 495570321, 17162067, 1161029178, 2491492100, 3228438120, 1650667845, 280256794, 3834113361, 4294967295, 2147483647] := by kernel_rfl
theorem pg_len : (D 4294967296 PG).length = 24 := by rw [pg_D]; rfl
theorem qg_len : (D 4294967296 QG).length = 24 := by rw [qg_D]; rfl
theorem pg1_len : (D 4294967296 (PG - 1)).length = 24 := by kernel_rfl
theorem pg_deep : deep 24 1 [vi .u64 4294967295, vi .u64 4294967295, vi .u64 2788832800, vi .u64 4098638569, vi .u64 1650360006, vi .u64 3833967990, vi .u64 1834074693, vi .u64 1340159341, vi .u64 4066317367, vi .u64 808127085, vi .u64 3443147547, vi .u64 4019526067, vi .u64 2385773789, vi .u64 1363806329, vi .u64 991140642, vi .u64 34324134, vi .u64 2322058356, vi .u64 688016904, vi .u64 2161908945, vi .u64 3301335691, vi .u64 560513588, vi .u64 3373259426, vi .u64 4294967295, vi .u64 4294967295] = dd PG := by simp only [dd, pg_D]; rfl
theorem pg_lt (i : Nat) : (D 4294967296 PG).getD i 0 < 18446744073709551616 := Nat.lt_trans (getD_lt (bd_D (by decide) _) (by decide) _) (by decide)
theorem b24_D : D 4294967296 B24 = List.replicate 24 0 ++ [1] := by kernel_rfl
theorem b24_len : (D 4294967296 B24).length = 25 := by rw [b24_D]; rfl
theorem b24_deep : deep (24 + 1) 1 ((List.replicate 24 0 ++ [1]).map (vi .u64)) = dd B24 := by simp only [dd, b24_D]; rfl
theorem one_deep : deep 1 1 [vi .u64 1] = dd 1 := rfl
theorem q_lo {i : Nat} (h : i < 23) : ((D 4294967296 PG).getD i 0 / 2 + (D 4294967296 PG).getD (i + 1) 0 % 2 * 2147483648 % 18446744073709551616) % 18446744073709551616 = (D 4294967296 QG).getD i 0 := by
  rw [pg_D, qg_D]; revert i; decide
theorem q_hi {i : Nat} (h : i < 24) (h2 : ¬ i < 23) : ((D 4294967296 PG).getD i 0 / 2 + 0 * 2147483648 % 18446744073709551616) % 18446744073709551616 = (D 4294967296 QG).getD i 0 := by
  obtain rfl : i = 23 := by omega
  rw [pg_D, qg_D]; decide
theorem take_one {l : List Nat} {i : Nat} (h : i < l.length) : l.take i ++ [l.getD i 0] = l.take (i + 1) := by
  rw [List.take_add_one, List.getElem?_eq_getElem h, List.getD_eq_getElem?_getD, List.getElem?_eq_getElem h]; rfl
theorem dl_le {x y n : Nat} (h : x ≤ y) (hy : (D 4294967296 y).length < n) : (D 4294967296 x).length < n := by
  have : (D 4294967296 x).length ≤ (D 4294967296 y).length := (D_len_le (by decide) _ _).2 (Nat.lt_of_le_of_lt h ((D_len_le (by decide) _ _).1 (Nat.le_refl _)))
  omega
theorem dlen24 {x : Nat} (h : x < B24) : (D 4294967296 x).length ≤ 24 := (D_len_le (by decide) _ _).2 h
theorem d24_ge {x : Nat} (h : 24 < (D 4294967296 x).length) : B24 ≤ x := by
  rcases Nat.lt_or_ge x B24 with h1 | h1
  · have := dlen24 h1; omega
  · exact h1
theorem hi_take {l : List Nat} {k : Nat} (h : k ≤ l.length) : ((l.map (vi .u64)).drop (0 + k * 1)).take ((l.length - k) * 1) = (l.drop k).map (vi .u64) := by
  rw [List.map_drop, Nat.zero_add, Nat.mul_one, Nat.mul_one]; exact List.take_of_length_le (by simp)
theorem lo_take {l : List Nat} {k : Nat} (h : k ≤ l.length) : ((l.map (vi .u64)).drop (0 + 0 * 1)).take ((k - 0) * 1) = (l.take k).map (vi .u64) := by
  simp [List.map_take]
theorem num_dropk {l : List Nat} {k : Nat} (hb : bd 4294967296 l) (hk : k ≤ l.length) : num 4294967296 (l.drop k) = num 4294967296 l / 4294967296 ^ k := by
  have h1 := num_take_drop (B := 4294967296) l k hk
  have h2 : num 4294967296 (l.take k) < 4294967296 ^ k := by rw [num_take hb]; exact Nat.mod_lt _ (Nat.pow_pos (by decide))
  rw [h1, Nat.add_mul_div_left _ _ (Nat.pow_pos (by decide)), Nat.div_eq_of_lt h2, Nat.zero_add]
theorem D_shift {x k : Nat} (h : k ≤ (D 4294967296 x).length) : (D 4294967296 x).drop k = D 4294967296 (x / 4294967296 ^ k) := by
  have h1 : num 4294967296 ((D 4294967296 x).drop k) = x / 4294967296 ^ k := by rw [num_dropk (bd_D (by decide) _) h, num_D (by decide)]
  have h2 := D_len_num (B := 4294967296) (by decide) (l := (D 4294967296 x).drop k) (fun d hd => bd_D (by decide) x d (List.mem_of_mem_drop hd)) (Nat.le_refl _)
  rw [h1] at h2
  have h3 := D_take (B := 4294967296) (by decide) (l := (D 4294967296 x).drop k) (fun d hd => bd_D (by decide) x d (List.mem_of_mem_drop hd))
  rw [h1] at h3
  rw [h3]
  refine (List.take_of_length_le ?_).symm
  rw [List.length_drop]
  have h4 : x < 4294967296 ^ (k + (D 4294967296 (x / 4294967296 ^ k)).length) := by
    have := (D_len_le (B := 4294967296) (by decide) (x / 4294967296 ^ k) _).1 (Nat.le_refl _)
    rw [Nat.pow_add]
    exact Nat.lt_of_lt_of_eq ((Nat.div_lt_iff_lt_mul (Nat.pow_pos (by decide))).1 this) (Nat.mul_comm _ _)
  have := (D_len_le (B := 4294967296) (by decide) x _).2 h4
  omega
theorem hi_deep {y : Nat} (h : 24 ≤ (D 4294967296 y).length) : deep (0 + ((D 4294967296 y).length - 24)) 1 (((D 4294967296 y).drop 24).map (vi .u64)) = dd (y / B24) := by
  have e : (D 4294967296 y).drop 24 = D 4294967296 (y / B24) := D_shift h
  have e2 : 0 + ((D 4294967296 y).length - 24) = (D 4294967296 (y / B24)).length := by rw [← e, List.length_drop]; omega
  rw [e2, e]
theorem lo_num {y : Nat} : num 4294967296 ((D 4294967296 y).take 24) = y % B24 := by rw [num_take (bd_D (by decide) _), num_D (by decide)]; rfl
theorem bd_tk {l : List Nat} {k : Nat} (h : bd 4294967296 l) : bd 4294967296 (l.take k) := fun d hd => h d (List.mem_of_mem_take hd)
theorem fold_eq {y m : Nat} (hm : m ≤ B24) : y % B24 + y / B24 * (B24 - m) + y / B24 * m = y := by
  have h1 := Nat.mod_add_div y B24
  have h2 : y / B24 * (B24 - m) + y / B24 * m = y / B24 * B24 := by rw [← Nat.mul_add, Nat.sub_add_cancel hm]
  rw [Nat.add_assoc, h2, Nat.mul_comm]; exact h1
theorem fold_le {y m : Nat} (hm : m ≤ B24) : y % B24 + y / B24 * (B24 - m) ≤ y := by have := fold_eq (y := y) hm; omega
theorem fold_lt {y m : Nat} (hm : m ≤ B24) (h0 : 0 < m) (hy : B24 ≤ y) : y % B24 + y / B24 * (B24 - m) < y := by
  have := fold_eq (y := y) hm
  have h1 : 0 < y / B24 := Nat.div_pos hy (by decide +kernel)
  have := Nat.mul_pos h1 h0
  omega
theorem fold_mod {y m : Nat} (hm : m ≤ B24) : (y % B24 + y / B24 * (B24 - m)) % m = y % m := by
  have := fold_eq (y := y) hm
  conv => rhs; rw [← this]
  rw [Nat.add_mul_mod_self_right]
theorem sub_mod {y m : Nat} (h : m ≤ y) : (y - m) % m = y % m := by
  conv => rhs; rw [show y = y - m + m by omega]
  rw [Nat.add_mod_right]
theorem cmp_geB {x y : Nat} (h : decide (cmpI x y ≥ 0) = true) : y ≤ x := by have := of_decide_eq_true h; unfold cmpI at this; split at this <;> (try split at this) <;> omega
theorem cmp_ltB {x y : Nat} (h : decide (cmpI x y ≥ 0) = false) : x < y := by have := of_decide_eq_false h; unfold cmpI at this; split at this <;> (try split at this) <;> omega
theorem mod_half (x : Nat) : x % (PG - 1) % QG = x % QG := Nat.mod_mod_of_dvd _ ⟨2, by decide +kernel⟩
theorem sub_lt_q {y : Nat} (h : QG ≤ y) : y - QG < y := Nat.sub_lt_of_pos_le (by decide +kernel) h
theorem addd {x y : Nat} (hx : (D 4294967296 x).length < 100000000) (hy : (D 4294967296 y).length < 100000000) : GC Try.prog 25 [dd x, dd y] [] [dd (x + y)] [] := GC.deepen (addD_ctr hx hy) (.deep (.deep .nil)) (.new (Nat.le_refl _) rfl (by simp) (cloM fun _ => rfl) .nil)
theorem subd {x y : Nat} (hx : (D 4294967296 x).length < 100000000) (hy : (D 4294967296 y).length < 100000000) (h : y ≤ x) : GC Try.prog 27 [dd x, dd y] [] [dd (x - y)] [] := GC.deepen (subD_ctr hx hy h) (.deep (.deep .nil)) (.new (Nat.le_refl _) rfl (by simp) (cloM fun _ => rfl) .nil)
theorem muld {x y : Nat} (hx : (D 4294967296 x).length < 100000000) (hy : (D 4294967296 y).length < 100000000) : GC Try.prog 30 [dd x, dd y] [] [dd (x * y)] [] := GC.deepen (mulD_ctr hx hy) (.deep (.deep .nil)) (.new (Nat.le_refl _) rfl (by simp) (cloM fun _ => rfl) .nil)
theorem cmpd {x y : Nat} (hx : (D 4294967296 x).length < 100000000) (hy : (D 4294967296 y).length < 100000000) : GC Try.prog 97 [dd x, dd y] [] [.int .i64 (cmpI x y)] [] := GC.deepen (cmpD_ctr (x := x) (y := y) hx hy) (.deep (.deep .nil)) (.pure rfl .nil)
theorem bitd {x i : Nat} (hi : i < 100000000000) : GC Try.prog 85 [dd x, vi .i64 (i)] [] [vi .u64 (x / 2 ^ i % 2)] [] := GC.deepen (bitD_ctr (x := x) hi) (.deep (.pure rfl .nil)) (.pure rfl .nil)
theorem bitsd {x : Nat} (hx : (D 4294967296 x).length < 100000000) : GC Try.prog 84 [dd x] [] [vi .i64 (blen x)] [] := GC.deepen (bitsD_ctr (x := x) hx) (.deep .nil) (.pure rfl .nil)
theorem triml {l : List Nat} {n : Nat} (hb : bd 4294967296 l) (hn : l.length = n) (hl : n < 1000000000) : GC Try.prog 89 [deep n 1 (l.map (vi .u64))] [] [dd (num 4294967296 l)] [] := by
  subst hn
  exact GC.deepen (trim_ctr (a := l) (v := num 4294967296 l) hb rfl rfl hl) (.deep .nil)
    (.part (k := 0) (o := 0) Nat.zero_lt_one Nat.zero_lt_one rfl (by rw [Nat.zero_add, Nat.mul_one, List.length_map]; exact D_len_num (by decide) hb (Nat.le_refl _)) (by rw [List.drop_zero, Nat.mul_one, ← List.map_take, ← D_take (by decide) hb]) (cloM fun _ => rfl) .nil)
theorem p04_ctr : GC Try.prog 91 [] [] [dd PG] [] := by
  refine GC.intro Try.func91 rfl (by show 0 ≤ 2; decide) (by first | exact Nat.le_refl _ | decide | simp) ?_
  refine AW.seqR ?_
  refine AWo.pure (PureOp.assign rfl) rfl rfl ?_
  refine AWo.nil trivial ?_
  refine AW.seqR ?_
  refine AWo.buildSliceF tbok 2000 [(0, vi .u64 4294967295), (1, vi .u64 4294967295), (2, vi .u64 2788832800), (3, vi .u64 4098638569), (4, vi .u64 1650360006), (5, vi .u64 3833967990), (6, vi .u64 1834074693), (7, vi .u64 1340159341), (8, vi .u64 4066317367), (9, vi .u64 808127085), (10, vi .u64 3443147547), (11, vi .u64 4019526067), (12, vi .u64 2385773789), (13, vi .u64 1363806329), (14, vi .u64 991140642), (15, vi .u64 34324134), (16, vi .u64 2322058356), (17, vi .u64 688016904), (18, vi .u64 2161908945), (19, vi .u64 3301335691), (20, vi .u64 560513588), (21, vi .u64 3373259426), (22, vi .u64 4294967295), (23, vi .u64 4294967295)] (out := [vi .u64 4294967295, vi .u64 4294967295, vi .u64 2788832800, vi .u64 4098638569, vi .u64 1650360006, vi .u64 3833967990, vi .u64 1834074693, vi .u64 1340159341, vi .u64 4066317367, vi .u64 808127085, vi .u64 3443147547, vi .u64 4019526067, vi .u64 2385773789, vi .u64 1363806329, vi .u64 991140642, vi .u64 34324134, vi .u64 2322058356, vi .u64 688016904, vi .u64 2161908945, vi .u64 3301335691, vi .u64 560513588, vi .u64 3373259426, vi .u64 4294967295, vi .u64 4294967295]) rfl rfl (by decide) rfl rfl rfl (by decide) rfl (by kernel_rfl) rfl rfl (fun x hx => cloM (f := vi .u64) (l := [4294967295, 4294967295, 2788832800, 4098638569, 1650360006, 3833967990, 1834074693, 1340159341, 4066317367, 808127085, 3443147547, 4019526067, 2385773789, 1363806329, 991140642, 34324134, 2322058356, 688016904, 2161908945, 3301335691, 560513588, 3373259426, 4294967295, 4294967295]) (fun _ => rfl) x hx) rfl rfl ?_
  rw [pg_deep]
  refine AWo.pure (PureOp.assign rfl) rfl rfl ?_
  refine AWo.nil trivial ?_
  refine AW.ret ?_
  refine RetQ.gc [_] [] [.tmp 0] (.inl rfl) rfl (.tmp rfl .nil) rfl (.cons rfl rfl .nil) trivial (by decide) rfl
theorem q04_ctr : GC Try.prog 61 [] [] [dd QG] [] := by
  refine GC.intro Try.func61 rfl (by show 0 ≤ 31; decide) (by first | exact Nat.le_refl _ | decide | simp) ?_
  refine AW.seqR ?_
  refine AWo.pure (PureOp.assign rfl) rfl rfl ?_
  refine AWo.nil trivial ?_
  refine AW.seqR ?_
  refine AWo.callX (p04_ctr) bd91 [] [] rfl .nil rfl .nil .nil rfl .nil frN (by decide) (.cons rfl rfl .nil) rfl rfl rfl rfl ?_
  refine AWo.pure (PureOp.assign rfl) rfl rfl ?_
  refine AWo.nil trivial ?_
  refine AW.seqR ?_
  refine AWo.makeSliceC (n := 0) tbok 7000 ((List.replicate 0 0).map (vi .u64)) rfl rfl (by first | decide | omega) rfl rfl (by decide) rfl rfl rfl rfl (by first | decide | omega) (by first | decide | omega) (by simp [vi]) rfl rfl rfl ?_
  refine AWo.pure (PureOp.assign rfl) rfl rfl ?_
  refine AWo.nil trivial ?_
  refine AW.seq ?_
  refine AW.seqR ?_
  refine AWo.pure (PureOp.assign rfl) rfl rfl ?_
  refine AWo.nil trivial ?_
  refine AW.block ?_
  refine AW.loopw (fun mm σ => ∃ i, (i ≤ 24) ∧ mm = 24 - i ∧ σ = ⟨(upd (upd (upd emp 1 (dd PG)) 2 (.slice (some ⟨77000, 0, none⟩) i 0)) 3 (vi .i64 i)), (upd emp 77000 ⟨((D 4294967296 QG).take i).map (vi .u64), true, 1⟩)⟩) (fm := [(77000, 7000)]) ?_ ⟨0, by omega, rfl, rfl⟩ ?_
  ·
    refine Wk.of [77000] ?_ ?_ ?_ (by decide) rfl
    ·
      refine WkE.upd rfl (by first | exact VR.flat _ rfl | exact VR.eqv (vp_succ _) rfl | exact VR.eqv (vp_succ _).symm rfl | exact VR.eqv (by first | rfl | (congr 1; omega) | (simp; done) | (simp; omega)) rfl) ?_
      refine WkE.upd rfl (.slice (77000) 0 _ 0 ⟨_, rfl⟩ (by simp) (by simp)) ?_
      refine WkE.upd rfl (clo_refl (by simp) rfl) ?_
      exact WkE.emp
    ·
      refine WkM.flat rfl (flatM flat_vi) (fun h => h) ?_
      exact WkM.emp
    ·
      repeat (refine dom_upd_mem (by decide) ?_)
      exact dom_emp
  ·
    rintro mm σ ⟨i, hinv, rfl, rfl⟩
    refine AW.seq ?_
    refine AW.seqR ?_
    refine AWo.pure (PureOp.move rfl) rfl rfl ?_
    first | refine AWo.pure (PureOp.ltN (b := 24) rfl rfl) rfl rfl ?_ | refine AWo.pure (PureOp.bin rfl rfl rfl) rfl rfl ?_
    refine AWo.nil trivial ?_
    refine AW.cond rfl (fun hb0 => ?_) (fun hb0 => ?_)
    ·
      have hi : i < 24 := by simpa using hb0
      refine AW.skip ?_
      refine thenA_normal ?_
      refine AW.seq ?_
      refine AW.block ?_
      refine AW.seqR ?_
      refine AWo.pure (PureOp.assign rfl) rfl rfl ?_
      refine AWo.nil trivial ?_
      refine AW.seq ?_
      refine AW.seqR ?_
      refine AWo.pure (PureOp.move rfl) rfl rfl ?_
      first | refine AWo.pure (PureOp.ltN (b := 23) rfl rfl) rfl rfl ?_ | refine AWo.pure (PureOp.bin rfl rfl rfl) rfl rfl ?_
      refine AWo.nil trivial ?_
      refine AW.cond rfl (fun hb1 => ?_) (fun hb1 => ?_)
      ·
        have hi23 : i < 23 := by simpa using hb1
        refine AW.region ?_
        refine AWo.pureX 14000 (n := (D 4294967296 PG).length) (es := 1) (cells := (D 4294967296 PG).map (vi .u64)) (PureOp.move rfl) rfl rfl rfl ?_
        refine AWo.pure (PureOp.move rfl) rfl rfl ?_
        first | refine AWo.pure (PureOp.addI (b := 1) rfl rfl (by first | decide | omega)) rfl rfl ?_ | refine AWo.pure (PureOp.bin rfl rfl rfl) rfl rfl ?_
        refine yP (PureOp.idx1 tbok (j := i + 1) rfl rfl rfl rfl (by rw [pg_len]; omega)) ?_
        refine AWo.loadM tbok 0 rfl rfl rfl (by rw [pg_len]; omega) rfl rfl ?_
        refine AWo.pure (PureOp.remN (a := (D 4294967296 PG).getD (i + 1) 0) (b := 2) rfl rfl (by omega)) rfl rfl ?_
        refine AWo.pure (PureOp.assign rfl) rfl rfl ?_
        refine AWo.nil trivial ?_
        refine thenA_normal ?_
        refine AW.region ?_
        refine AWo.pure (PureOp.move rfl) rfl rfl ?_
        refine AWo.pureX 21000 (n := (D 4294967296 PG).length) (es := 1) (cells := (D 4294967296 PG).map (vi .u64)) (PureOp.move rfl) rfl rfl rfl ?_
        refine AWo.pure (PureOp.move rfl) rfl rfl ?_
        refine yP (PureOp.idx1 tbok (j := i) rfl rfl rfl rfl (by rw [pg_len]; omega)) ?_
        refine AWo.loadM tbok 0 rfl rfl rfl (by rw [pg_len]; omega) rfl rfl ?_
        refine AWo.pure (PureOp.quoN (a := (D 4294967296 PG).getD i 0) (b := 2) 18446744073709551616 rfl rfl (by decide) (by decide) (by omega) (pg_lt _)) rfl rfl ?_
        refine AWo.pure (PureOp.move rfl) rfl rfl ?_
        first | refine AWo.pure (PureOp.mulU (b := 2147483648) 18446744073709551616 rfl rfl rfl rfl) rfl rfl ?_ | refine AWo.pure (PureOp.bin rfl rfl rfl) rfl rfl ?_
        first | refine AWo.pure ((PureOp.addU 18446744073709551616 rfl rfl rfl rfl).mono (v' := vi .u64 ((D 4294967296 QG).getD i 0)) (congrArg (vi .u64) (q_lo hi23))) rfl rfl ?_ | refine AWo.pure ((PureOp.bin rfl rfl rfl).mono (v' := vi .u64 ((D 4294967296 QG).getD i 0)) (congrArg (vi .u64) (q_lo hi23))) rfl rfl ?_
        refine AWo.buildSlice tbok 29000 [(0, vi .u64 ((D 4294967296 QG).getD i 0))] (out := [vi .u64 ((D 4294967296 QG).getD i 0)]) rfl rfl (by decide) rfl rfl rfl (by decide) rfl rfl rfl rfl rfl ?_
        refine AWo.append tbok (all := ((D 4294967296 QG).take (i + 1)).map (vi .u64)) (news := [(D 4294967296 QG).getD i 0].map (vi .u64)) 30000 rfl rfl rfl rfl (by simp [qg_len]; omega) (by show List.take _ (List.drop 0 _) = _; rw [List.drop_zero]; exact List.take_of_length_le (by simp)) (by simp; done) (by decide) rfl rfl rfl (by first | decide | exact Nat.one_ne_zero) rfl rfl rfl (by first | decide | omega) (by first | decide | omega) (by first | exact oneM (fun _ => rfl) _ | (simp; done)) (by rw [← List.map_append, take_one (by rw [qg_len]; exact hi)]) rfl rfl ?_
        refine AWo.pure (PureOp.assign rfl) rfl rfl ?_
        refine AWo.nil trivial ?_
        refine inBlockA_normal ?_
        refine thenA_normal ?_
        refine AW.region ?_
        refine AWo.pure (PureOp.move rfl) rfl rfl ?_
        first | refine AWo.pure (PureOp.addI (b := 1) rfl rfl (by first | decide | omega)) rfl rfl ?_ | refine AWo.pure (PureOp.bin rfl rfl rfl) rfl rfl ?_
        refine AWo.pure (PureOp.assign rfl) rfl rfl ?_
        refine AWo.nil trivial ?_
        refine thenA_normal ?_
        refine ⟨24 - (i + 1), [(77000, 30000)], _, by omega, ?_, i + 1, by omega, rfl, rfl⟩
        refine Wk.of [77000] ?_ ?_ ?_ (by decide) rfl
        ·
          refine WkE.upd rfl (by first | exact VR.flat _ rfl | exact VR.eqv (vp_succ _) rfl | exact VR.eqv (vp_succ _).symm rfl | exact VR.eqv (by first | rfl | (congr 1; omega) | (simp; done) | (simp; omega)) rfl) ?_
          refine WkE.upd rfl (.slice (77000) 0 _ 0 ⟨_, rfl⟩ (by simp) (by simp)) ?_
          refine WkE.upd rfl (clo_refl (by simp) rfl) ?_
          exact WkE.emp
        ·
          refine WkM.flat rfl (flatM flat_vi) (fun h => h) ?_
          exact WkM.emp
        ·
          repeat (refine dom_upd_mem (by decide) ?_)
          exact dom_emp
      ·
        have hi23 : ¬ i < 23 := by simpa using hb1
        refine AW.skip ?_
        refine thenA_normal ?_
        refine AW.region ?_
        refine AWo.pure (PureOp.move rfl) rfl rfl ?_
        refine AWo.pureX 21000 (n := (D 4294967296 PG).length) (es := 1) (cells := (D 4294967296 PG).map (vi .u64)) (PureOp.move rfl) rfl rfl rfl ?_
        refine AWo.pure (PureOp.move rfl) rfl rfl ?_
        refine yP (PureOp.idx1 tbok (j := i) rfl rfl rfl rfl (by rw [pg_len]; omega)) ?_
        refine AWo.loadM tbok 0 rfl rfl rfl (by rw [pg_len]; omega) rfl rfl ?_
        refine AWo.pure (PureOp.quoN (a := (D 4294967296 PG).getD i 0) (b := 2) 18446744073709551616 rfl rfl (by decide) (by decide) (by omega) (pg_lt _)) rfl rfl ?_
        refine AWo.pure (PureOp.move rfl) rfl rfl ?_
        first | refine AWo.pure (PureOp.mulU (b := 2147483648) 18446744073709551616 rfl rfl rfl rfl) rfl rfl ?_ | refine AWo.pure (PureOp.bin rfl rfl rfl) rfl rfl ?_
        first | refine AWo.pure ((PureOp.addU 18446744073709551616 rfl rfl rfl rfl).mono (v' := vi .u64 ((D 4294967296 QG).getD i 0)) (congrArg (vi .u64) (q_hi hi hi23))) rfl rfl ?_ | refine AWo.pure ((PureOp.bin rfl rfl rfl).mono (v' := vi .u64 ((D 4294967296 QG).getD i 0)) (congrArg (vi .u64) (q_hi hi hi23))) rfl rfl ?_
        refine AWo.buildSlice tbok 29000 [(0, vi .u64 ((D 4294967296 QG).getD i 0))] (out := [vi .u64 ((D 4294967296 QG).getD i 0)]) rfl rfl (by decide) rfl rfl rfl (by decide) rfl rfl rfl rfl rfl ?_
        refine AWo.append tbok (all := ((D 4294967296 QG).take (i + 1)).map (vi .u64)) (news := [(D 4294967296 QG).getD i 0].map (vi .u64)) 30000 rfl rfl rfl rfl (by simp [qg_len]; omega) (by show List.take _ (List.drop 0 _) = _; rw [List.drop_zero]; exact List.take_of_length_le (by simp)) (by simp; done) (by decide) rfl rfl rfl (by first | decide | exact Nat.one_ne_zero) rfl rfl rfl (by first | decide | omega) (by first | decide | omega) (by first | exact oneM (fun _ => rfl) _ | (simp; done)) (by rw [← List.map_append, take_one (by rw [qg_len]; exact hi)]) rfl rfl ?_
        refine AWo.pure (PureOp.assign rfl) rfl rfl ?_
        refine AWo.nil trivial ?_
        refine inBlockA_normal ?_
        refine thenA_normal ?_
        refine AW.region ?_
        refine AWo.pure (PureOp.move rfl) rfl rfl ?_
        first | refine AWo.pure (PureOp.addI (b := 1) rfl rfl (by first | decide | omega)) rfl rfl ?_ | refine AWo.pure (PureOp.bin rfl rfl rfl) rfl rfl ?_
        refine AWo.pure (PureOp.assign rfl) rfl rfl ?_
        refine AWo.nil trivial ?_
        refine thenA_normal ?_
        refine ⟨24 - (i + 1), [(77000, 30000)], _, by omega, ?_, i + 1, by omega, rfl, rfl⟩
        refine Wk.of [77000] ?_ ?_ ?_ (by decide) rfl
        ·
          refine WkE.upd rfl (by first | exact VR.flat _ rfl | exact VR.eqv (vp_succ _) rfl | exact VR.eqv (vp_succ _).symm rfl | exact VR.eqv (by first | rfl | (congr 1; omega) | (simp; done) | (simp; omega)) rfl) ?_
          refine WkE.upd rfl (.slice (77000) 0 _ 0 ⟨_, rfl⟩ (by simp) (by simp)) ?_
          refine WkE.upd rfl (clo_refl (by simp) rfl) ?_
          exact WkE.emp
        ·
          refine WkM.flat rfl (flatM flat_vi) (fun h => h) ?_
          exact WkM.emp
        ·
          repeat (refine dom_upd_mem (by decide) ?_)
          exact dom_emp
    ·
      obtain rfl : i = 24 := by simp at hb0; omega
      refine AW.exit ?_
      refine thenA_exit ?_
      refine thenA_exit ?_
      refine inBlockA_hit ?_
      refine thenA_normal ?_
      rw [show (D 4294967296 QG).take 24 = D 4294967296 QG from List.take_of_length_le (by rw [qg_len]; decide)]
      rw [show (24 : Nat) = (D 4294967296 QG).length from qg_len.symm]
      refine AW.freeze 2 77000 ((D 4294967296 QG).map (vi .u64)) ?_ rfl rfl (cloM fun _ => rfl) (by simp) (by rw [List.drop_zero]; exact List.take_of_length_le (by simp))
      refine AW.seqR ?_
      refine AWo.pure (PureOp.move rfl) rfl rfl ?_
      refine AWo.pure (PureOp.assign rfl) rfl rfl ?_
      refine AWo.nil trivial ?_
      refine AW.ret ?_
      refine RetQ.gc [_] [] [.tmp 0] (.inl rfl) rfl (.tmp rfl .nil) rfl (.cons rfl rfl .nil) trivial (by decide) rfl
theorem fold_ctr {x m : Nat} (hx : (D 4294967296 x).length < 100000) (hm : m < B24) (hm0 : 0 < m) : GC Try.prog 104 [dd x, dd m] [] [dd (x % m)] [] := by
  refine GC.intro Try.func104 rfl (by show 2 ≤ 40; decide) (by first | exact Nat.le_refl _ | decide | simp) ?_
  have hmle := Nat.le_of_lt hm
  have hxx : (D 4294967296 x).length < 100000000 := by omega
  refine AW.seqR ?_
  refine AWo.pure (PureOp.assign rfl) rfl rfl ?_
  refine AWo.nil trivial ?_
  refine AW.seqR ?_
  refine AWo.makeI tbok 9000 rfl rfl rfl rfl rfl rfl (by first | decide | omega) (by first | decide | omega) rfl rfl rfl ?_
  refine AWo.buildSlice tbok 10000 [(0, vi .u64 1)] (out := [vi .u64 1]) rfl rfl (by decide) rfl rfl rfl (by decide) rfl rfl rfl rfl rfl ?_
  refine AWo.appendF tbok (cs := (List.replicate 24 0).map (vi .u64)) (news := [vi .u64 1]) (all := (List.replicate 24 0 ++ [1]).map (vi .u64)) 11000 rfl rfl rfl rfl (by simp) rfl (by simp) (by decide) rfl rfl rfl (by decide) rfl rfl rfl (by decide) (by decide) rfl (by simp) (cloM fun _ => rfl) rfl rfl ?_
  rw [b24_deep]
  refine AWo.pure (PureOp.move rfl) rfl rfl ?_
  refine AWo.callX (subd (x := B24) (y := m) (by rw [b24_len]; decide) (Nat.lt_of_le_of_lt (dlen24 hm) (by decide)) (Nat.le_of_lt hm)) bd27 [] [] rfl (.cons rfl (.cons rfl .nil)) rfl (.cons rfl rfl (.cons rfl rfl .nil)) .nil rfl .nil frN (by decide) (.cons rfl rfl .nil) rfl rfl rfl rfl ?_
  refine AWo.pure (PureOp.assign rfl) rfl rfl ?_
  refine AWo.nil trivial ?_
  refine AW.seqR ?_
  refine AWo.pure (PureOp.move rfl) rfl rfl ?_
  refine AWo.callX (v := dd x) (triml (l := D 4294967296 x) (n := (D 4294967296 x).length) (bd_D (by decide) _) rfl (by omega)) bd89 [] [] rfl (.cons rfl .nil) rfl (.cons rfl rfl .nil) .nil rfl .nil frN (by decide) (.cons rfl rfl .nil) (by rw [num_D (by decide)]; rfl) rfl rfl rfl ?_
  refine AWo.pure (PureOp.assign rfl) rfl rfl ?_
  refine AWo.nil trivial ?_
  refine AW.seq ?_
  refine AW.block ?_
  refine AW.loopw (fun mm σ => ∃ y, (y % m = x % m ∧ y ≤ x) ∧ mm = 1 * y ∧ σ = ⟨(upd (upd (upd emp 0 (dd y)) 1 (dd m)) 5 (dd (B24 - m))), emp⟩) (fm := []) ?_ ⟨x, ⟨rfl, Nat.le_refl _⟩, rfl, rfl⟩ ?_
  ·
    refine Wk.of [] ?_ ?_ ?_ (by decide) rfl
    ·
      refine WkE.upd rfl (clo_refl (by simp) rfl) ?_
      refine WkE.upd rfl (clo_refl (by simp) rfl) ?_
      refine WkE.upd rfl (clo_refl (by simp) rfl) ?_
      exact WkE.emp
    ·
      exact WkM.emp
    ·
      repeat (refine dom_upd_mem (by decide) ?_)
      exact dom_emp
  ·
    rintro mm σ ⟨y, hy, rfl, rfl⟩
    have hyl := dl_le hy.2 hx
    refine AW.seq ?_
    refine AW.seqR ?_
    refine AWo.pure (PureOp.move rfl) rfl rfl ?_
    first | refine AWo.pure (PureOp.lenS tbok rfl rfl) rfl rfl ?_ | refine AWo.pure (PureOp.lenD tbok rfl rfl) rfl rfl ?_
    first | refine AWo.pure (PureOp.gtN (b := 24) rfl rfl) rfl rfl ?_ | refine AWo.pure (PureOp.bin rfl rfl rfl) rfl rfl ?_
    refine AWo.nil trivial ?_
    refine AW.cond rfl (fun hb0 => ?_) (fun hb0 => ?_)
    ·
      have hlen : 24 < (D 4294967296 y).length := by simpa using hb0
      refine AW.skip ?_
      refine thenA_normal ?_
      refine AW.block ?_
      refine AW.seqR ?_
      refine AWo.buildSlice tbok 19000 [] (out := []) rfl rfl (by decide) rfl rfl rfl (by decide) rfl rfl rfl rfl rfl ?_
      refine AWo.pureX 20000 (n := (D 4294967296 y).length) (es := 1) (cells := (D 4294967296 y).map (vi .u64)) (PureOp.move rfl) rfl rfl rfl ?_
      refine AWo.sliceS2 tbok (l := 24) rfl (.some rfl) .none rfl rfl rfl rfl (by omega) (Nat.le_refl _) rfl rfl rfl ?_
      refine AWo.appendF tbok (cs := []) (news := ((D 4294967296 y).drop 24).map (vi .u64)) (all := ((D 4294967296 y).drop 24).map (vi .u64)) 22000 rfl rfl rfl rfl rfl (hi_take (by omega)) (by simp; omega) (by decide) rfl rfl rfl (by decide) rfl rfl rfl (by omega) (by omega) (oneM (fun _ => rfl) _) rfl (cloM fun _ => rfl) rfl rfl ?_
      rw [hi_deep (by omega)]
      refine AWo.pure (PureOp.assign rfl) rfl rfl ?_
      refine AWo.nil trivial ?_
      refine AW.seqR ?_
      refine AWo.buildSlice tbok 23000 [] (out := []) rfl rfl (by decide) rfl rfl rfl (by decide) rfl rfl rfl rfl rfl ?_
      refine AWo.pureX 24000 (n := (D 4294967296 y).length) (es := 1) (cells := (D 4294967296 y).map (vi .u64)) (PureOp.move rfl) rfl rfl rfl ?_
      refine AWo.sliceS2 tbok (h := 24) rfl .none (.some rfl) rfl rfl rfl rfl (Nat.zero_le _) (by omega) rfl rfl rfl ?_
      refine AWo.appendF tbok (cs := []) (news := ((D 4294967296 y).take 24).map (vi .u64)) (all := ((D 4294967296 y).take 24).map (vi .u64)) 26000 rfl rfl rfl rfl rfl (lo_take (by omega)) (by simp; omega) (by decide) rfl rfl rfl (by decide) rfl rfl rfl (by omega) (by omega) (oneM (fun _ => rfl) _) rfl (cloM fun _ => rfl) rfl rfl ?_
      refine AWo.callX (v := dd (y % B24)) (triml (l := (D 4294967296 y).take 24) (n := 0 + 24) (bd_tk (bd_D (by decide) _)) (by rw [List.length_take]; omega) (by decide)) bd89 [] [] rfl (.cons rfl .nil) rfl (.cons rfl rfl .nil) .nil rfl .nil frN (by decide) (.cons rfl rfl .nil) (by rw [lo_num]; rfl) rfl rfl rfl ?_
      refine AWo.pure (PureOp.assign rfl) rfl rfl ?_
      refine AWo.nil trivial ?_
      refine AW.region ?_
      refine AWo.pure (PureOp.move rfl) rfl rfl ?_
      refine AWo.pure (PureOp.move rfl) rfl rfl ?_
      refine AWo.pure (PureOp.move rfl) rfl rfl ?_
      refine AWo.callX (muld (x := y / B24) (y := B24 - m) (dl_le (Nat.le_trans (Nat.div_le_self _ _) hy.2) hxx) (dl_le (Nat.sub_le _ _) (by rw [b24_len]; decide))) bd30 [] [] rfl (.cons rfl (.cons rfl .nil)) rfl (.cons rfl rfl (.cons rfl rfl .nil)) .nil rfl .nil frN (by decide) (.cons rfl rfl .nil) rfl rfl rfl rfl ?_
      refine AWo.callX (addd (x := y % B24) (y := y / B24 * (B24 - m)) (dl_le (Nat.le_trans (Nat.mod_le _ _) hy.2) hxx) (dl_le (Nat.le_trans (Nat.le_add_left _ _) (Nat.le_trans (fold_le hmle) hy.2)) hxx)) bd25 [] [] rfl (.cons rfl (.cons rfl .nil)) rfl (.cons rfl rfl (.cons rfl rfl .nil)) .nil rfl .nil frN (by decide) (.cons rfl rfl .nil) rfl rfl rfl rfl ?_
      refine AWo.pure (PureOp.assign rfl) rfl rfl ?_
      refine AWo.nil trivial ?_
      refine inBlockA_normal ?_
      refine thenA_normal ?_
      refine ⟨1 * (y % B24 + y / B24 * (B24 - m)), [], _, by have := fold_lt hmle hm0 (d24_ge hlen); omega, ?_, _, ⟨(fold_mod hmle).trans hy.1, Nat.le_trans (fold_le hmle) hy.2⟩, rfl, rfl⟩
      refine Wk.of [] ?_ ?_ ?_ (by decide) rfl
      ·
        refine WkE.upd rfl (clo_refl (by simp) rfl) ?_
        refine WkE.upd rfl (clo_refl (by simp) rfl) ?_
        refine WkE.upd rfl (clo_refl (by simp) rfl) ?_
        exact WkE.emp
      ·
        exact WkM.emp
      ·
        repeat (refine dom_upd_mem (by decide) ?_)
        exact dom_emp
    ·
      refine AW.exit ?_
      refine thenA_exit ?_
      refine thenA_exit ?_
      refine inBlockA_hit ?_
      refine thenA_normal ?_
      refine AW.seq ?_
      refine AW.block ?_
      refine AW.loopw (fun mm σ => ∃ y, (y % m = x % m ∧ y ≤ x) ∧ mm = 1 * y ∧ σ = ⟨(upd (upd emp 0 (dd y)) 1 (dd m)), emp⟩) (fm := []) ?_ ⟨y, hy, rfl, rfl⟩ ?_
      ·
        refine Wk.of [] ?_ ?_ ?_ (by decide) rfl
        ·
          refine WkE.upd rfl (clo_refl (by simp) rfl) ?_
          refine WkE.upd rfl (clo_refl (by simp) rfl) ?_
          exact WkE.emp
        ·
          exact WkM.emp
        ·
          repeat (refine dom_upd_mem (by decide) ?_)
          exact dom_emp
      ·
        rintro mm σ ⟨y, hy, rfl, rfl⟩
        refine AW.seq ?_
        refine AW.seqR ?_
        refine AWo.pure (PureOp.move rfl) rfl rfl ?_
        refine AWo.pure (PureOp.move rfl) rfl rfl ?_
        refine AWo.callX (cmpd (x := y) (y := m) (dl_le hy.2 hxx) (dl_le (Nat.le_of_lt hm) (by rw [b24_len]; decide))) bd97 [] [] rfl (.cons rfl (.cons rfl .nil)) rfl (.cons rfl rfl (.cons rfl rfl .nil)) .nil rfl .nil frN (by decide) (.cons rfl rfl .nil) rfl rfl rfl rfl ?_
        first | refine AWo.pure (PureOp.geP rfl rfl) rfl rfl ?_ | refine AWo.pure (PureOp.geN (b := 0) rfl rfl) rfl rfl ?_ | refine AWo.pure (PureOp.bin rfl rfl rfl) rfl rfl ?_
        refine AWo.nil trivial ?_
        refine AW.cond rfl (fun hb1 => ?_) (fun hb1 => ?_)
        ·
          have hge : m ≤ y := cmp_geB hb1
          refine AW.skip ?_
          refine thenA_normal ?_
          refine AW.block ?_
          refine AW.region ?_
          refine AWo.pure (PureOp.move rfl) rfl rfl ?_
          refine AWo.pure (PureOp.move rfl) rfl rfl ?_
          refine AWo.callX (subd (x := y) (y := m) (dl_le hy.2 hxx) (dl_le (Nat.le_of_lt hm) (by rw [b24_len]; decide)) hge) bd27 [] [] rfl (.cons rfl (.cons rfl .nil)) rfl (.cons rfl rfl (.cons rfl rfl .nil)) .nil rfl .nil frN (by decide) (.cons rfl rfl .nil) rfl rfl rfl rfl ?_
          refine AWo.pure (PureOp.assign rfl) rfl rfl ?_
          refine AWo.nil trivial ?_
          refine inBlockA_normal ?_
          refine thenA_normal ?_
          refine ⟨1 * (y - m), [], _, by omega, ?_, y - m, ⟨(sub_mod hge).trans hy.1, by omega⟩, rfl, rfl⟩
          refine Wk.of [] ?_ ?_ ?_ (by decide) rfl
          ·
            refine WkE.upd rfl (clo_refl (by simp) rfl) ?_
            refine WkE.upd rfl (clo_refl (by simp) rfl) ?_
            exact WkE.emp
          ·
            exact WkM.emp
          ·
            repeat (refine dom_upd_mem (by decide) ?_)
            exact dom_emp
        ·
          have hlt : y < m := cmp_ltB hb1
          have hfin : y = x % m := by rw [← hy.1, Nat.mod_eq_of_lt hlt]
          subst hfin
          refine AW.exit ?_
          refine thenA_exit ?_
          refine thenA_exit ?_
          refine inBlockA_hit ?_
          refine thenA_normal ?_
          refine AW.seqR ?_
          refine AWo.pure (PureOp.move rfl) rfl rfl ?_
          refine AWo.pure (PureOp.assign rfl) rfl rfl ?_
          refine AWo.nil trivial ?_
          refine AW.ret ?_
          refine RetQ.gc [_] [] [.tmp 4] (.inl rfl) rfl (.tmp rfl .nil) rfl (.cons rfl rfl .nil) trivial (by decide) rfl
theorem modP_ctr {x : Nat} (hx : (D 4294967296 x).length < 100000) : GC Try.prog 46 [dd x] [] [dd (x % PG)] [] := by
  refine GC.intro Try.func46 rfl (by show 1 ≤ 6; decide) (by first | exact Nat.le_refl _ | decide | simp) ?_
  refine AW.seqR ?_
  refine AWo.pure (PureOp.assign rfl) rfl rfl ?_
  refine AWo.nil trivial ?_
  refine AW.seqR ?_
  refine AWo.pure (PureOp.move rfl) rfl rfl ?_
  refine AWo.callX (p04_ctr) bd91 [] [] rfl .nil rfl .nil .nil rfl .nil frN (by decide) (.cons rfl rfl .nil) rfl rfl rfl rfl ?_
  refine AWo.callX (fold_ctr (x := x) (m := PG) hx pg_b24 (by decide +kernel)) bd104 [] [] rfl (.cons rfl (.cons rfl .nil)) rfl (.cons rfl rfl (.cons rfl rfl .nil)) .nil rfl .nil frN (by decide) (.cons rfl rfl .nil) rfl rfl rfl rfl ?_
  refine AWo.pure (PureOp.assign rfl) rfl rfl ?_
  refine AWo.nil trivial ?_
  refine AW.ret ?_
  refine RetQ.gc [_] [] [.tmp 2] (.inl rfl) rfl (.tmp rfl .nil) rfl (.cons rfl rfl .nil) trivial (by decide) rfl
theorem modQ_ctr {x : Nat} (hx : (D 4294967296 x).length < 100000) : GC Try.prog 50 [dd x] [] [dd (x % QG)] [] := by
  refine GC.intro Try.func50 rfl (by show 1 ≤ 16; decide) (by first | exact Nat.le_refl _ | decide | simp) ?_
  refine AW.seqR ?_
  refine AWo.pure (PureOp.assign rfl) rfl rfl ?_
  refine AWo.nil trivial ?_
  refine AW.seqR ?_
  refine AWo.pure (PureOp.move rfl) rfl rfl ?_
  refine AWo.callX (p04_ctr) bd91 [] [] rfl .nil rfl .nil .nil rfl .nil frN (by decide) (.cons rfl rfl .nil) rfl rfl rfl rfl ?_
  refine AWo.buildSliceF tbok 6000 [(0, vi .u64 1)] (out := [vi .u64 1]) rfl rfl (by decide) rfl rfl rfl (by decide) rfl rfl rfl rfl (fun x hx => by simp at hx; subst hx; rfl) rfl rfl ?_
  rw [one_deep]
  refine AWo.callX (subd (x := PG) (y := 1) (by rw [pg_len]; decide) (by decide +kernel) (by decide +kernel)) bd27 [] [] rfl (.cons rfl (.cons rfl .nil)) rfl (.cons rfl rfl (.cons rfl rfl .nil)) .nil rfl .nil frN (by decide) (.cons rfl rfl .nil) rfl rfl rfl rfl ?_
  refine AWo.callX (fold_ctr (x := x) (m := PG - 1) hx pg1_b24 (by decide +kernel)) bd104 [] [] rfl (.cons rfl (.cons rfl .nil)) rfl (.cons rfl rfl (.cons rfl rfl .nil)) .nil rfl .nil frN (by decide) (.cons rfl rfl .nil) rfl rfl rfl rfl ?_
  refine AWo.pure (PureOp.assign rfl) rfl rfl ?_
  refine AWo.nil trivial ?_
  refine AW.seq ?_
  refine AW.block ?_
  refine AW.loopw (fun mm σ => ∃ y, (y < PG - 1 ∧ y % QG = x % QG) ∧ mm = 1 * y ∧ σ = ⟨(upd emp 0 (dd y)), emp⟩) (fm := []) ?_ ⟨x % (PG - 1), ⟨Nat.mod_lt _ (by decide +kernel), mod_half x⟩, rfl, rfl⟩ ?_
  ·
    refine Wk.of [] ?_ ?_ ?_ (by decide) rfl
    ·
      refine WkE.upd rfl (clo_refl (by simp) rfl) ?_
      exact WkE.emp
    ·
      exact WkM.emp
    ·
      repeat (refine dom_upd_mem (by decide) ?_)
      exact dom_emp
  ·
    rintro mm σ ⟨y, hy, rfl, rfl⟩
    refine AW.seq ?_
    refine AW.seqR ?_
    refine AWo.pure (PureOp.move rfl) rfl rfl ?_
    refine AWo.callX (q04_ctr) bd61 [] [] rfl .nil rfl .nil .nil rfl .nil frN (by decide) (.cons rfl rfl .nil) rfl rfl rfl rfl ?_
    refine AWo.callX (cmpd (x := y) (y := QG) (dl_le (Nat.le_of_lt hy.1) (by rw [pg1_len]; decide)) (by rw [qg_len]; decide)) bd97 [] [] rfl (.cons rfl (.cons rfl .nil)) rfl (.cons rfl rfl (.cons rfl rfl .nil)) .nil rfl .nil frN (by decide) (.cons rfl rfl .nil) rfl rfl rfl rfl ?_
    first | refine AWo.pure (PureOp.geP rfl rfl) rfl rfl ?_ | refine AWo.pure (PureOp.geN (b := 0) rfl rfl) rfl rfl ?_ | refine AWo.pure (PureOp.bin rfl rfl rfl) rfl rfl ?_
    refine AWo.nil trivial ?_
    refine AW.cond rfl (fun hb0 => ?_) (fun hb0 => ?_)
    ·
      have hge : QG ≤ y := cmp_geB hb0
      refine AW.skip ?_
      refine thenA_normal ?_
      refine AW.block ?_
      refine AW.region ?_
      refine AWo.pure (PureOp.move rfl) rfl rfl ?_
      refine AWo.callX (q04_ctr) bd61 [] [] rfl .nil rfl .nil .nil rfl .nil frN (by decide) (.cons rfl rfl .nil) rfl rfl rfl rfl ?_
      refine AWo.callX (subd (x := y) (y := QG) (dl_le (Nat.le_of_lt hy.1) (by rw [pg1_len]; decide)) (by rw [qg_len]; decide) hge) bd27 [] [] rfl (.cons rfl (.cons rfl .nil)) rfl (.cons rfl rfl (.cons rfl rfl .nil)) .nil rfl .nil frN (by decide) (.cons rfl rfl .nil) rfl rfl rfl rfl ?_
      refine AWo.pure (PureOp.assign rfl) rfl rfl ?_
      refine AWo.nil trivial ?_
      refine inBlockA_normal ?_
      refine thenA_normal ?_
      refine ⟨1 * (y - QG), [], _, by have := sub_lt_q hge; omega, ?_, y - QG, ⟨Nat.lt_of_le_of_lt (Nat.sub_le _ _) hy.1, (sub_mod hge).trans hy.2⟩, rfl, rfl⟩
      refine Wk.of [] ?_ ?_ ?_ (by decide) rfl
      ·
        refine WkE.upd rfl (clo_refl (by simp) rfl) ?_
        exact WkE.emp
      ·
        exact WkM.emp
      ·
        repeat (refine dom_upd_mem (by decide) ?_)
        exact dom_emp
    ·
      have hlt : y < QG := cmp_ltB hb0
      have hfin : y = x % QG := by rw [← hy.2, Nat.mod_eq_of_lt hlt]
      subst hfin
      refine AW.exit ?_
      refine thenA_exit ?_
      refine thenA_exit ?_
      refine inBlockA_hit ?_
      refine thenA_normal ?_
      refine AW.seqR ?_
      refine AWo.pure (PureOp.move rfl) rfl rfl ?_
      refine AWo.pure (PureOp.assign rfl) rfl rfl ?_
      refine AWo.nil trivial ?_
      refine AW.ret ?_
      refine RetQ.gc [_] [] [.tmp 2] (.inl rfl) rfl (.tmp rfl .nil) rfl (.cons rfl rfl .nil) trivial (by decide) rfl
theorem mod4_ctr {g : Bool} {x : Nat} (hx : (D 4294967296 x).length < 100000) : GC Try.prog 23 [.bool g, dd x] [] [dd (x % NG g)] [] := by
  cases g
  ·
    refine GC.intro Try.func23 rfl (by show 2 ≤ 10; decide) (by first | exact Nat.le_refl _ | decide | simp) ?_
    refine AW.seqR ?_
    refine AWo.pure (PureOp.assign rfl) rfl rfl ?_
    refine AWo.nil trivial ?_
    refine AW.seq ?_
    refine AW.seqR ?_
    refine AWo.pure (PureOp.move rfl) rfl rfl ?_
    refine AWo.nil trivial ?_
    refine AW.condF rfl ?_
    refine AW.skip ?_
    refine thenA_normal ?_
    refine AW.seqR ?_
    refine AWo.pure (PureOp.move rfl) rfl rfl ?_
    refine AWo.callX (modQ_ctr hx) bd50 [] [] rfl (.cons rfl .nil) rfl (.cons rfl rfl .nil) .nil rfl .nil frN (by decide) (.cons rfl rfl .nil) rfl rfl rfl rfl ?_
    refine AWo.pure (PureOp.assign rfl) rfl rfl ?_
    refine AWo.nil trivial ?_
    refine AW.ret ?_
    refine RetQ.gc [_] [] [.tmp 4] (.inl rfl) rfl (.tmp rfl .nil) rfl (.cons rfl rfl .nil) trivial (by decide) rfl
  ·
    refine GC.intro Try.func23 rfl (by show 2 ≤ 10; decide) (by first | exact Nat.le_refl _ | decide | simp) ?_
    refine AW.seqR ?_
    refine AWo.pure (PureOp.assign rfl) rfl rfl ?_
    refine AWo.nil trivial ?_
    refine AW.seq ?_
    refine AW.seqR ?_
    refine AWo.pure (PureOp.move rfl) rfl rfl ?_
    refine AWo.nil trivial ?_
    refine AW.condT rfl ?_
    refine AW.seqR ?_
    refine AWo.pure (PureOp.move rfl) rfl rfl ?_
    refine AWo.callX (modP_ctr hx) bd46 [] [] rfl (.cons rfl .nil) rfl (.cons rfl rfl .nil) .nil rfl .nil frN (by decide) (.cons rfl rfl .nil) rfl rfl rfl rfl ?_
    refine AWo.pure (PureOp.assign rfl) rfl rfl ?_
    refine AWo.nil trivial ?_
    refine AW.ret ?_
    refine thenA_ret ?_
    refine RetQ.gc [_] [] [.tmp 4] (.inl rfl) rfl (.tmp rfl .nil) rfl (.cons rfl rfl .nil) trivial (by decide) rfl
theorem digN_ctr {a : Nat} (ha : a < 18446744073709551616 ^ 12) : GC Try.prog 22 [.agg ((digs 18446744073709551616 12 a).map (vi .u64)).toArray] [] [.slice (some ⟨0, 0, none⟩) (D 4294967296 a).length 0] [⟨(D 4294967296 a).map (vi .u64), true, 1⟩] := by
  refine GC.intro Try.func22 rfl (by show 1 ≤ 5; decide) (by first | exact Nat.le_refl _ | decide | simp) ?_
  refine AW.seqR ?_
  refine AWo.box 2000 1 _ rfl rfl rfl rfl rfl ?_
  refine AWo.pure (PureOp.assign rfl) rfl rfl ?_
  refine AWo.nil trivial ?_
  refine AW.seqR ?_
  refine AWo.sliceA tbok (h := 12) rfl .none .none rfl rfl rfl rfl (by decide) (by decide) (.inl rfl) (by show 12 ≤ ((digs 18446744073709551616 12 (a)).map (vi .u64)).length; rw [List.length_map, digs_len]; decide) rfl rfl rfl ?_
  refine AWo.callX (digits_ctrV (a := digs 18446744073709551616 12 a) (digs_len _ _) (num_digs_lt ha) (digs_bd (by decide) _ _) (by rw [digs_len]; decide)) bd86 [(2000, 0)] [5000] rfl (.cons rfl .nil) rfl (.cons rfl rfl .nil) (.flat rfl (by first | exact flatM flat_vi | exact flatM flat_bool | (simp [flatV, flat_vi]; done)) (by intro h; first | exact h | rfl) .nil) rfl (.keep rfl (.new (flat_map_ren (by first | exact flatM flat_vi | exact flatM flat_bool | (simp [flatV, flat_vi]; done))) (OkL.flat (by first | exact flatM flat_vi | exact flatM flat_bool | (simp [flatV, flat_vi]; done))) .nil)) (frC rfl frN) (by decide) (.cons rfl rfl .nil) rfl rfl rfl rfl ?_
  refine AWo.pure (PureOp.assign rfl) rfl rfl ?_
  refine AWo.nil trivial ?_
  refine AW.ret ?_
  refine RetQ.gc [_] [5000] [.tmp 2] (.inl rfl) rfl (.tmp rfl .nil) rfl (.cons rfl rfl .nil) (OutL.flat rfl (by first | exact flatM flat_vi | exact flatM flat_bool | (simp [flatV, flat_vi]; done)) (by intro h; first | rfl | exact h.elim id fun h => absurd h.1 (by simp)) trivial) (by decide) rfl
theorem digits4_ctr {a : Nat} (ha : a < 18446744073709551616 ^ 12) : GC Try.prog 22 [.agg ((digs 18446744073709551616 12 a).map (vi .u64)).toArray] [] [dd a] [] := GC.deepen (digN_ctr ha) (.pure (cloA flat_vi) .nil) (.new (Nat.le_refl _) rfl (by simp) (cloM fun _ => rfl) .nil)
theorem rb96_ctr {x : Nat} (hx : x < 18446744073709551616 ^ 12) : GC Try.prog 99 [.slice (some ⟨0, 0, none⟩) 12 0] [⟨(digs 18446744073709551616 12 x).map (vi .u64), false, 1⟩] [.slice (some ⟨1, 0, none⟩) 96 0] [⟨(digs 18446744073709551616 12 x).map (vi .u64), false, 1⟩, ⟨(digs 256 96 x).map (vi .u8), true, 1⟩] := by
  have h := rbytes_ctr (a := digs 18446744073709551616 12 x) (digs_bd (by decide) _ _) (by rw [digs_len]; decide)
  simp only [digs_len, num_digs_lt hx] at h
  exact h
theorem bytes4_ctr {x : Nat} (hx : x < 18446744073709551616 ^ 12) : GC Try.prog 36 [dd x] [] [.slice (some ⟨0, 0, none⟩) 96 0] [⟨(digs 256 96 x).map (vi .u8), true, 1⟩] := by
  refine GC.intro Try.func36 rfl (by show 1 ≤ 6; decide) (by first | exact Nat.le_refl _ | decide | simp) ?_
  refine AW.expose 0 88000 ?_
  refine AW.seqR ?_
  refine AWo.pure (PureOp.assign rfl) rfl rfl ?_
  refine AWo.nil trivial ?_
  refine AW.seqR ?_
  refine AWo.pure (PureOp.move rfl) rfl rfl ?_
  refine AWo.callX (wordsD_ctr (x := x) (n := 12) (by decide)) bd83 [(88000, 0)] [5000] rfl (.cons rfl (.cons rfl .nil)) rfl (.cons rfl rfl (.cons rfl rfl .nil)) (.flat rfl (by first | exact flatM flat_vi | exact flatM flat_bool | (simp [flatV, flat_vi]; done)) (by intro h; first | exact h | rfl) .nil) rfl (.keep rfl (.new (flat_map_ren (by first | exact flatM flat_vi | exact flatM flat_bool | (simp [flatV, flat_vi]; done))) (OkL.flat (by first | exact flatM flat_vi | exact flatM flat_bool | (simp [flatV, flat_vi]; done))) .nil)) (frC rfl frN) (by decide) (.cons rfl rfl .nil) rfl rfl rfl rfl ?_
  refine AWo.callX (rb96_ctr hx) bd99 [(5000, 0)] [6000] rfl (.cons rfl .nil) rfl (.cons rfl rfl .nil) (.flat rfl (by first | exact flatM flat_vi | exact flatM flat_bool | (simp [flatV, flat_vi]; done)) (by intro h; first | exact h | rfl) .nil) rfl (.keep rfl (.new (flat_map_ren (by first | exact flatM flat_vi | exact flatM flat_bool | (simp [flatV, flat_vi]; done))) (OkL.flat (by first | exact flatM flat_vi | exact flatM flat_bool | (simp [flatV, flat_vi]; done))) .nil)) (frC rfl frN) (by decide) (.cons rfl rfl .nil) rfl rfl rfl rfl ?_
  refine AWo.pure (PureOp.assign rfl) rfl rfl ?_
  refine AWo.nil trivial ?_
  refine AW.ret ?_
  refine RetQ.gc [_] [6000] [.tmp 2] (.inl rfl) rfl (.tmp rfl .nil) rfl (.cons rfl rfl .nil) (OutL.flat rfl (by first | exact flatM flat_vi | exact flatM flat_bool | (simp [flatV, flat_vi]; done)) (by intro h; first | rfl | exact h.elim id fun h => absurd h.1 (by simp)) trivial) (by decide) rfl
end Go.Proofs.Ytpahdiljpnfkdaa
namespace Go.Proofs.Ytpahdiljpnfkdaa
open Go Sim
theorem rn_g (g : Bool) : RN (NG g) := by cases g; exact rn_q; exact rn_p
theorem deep_dd0 : deep 0 1 [] = dd 0 := rfl
theorem mod_lt12 {N : Nat} (h : RN N) (x : Nat) : x % N < 18446744073709551616 ^ 12 := Nat.lt_trans (Nat.mod_lt _ (rn_pos h)) h.lt
theorem num_rm {x : Nat} (h : x < 18446744073709551616 ^ 12) : (D 4294967296 x).length < 100000 := Nat.lt_of_le_of_lt (dlen24 (b24_w ▸ h)) (by decide)
theorem two_q : 2 ^ QG % PG = 1 := by
  rw [← powm_eq PG 800 2 QG (by decide +kernel)]; decide +kernel
end Go.Proofs.Ytpahdiljpnfkdaa
namespace Go.Proofs.Ytpahdiljpnfkdaa
open Go Sim
theorem digs_rg (v : Nat) : ∀ n, digs 4294967296 n v = (List.range n).map fun i => v / 4294967296 ^ i % 4294967296 := fun n => by
  refine List.ext_getElem (by simp [digs_len]) fun i h1 h2 => ?_
  have h3 := digs_getD (B := 4294967296) (by decide) (n := n) (v := v) (i := i) (by simpa [digs_len] using h1)
  rw [List.getD_eq_getElem?_getD, List.getElem?_eq_getElem h1] at h3
  simpa using h3
def pst (x y t k : Nat) : List Nat := (List.range 27).map fun i => if i < k then (x + y * t) / 4294967296 ^ i % 4294967296 else x / 4294967296 ^ i % 4294967296
def cst (x y t k : Nat) : Nat := (x % 4294967296 ^ k + y % 4294967296 ^ k * t) / 4294967296 ^ k
theorem cst_zero (x y t : Nat) : cst x y t 0 = 0 := by simp [cst, Nat.mod_one]
theorem pst_len (x y t k : Nat) : (pst x y t k).length = 27 := by simp [pst]
theorem pst_zero (x y t : Nat) : pst x y t 0 = digs 4294967296 27 x := by
  rw [digs_rg, pst]; exact List.map_congr_left fun i _ => if_neg (Nat.not_lt_zero i)
theorem pst_all {x y t : Nat} : pst x y t 27 = digs 4294967296 27 (x + y * t) := by
  rw [digs_rg, pst]; exact List.map_congr_left fun i hi => if_pos (List.mem_range.1 hi)
theorem rg_getD {f : Nat → Nat} {n i : Nat} (h : i < n) : ((List.range n).map f).getD i 0 = f i := by
  rw [List.getD_eq_getElem?_getD, List.getElem?_map, List.getElem?_range h]; rfl
theorem pst_at (x y t : Nat) {k : Nat} (hk : k < 27) : (pst x y t k).getD k 0 = x / 4294967296 ^ k % 4294967296 := by
  rw [pst, rg_getD hk, if_neg (Nat.lt_irrefl k)]
theorem cst_lt (x y : Nat) {t : Nat} (ht : t < 4294967296) (k : Nat) : cst x y t k < 4294967296 := by
  refine (Nat.div_lt_iff_lt_mul (Nat.pow_pos (by decide))).2 ?_
  have h1 := Nat.mod_lt x (Nat.pow_pos (n := k) (show 0 < 4294967296 by decide))
  have h2 := Nat.mod_lt y (Nat.pow_pos (n := k) (show 0 < 4294967296 by decide))
  generalize 4294967296 ^ k = q at *
  have h3 : y % q * t ≤ (q - 1) * 4294967295 := Nat.mul_le_mul (by omega) (by omega)
  omega
theorem cst_key (x y t k : Nat) : x % 4294967296 ^ (k + 1) + y % 4294967296 ^ (k + 1) * t = x % 4294967296 ^ k + y % 4294967296 ^ k * t + 4294967296 ^ k * (x / 4294967296 ^ k % 4294967296 + y / 4294967296 ^ k % 4294967296 * t) := by
  rw [Nat.pow_succ, Nat.mod_mul, Nat.mod_mul]
  generalize 4294967296 ^ k = q
  generalize x % q = A
  generalize x / q % 4294967296 = B
  generalize y % q = C
  generalize y / q % 4294967296 = E
  rw [Nat.add_mul, Nat.mul_add, Nat.mul_assoc]
  generalize q * B = u
  generalize C * t = v
  generalize q * (E * t) = w
  omega
theorem cst_div (x y t k : Nat) : (x % 4294967296 ^ (k + 1) + y % 4294967296 ^ (k + 1) * t) / 4294967296 ^ k = x / 4294967296 ^ k % 4294967296 + cst x y t k + y / 4294967296 ^ k % 4294967296 * t := by
  rw [cst_key, Nat.add_mul_div_left _ _ (Nat.pow_pos (by decide))]
  show cst x y t k + (x / 4294967296 ^ k % 4294967296 + y / 4294967296 ^ k % 4294967296 * t) = _
  generalize x / 4294967296 ^ k % 4294967296 = A
  generalize y / 4294967296 ^ k % 4294967296 * t = B
  omega
theorem cst_succ {x y t k : Nat} : (x / 4294967296 ^ k % 4294967296 + cst x y t k + y / 4294967296 ^ k % 4294967296 * t) / 4294967296 = cst x y t (k + 1) := by
  rw [← cst_div, cst, Nat.div_div_eq_div_mul, ← Nat.pow_succ]
theorem yk_zero {y k : Nat} (h : ¬ k < (D 4294967296 y).length) : y / 4294967296 ^ k % 4294967296 = 0 := by
  rw [← D_getD (by decide), List.getD_eq_getElem?_getD, List.getElem?_eq_none (by omega)]; rfl
theorem cst_succz {x y t k : Nat} (h : ¬ k < (D 4294967296 y).length) : (x / 4294967296 ^ k % 4294967296 + cst x y t k) / 4294967296 = cst x y t (k + 1) := by
  rw [← cst_succ, yk_zero h, Nat.zero_mul, Nat.add_zero]
theorem dig_eq (x y t k : Nat) : (x / 4294967296 ^ k % 4294967296 + cst x y t k + y / 4294967296 ^ k % 4294967296 * t) % 4294967296 = (x + y * t) / 4294967296 ^ k % 4294967296 := by
  rw [← cst_div]
  have e : x + y * t = x % 4294967296 ^ (k + 1) + y % 4294967296 ^ (k + 1) * t + 4294967296 ^ k * (4294967296 * (x / 4294967296 ^ (k + 1) + y / 4294967296 ^ (k + 1) * t)) := by
    have h1 := Nat.mod_add_div x (4294967296 ^ (k + 1))
    have h2 := Nat.mod_add_div y (4294967296 ^ (k + 1))
    conv => lhs; rw [← h1, ← h2]
    have hQ : (4294967296 : Nat) ^ k * 4294967296 = 4294967296 ^ (k + 1) := (Nat.pow_succ ..).symm
    rw [← Nat.mul_assoc, hQ]
    generalize (4294967296 : Nat) ^ (k + 1) = Q
    rw [Nat.add_mul, Nat.mul_add, Nat.mul_assoc]; omega
  conv => rhs; rw [e, Nat.add_mul_div_left _ _ (Nat.pow_pos (by decide)), Nat.add_mul_mod_self_left]
theorem pst_next {x y t k v : Nat} (hk : k < 27) (hv : v = (x + y * t) / 4294967296 ^ k % 4294967296) : (pst x y t k).set k v = pst x y t (k + 1) := by
  refine List.ext_getElem (by simp [pst]) fun i h1 h2 => ?_
  rw [pst_len] at h2
  simp only [pst, List.getElem_set, List.getElem_map, List.getElem_range]
  by_cases h : k = i
  · subst h; rw [if_pos rfl, if_pos (Nat.lt_succ_self k)]; exact hv
  · rw [if_neg h]
    by_cases hi : i < k
    · rw [if_pos hi, if_pos (by omega)]
    · rw [if_neg hi, if_neg (by omega)]
theorem pst_set {x y t k : Nat} (hk : k < 27) : (pst x y t k).set k ((x / 4294967296 ^ k % 4294967296 + cst x y t k + y / 4294967296 ^ k % 4294967296 * t) % 4294967296) = pst x y t (k + 1) := pst_next hk (dig_eq x y t k)
theorem pst_setz {x y t k : Nat} (hk : k < 27) (h : ¬ k < (D 4294967296 y).length) : (pst x y t k).set k ((x / 4294967296 ^ k % 4294967296 + cst x y t k) % 4294967296) = pst x y t (k + 1) :=
  pst_next hk (by have := dig_eq x y t k; rw [yk_zero h, Nat.zero_mul, Nat.add_zero] at this; exact this)
theorem plus4_ctr {x y t : Nat} (ht : t < 4294967296) : GC Try.prog 106 [.agg ((digs 4294967296 27 (x)).map (vi .u64)).toArray, dd y, vi .u64 (t)] [] [.agg ((digs 4294967296 27 (x + y * t)).map (vi .u64)).toArray] [] := by
  refine GC.intro Try.func106 rfl (by show 3 ≤ 38; decide) (by first | exact Nat.le_refl _ | decide | simp) ?_
  refine AW.expose 1 88000 ?_
  refine AW.seqR ?_
  refine yO 4000 1 ((digs 4294967296 27 x).map (vi .u64)) ?_
  rw [← pst_zero x y t]
  refine AWo.alloc tbok 7000 1 ((List.replicate 27 0).map (vi .u64)) rfl rfl rfl rfl rfl rfl ?_
  refine AWo.nil trivial ?_
  refine AW.seqR ?_
  refine AWo.pure (PureOp.assign rfl) rfl rfl ?_
  refine AWo.nil trivial ?_
  refine AW.seq ?_
  refine AW.seqR ?_
  refine AWo.pure (PureOp.assign rfl) rfl rfl ?_
  refine AWo.nil trivial ?_
  refine AW.block ?_
  refine AW.loopw (fun mm σ => ∃ k, (k ≤ 27) ∧ mm = 27 - k ∧ σ = ⟨(upd (upd (upd (upd (upd (upd emp 1 (.slice (some ⟨88000, 0, none⟩) (D 4294967296 y).length 0)) 2 (vi .u64 t)) 3 (.pointer (some ⟨4000, 0, none⟩))) 6 (.pointer (some ⟨7000, 0, none⟩))) 7 (vi .u64 (cst x y t k))) 8 (vi .i64 k)), (upd (upd (upd emp 88000 ⟨(D 4294967296 y).map (vi .u64), false, 1⟩) 4000 ⟨(pst x y t k).map (vi .u64), true, 1⟩) 7000 ⟨(List.replicate 27 0).map (vi .u64), true, 1⟩)⟩) (fm := []) ?_ ⟨0, by omega, rfl, rfl⟩ ?_
  ·
    refine Wk.of [88000, 4000, 7000] ?_ ?_ ?_ (by decide) rfl
    ·
      refine WkE.upd rfl (by first | exact VR.flat _ rfl | exact VR.eqv (vp_succ _) rfl | exact VR.eqv (vp_succ _).symm rfl | exact VR.eqv (by first | rfl | (congr 1; omega) | (simp; done) | (simp; omega)) rfl) ?_
      refine WkE.upd rfl (by first | exact VR.flat _ rfl | exact VR.eqv (congrArg (vi .u64) (cst_zero x y t)) rfl | exact VR.eqv (congrArg (vi .u64) (cst_zero x y t).symm) rfl) ?_
      refine WkE.upd rfl (.ptr (7000) 0 ⟨_, rfl⟩) ?_
      refine WkE.upd rfl (.ptr (4000) 0 ⟨_, rfl⟩) ?_
      refine WkE.upd rfl (by first | exact VR.flat _ rfl | exact VR.eqv (vp_succ _) rfl | exact VR.eqv (vp_succ _).symm rfl | exact VR.eqv (by first | rfl | (congr 1; omega) | (simp; done) | (simp; omega)) rfl) ?_
      refine WkE.upd rfl (.slice (88000) 0 _ 0 ⟨_, rfl⟩ (by simp) (by simp)) ?_
      exact WkE.emp
    ·
      refine WkM.flat rfl (flatM flat_vi) (fun h => h) ?_
      refine WkM.flat rfl (flatM flat_vi) (fun h => h) ?_
      refine WkM.flat rfl (flatM flat_vi) (fun h => h) ?_
      exact WkM.emp
    ·
      repeat (refine dom_upd_mem (by decide) ?_)
      exact dom_emp
  ·
    rintro mm σ ⟨k, hinv, rfl, rfl⟩
    have hck := cst_lt x y ht k
    have hxk : x / 4294967296 ^ k % 4294967296 < 4294967296 := Nat.mod_lt _ (by decide)
    have hyk : y / 4294967296 ^ k % 4294967296 < 4294967296 := Nat.mod_lt _ (by decide)
    have hyt : y / 4294967296 ^ k % 4294967296 * t ≤ 4294967295 * 4294967295 := Nat.mul_le_mul (by omega) (by omega)
    refine AW.seq ?_
    refine AW.seqR ?_
    refine AWo.pure (PureOp.move rfl) rfl rfl ?_
    first | refine AWo.pure (PureOp.ltN (b := 27) rfl rfl) rfl rfl ?_ | refine AWo.pure (PureOp.bin rfl rfl rfl) rfl rfl ?_
    refine AWo.nil trivial ?_
    refine AW.cond rfl (fun hb0 => ?_) (fun hb0 => ?_)
    ·
      have hk : k < 27 := by simpa using hb0
      refine AW.skip ?_
      refine thenA_normal ?_
      refine AW.seq ?_
      refine AW.block ?_
      refine AW.seqR ?_
      refine AWo.pure (PureOp.move rfl) rfl rfl ?_
      refine yP (PureOp.arr1 tbok (j := k) rfl rfl rfl rfl hk) ?_
      refine AWo.loadM tbok 0 rfl rfl rfl (by rw [pst_len]; omega) rfl rfl ?_
      rw [pst_at x y t hk]
      refine AWo.pure (PureOp.move rfl) rfl rfl ?_
      first | refine AWo.pure ((PureOp.addU 18446744073709551616 rfl rfl rfl rfl).mono (v' := vi .u64 (x / 4294967296 ^ k % 4294967296 + cst x y t k)) (congrArg (vi .u64) (Nat.mod_eq_of_lt (by omega)))) rfl rfl ?_ | refine AWo.pure ((PureOp.bin rfl rfl rfl).mono (v' := vi .u64 (x / 4294967296 ^ k % 4294967296 + cst x y t k)) (congrArg (vi .u64) (Nat.mod_eq_of_lt (by omega)))) rfl rfl ?_
      refine AWo.pure (PureOp.assign rfl) rfl rfl ?_
      refine AWo.nil trivial ?_
      refine AW.seq ?_
      refine AW.seqR ?_
      refine AWo.pure (PureOp.move rfl) rfl rfl ?_
      refine AWo.pure (PureOp.move rfl) rfl rfl ?_
      first | refine AWo.pure (PureOp.lenS tbok rfl rfl) rfl rfl ?_ | refine AWo.pure (PureOp.lenD tbok rfl rfl) rfl rfl ?_
      first | refine AWo.pure (PureOp.ltN rfl rfl) rfl rfl ?_ | refine AWo.pure (PureOp.bin rfl rfl rfl) rfl rfl ?_
      refine AWo.nil trivial ?_
      refine AW.cond rfl (fun hb1 => ?_) (fun hb1 => ?_)
      ·
        have hky : k < (D 4294967296 y).length := by simpa using hb1
        refine AW.region ?_
        refine AWo.pure (PureOp.move rfl) rfl rfl ?_
        refine AWo.pure (PureOp.move rfl) rfl rfl ?_
        refine AWo.pure (PureOp.move rfl) rfl rfl ?_
        refine yP (PureOp.idx1 tbok (j := k) rfl rfl rfl rfl hky) ?_
        refine AWo.loadM tbok 0 rfl rfl rfl hky rfl rfl ?_
        rw [D_getD (by decide) y k]
        refine AWo.pure (PureOp.move rfl) rfl rfl ?_
        first | refine AWo.pure ((PureOp.mulU 18446744073709551616 rfl rfl rfl rfl).mono (v' := vi .u64 (y / 4294967296 ^ k % 4294967296 * t)) (congrArg (vi .u64) (Nat.mod_eq_of_lt (by omega)))) rfl rfl ?_ | refine AWo.pure ((PureOp.bin rfl rfl rfl).mono (v' := vi .u64 (y / 4294967296 ^ k % 4294967296 * t)) (congrArg (vi .u64) (Nat.mod_eq_of_lt (by omega)))) rfl rfl ?_
        first | refine AWo.pure ((PureOp.addU 18446744073709551616 rfl rfl rfl rfl).mono (v' := vi .u64 (x / 4294967296 ^ k % 4294967296 + cst x y t k + y / 4294967296 ^ k % 4294967296 * t)) (congrArg (vi .u64) (Nat.mod_eq_of_lt (by omega)))) rfl rfl ?_ | refine AWo.pure ((PureOp.bin rfl rfl rfl).mono (v' := vi .u64 (x / 4294967296 ^ k % 4294967296 + cst x y t k + y / 4294967296 ^ k % 4294967296 * t)) (congrArg (vi .u64) (Nat.mod_eq_of_lt (by omega)))) rfl rfl ?_
        refine AWo.pure (PureOp.assign rfl) rfl rfl ?_
        refine AWo.nil trivial ?_
        refine thenA_normal ?_
        refine AW.seqR ?_
        refine AWo.pure (PureOp.move rfl) rfl rfl ?_
        refine AWo.pure (PureOp.move rfl) rfl rfl ?_
        refine AWo.pure (PureOp.remN (b := 4294967296) rfl rfl (by decide)) rfl rfl ?_
        refine yP (PureOp.arr1 tbok (j := k) rfl rfl rfl rfl hk) ?_
        refine AWo.storeM (f := (vi .u64)) tbok rfl rfl rfl rfl (by rw [pst_len]; omega) rfl rfl ?_
        rw [pst_set hk]
        refine AWo.nil trivial ?_
        refine AW.region ?_
        refine AWo.pure (PureOp.move rfl) rfl rfl ?_
        refine AWo.pure ((PureOp.quoN (b := 4294967296) 18446744073709551616 rfl rfl (by decide) (by decide) (by decide) (by omega)).mono (v' := vi .u64 (cst x y t (k + 1))) (congrArg (vi .u64) (cst_succ))) rfl rfl ?_
        refine AWo.pure (PureOp.assign rfl) rfl rfl ?_
        refine AWo.nil trivial ?_
        refine inBlockA_normal ?_
        refine thenA_normal ?_
        refine AW.region ?_
        refine AWo.pure (PureOp.move rfl) rfl rfl ?_
        first | refine AWo.pure (PureOp.addI (b := 1) rfl rfl (by first | decide | omega)) rfl rfl ?_ | refine AWo.pure (PureOp.bin rfl rfl rfl) rfl rfl ?_
        refine AWo.pure (PureOp.assign rfl) rfl rfl ?_
        refine AWo.nil trivial ?_
        refine thenA_normal ?_
        refine ⟨27 - (k + 1), [], _, by omega, ?_, k + 1, by omega, rfl, rfl⟩
        refine Wk.of [88000, 4000, 7000] ?_ ?_ ?_ (by decide) rfl
        ·
          refine WkE.upd rfl (by first | exact VR.flat _ rfl | exact VR.eqv (vp_succ _) rfl | exact VR.eqv (vp_succ _).symm rfl | exact VR.eqv (by first | rfl | (congr 1; omega) | (simp; done) | (simp; omega)) rfl) ?_
          refine WkE.upd rfl (by first | exact VR.flat _ rfl | exact VR.eqv (congrArg (vi .u64) (cst_zero x y t)) rfl | exact VR.eqv (congrArg (vi .u64) (cst_zero x y t).symm) rfl) ?_
          refine WkE.upd rfl (.ptr (7000) 0 ⟨_, rfl⟩) ?_
          refine WkE.upd rfl (.ptr (4000) 0 ⟨_, rfl⟩) ?_
          refine WkE.upd rfl (by first | exact VR.flat _ rfl | exact VR.eqv (vp_succ _) rfl | exact VR.eqv (vp_succ _).symm rfl | exact VR.eqv (by first | rfl | (congr 1; omega) | (simp; done) | (simp; omega)) rfl) ?_
          refine WkE.upd rfl (.slice (88000) 0 _ 0 ⟨_, rfl⟩ (by simp) (by simp)) ?_
          exact WkE.emp
        ·
          refine WkM.flat rfl (flatM flat_vi) (fun h => h) ?_
          refine WkM.flat rfl (flatM flat_vi) (fun h => h) ?_
          refine WkM.flat rfl (flatM flat_vi) (fun h => h) ?_
          exact WkM.emp
        ·
          repeat (refine dom_upd_mem (by decide) ?_)
          exact dom_emp
      ·
        have hky : ¬ k < (D 4294967296 y).length := by simpa using hb1
        refine AW.skip ?_
        refine thenA_normal ?_
        refine AW.seqR ?_
        refine AWo.pure (PureOp.move rfl) rfl rfl ?_
        refine AWo.pure (PureOp.move rfl) rfl rfl ?_
        refine AWo.pure (PureOp.remN (b := 4294967296) rfl rfl (by decide)) rfl rfl ?_
        refine yP (PureOp.arr1 tbok (j := k) rfl rfl rfl rfl hk) ?_
        refine AWo.storeM (f := (vi .u64)) tbok rfl rfl rfl rfl (by rw [pst_len]; omega) rfl rfl ?_
        rw [pst_setz hk hky]
        refine AWo.nil trivial ?_
        refine AW.region ?_
        refine AWo.pure (PureOp.move rfl) rfl rfl ?_
        refine AWo.pure ((PureOp.quoN (b := 4294967296) 18446744073709551616 rfl rfl (by decide) (by decide) (by decide) (by omega)).mono (v' := vi .u64 (cst x y t (k + 1))) (congrArg (vi .u64) (cst_succz hky))) rfl rfl ?_
        refine AWo.pure (PureOp.assign rfl) rfl rfl ?_
        refine AWo.nil trivial ?_
        refine inBlockA_normal ?_
        refine thenA_normal ?_
        refine AW.region ?_
        refine AWo.pure (PureOp.move rfl) rfl rfl ?_
        first | refine AWo.pure (PureOp.addI (b := 1) rfl rfl (by first | decide | omega)) rfl rfl ?_ | refine AWo.pure (PureOp.bin rfl rfl rfl) rfl rfl ?_
        refine AWo.pure (PureOp.assign rfl) rfl rfl ?_
        refine AWo.nil trivial ?_
        refine thenA_normal ?_
        refine ⟨27 - (k + 1), [], _, by omega, ?_, k + 1, by omega, rfl, rfl⟩
        refine Wk.of [88000, 4000, 7000] ?_ ?_ ?_ (by decide) rfl
        ·
          refine WkE.upd rfl (by first | exact VR.flat _ rfl | exact VR.eqv (vp_succ _) rfl | exact VR.eqv (vp_succ _).symm rfl | exact VR.eqv (by first | rfl | (congr 1; omega) | (simp; done) | (simp; omega)) rfl) ?_
          refine WkE.upd rfl (by first | exact VR.flat _ rfl | exact VR.eqv (congrArg (vi .u64) (cst_zero x y t)) rfl | exact VR.eqv (congrArg (vi .u64) (cst_zero x y t).symm) rfl) ?_
          refine WkE.upd rfl (.ptr (7000) 0 ⟨_, rfl⟩) ?_
          refine WkE.upd rfl (.ptr (4000) 0 ⟨_, rfl⟩) ?_
          refine WkE.upd rfl (by first | exact VR.flat _ rfl | exact VR.eqv (vp_succ _) rfl | exact VR.eqv (vp_succ _).symm rfl | exact VR.eqv (by first | rfl | (congr 1; omega) | (simp; done) | (simp; omega)) rfl) ?_
          refine WkE.upd rfl (.slice (88000) 0 _ 0 ⟨_, rfl⟩ (by simp) (by simp)) ?_
          exact WkE.emp
        ·
          refine WkM.flat rfl (flatM flat_vi) (fun h => h) ?_
          refine WkM.flat rfl (flatM flat_vi) (fun h => h) ?_
          refine WkM.flat rfl (flatM flat_vi) (fun h => h) ?_
          exact WkM.emp
        ·
          repeat (refine dom_upd_mem (by decide) ?_)
          exact dom_emp
    ·
      obtain rfl : k = 27 := by simp at hb0; omega
      rw [pst_all]
      refine AW.exit ?_
      refine thenA_exit ?_
      refine thenA_exit ?_
      refine inBlockA_hit ?_
      refine thenA_normal ?_
      refine AW.seqR ?_
      refine AWo.loadAll tbok rfl rfl rfl rfl (by rw [List.length_map, digs_len]) rfl rfl ?_
      refine AWo.storeAllN tbok rfl rfl rfl rfl (by rw [List.length_map, digs_len]) (by first | rfl | (simp; done)) (oneM (fun _ => rfl) _) rfl ?_
      refine AWo.nil trivial ?_
      refine AW.ret ?_
      refine RetQ.gc [_] [] [.cell 6 120] (.inl rfl) rfl (.val (RVal.cellAll tbok rfl rfl rfl rfl (by first | (simp [*]; done) | rfl)) .nil) rfl (.pure (by first | rfl | exact pure_aggM flat_vi | exact pure_aggM flat_bool) .nil) trivial (by decide) rfl
def shf (y k i : Nat) : Nat := if k < i then y / 4294967296 ^ (i - 1) % 4294967296 else y / 4294967296 ^ i % 4294967296
theorem shf_start (y : Nat) : digs 4294967296 27 y = (List.range 27).map (shf y 26) := by
  rw [digs_rg]; exact List.map_congr_left fun i hi => (if_neg (by have := List.mem_range.1 hi; omega)).symm
theorem shf_at {y k : Nat} (hk : k < 27) (h1 : 1 ≤ k) : ((List.range 27).map (shf y k)).getD (k - 1) 0 = y / 4294967296 ^ (k - 1) % 4294967296 := by
  rw [rg_getD (by omega), shf, if_neg (by omega)]
theorem shf_set {y k : Nat} (hk : k ≤ 26) (h1 : 1 ≤ k) : ((List.range 27).map (shf y k)).set k (y / 4294967296 ^ (k - 1) % 4294967296) = (List.range 27).map (shf y (k - 1)) := by
  refine List.ext_getElem (by simp) fun i h2 h3 => ?_
  simp only [List.getElem_set, List.getElem_map, List.getElem_range, shf]
  by_cases h : k = i
  · subst h; rw [if_pos rfl, if_pos (by omega)]
  · rw [if_neg h]
    by_cases hi : k < i
    · rw [if_pos hi, if_pos (by omega)]
    · rw [if_neg hi, if_neg (by omega)]
theorem shf_done {y : Nat} : (List.range 27).map (shf y 0) = (List.range 27).map (shf y 0) := rfl
theorem shf_end {y : Nat} : ((List.range 27).map (shf y 0)).set 0 0 = digs 4294967296 27 (y * 4294967296) := by
  rw [digs_rg]
  refine List.ext_getElem (by simp) fun i h2 h3 => ?_
  simp only [List.getElem_set, List.getElem_map, List.getElem_range, shf]
  by_cases h : 0 = i
  · subst h; rw [if_pos rfl, Nat.pow_zero, Nat.div_one, Nat.mul_mod_left]
  · rw [if_neg h, if_pos (by omega)]
    obtain ⟨j, rfl⟩ : ∃ j, i = j + 1 := ⟨i - 1, by omega⟩
    rw [Nat.add_sub_cancel, Nat.pow_succ, Nat.mul_comm (4294967296 ^ j) 4294967296, ← Nat.div_div_eq_div_mul, Nat.mul_div_cancel _ (by decide)]
theorem b24_27 : B24 < 4294967296 ^ 27 := by decide +kernel
theorem cut24 {y : Nat} (h : y < 4294967296 ^ 26) : ((digs 4294967296 27 y).set 24 0).set 25 0 = digs 4294967296 27 (y % B24) := by
  refine num_inj (B := 4294967296) (bd_set (bd_set (digs_bd (by decide) _ _) (by decide)) (by decide)) (digs_bd (by decide) _ _) (by simp [digs_len]) ?_
  have hm : y % B24 < 4294967296 ^ 27 := Nat.lt_trans (Nat.mod_lt _ (by decide +kernel)) b24_27
  rw [num_digs_lt hm]
  have h1 := num_set (B := 4294967296) (l := (digs 4294967296 27 y).set 24 0) (k := 25) (v := 0) (by rw [List.length_set, digs_len]; decide)
  have h2 := num_set (B := 4294967296) (l := digs 4294967296 27 y) (k := 24) (v := 0) (by rw [digs_len]; decide)
  have h3 : ((digs 4294967296 27 y).set 24 0).getD 25 0 = y / 4294967296 ^ 25 % 4294967296 := by
    rw [List.getD_eq_getElem?_getD, List.getElem?_set_ne (by decide), ← List.getD_eq_getElem?_getD, digs_getD (by decide) (by decide)]
  rw [h3] at h1
  rw [digs_getD (by decide) (by decide)] at h2
  rw [num_digs_lt (Nat.lt_trans h (by decide +kernel))] at h2
  have h4 : y / 4294967296 ^ 25 % 4294967296 = y / 4294967296 ^ 24 / 4294967296 := by
    rw [Nat.div_div_eq_div_mul, ← Nat.pow_succ]
    exact Nat.mod_eq_of_lt ((Nat.div_lt_iff_lt_mul (Nat.pow_pos (by decide))).2 (Nat.lt_of_lt_of_eq h (by decide +kernel)))
  have h5 := Nat.mod_add_div y (4294967296 ^ 24)
  have h6 := Nat.mod_add_div (y / 4294967296 ^ 24) 4294967296
  rw [h4] at h1
  have h7 : (4294967296 : Nat) ^ 25 = 4294967296 ^ 24 * 4294967296 := Nat.pow_succ ..
  rw [h7] at h1
  show _ = y % 4294967296 ^ 24
  generalize 4294967296 ^ 24 = q at *
  have h8 : q * (y / q) = q * (y / q % 4294967296) + q * 4294967296 * (y / q / 4294967296) := by rw [Nat.mul_assoc, ← Nat.mul_add, h6]
  rw [Nat.mul_comm (y / q % 4294967296) q, Nat.zero_mul] at h2
  rw [Nat.zero_mul, Nat.mul_comm (y / q / 4294967296)] at h1
  omega
theorem big_of {y : Nat} (h : y < 4294967296 ^ 26) (h0 : ¬ y / 4294967296 ^ 24 % 4294967296 = 0 ∨ ¬ y / 4294967296 ^ 25 % 4294967296 = 0) : B24 ≤ y := by
  rcases Nat.lt_or_ge y B24 with h1 | h1
  · have h2 : y / 4294967296 ^ 24 = 0 := Nat.div_eq_of_lt h1
    have h3 : y / 4294967296 ^ 25 = 0 := Nat.div_eq_of_lt (Nat.lt_trans h1 (by decide +kernel))
    rw [h2, h3] at h0
    simp at h0
  · exact h1
theorem small_of {y : Nat} (h : y < 4294967296 ^ 26) (h1 : y / 4294967296 ^ 24 % 4294967296 = 0) (h2 : y / 4294967296 ^ 25 % 4294967296 = 0) : y < B24 := by
  have h4 : y / 4294967296 ^ 25 % 4294967296 = y / 4294967296 ^ 24 / 4294967296 := by
    rw [Nat.div_div_eq_div_mul, ← Nat.pow_succ]
    exact Nat.mod_eq_of_lt ((Nat.div_lt_iff_lt_mul (Nat.pow_pos (by decide))).2 (Nat.lt_of_lt_of_eq h (by decide +kernel)))
  have h6 := Nat.mod_add_div (y / 4294967296 ^ 24) 4294967296
  rw [← h4, h2, h1] at h6
  have h7 : y / 4294967296 ^ 24 = 0 := by omega
  exact (Nat.div_eq_zero_iff_lt (Nat.pow_pos (by decide))).1 h7
theorem two_up {y m : Nat} (h : y < 4294967296 ^ 26) : y % B24 + (B24 - m) * (y / 4294967296 ^ 24 % 4294967296) + (B24 - m) * 4294967296 * (y / 4294967296 ^ 25 % 4294967296) = y % B24 + y / B24 * (B24 - m) := by
  have h4 : y / 4294967296 ^ 25 % 4294967296 = y / 4294967296 ^ 24 / 4294967296 := by
    rw [Nat.div_div_eq_div_mul, ← Nat.pow_succ]
    exact Nat.mod_eq_of_lt ((Nat.div_lt_iff_lt_mul (Nat.pow_pos (by decide))).2 (Nat.lt_of_lt_of_eq h (by decide +kernel)))
  have h6 := Nat.mod_add_div (y / 4294967296 ^ 24) 4294967296
  rw [h4, Nat.add_assoc, Nat.mul_assoc, ← Nat.mul_add, h6, Nat.mul_comm]; rfl
theorem up_deep {c : Nat} (h : 0 < c) : deep (1 + (D 4294967296 c).length) 1 ((0 :: D 4294967296 c).map (vi .u64)) = dd (c * 4294967296) := by
  have e : D 4294967296 (c * 4294967296) = 0 :: D 4294967296 c := by
    rw [D_pos (by decide) (by omega), Nat.mul_mod_left, Nat.mul_div_cancel _ (by decide)]
  simp only [dd, e, List.length_cons, Nat.add_comm]
theorem a_top {a : Nat} : a / 4294967296 ^ (D 4294967296 a).length = 0 := Nat.div_eq_of_lt ((D_len_le (B := 4294967296) (by decide) a _).1 (Nat.le_refl _))
theorem next_lt {y b d : Nat} (hy : y < B24) (hb : b < B24) (hd : d < 4294967296) : y * 4294967296 + b * d < 4294967296 ^ 26 := by
  have h1 : y * 4294967296 ≤ B24 * 4294967296 := Nat.mul_le_mul (Nat.le_of_lt hy) (Nat.le_refl _)
  have h2 : b * d ≤ B24 * 4294967296 := Nat.mul_le_mul (Nat.le_of_lt hb) (Nat.le_of_lt hd)
  have h3 : B24 * 4294967296 + B24 * 4294967296 < 4294967296 ^ 26 := by decide +kernel
  exact Nat.lt_of_le_of_lt (Nat.add_le_add h1 h2) h3
theorem next_mod {y a b m r : Nat} (h : y % m = a / 4294967296 ^ (r + 1) * b % m) : (y * 4294967296 + b * (a / 4294967296 ^ r % 4294967296)) % m = a / 4294967296 ^ r * b % m := by
  have h1 := Nat.mod_add_div (a / 4294967296 ^ r) 4294967296
  rw [Nat.div_div_eq_div_mul, ← Nat.pow_succ] at h1
  have h2 : (y * 4294967296 + b * (a / 4294967296 ^ r % 4294967296)) % m = (a / 4294967296 ^ (r + 1) * b * 4294967296 + b * (a / 4294967296 ^ r % 4294967296)) % m := by
    rw [Nat.add_mod, Nat.mul_mod, h, ← Nat.mul_mod, ← Nat.add_mod]
  rw [h2]
  congr 1
  conv => rhs; rw [← h1]
  rw [Nat.add_mul, Nat.mul_comm b, Nat.add_comm, Nat.mul_right_comm, Nat.mul_comm 4294967296, Nat.mul_right_comm]
theorem fin_mod {y a b m N : Nat} (h : y % m = a / 4294967296 ^ 0 * b % m) (hd : N ∣ m) : y % N = a * b % N := by
  rw [Nat.pow_zero, Nat.div_one] at h
  rw [← Nat.mod_mod_of_dvd y hd, h, Nat.mod_mod_of_dvd _ hd]
theorem num_rm3 {x : Nat} (h : x < 18446744073709551616 ^ 12) : (D 4294967296 x).length < 1000 := Nat.lt_of_le_of_lt (dlen24 (b24_w ▸ h)) (by decide)
theorem times_ctr {g : Bool} {a b : Nat} (ha : (D 4294967296 a).length < 1000) (hb : b < B24) : GC Try.prog 62 [.bool g, dd a, dd b] [] [dd (a * b % NG g)] [] := by
  cases g
  ·
    obtain ⟨m, hm⟩ : ∃ m, m = PG - 1 := ⟨_, rfl⟩
    have hmb : m < B24 := by rw [hm]; exact pg1_b24
    have hm0 : 0 < m := by rw [hm]; decide +kernel
    have hmle := Nat.le_of_lt hmb
    have hdv : NG false ∣ m := by rw [hm]; exact ⟨2, by decide +kernel⟩
    refine GC.intro Try.func62 rfl (by show 3 ≤ 81; decide) (by first | exact Nat.le_refl _ | decide | simp) ?_
    refine AW.seqR ?_
    refine AWo.pure (PureOp.assign rfl) rfl rfl ?_
    refine AWo.nil trivial ?_
    refine AW.seqR ?_
    refine AWo.callX (p04_ctr) bd91 [] [] rfl .nil rfl .nil .nil rfl .nil frN (by decide) (.cons rfl rfl .nil) rfl rfl rfl rfl ?_
    refine AWo.pure (PureOp.assign rfl) rfl rfl ?_
    refine AWo.nil trivial ?_
    refine AW.seq ?_
    refine AW.seqR ?_
    refine AWo.pure (PureOp.move rfl) rfl rfl ?_
    refine AWo.pure (PureOp.not rfl) rfl rfl ?_
    refine AWo.nil trivial ?_
    refine AW.condT rfl ?_
    refine AW.region ?_
    refine AWo.pure (PureOp.move rfl) rfl rfl ?_
    refine AWo.buildSliceF tbok 19000 [(0, vi .u64 1)] (out := [vi .u64 1]) rfl rfl (by decide) rfl rfl rfl (by decide) rfl rfl rfl rfl (fun x hx => by simp at hx; subst hx; rfl) rfl rfl ?_
    rw [one_deep]
    refine AWo.callX (v := dd m) (subd (x := PG) (y := 1) (by rw [pg_len]; decide) (by decide +kernel) (by decide +kernel)) bd27 [] [] rfl (.cons rfl (.cons rfl .nil)) rfl (.cons rfl rfl (.cons rfl rfl .nil)) .nil rfl .nil frN (by decide) (.cons rfl rfl .nil) (by rw [hm]; rfl) rfl rfl rfl ?_
    refine AWo.pure (PureOp.assign rfl) rfl rfl ?_
    refine AWo.nil trivial ?_
    refine thenA_normal ?_
    refine AW.seqR ?_
    refine AWo.makeI tbok 21000 rfl rfl rfl rfl rfl rfl (by first | decide | omega) (by first | decide | omega) rfl rfl rfl ?_
    refine AWo.buildSlice tbok 22000 [(0, vi .u64 1)] (out := [vi .u64 1]) rfl rfl (by decide) rfl rfl rfl (by decide) rfl rfl rfl rfl rfl ?_
    refine AWo.appendF tbok (cs := (List.replicate 24 0).map (vi .u64)) (news := [vi .u64 1]) (all := (List.replicate 24 0 ++ [1]).map (vi .u64)) 23000 rfl rfl rfl rfl (by simp) rfl (by simp) (by decide) rfl rfl rfl (by decide) rfl rfl rfl (by decide) (by decide) rfl (by simp) (cloM fun _ => rfl) rfl rfl ?_
    rw [b24_deep]
    refine AWo.pure (PureOp.move rfl) rfl rfl ?_
    refine AWo.callX (subd (x := B24) (y := m) (by rw [b24_len]; decide) (Nat.lt_of_le_of_lt (dlen24 hmb) (by decide)) (Nat.le_of_lt hmb)) bd27 [] [] rfl (.cons rfl (.cons rfl .nil)) rfl (.cons rfl rfl (.cons rfl rfl .nil)) .nil rfl .nil frN (by decide) (.cons rfl rfl .nil) rfl rfl rfl rfl ?_
    refine AWo.pure (PureOp.assign rfl) rfl rfl ?_
    refine AWo.nil trivial ?_
    refine AW.seqR ?_
    refine AWo.pure ((PureOp.buildArr tbok [] rfl rfl rfl (by decide) rfl rfl).mono (v' := .agg ((digs 4294967296 27 0).map (vi .u64)).toArray) (by kernel_rfl)) rfl rfl ?_
    refine AWo.alloc tbok 10000 1 ((List.replicate 27 0).map (vi .u64)) rfl rfl rfl rfl rfl rfl ?_
    refine AWo.storeAllN tbok rfl rfl rfl rfl (by first | rfl | (rw [List.length_map, digs_len])) (by first | rfl | (simp [digs_len]; done)) (oneM (fun _ => rfl) _) rfl ?_
    refine AWo.nil trivial ?_
    refine AW.seq ?_
    refine AW.seqR ?_
    refine AWo.pure (PureOp.move rfl) rfl rfl ?_
    first | refine AWo.pure (PureOp.lenS tbok rfl rfl) rfl rfl ?_ | refine AWo.pure (PureOp.lenD tbok rfl rfl) rfl rfl ?_
    first | refine AWo.pure ((PureOp.subI (b := 1) rfl rfl (by first | decide | omega) (by first | decide | omega)).mono (v' := vp (D 4294967296 a).length) (by first | rfl | (simp only [vp, vi]; congr 1; omega))) rfl rfl ?_ | refine AWo.pure ((PureOp.subP rfl rfl (by first | decide | omega)).mono (v' := vp (D 4294967296 a).length) (by first | rfl | (simp only [vp, vi]; congr 1; omega))) rfl rfl ?_ | refine AWo.pure ((PureOp.bin rfl rfl rfl).mono (v' := vp (D 4294967296 a).length) (by first | rfl | (simp only [vp, vi]; congr 1; omega))) rfl rfl ?_
    refine AWo.pure (PureOp.assign rfl) rfl rfl ?_
    refine AWo.nil trivial ?_
    refine AW.block ?_
    refine AW.loopw (fun mm σ => ∃ y, ∃ r, (r ≤ (D 4294967296 a).length ∧ y < B24 ∧ y % m = a / 4294967296 ^ r * b % m) ∧ mm = 1 * r ∧ σ = ⟨(upd (upd (upd (upd (upd (upd emp 0 (.bool false)) 1 (dd a)) 2 (dd b)) 8 (dd (B24 - m))) 9 (.pointer (some ⟨10000, 0, none⟩))) 10 (vp r)), (upd emp 10000 ⟨(digs 4294967296 27 (y)).map (vi .u64), true, 1⟩)⟩) (fm := []) ?_ ⟨0, (D 4294967296 a).length, ⟨Nat.le_refl _, by decide +kernel, by rw [a_top]; simp⟩, rfl, rfl⟩ ?_
    ·
      refine Wk.of [10000] ?_ ?_ ?_ (by decide) rfl
      ·
        refine WkE.upd rfl (by first | exact VR.flat _ rfl | exact VR.eqv (vp_succ _) rfl | exact VR.eqv (vp_succ _).symm rfl | exact VR.eqv (by first | rfl | (congr 1; omega) | (simp; done) | (simp; omega)) rfl) ?_
        refine WkE.upd rfl (.ptr (10000) 0 ⟨_, rfl⟩) ?_
        refine WkE.upd rfl (clo_refl (by simp) rfl) ?_
        refine WkE.upd rfl (clo_refl (by simp) rfl) ?_
        refine WkE.upd rfl (clo_refl (by simp) rfl) ?_
        refine WkE.upd rfl (by first | exact VR.flat _ rfl | exact VR.eqv (vp_succ _) rfl | exact VR.eqv (vp_succ _).symm rfl | exact VR.eqv (by first | rfl | (congr 1; omega) | (simp; done) | (simp; omega)) rfl) ?_
        exact WkE.emp
      ·
        refine WkM.flat rfl (flatM flat_vi) (fun h => h) ?_
        exact WkM.emp
      ·
        repeat (refine dom_upd_mem (by decide) ?_)
        exact dom_emp
    ·
      rintro mm σ ⟨y, r, ⟨hr0, hyb, hy⟩, rfl, rfl⟩
      refine AW.seq ?_
      refine AW.seqR ?_
      refine AWo.pure (PureOp.move rfl) rfl rfl ?_
      first | refine AWo.pure (PureOp.geP rfl rfl) rfl rfl ?_ | refine AWo.pure (PureOp.geN (b := 0) rfl rfl) rfl rfl ?_ | refine AWo.pure (PureOp.bin rfl rfl rfl) rfl rfl ?_
      refine AWo.nil trivial ?_
      refine AW.cond rfl (fun hb0 => ?_) (fun hb0 => ?_)
      ·
        have hp0 : 0 < r := by simpa using hb0
        obtain ⟨r, rfl⟩ : ∃ q, r = q + 1 := ⟨r - 1, by omega⟩
        rw [vp_succ]
        refine AW.skip ?_
        refine thenA_normal ?_
        refine AW.seq ?_
        refine AW.block ?_
        refine AW.seq ?_
        refine AW.seqR ?_
        refine AWo.pure (PureOp.assign rfl) rfl rfl ?_
        refine AWo.nil trivial ?_
        refine AW.block ?_
        rw [shf_start y]
        refine AW.loopw (fun mm σ => ∃ k, (k ≤ 26) ∧ mm = 1 * k ∧ σ = ⟨(upd (upd (upd (upd (upd (upd (upd emp 0 (.bool false)) 1 (dd a)) 2 (dd b)) 8 (dd (B24 - m))) 9 (.pointer (some ⟨10000, 0, none⟩))) 10 (vi .i64 r)) 11 (vi .i64 k)), (upd emp 10000 ⟨((List.range 27).map (shf y k)).map (vi .u64), true, 1⟩)⟩) (fm := []) ?_ ⟨26, Nat.le_refl _, rfl, rfl⟩ ?_
        ·
          refine Wk.of [10000] ?_ ?_ ?_ (by decide) rfl
          ·
            refine WkE.upd rfl (by first | exact VR.flat _ rfl | exact VR.eqv (vp_succ _) rfl | exact VR.eqv (vp_succ _).symm rfl | exact VR.eqv (by first | rfl | (congr 1; omega) | (simp; done) | (simp; omega)) rfl) ?_
            refine WkE.upd rfl (by first | exact VR.flat _ rfl | exact VR.eqv (vp_succ _) rfl | exact VR.eqv (vp_succ _).symm rfl | exact VR.eqv (by first | rfl | (congr 1; omega) | (simp; done) | (simp; omega)) rfl) ?_
            refine WkE.upd rfl (.ptr (10000) 0 ⟨_, rfl⟩) ?_
            refine WkE.upd rfl (clo_refl (by simp) rfl) ?_
            refine WkE.upd rfl (clo_refl (by simp) rfl) ?_
            refine WkE.upd rfl (clo_refl (by simp) rfl) ?_
            refine WkE.upd rfl (by first | exact VR.flat _ rfl | exact VR.eqv (vp_succ _) rfl | exact VR.eqv (vp_succ _).symm rfl | exact VR.eqv (by first | rfl | (congr 1; omega) | (simp; done) | (simp; omega)) rfl) ?_
            exact WkE.emp
          ·
            refine WkM.flat rfl (flatM flat_vi) (fun h => h) ?_
            exact WkM.emp
          ·
            repeat (refine dom_upd_mem (by decide) ?_)
            exact dom_emp
        ·
          rintro mm σ ⟨k, hk, rfl, rfl⟩
          refine AW.seq ?_
          refine AW.seqR ?_
          refine AWo.pure (PureOp.move rfl) rfl rfl ?_
          first | refine AWo.pure (PureOp.geP rfl rfl) rfl rfl ?_ | refine AWo.pure (PureOp.geN (b := 1) rfl rfl) rfl rfl ?_ | refine AWo.pure (PureOp.bin rfl rfl rfl) rfl rfl ?_
          refine AWo.nil trivial ?_
          refine AW.cond rfl (fun hb1 => ?_) (fun hb1 => ?_)
          ·
            have hk1 : 1 ≤ k := by simpa using hb1
            refine AW.skip ?_
            refine thenA_normal ?_
            refine AW.seq ?_
            refine AW.block ?_
            refine AW.region ?_
            refine AWo.pure (PureOp.move rfl) rfl rfl ?_
            refine AWo.pure (PureOp.move rfl) rfl rfl ?_
            first | refine AWo.pure (PureOp.subI (b := 1) rfl rfl (by first | decide | omega) (by first | decide | omega)) rfl rfl ?_ | refine AWo.pure (PureOp.subP rfl rfl (by first | decide | omega)) rfl rfl ?_ | refine AWo.pure (PureOp.bin rfl rfl rfl) rfl rfl ?_
            refine yP (PureOp.arr1 tbok (j := k - 1) rfl rfl rfl rfl (by omega)) ?_
            refine AWo.loadM tbok 0 rfl rfl rfl (by simp; omega) rfl rfl ?_
            rw [shf_at (by omega) hk1]
            refine yP (PureOp.arr1 tbok (j := k) rfl rfl rfl rfl (by omega)) ?_
            refine AWo.storeM (f := (vi .u64)) tbok rfl rfl rfl rfl (by simp; omega) rfl rfl ?_
            rw [shf_set hk hk1]
            refine AWo.nil trivial ?_
            refine inBlockA_normal ?_
            refine thenA_normal ?_
            refine AW.region ?_
            refine AWo.pure (PureOp.move rfl) rfl rfl ?_
            first | refine AWo.pure (PureOp.subI (b := 1) rfl rfl (by first | decide | omega) (by first | decide | omega)) rfl rfl ?_ | refine AWo.pure (PureOp.subP rfl rfl (by first | decide | omega)) rfl rfl ?_ | refine AWo.pure (PureOp.bin rfl rfl rfl) rfl rfl ?_
            refine AWo.pure (PureOp.assign rfl) rfl rfl ?_
            refine AWo.nil trivial ?_
            refine thenA_normal ?_
            refine ⟨1 * (k - 1), [], _, by omega, ?_, k - 1, by omega, rfl, rfl⟩
            refine Wk.of [10000] ?_ ?_ ?_ (by decide) rfl
            ·
              refine WkE.upd rfl (by first | exact VR.flat _ rfl | exact VR.eqv (vp_succ _) rfl | exact VR.eqv (vp_succ _).symm rfl | exact VR.eqv (by first | rfl | (congr 1; omega) | (simp; done) | (simp; omega)) rfl) ?_
              refine WkE.upd rfl (by first | exact VR.flat _ rfl | exact VR.eqv (vp_succ _) rfl | exact VR.eqv (vp_succ _).symm rfl | exact VR.eqv (by first | rfl | (congr 1; omega) | (simp; done) | (simp; omega)) rfl) ?_
              refine WkE.upd rfl (.ptr (10000) 0 ⟨_, rfl⟩) ?_
              refine WkE.upd rfl (clo_refl (by simp) rfl) ?_
              refine WkE.upd rfl (clo_refl (by simp) rfl) ?_
              refine WkE.upd rfl (clo_refl (by simp) rfl) ?_
              refine WkE.upd rfl (by first | exact VR.flat _ rfl | exact VR.eqv (vp_succ _) rfl | exact VR.eqv (vp_succ _).symm rfl | exact VR.eqv (by first | rfl | (congr 1; omega) | (simp; done) | (simp; omega)) rfl) ?_
              exact WkE.emp
            ·
              refine WkM.flat rfl (flatM flat_vi) (fun h => h) ?_
              exact WkM.emp
            ·
              repeat (refine dom_upd_mem (by decide) ?_)
              exact dom_emp
          ·
            obtain rfl : k = 0 := by simp at hb1; omega
            rw [shf_done]
            refine AW.exit ?_
            refine thenA_exit ?_
            refine thenA_exit ?_
            refine inBlockA_hit ?_
            refine thenA_normal ?_
            refine AW.seqR ?_
            first | refine AWo.pure (PureOp.arr1 (j := 0) tbok rfl rfl rfl rfl (by first | decide | omega)) rfl rfl ?_ | refine AWo.pure (PureOp.arr (j := 0) tbok rfl rfl rfl rfl (by first | decide | omega)) rfl rfl ?_
            refine AWo.storeM (f := (vi .u64)) tbok rfl rfl rfl rfl (by simp) rfl rfl ?_
            rw [shf_end]
            refine AWo.nil trivial ?_
            have hk27 : (D 4294967296 a).length < 1000 := ha
            have hr : r < (D 4294967296 a).length := by omega
            have har : a / 4294967296 ^ r % 4294967296 < 4294967296 := Nat.mod_lt _ (by decide)
            refine AW.seqD mixed ?_
            refine AWo.loadAll tbok rfl rfl rfl rfl (by rw [List.length_map, digs_len]) rfl rfl ?_
            refine AWo.pure (PureOp.move rfl) rfl rfl ?_
            refine AWo.pureX 47000 (n := (D 4294967296 a).length) (es := 1) (cells := (D 4294967296 a).map (vi .u64)) (PureOp.move rfl) rfl rfl rfl ?_
            refine AWo.pure (PureOp.move rfl) rfl rfl ?_
            refine yP (PureOp.idx1 tbok (j := r) rfl rfl rfl rfl hr) ?_
            refine AWo.loadM tbok 0 rfl rfl rfl hr rfl rfl ?_
            rw [D_getD (by decide) a r]
            refine AWo.callX (plus4_ctr (x := y * 4294967296) (y := b) (t := a / 4294967296 ^ r % 4294967296) har) bd106 [] [] rfl (.cons rfl (.cons rfl (.cons rfl .nil))) rfl (.pure (by first | rfl | exact pure_aggM flat_vi | exact pure_aggM flat_bool) (.cons rfl rfl (.cons rfl rfl .nil))) .nil rfl .nil frN (by decide) (.pure (by first | rfl | exact pure_aggM flat_vi | exact pure_aggM flat_bool) .nil) rfl rfl rfl rfl ?_
            refine AWo.storeAllN tbok rfl rfl rfl rfl (by first | rfl | (rw [List.length_map, digs_len])) (by first | rfl | (simp [digs_len]; done)) (oneM (fun _ => rfl) _) rfl ?_
            refine AWo.nil (by kernel_rfl) ?_
            refine AW.block ?_
            have hn1 := next_lt hyb hb har
            have hn2 := next_mod (a := a) (b := b) hy
            refine AW.loopw (fun mm σ => ∃ y, (y < 4294967296 ^ 26 ∧ y % m = a / 4294967296 ^ r * b % m) ∧ mm = 1 * y ∧ σ = ⟨(upd (upd (upd (upd (upd (upd emp 0 (.bool false)) 1 (dd a)) 2 (dd b)) 8 (dd (B24 - m))) 9 (.pointer (some ⟨10000, 0, none⟩))) 10 (vi .i64 r)), (upd emp 10000 ⟨(digs 4294967296 27 (y)).map (vi .u64), true, 1⟩)⟩) (fm := []) ?_ ⟨y * 4294967296 + b * (a / 4294967296 ^ r % 4294967296), ⟨hn1, hn2⟩, rfl, rfl⟩ ?_
            ·
              refine Wk.of [10000] ?_ ?_ ?_ (by decide) rfl
              ·
                refine WkE.upd rfl (by first | exact VR.flat _ rfl | exact VR.eqv (vp_succ _) rfl | exact VR.eqv (vp_succ _).symm rfl | exact VR.eqv (by first | rfl | (congr 1; omega) | (simp; done) | (simp; omega)) rfl) ?_
                refine WkE.upd rfl (.ptr (10000) 0 ⟨_, rfl⟩) ?_
                refine WkE.upd rfl (clo_refl (by simp) rfl) ?_
                refine WkE.upd rfl (clo_refl (by simp) rfl) ?_
                refine WkE.upd rfl (clo_refl (by simp) rfl) ?_
                refine WkE.upd rfl (by first | exact VR.flat _ rfl | exact VR.eqv (vp_succ _) rfl | exact VR.eqv (vp_succ _).symm rfl | exact VR.eqv (by first | rfl | (congr 1; omega) | (simp; done) | (simp; omega)) rfl) ?_
                exact WkE.emp
              ·
                refine WkM.flat rfl (flatM flat_vi) (fun h => h) ?_
                exact WkM.emp
              ·
                repeat (refine dom_upd_mem (by decide) ?_)
                exact dom_emp
            ·
              rintro mm σ ⟨y, ⟨hz26, hy2⟩, rfl, rfl⟩
              refine AW.seq ?_
              refine AW.seqR ?_
              first | refine AWo.pure (PureOp.arr1 (j := 24) tbok rfl rfl rfl rfl (by first | decide | omega)) rfl rfl ?_ | refine AWo.pure (PureOp.arr (j := 24) tbok rfl rfl rfl rfl (by first | decide | omega)) rfl rfl ?_
              refine AWo.loadM tbok 0 rfl rfl rfl (by rw [digs_len]; decide) rfl rfl ?_
              rw [digs_getD (by decide) (show 24 < 27 by decide)]
              first | refine AWo.pureB (PureOp.neN (b := 0) rfl rfl) rfl rfl (fun hb2 => ?_) (fun hb2 => ?_) | refine AWo.pureB (PureOp.bin rfl rfl rfl) rfl rfl (fun hb2 => ?_) (fun hb2 => ?_)
              ·
                have h24 : ¬ y / 4294967296 ^ 24 % 4294967296 = 0 := by simpa using hb2
                have hbig := big_of hz26 (.inl h24)
                refine AWo.pure (PureOp.move rfl) rfl rfl ?_
                refine AWo.skipped rfl rfl ?_
                refine AWo.skipped rfl rfl ?_
                refine AWo.skipped rfl rfl ?_
                refine AWo.pure (PureOp.pickT rfl rfl) rfl rfl ?_
                refine AWo.nil trivial ?_
                refine AW.condT rfl ?_
                refine AW.skip ?_
                refine thenA_normal ?_
                refine AW.block ?_
                have hd24 : y / 4294967296 ^ 24 % 4294967296 < 4294967296 := Nat.mod_lt _ (by decide)
                have hd25 : y / 4294967296 ^ 25 % 4294967296 < 4294967296 := Nat.mod_lt _ (by decide)
                have hcl : (D 4294967296 (B24 - m)).length < 100 := dl_le (Nat.sub_le _ _) (by rw [b24_len]; decide)
                refine AW.seqD mixed ?_
                first | refine AWo.pure (PureOp.arr1 (j := 24) tbok rfl rfl rfl rfl (by first | decide | omega)) rfl rfl ?_ | refine AWo.pure (PureOp.arr (j := 24) tbok rfl rfl rfl rfl (by first | decide | omega)) rfl rfl ?_
                refine AWo.loadM tbok 0 rfl rfl rfl (by rw [digs_len]; decide) rfl rfl ?_
                rw [digs_getD (by decide) (show 24 < 27 by decide)]
                first | refine AWo.pure (PureOp.arr1 (j := 25) tbok rfl rfl rfl rfl (by first | decide | omega)) rfl rfl ?_ | refine AWo.pure (PureOp.arr (j := 25) tbok rfl rfl rfl rfl (by first | decide | omega)) rfl rfl ?_
                refine AWo.loadM tbok 0 rfl rfl rfl (by rw [digs_len]; decide) rfl rfl ?_
                rw [digs_getD (by decide) (show 25 < 27 by decide)]
                refine AWo.pure (PureOp.assign rfl) rfl rfl ?_
                refine AWo.pure (PureOp.assign rfl) rfl rfl ?_
                refine AWo.nil (by kernel_rfl) ?_
                refine AW.seqR ?_
                first | refine AWo.pure (PureOp.arr1 (j := 24) tbok rfl rfl rfl rfl (by first | decide | omega)) rfl rfl ?_ | refine AWo.pure (PureOp.arr (j := 24) tbok rfl rfl rfl rfl (by first | decide | omega)) rfl rfl ?_
                refine AWo.storeM (f := (vi .u64)) tbok rfl rfl rfl rfl (by rw [digs_len]; decide) rfl rfl ?_
                refine AWo.nil trivial ?_
                refine AW.seqR ?_
                first | refine AWo.pure (PureOp.arr1 (j := 25) tbok rfl rfl rfl rfl (by first | decide | omega)) rfl rfl ?_ | refine AWo.pure (PureOp.arr (j := 25) tbok rfl rfl rfl rfl (by first | decide | omega)) rfl rfl ?_
                refine AWo.storeM (f := (vi .u64)) tbok rfl rfl rfl rfl (by rw [List.length_set, digs_len]; decide) rfl rfl ?_
                rw [cut24 hz26]
                refine AWo.nil trivial ?_
                refine AW.seqR ?_
                refine AWo.loadAll tbok rfl rfl rfl rfl (by rw [List.length_map, digs_len]) rfl rfl ?_
                refine AWo.pure (PureOp.move rfl) rfl rfl ?_
                refine AWo.pure (PureOp.move rfl) rfl rfl ?_
                refine AWo.callX (plus4_ctr (x := y % B24) (y := B24 - m) (t := y / 4294967296 ^ 24 % 4294967296) hd24) bd106 [] [] rfl (.cons rfl (.cons rfl (.cons rfl .nil))) rfl (.pure (by first | rfl | exact pure_aggM flat_vi | exact pure_aggM flat_bool) (.cons rfl rfl (.cons rfl rfl .nil))) .nil rfl .nil frN (by decide) (.pure (by first | rfl | exact pure_aggM flat_vi | exact pure_aggM flat_bool) .nil) rfl rfl rfl rfl ?_
                refine AWo.storeAllN tbok rfl rfl rfl rfl (by first | rfl | (rw [List.length_map, digs_len])) (by first | rfl | (simp [digs_len]; done)) (oneM (fun _ => rfl) _) rfl ?_
                refine AWo.nil trivial ?_
                refine AW.draw mixed ?_
                refine AWo.loadAll tbok rfl rfl rfl rfl (by rw [List.length_map, digs_len]) rfl rfl ?_
                refine AWo.buildSlice tbok 71000 [(0, vi .u64 0)] (out := [vi .u64 0]) rfl rfl (by decide) rfl rfl rfl (by decide) rfl rfl rfl rfl rfl ?_
                refine AWo.pureX 72000 (n := (D 4294967296 (B24 - m)).length) (es := 1) (cells := (D 4294967296 (B24 - m)).map (vi .u64)) (PureOp.move rfl) rfl rfl rfl ?_
                refine AWo.appendF tbok (cs := [vi .u64 0]) (news := (D 4294967296 (B24 - m)).map (vi .u64)) (all := (0 :: D 4294967296 (B24 - m)).map (vi .u64)) 73000 rfl rfl rfl rfl rfl (by show List.take _ (List.drop 0 _) = _; rw [List.drop_zero]; exact List.take_of_length_le (by simp)) (by simp) (by decide) rfl rfl rfl (by decide) rfl rfl rfl (by omega) (by omega) (oneM (fun _ => rfl) _) rfl (cloM fun _ => rfl) rfl rfl ?_
                rw [up_deep (show 0 < B24 - m by omega)]
                refine AWo.pure (PureOp.move rfl) rfl rfl ?_
                refine AWo.callX (v := .agg ((digs 4294967296 27 (y % B24 + y / B24 * (B24 - m))).map (vi .u64)).toArray) (plus4_ctr (x := y % B24 + (B24 - m) * (y / 4294967296 ^ 24 % 4294967296)) (y := (B24 - m) * 4294967296) (t := y / 4294967296 ^ 25 % 4294967296) hd25) bd106 [] [] rfl (.cons rfl (.cons rfl (.cons rfl .nil))) rfl (.pure (by first | rfl | exact pure_aggM flat_vi | exact pure_aggM flat_bool) (.cons rfl rfl (.cons rfl rfl .nil))) .nil rfl .nil frN (by decide) (.pure (by first | rfl | exact pure_aggM flat_vi | exact pure_aggM flat_bool) .nil) (by rw [two_up hz26]; rfl) rfl rfl rfl ?_
                refine AWo.storeAllN tbok rfl rfl rfl rfl (by first | rfl | (rw [List.length_map, digs_len])) (by first | rfl | (simp [digs_len]; done)) (oneM (fun _ => rfl) _) rfl ?_
                refine AWo.nil (by kernel_rfl) ?_
                refine inBlockA_normal ?_
                refine thenA_normal ?_
                refine ⟨1 * (y % B24 + y / B24 * (B24 - m)), [], _, by have := fold_lt hmle hm0 hbig; omega, ?_, _, ⟨Nat.lt_of_le_of_lt (fold_le hmle) hz26, (fold_mod hmle).trans hy2⟩, rfl, rfl⟩
                refine Wk.of [10000] ?_ ?_ ?_ (by decide) rfl
                ·
                  refine WkE.upd rfl (by first | exact VR.flat _ rfl | exact VR.eqv (vp_succ _) rfl | exact VR.eqv (vp_succ _).symm rfl | exact VR.eqv (by first | rfl | (congr 1; omega) | (simp; done) | (simp; omega)) rfl) ?_
                  refine WkE.upd rfl (.ptr (10000) 0 ⟨_, rfl⟩) ?_
                  refine WkE.upd rfl (clo_refl (by simp) rfl) ?_
                  refine WkE.upd rfl (clo_refl (by simp) rfl) ?_
                  refine WkE.upd rfl (clo_refl (by simp) rfl) ?_
                  refine WkE.upd rfl (by first | exact VR.flat _ rfl | exact VR.eqv (vp_succ _) rfl | exact VR.eqv (vp_succ _).symm rfl | exact VR.eqv (by first | rfl | (congr 1; omega) | (simp; done) | (simp; omega)) rfl) ?_
                  exact WkE.emp
                ·
                  refine WkM.flat rfl (flatM flat_vi) (fun h => h) ?_
                  exact WkM.emp
                ·
                  repeat (refine dom_upd_mem (by decide) ?_)
                  exact dom_emp
              ·
                have h24 : y / 4294967296 ^ 24 % 4294967296 = 0 := by simpa using hb2
                refine AWo.pure (PureOp.move rfl) rfl rfl ?_
                first | refine AWo.pure (PureOp.arr1 (j := 25) tbok rfl rfl rfl rfl (by first | decide | omega)) rfl rfl ?_ | refine AWo.pure (PureOp.arr (j := 25) tbok rfl rfl rfl rfl (by first | decide | omega)) rfl rfl ?_
                refine AWo.loadM tbok 0 rfl rfl rfl (by rw [digs_len]; decide) rfl rfl ?_
                rw [digs_getD (by decide) (show 25 < 27 by decide)]
                first | refine AWo.pureB (PureOp.neN (b := 0) rfl rfl) rfl rfl (fun hb3 => ?_) (fun hb3 => ?_) | refine AWo.pureB (PureOp.bin rfl rfl rfl) rfl rfl (fun hb3 => ?_) (fun hb3 => ?_)
                ·
                  have h25 : ¬ y / 4294967296 ^ 25 % 4294967296 = 0 := by simpa using hb3
                  have hbig := big_of hz26 (.inr h25)
                  refine AWo.pure (PureOp.pickF rfl rfl) rfl rfl ?_
                  refine AWo.nil trivial ?_
                  refine AW.condT rfl ?_
                  refine AW.skip ?_
                  refine thenA_normal ?_
                  refine AW.block ?_
                  have hd24 : y / 4294967296 ^ 24 % 4294967296 < 4294967296 := Nat.mod_lt _ (by decide)
                  have hd25 : y / 4294967296 ^ 25 % 4294967296 < 4294967296 := Nat.mod_lt _ (by decide)
                  have hcl : (D 4294967296 (B24 - m)).length < 100 := dl_le (Nat.sub_le _ _) (by rw [b24_len]; decide)
                  refine AW.seqD mixed ?_
                  first | refine AWo.pure (PureOp.arr1 (j := 24) tbok rfl rfl rfl rfl (by first | decide | omega)) rfl rfl ?_ | refine AWo.pure (PureOp.arr (j := 24) tbok rfl rfl rfl rfl (by first | decide | omega)) rfl rfl ?_
                  refine AWo.loadM tbok 0 rfl rfl rfl (by rw [digs_len]; decide) rfl rfl ?_
                  rw [digs_getD (by decide) (show 24 < 27 by decide)]
                  first | refine AWo.pure (PureOp.arr1 (j := 25) tbok rfl rfl rfl rfl (by first | decide | omega)) rfl rfl ?_ | refine AWo.pure (PureOp.arr (j := 25) tbok rfl rfl rfl rfl (by first | decide | omega)) rfl rfl ?_
                  refine AWo.loadM tbok 0 rfl rfl rfl (by rw [digs_len]; decide) rfl rfl ?_
                  rw [digs_getD (by decide) (show 25 < 27 by decide)]
                  refine AWo.pure (PureOp.assign rfl) rfl rfl ?_
                  refine AWo.pure (PureOp.assign rfl) rfl rfl ?_
                  refine AWo.nil (by kernel_rfl) ?_
                  refine AW.seqR ?_
                  first | refine AWo.pure (PureOp.arr1 (j := 24) tbok rfl rfl rfl rfl (by first | decide | omega)) rfl rfl ?_ | refine AWo.pure (PureOp.arr (j := 24) tbok rfl rfl rfl rfl (by first | decide | omega)) rfl rfl ?_
                  refine AWo.storeM (f := (vi .u64)) tbok rfl rfl rfl rfl (by rw [digs_len]; decide) rfl rfl ?_
                  refine AWo.nil trivial ?_
                  refine AW.seqR ?_
                  first | refine AWo.pure (PureOp.arr1 (j := 25) tbok rfl rfl rfl rfl (by first | decide | omega)) rfl rfl ?_ | refine AWo.pure (PureOp.arr (j := 25) tbok rfl rfl rfl rfl (by first | decide | omega)) rfl rfl ?_
                  refine AWo.storeM (f := (vi .u64)) tbok rfl rfl rfl rfl (by rw [List.length_set, digs_len]; decide) rfl rfl ?_
                  rw [cut24 hz26]
                  refine AWo.nil trivial ?_
                  refine AW.seqR ?_
                  refine AWo.loadAll tbok rfl rfl rfl rfl (by rw [List.length_map, digs_len]) rfl rfl ?_
                  refine AWo.pure (PureOp.move rfl) rfl rfl ?_
                  refine AWo.pure (PureOp.move rfl) rfl rfl ?_
                  refine AWo.callX (plus4_ctr (x := y % B24) (y := B24 - m) (t := y / 4294967296 ^ 24 % 4294967296) hd24) bd106 [] [] rfl (.cons rfl (.cons rfl (.cons rfl .nil))) rfl (.pure (by first | rfl | exact pure_aggM flat_vi | exact pure_aggM flat_bool) (.cons rfl rfl (.cons rfl rfl .nil))) .nil rfl .nil frN (by decide) (.pure (by first | rfl | exact pure_aggM flat_vi | exact pure_aggM flat_bool) .nil) rfl rfl rfl rfl ?_
                  refine AWo.storeAllN tbok rfl rfl rfl rfl (by first | rfl | (rw [List.length_map, digs_len])) (by first | rfl | (simp [digs_len]; done)) (oneM (fun _ => rfl) _) rfl ?_
                  refine AWo.nil trivial ?_
                  refine AW.draw mixed ?_
                  refine AWo.loadAll tbok rfl rfl rfl rfl (by rw [List.length_map, digs_len]) rfl rfl ?_
                  refine AWo.buildSlice tbok 71000 [(0, vi .u64 0)] (out := [vi .u64 0]) rfl rfl (by decide) rfl rfl rfl (by decide) rfl rfl rfl rfl rfl ?_
                  refine AWo.pureX 72000 (n := (D 4294967296 (B24 - m)).length) (es := 1) (cells := (D 4294967296 (B24 - m)).map (vi .u64)) (PureOp.move rfl) rfl rfl rfl ?_
                  refine AWo.appendF tbok (cs := [vi .u64 0]) (news := (D 4294967296 (B24 - m)).map (vi .u64)) (all := (0 :: D 4294967296 (B24 - m)).map (vi .u64)) 73000 rfl rfl rfl rfl rfl (by show List.take _ (List.drop 0 _) = _; rw [List.drop_zero]; exact List.take_of_length_le (by simp)) (by simp) (by decide) rfl rfl rfl (by decide) rfl rfl rfl (by omega) (by omega) (oneM (fun _ => rfl) _) rfl (cloM fun _ => rfl) rfl rfl ?_
                  rw [up_deep (show 0 < B24 - m by omega)]
                  refine AWo.pure (PureOp.move rfl) rfl rfl ?_
                  refine AWo.callX (v := .agg ((digs 4294967296 27 (y % B24 + y / B24 * (B24 - m))).map (vi .u64)).toArray) (plus4_ctr (x := y % B24 + (B24 - m) * (y / 4294967296 ^ 24 % 4294967296)) (y := (B24 - m) * 4294967296) (t := y / 4294967296 ^ 25 % 4294967296) hd25) bd106 [] [] rfl (.cons rfl (.cons rfl (.cons rfl .nil))) rfl (.pure (by first | rfl | exact pure_aggM flat_vi | exact pure_aggM flat_bool) (.cons rfl rfl (.cons rfl rfl .nil))) .nil rfl .nil frN (by decide) (.pure (by first | rfl | exact pure_aggM flat_vi | exact pure_aggM flat_bool) .nil) (by rw [two_up hz26]; rfl) rfl rfl rfl ?_
                  refine AWo.storeAllN tbok rfl rfl rfl rfl (by first | rfl | (rw [List.length_map, digs_len])) (by first | rfl | (simp [digs_len]; done)) (oneM (fun _ => rfl) _) rfl ?_
                  refine AWo.nil (by kernel_rfl) ?_
                  refine inBlockA_normal ?_
                  refine thenA_normal ?_
                  refine ⟨1 * (y % B24 + y / B24 * (B24 - m)), [], _, by have := fold_lt hmle hm0 hbig; omega, ?_, _, ⟨Nat.lt_of_le_of_lt (fold_le hmle) hz26, (fold_mod hmle).trans hy2⟩, rfl, rfl⟩
                  refine Wk.of [10000] ?_ ?_ ?_ (by decide) rfl
                  ·
                    refine WkE.upd rfl (by first | exact VR.flat _ rfl | exact VR.eqv (vp_succ _) rfl | exact VR.eqv (vp_succ _).symm rfl | exact VR.eqv (by first | rfl | (congr 1; omega) | (simp; done) | (simp; omega)) rfl) ?_
                    refine WkE.upd rfl (.ptr (10000) 0 ⟨_, rfl⟩) ?_
                    refine WkE.upd rfl (clo_refl (by simp) rfl) ?_
                    refine WkE.upd rfl (clo_refl (by simp) rfl) ?_
                    refine WkE.upd rfl (clo_refl (by simp) rfl) ?_
                    refine WkE.upd rfl (by first | exact VR.flat _ rfl | exact VR.eqv (vp_succ _) rfl | exact VR.eqv (vp_succ _).symm rfl | exact VR.eqv (by first | rfl | (congr 1; omega) | (simp; done) | (simp; omega)) rfl) ?_
                    exact WkE.emp
                  ·
                    refine WkM.flat rfl (flatM flat_vi) (fun h => h) ?_
                    exact WkM.emp
                  ·
                    repeat (refine dom_upd_mem (by decide) ?_)
                    exact dom_emp
                ·
                  have h25 : y / 4294967296 ^ 25 % 4294967296 = 0 := by simpa using hb3
                  have hsm := small_of hz26 h24 h25
                  refine AWo.pure (PureOp.pickF rfl rfl) rfl rfl ?_
                  refine AWo.nil trivial ?_
                  refine AW.condF rfl ?_
                  refine AW.exit ?_
                  refine thenA_exit ?_
                  refine thenA_exit ?_
                  refine inBlockA_hit ?_
                  refine inBlockA_normal ?_
                  refine thenA_normal ?_
                  refine AW.region ?_
                  refine AWo.pure (PureOp.move rfl) rfl rfl ?_
                  first | refine AWo.pure (PureOp.subI (b := 1) rfl rfl (by first | decide | omega) (by first | decide | omega)) rfl rfl ?_ | refine AWo.pure (PureOp.subP rfl rfl (by first | decide | omega)) rfl rfl ?_ | refine AWo.pure (PureOp.bin rfl rfl rfl) rfl rfl ?_
                  refine AWo.pure (PureOp.assign rfl) rfl rfl ?_
                  refine AWo.nil trivial ?_
                  refine thenA_normal ?_
                  refine ⟨1 * r, [], _, by omega, ?_, y, r, ⟨by omega, hsm, hy2⟩, rfl, rfl⟩
                  refine Wk.of [10000] ?_ ?_ ?_ (by decide) rfl
                  ·
                    refine WkE.upd rfl (by first | exact VR.flat _ rfl | exact VR.eqv (vp_succ _) rfl | exact VR.eqv (vp_succ _).symm rfl | exact VR.eqv (by first | rfl | (congr 1; omega) | (simp; done) | (simp; omega)) rfl) ?_
                    refine WkE.upd rfl (.ptr (10000) 0 ⟨_, rfl⟩) ?_
                    refine WkE.upd rfl (clo_refl (by simp) rfl) ?_
                    refine WkE.upd rfl (clo_refl (by simp) rfl) ?_
                    refine WkE.upd rfl (clo_refl (by simp) rfl) ?_
                    refine WkE.upd rfl (by first | exact VR.flat _ rfl | exact VR.eqv (vp_succ _) rfl | exact VR.eqv (vp_succ _).symm rfl | exact VR.eqv (by first | rfl | (congr 1; omega) | (simp; done) | (simp; omega)) rfl) ?_
                    exact WkE.emp
                  ·
                    refine WkM.flat rfl (flatM flat_vi) (fun h => h) ?_
                    exact WkM.emp
                  ·
                    repeat (refine dom_upd_mem (by decide) ?_)
                    exact dom_emp
      ·
        obtain rfl : r = 0 := by simpa using hb0
        refine AW.exit ?_
        refine thenA_exit ?_
        refine thenA_exit ?_
        refine inBlockA_hit ?_
        refine thenA_normal ?_
        refine AW.seqR ?_
        refine AWo.pure (PureOp.move rfl) rfl rfl ?_
        refine AWo.buildSlice tbok 77000 [] (out := []) rfl rfl (by decide) rfl rfl rfl (by decide) rfl rfl rfl rfl rfl ?_
        refine AWo.sliceA tbok (h := 27) rfl .none .none rfl rfl rfl rfl (by decide) (by decide) (.inl rfl) (by simp [digs_len]) rfl rfl rfl ?_
        refine AWo.appendF tbok (cs := []) (news := (digs 4294967296 27 y).map (vi .u64)) (all := (digs 4294967296 27 y).map (vi .u64)) 79000 rfl rfl rfl rfl rfl (by show List.take _ (List.drop 0 _) = _; rw [List.drop_zero]; exact List.take_of_length_le (by simp [digs_len])) (by simp [digs_len]) (by decide) rfl rfl rfl (by decide) rfl rfl rfl (by decide) (by decide) (oneM (fun _ => rfl) _) rfl (cloM fun _ => rfl) rfl rfl ?_
        refine AWo.callX (v := dd y) (triml (l := digs 4294967296 27 y) (n := 0 + 27) (digs_bd (by decide) _ _) (digs_len _ _) (by decide)) bd89 [] [] rfl (.cons rfl .nil) rfl (.cons rfl rfl .nil) .nil rfl .nil frN (by decide) (.cons rfl rfl .nil) (by rw [num_digs_lt (Nat.lt_trans hyb b24_27)]; rfl) rfl rfl rfl ?_
        refine AWo.callX (v := dd (a * b % NG false)) (mod4_ctr (g := false) (x := y) (Nat.lt_of_le_of_lt (dlen24 hyb) (by decide))) bd23 [] [] rfl (.cons rfl (.cons rfl .nil)) rfl (.cons rfl rfl (.cons rfl rfl .nil)) .nil rfl .nil frN (by decide) (.cons rfl rfl .nil) (by rw [fin_mod hy hdv]; rfl) rfl rfl rfl ?_
        refine AWo.pure (PureOp.assign rfl) rfl rfl ?_
        refine AWo.nil trivial ?_
        refine AW.ret ?_
        refine RetQ.gc [_] [] [.tmp 6] (.inl rfl) rfl (.tmp rfl .nil) rfl (.cons rfl rfl .nil) trivial (by decide) rfl
  ·
    obtain ⟨m, hm⟩ : ∃ m, m = PG := ⟨_, rfl⟩
    have hmb : m < B24 := by rw [hm]; exact pg_b24
    have hm0 : 0 < m := by rw [hm]; decide +kernel
    have hmle := Nat.le_of_lt hmb
    have hdv : NG true ∣ m := by rw [hm]; exact Nat.dvd_refl _
    refine GC.intro Try.func62 rfl (by show 3 ≤ 81; decide) (by first | exact Nat.le_refl _ | decide | simp) ?_
    refine AW.seqR ?_
    refine AWo.pure (PureOp.assign rfl) rfl rfl ?_
    refine AWo.nil trivial ?_
    refine AW.seqR ?_
    refine AWo.callX (p04_ctr) bd91 [] [] rfl .nil rfl .nil .nil rfl .nil frN (by decide) (.cons rfl rfl .nil) rfl rfl rfl rfl ?_
    refine AWo.pure (PureOp.assign rfl) rfl rfl ?_
    refine AWo.nil trivial ?_
    refine AW.seq ?_
    refine AW.seqR ?_
    refine AWo.pure (PureOp.move rfl) rfl rfl ?_
    refine AWo.pure (PureOp.not rfl) rfl rfl ?_
    refine AWo.nil trivial ?_
    refine AW.condF rfl ?_
    refine AW.skip ?_
    refine thenA_normal ?_
    refine AW.seqR ?_
    refine AWo.makeI tbok 21000 rfl rfl rfl rfl rfl rfl (by first | decide | omega) (by first | decide | omega) rfl rfl rfl ?_
    refine AWo.buildSlice tbok 22000 [(0, vi .u64 1)] (out := [vi .u64 1]) rfl rfl (by decide) rfl rfl rfl (by decide) rfl rfl rfl rfl rfl ?_
    refine AWo.appendF tbok (cs := (List.replicate 24 0).map (vi .u64)) (news := [vi .u64 1]) (all := (List.replicate 24 0 ++ [1]).map (vi .u64)) 23000 rfl rfl rfl rfl (by simp) rfl (by simp) (by decide) rfl rfl rfl (by decide) rfl rfl rfl (by decide) (by decide) rfl (by simp) (cloM fun _ => rfl) rfl rfl ?_
    rw [b24_deep]
    refine AWo.pure (PureOp.move rfl) rfl rfl ?_
    rw [← hm]
    refine AWo.callX (subd (x := B24) (y := m) (by rw [b24_len]; decide) (Nat.lt_of_le_of_lt (dlen24 hmb) (by decide)) (Nat.le_of_lt hmb)) bd27 [] [] rfl (.cons rfl (.cons rfl .nil)) rfl (.cons rfl rfl (.cons rfl rfl .nil)) .nil rfl .nil frN (by decide) (.cons rfl rfl .nil) rfl rfl rfl rfl ?_
    refine AWo.pure (PureOp.assign rfl) rfl rfl ?_
    refine AWo.nil trivial ?_
    refine AW.seqR ?_
    refine AWo.pure ((PureOp.buildArr tbok [] rfl rfl rfl (by decide) rfl rfl).mono (v' := .agg ((digs 4294967296 27 0).map (vi .u64)).toArray) (by kernel_rfl)) rfl rfl ?_
    refine AWo.alloc tbok 10000 1 ((List.replicate 27 0).map (vi .u64)) rfl rfl rfl rfl rfl rfl ?_
    refine AWo.storeAllN tbok rfl rfl rfl rfl (by first | rfl | (rw [List.length_map, digs_len])) (by first | rfl | (simp [digs_len]; done)) (oneM (fun _ => rfl) _) rfl ?_
    refine AWo.nil trivial ?_
    refine AW.seq ?_
    refine AW.seqR ?_
    refine AWo.pure (PureOp.move rfl) rfl rfl ?_
    first | refine AWo.pure (PureOp.lenS tbok rfl rfl) rfl rfl ?_ | refine AWo.pure (PureOp.lenD tbok rfl rfl) rfl rfl ?_
    first | refine AWo.pure ((PureOp.subI (b := 1) rfl rfl (by first | decide | omega) (by first | decide | omega)).mono (v' := vp (D 4294967296 a).length) (by first | rfl | (simp only [vp, vi]; congr 1; omega))) rfl rfl ?_ | refine AWo.pure ((PureOp.subP rfl rfl (by first | decide | omega)).mono (v' := vp (D 4294967296 a).length) (by first | rfl | (simp only [vp, vi]; congr 1; omega))) rfl rfl ?_ | refine AWo.pure ((PureOp.bin rfl rfl rfl).mono (v' := vp (D 4294967296 a).length) (by first | rfl | (simp only [vp, vi]; congr 1; omega))) rfl rfl ?_
    refine AWo.pure (PureOp.assign rfl) rfl rfl ?_
    refine AWo.nil trivial ?_
    refine AW.block ?_
    refine AW.loopw (fun mm σ => ∃ y, ∃ r, (r ≤ (D 4294967296 a).length ∧ y < B24 ∧ y % m = a / 4294967296 ^ r * b % m) ∧ mm = 1 * r ∧ σ = ⟨(upd (upd (upd (upd (upd (upd emp 0 (.bool true)) 1 (dd a)) 2 (dd b)) 8 (dd (B24 - m))) 9 (.pointer (some ⟨10000, 0, none⟩))) 10 (vp r)), (upd emp 10000 ⟨(digs 4294967296 27 (y)).map (vi .u64), true, 1⟩)⟩) (fm := []) ?_ ⟨0, (D 4294967296 a).length, ⟨Nat.le_refl _, by decide +kernel, by rw [a_top]; simp⟩, rfl, rfl⟩ ?_
    ·
      refine Wk.of [10000] ?_ ?_ ?_ (by decide) rfl
      ·
        refine WkE.upd rfl (by first | exact VR.flat _ rfl | exact VR.eqv (vp_succ _) rfl | exact VR.eqv (vp_succ _).symm rfl | exact VR.eqv (by first | rfl | (congr 1; omega) | (simp; done) | (simp; omega)) rfl) ?_
        refine WkE.upd rfl (.ptr (10000) 0 ⟨_, rfl⟩) ?_
        refine WkE.upd rfl (clo_refl (by simp) rfl) ?_
        refine WkE.upd rfl (clo_refl (by simp) rfl) ?_
        refine WkE.upd rfl (clo_refl (by simp) rfl) ?_
        refine WkE.upd rfl (by first | exact VR.flat _ rfl | exact VR.eqv (vp_succ _) rfl | exact VR.eqv (vp_succ _).symm rfl | exact VR.eqv (by first | rfl | (congr 1; omega) | (simp; done) | (simp; omega)) rfl) ?_
        exact WkE.emp
      ·
        refine WkM.flat rfl (flatM flat_vi) (fun h => h) ?_
        exact WkM.emp
      ·
        repeat (refine dom_upd_mem (by decide) ?_)
        exact dom_emp
    ·
      rintro mm σ ⟨y, r, ⟨hr0, hyb, hy⟩, rfl, rfl⟩
      refine AW.seq ?_
      refine AW.seqR ?_
      refine AWo.pure (PureOp.move rfl) rfl rfl ?_
      first | refine AWo.pure (PureOp.geP rfl rfl) rfl rfl ?_ | refine AWo.pure (PureOp.geN (b := 0) rfl rfl) rfl rfl ?_ | refine AWo.pure (PureOp.bin rfl rfl rfl) rfl rfl ?_
      refine AWo.nil trivial ?_
      refine AW.cond rfl (fun hb0 => ?_) (fun hb0 => ?_)
      ·
        have hp0 : 0 < r := by simpa using hb0
        obtain ⟨r, rfl⟩ : ∃ q, r = q + 1 := ⟨r - 1, by omega⟩
        rw [vp_succ]
        refine AW.skip ?_
        refine thenA_normal ?_
        refine AW.seq ?_
        refine AW.block ?_
        refine AW.seq ?_
        refine AW.seqR ?_
        refine AWo.pure (PureOp.assign rfl) rfl rfl ?_
        refine AWo.nil trivial ?_
        refine AW.block ?_
        rw [shf_start y]
        refine AW.loopw (fun mm σ => ∃ k, (k ≤ 26) ∧ mm = 1 * k ∧ σ = ⟨(upd (upd (upd (upd (upd (upd (upd emp 0 (.bool true)) 1 (dd a)) 2 (dd b)) 8 (dd (B24 - m))) 9 (.pointer (some ⟨10000, 0, none⟩))) 10 (vi .i64 r)) 11 (vi .i64 k)), (upd emp 10000 ⟨((List.range 27).map (shf y k)).map (vi .u64), true, 1⟩)⟩) (fm := []) ?_ ⟨26, Nat.le_refl _, rfl, rfl⟩ ?_
        ·
          refine Wk.of [10000] ?_ ?_ ?_ (by decide) rfl
          ·
            refine WkE.upd rfl (by first | exact VR.flat _ rfl | exact VR.eqv (vp_succ _) rfl | exact VR.eqv (vp_succ _).symm rfl | exact VR.eqv (by first | rfl | (congr 1; omega) | (simp; done) | (simp; omega)) rfl) ?_
            refine WkE.upd rfl (by first | exact VR.flat _ rfl | exact VR.eqv (vp_succ _) rfl | exact VR.eqv (vp_succ _).symm rfl | exact VR.eqv (by first | rfl | (congr 1; omega) | (simp; done) | (simp; omega)) rfl) ?_
            refine WkE.upd rfl (.ptr (10000) 0 ⟨_, rfl⟩) ?_
            refine WkE.upd rfl (clo_refl (by simp) rfl) ?_
            refine WkE.upd rfl (clo_refl (by simp) rfl) ?_
            refine WkE.upd rfl (clo_refl (by simp) rfl) ?_
            refine WkE.upd rfl (by first | exact VR.flat _ rfl | exact VR.eqv (vp_succ _) rfl | exact VR.eqv (vp_succ _).symm rfl | exact VR.eqv (by first | rfl | (congr 1; omega) | (simp; done) | (simp; omega)) rfl) ?_
            exact WkE.emp
          ·
            refine WkM.flat rfl (flatM flat_vi) (fun h => h) ?_
            exact WkM.emp
          ·
            repeat (refine dom_upd_mem (by decide) ?_)
            exact dom_emp
        ·
          rintro mm σ ⟨k, hk, rfl, rfl⟩
          refine AW.seq ?_
          refine AW.seqR ?_
          refine AWo.pure (PureOp.move rfl) rfl rfl ?_
          first | refine AWo.pure (PureOp.geP rfl rfl) rfl rfl ?_ | refine AWo.pure (PureOp.geN (b := 1) rfl rfl) rfl rfl ?_ | refine AWo.pure (PureOp.bin rfl rfl rfl) rfl rfl ?_
          refine AWo.nil trivial ?_
          refine AW.cond rfl (fun hb1 => ?_) (fun hb1 => ?_)
          ·
            have hk1 : 1 ≤ k := by simpa using hb1
            refine AW.skip ?_
            refine thenA_normal ?_
            refine AW.seq ?_
            refine AW.block ?_
            refine AW.region ?_
            refine AWo.pure (PureOp.move rfl) rfl rfl ?_
            refine AWo.pure (PureOp.move rfl) rfl rfl ?_
            first | refine AWo.pure (PureOp.subI (b := 1) rfl rfl (by first | decide | omega) (by first | decide | omega)) rfl rfl ?_ | refine AWo.pure (PureOp.subP rfl rfl (by first | decide | omega)) rfl rfl ?_ | refine AWo.pure (PureOp.bin rfl rfl rfl) rfl rfl ?_
            refine yP (PureOp.arr1 tbok (j := k - 1) rfl rfl rfl rfl (by omega)) ?_
            refine AWo.loadM tbok 0 rfl rfl rfl (by simp; omega) rfl rfl ?_
            rw [shf_at (by omega) hk1]
            refine yP (PureOp.arr1 tbok (j := k) rfl rfl rfl rfl (by omega)) ?_
            refine AWo.storeM (f := (vi .u64)) tbok rfl rfl rfl rfl (by simp; omega) rfl rfl ?_
            rw [shf_set hk hk1]
            refine AWo.nil trivial ?_
            refine inBlockA_normal ?_
            refine thenA_normal ?_
            refine AW.region ?_
            refine AWo.pure (PureOp.move rfl) rfl rfl ?_
            first | refine AWo.pure (PureOp.subI (b := 1) rfl rfl (by first | decide | omega) (by first | decide | omega)) rfl rfl ?_ | refine AWo.pure (PureOp.subP rfl rfl (by first | decide | omega)) rfl rfl ?_ | refine AWo.pure (PureOp.bin rfl rfl rfl) rfl rfl ?_
            refine AWo.pure (PureOp.assign rfl) rfl rfl ?_
            refine AWo.nil trivial ?_
            refine thenA_normal ?_
            refine ⟨1 * (k - 1), [], _, by omega, ?_, k - 1, by omega, rfl, rfl⟩
            refine Wk.of [10000] ?_ ?_ ?_ (by decide) rfl
            ·
              refine WkE.upd rfl (by first | exact VR.flat _ rfl | exact VR.eqv (vp_succ _) rfl | exact VR.eqv (vp_succ _).symm rfl | exact VR.eqv (by first | rfl | (congr 1; omega) | (simp; done) | (simp; omega)) rfl) ?_
              refine WkE.upd rfl (by first | exact VR.flat _ rfl | exact VR.eqv (vp_succ _) rfl | exact VR.eqv (vp_succ _).symm rfl | exact VR.eqv (by first | rfl | (congr 1; omega) | (simp; done) | (simp; omega)) rfl) ?_
              refine WkE.upd rfl (.ptr (10000) 0 ⟨_, rfl⟩) ?_
              refine WkE.upd rfl (clo_refl (by simp) rfl) ?_
              refine WkE.upd rfl (clo_refl (by simp) rfl) ?_
              refine WkE.upd rfl (clo_refl (by simp) rfl) ?_
              refine WkE.upd rfl (by first | exact VR.flat _ rfl | exact VR.eqv (vp_succ _) rfl | exact VR.eqv (vp_succ _).symm rfl | exact VR.eqv (by first | rfl | (congr 1; omega) | (simp; done) | (simp; omega)) rfl) ?_
              exact WkE.emp
            ·
              refine WkM.flat rfl (flatM flat_vi) (fun h => h) ?_
              exact WkM.emp
            ·
              repeat (refine dom_upd_mem (by decide) ?_)
              exact dom_emp
          ·
            obtain rfl : k = 0 := by simp at hb1; omega
            rw [shf_done]
            refine AW.exit ?_
            refine thenA_exit ?_
            refine thenA_exit ?_
            refine inBlockA_hit ?_
            refine thenA_normal ?_
            refine AW.seqR ?_
            first | refine AWo.pure (PureOp.arr1 (j := 0) tbok rfl rfl rfl rfl (by first | decide | omega)) rfl rfl ?_ | refine AWo.pure (PureOp.arr (j := 0) tbok rfl rfl rfl rfl (by first | decide | omega)) rfl rfl ?_
            refine AWo.storeM (f := (vi .u64)) tbok rfl rfl rfl rfl (by simp) rfl rfl ?_
            rw [shf_end]
            refine AWo.nil trivial ?_
            have hk27 : (D 4294967296 a).length < 1000 := ha
            have hr : r < (D 4294967296 a).length := by omega
            have har : a / 4294967296 ^ r % 4294967296 < 4294967296 := Nat.mod_lt _ (by decide)
            refine AW.seqD mixed ?_
            refine AWo.loadAll tbok rfl rfl rfl rfl (by rw [List.length_map, digs_len]) rfl rfl ?_
            refine AWo.pure (PureOp.move rfl) rfl rfl ?_
            refine AWo.pureX 47000 (n := (D 4294967296 a).length) (es := 1) (cells := (D 4294967296 a).map (vi .u64)) (PureOp.move rfl) rfl rfl rfl ?_
            refine AWo.pure (PureOp.move rfl) rfl rfl ?_
            refine yP (PureOp.idx1 tbok (j := r) rfl rfl rfl rfl hr) ?_
            refine AWo.loadM tbok 0 rfl rfl rfl hr rfl rfl ?_
            rw [D_getD (by decide) a r]
            refine AWo.callX (plus4_ctr (x := y * 4294967296) (y := b) (t := a / 4294967296 ^ r % 4294967296) har) bd106 [] [] rfl (.cons rfl (.cons rfl (.cons rfl .nil))) rfl (.pure (by first | rfl | exact pure_aggM flat_vi | exact pure_aggM flat_bool) (.cons rfl rfl (.cons rfl rfl .nil))) .nil rfl .nil frN (by decide) (.pure (by first | rfl | exact pure_aggM flat_vi | exact pure_aggM flat_bool) .nil) rfl rfl rfl rfl ?_
            refine AWo.storeAllN tbok rfl rfl rfl rfl (by first | rfl | (rw [List.length_map, digs_len])) (by first | rfl | (simp [digs_len]; done)) (oneM (fun _ => rfl) _) rfl ?_
            refine AWo.nil (by kernel_rfl) ?_
            refine AW.block ?_
            have hn1 := next_lt hyb hb har
            have hn2 := next_mod (a := a) (b := b) hy
            refine AW.loopw (fun mm σ => ∃ y, (y < 4294967296 ^ 26 ∧ y % m = a / 4294967296 ^ r * b % m) ∧ mm = 1 * y ∧ σ = ⟨(upd (upd (upd (upd (upd (upd emp 0 (.bool true)) 1 (dd a)) 2 (dd b)) 8 (dd (B24 - m))) 9 (.pointer (some ⟨10000, 0, none⟩))) 10 (vi .i64 r)), (upd emp 10000 ⟨(digs 4294967296 27 (y)).map (vi .u64), true, 1⟩)⟩) (fm := []) ?_ ⟨y * 4294967296 + b * (a / 4294967296 ^ r % 4294967296), ⟨hn1, hn2⟩, rfl, rfl⟩ ?_
            ·
              refine Wk.of [10000] ?_ ?_ ?_ (by decide) rfl
              ·
                refine WkE.upd rfl (by first | exact VR.flat _ rfl | exact VR.eqv (vp_succ _) rfl | exact VR.eqv (vp_succ _).symm rfl | exact VR.eqv (by first | rfl | (congr 1; omega) | (simp; done) | (simp; omega)) rfl) ?_
                refine WkE.upd rfl (.ptr (10000) 0 ⟨_, rfl⟩) ?_
                refine WkE.upd rfl (clo_refl (by simp) rfl) ?_
                refine WkE.upd rfl (clo_refl (by simp) rfl) ?_
                refine WkE.upd rfl (clo_refl (by simp) rfl) ?_
                refine WkE.upd rfl (by first | exact VR.flat _ rfl | exact VR.eqv (vp_succ _) rfl | exact VR.eqv (vp_succ _).symm rfl | exact VR.eqv (by first | rfl | (congr 1; omega) | (simp; done) | (simp; omega)) rfl) ?_
                exact WkE.emp
              ·
                refine WkM.flat rfl (flatM flat_vi) (fun h => h) ?_
                exact WkM.emp
              ·
                repeat (refine dom_upd_mem (by decide) ?_)
                exact dom_emp
            ·
              rintro mm σ ⟨y, ⟨hz26, hy2⟩, rfl, rfl⟩
              refine AW.seq ?_
              refine AW.seqR ?_
              first | refine AWo.pure (PureOp.arr1 (j := 24) tbok rfl rfl rfl rfl (by first | decide | omega)) rfl rfl ?_ | refine AWo.pure (PureOp.arr (j := 24) tbok rfl rfl rfl rfl (by first | decide | omega)) rfl rfl ?_
              refine AWo.loadM tbok 0 rfl rfl rfl (by rw [digs_len]; decide) rfl rfl ?_
              rw [digs_getD (by decide) (show 24 < 27 by decide)]
              first | refine AWo.pureB (PureOp.neN (b := 0) rfl rfl) rfl rfl (fun hb2 => ?_) (fun hb2 => ?_) | refine AWo.pureB (PureOp.bin rfl rfl rfl) rfl rfl (fun hb2 => ?_) (fun hb2 => ?_)
              ·
                have h24 : ¬ y / 4294967296 ^ 24 % 4294967296 = 0 := by simpa using hb2
                have hbig := big_of hz26 (.inl h24)
                refine AWo.pure (PureOp.move rfl) rfl rfl ?_
                refine AWo.skipped rfl rfl ?_
                refine AWo.skipped rfl rfl ?_
                refine AWo.skipped rfl rfl ?_
                refine AWo.pure (PureOp.pickT rfl rfl) rfl rfl ?_
                refine AWo.nil trivial ?_
                refine AW.condT rfl ?_
                refine AW.skip ?_
                refine thenA_normal ?_
                refine AW.block ?_
                have hd24 : y / 4294967296 ^ 24 % 4294967296 < 4294967296 := Nat.mod_lt _ (by decide)
                have hd25 : y / 4294967296 ^ 25 % 4294967296 < 4294967296 := Nat.mod_lt _ (by decide)
                have hcl : (D 4294967296 (B24 - m)).length < 100 := dl_le (Nat.sub_le _ _) (by rw [b24_len]; decide)
                refine AW.seqD mixed ?_
                first | refine AWo.pure (PureOp.arr1 (j := 24) tbok rfl rfl rfl rfl (by first | decide | omega)) rfl rfl ?_ | refine AWo.pure (PureOp.arr (j := 24) tbok rfl rfl rfl rfl (by first | decide | omega)) rfl rfl ?_
                refine AWo.loadM tbok 0 rfl rfl rfl (by rw [digs_len]; decide) rfl rfl ?_
                rw [digs_getD (by decide) (show 24 < 27 by decide)]
                first | refine AWo.pure (PureOp.arr1 (j := 25) tbok rfl rfl rfl rfl (by first | decide | omega)) rfl rfl ?_ | refine AWo.pure (PureOp.arr (j := 25) tbok rfl rfl rfl rfl (by first | decide | omega)) rfl rfl ?_
                refine AWo.loadM tbok 0 rfl rfl rfl (by rw [digs_len]; decide) rfl rfl ?_
                rw [digs_getD (by decide) (show 25 < 27 by decide)]
                refine AWo.pure (PureOp.assign rfl) rfl rfl ?_
                refine AWo.pure (PureOp.assign rfl) rfl rfl ?_
                refine AWo.nil (by kernel_rfl) ?_
                refine AW.seqR ?_
                first | refine AWo.pure (PureOp.arr1 (j := 24) tbok rfl rfl rfl rfl (by first | decide | omega)) rfl rfl ?_ | refine AWo.pure (PureOp.arr (j := 24) tbok rfl rfl rfl rfl (by first | decide | omega)) rfl rfl ?_
                refine AWo.storeM (f := (vi .u64)) tbok rfl rfl rfl rfl (by rw [digs_len]; decide) rfl rfl ?_
                refine AWo.nil trivial ?_
                refine AW.seqR ?_
                first | refine AWo.pure (PureOp.arr1 (j := 25) tbok rfl rfl rfl rfl (by first | decide | omega)) rfl rfl ?_ | refine AWo.pure (PureOp.arr (j := 25) tbok rfl rfl rfl rfl (by first | decide | omega)) rfl rfl ?_
                refine AWo.storeM (f := (vi .u64)) tbok rfl rfl rfl rfl (by rw [List.length_set, digs_len]; decide) rfl rfl ?_
                rw [cut24 hz26]
                refine AWo.nil trivial ?_
                refine AW.seqR ?_
                refine AWo.loadAll tbok rfl rfl rfl rfl (by rw [List.length_map, digs_len]) rfl rfl ?_
                refine AWo.pure (PureOp.move rfl) rfl rfl ?_
                refine AWo.pure (PureOp.move rfl) rfl rfl ?_
                refine AWo.callX (plus4_ctr (x := y % B24) (y := B24 - m) (t := y / 4294967296 ^ 24 % 4294967296) hd24) bd106 [] [] rfl (.cons rfl (.cons rfl (.cons rfl .nil))) rfl (.pure (by first | rfl | exact pure_aggM flat_vi | exact pure_aggM flat_bool) (.cons rfl rfl (.cons rfl rfl .nil))) .nil rfl .nil frN (by decide) (.pure (by first | rfl | exact pure_aggM flat_vi | exact pure_aggM flat_bool) .nil) rfl rfl rfl rfl ?_
                refine AWo.storeAllN tbok rfl rfl rfl rfl (by first | rfl | (rw [List.length_map, digs_len])) (by first | rfl | (simp [digs_len]; done)) (oneM (fun _ => rfl) _) rfl ?_
                refine AWo.nil trivial ?_
                refine AW.draw mixed ?_
                refine AWo.loadAll tbok rfl rfl rfl rfl (by rw [List.length_map, digs_len]) rfl rfl ?_
                refine AWo.buildSlice tbok 71000 [(0, vi .u64 0)] (out := [vi .u64 0]) rfl rfl (by decide) rfl rfl rfl (by decide) rfl rfl rfl rfl rfl ?_
                refine AWo.pureX 72000 (n := (D 4294967296 (B24 - m)).length) (es := 1) (cells := (D 4294967296 (B24 - m)).map (vi .u64)) (PureOp.move rfl) rfl rfl rfl ?_
                refine AWo.appendF tbok (cs := [vi .u64 0]) (news := (D 4294967296 (B24 - m)).map (vi .u64)) (all := (0 :: D 4294967296 (B24 - m)).map (vi .u64)) 73000 rfl rfl rfl rfl rfl (by show List.take _ (List.drop 0 _) = _; rw [List.drop_zero]; exact List.take_of_length_le (by simp)) (by simp) (by decide) rfl rfl rfl (by decide) rfl rfl rfl (by omega) (by omega) (oneM (fun _ => rfl) _) rfl (cloM fun _ => rfl) rfl rfl ?_
                rw [up_deep (show 0 < B24 - m by omega)]
                refine AWo.pure (PureOp.move rfl) rfl rfl ?_
                refine AWo.callX (v := .agg ((digs 4294967296 27 (y % B24 + y / B24 * (B24 - m))).map (vi .u64)).toArray) (plus4_ctr (x := y % B24 + (B24 - m) * (y / 4294967296 ^ 24 % 4294967296)) (y := (B24 - m) * 4294967296) (t := y / 4294967296 ^ 25 % 4294967296) hd25) bd106 [] [] rfl (.cons rfl (.cons rfl (.cons rfl .nil))) rfl (.pure (by first | rfl | exact pure_aggM flat_vi | exact pure_aggM flat_bool) (.cons rfl rfl (.cons rfl rfl .nil))) .nil rfl .nil frN (by decide) (.pure (by first | rfl | exact pure_aggM flat_vi | exact pure_aggM flat_bool) .nil) (by rw [two_up hz26]; rfl) rfl rfl rfl ?_
                refine AWo.storeAllN tbok rfl rfl rfl rfl (by first | rfl | (rw [List.length_map, digs_len])) (by first | rfl | (simp [digs_len]; done)) (oneM (fun _ => rfl) _) rfl ?_
                refine AWo.nil (by kernel_rfl) ?_
                refine inBlockA_normal ?_
                refine thenA_normal ?_
                refine ⟨1 * (y % B24 + y / B24 * (B24 - m)), [], _, by have := fold_lt hmle hm0 hbig; omega, ?_, _, ⟨Nat.lt_of_le_of_lt (fold_le hmle) hz26, (fold_mod hmle).trans hy2⟩, rfl, rfl⟩
                refine Wk.of [10000] ?_ ?_ ?_ (by decide) rfl
                ·
                  refine WkE.upd rfl (by first | exact VR.flat _ rfl | exact VR.eqv (vp_succ _) rfl | exact VR.eqv (vp_succ _).symm rfl | exact VR.eqv (by first | rfl | (congr 1; omega) | (simp; done) | (simp; omega)) rfl) ?_
                  refine WkE.upd rfl (.ptr (10000) 0 ⟨_, rfl⟩) ?_
                  refine WkE.upd rfl (clo_refl (by simp) rfl) ?_
                  refine WkE.upd rfl (clo_refl (by simp) rfl) ?_
                  refine WkE.upd rfl (clo_refl (by simp) rfl) ?_
                  refine WkE.upd rfl (by first | exact VR.flat _ rfl | exact VR.eqv (vp_succ _) rfl | exact VR.eqv (vp_succ _).symm rfl | exact VR.eqv (by first | rfl | (congr 1; omega) | (simp; done) | (simp; omega)) rfl) ?_
                  exact WkE.emp
                ·
                  refine WkM.flat rfl (flatM flat_vi) (fun h => h) ?_
                  exact WkM.emp
                ·
                  repeat (refine dom_upd_mem (by decide) ?_)
                  exact dom_emp
              ·
                have h24 : y / 4294967296 ^ 24 % 4294967296 = 0 := by simpa using hb2
                refine AWo.pure (PureOp.move rfl) rfl rfl ?_
                first | refine AWo.pure (PureOp.arr1 (j := 25) tbok rfl rfl rfl rfl (by first | decide | omega)) rfl rfl ?_ | refine AWo.pure (PureOp.arr (j := 25) tbok rfl rfl rfl rfl (by first | decide | omega)) rfl rfl ?_
                refine AWo.loadM tbok 0 rfl rfl rfl (by rw [digs_len]; decide) rfl rfl ?_
                rw [digs_getD (by decide) (show 25 < 27 by decide)]
                first | refine AWo.pureB (PureOp.neN (b := 0) rfl rfl) rfl rfl (fun hb3 => ?_) (fun hb3 => ?_) | refine AWo.pureB (PureOp.bin rfl rfl rfl) rfl rfl (fun hb3 => ?_) (fun hb3 => ?_)
                ·
                  have h25 : ¬ y / 4294967296 ^ 25 % 4294967296 = 0 := by simpa using hb3
                  have hbig := big_of hz26 (.inr h25)
                  refine AWo.pure (PureOp.pickF rfl rfl) rfl rfl ?_
                  refine AWo.nil trivial ?_
                  refine AW.condT rfl ?_
                  refine AW.skip ?_
                  refine thenA_normal ?_
                  refine AW.block ?_
                  have hd24 : y / 4294967296 ^ 24 % 4294967296 < 4294967296 := Nat.mod_lt _ (by decide)
                  have hd25 : y / 4294967296 ^ 25 % 4294967296 < 4294967296 := Nat.mod_lt _ (by decide)
                  have hcl : (D 4294967296 (B24 - m)).length < 100 := dl_le (Nat.sub_le _ _) (by rw [b24_len]; decide)
                  refine AW.seqD mixed ?_
                  first | refine AWo.pure (PureOp.arr1 (j := 24) tbok rfl rfl rfl rfl (by first | decide | omega)) rfl rfl ?_ | refine AWo.pure (PureOp.arr (j := 24) tbok rfl rfl rfl rfl (by first | decide | omega)) rfl rfl ?_
                  refine AWo.loadM tbok 0 rfl rfl rfl (by rw [digs_len]; decide) rfl rfl ?_
                  rw [digs_getD (by decide) (show 24 < 27 by decide)]
                  first | refine AWo.pure (PureOp.arr1 (j := 25) tbok rfl rfl rfl rfl (by first | decide | omega)) rfl rfl ?_ | refine AWo.pure (PureOp.arr (j := 25) tbok rfl rfl rfl rfl (by first | decide | omega)) rfl rfl ?_
                  refine AWo.loadM tbok 0 rfl rfl rfl (by rw [digs_len]; decide) rfl rfl ?_
                  rw [digs_getD (by decide) (show 25 < 27 by decide)]
                  refine AWo.pure (PureOp.assign rfl) rfl rfl ?_
                  refine AWo.pure (PureOp.assign rfl) rfl rfl ?_
                  refine AWo.nil (by kernel_rfl) ?_
                  refine AW.seqR ?_
                  first | refine AWo.pure (PureOp.arr1 (j := 24) tbok rfl rfl rfl rfl (by first | decide | omega)) rfl rfl ?_ | refine AWo.pure (PureOp.arr (j := 24) tbok rfl rfl rfl rfl (by first | decide | omega)) rfl rfl ?_
                  refine AWo.storeM (f := (vi .u64)) tbok rfl rfl rfl rfl (by rw [digs_len]; decide) rfl rfl ?_
                  refine AWo.nil trivial ?_
                  refine AW.seqR ?_
                  first | refine AWo.pure (PureOp.arr1 (j := 25) tbok rfl rfl rfl rfl (by first | decide | omega)) rfl rfl ?_ | refine AWo.pure (PureOp.arr (j := 25) tbok rfl rfl rfl rfl (by first | decide | omega)) rfl rfl ?_
                  refine AWo.storeM (f := (vi .u64)) tbok rfl rfl rfl rfl (by rw [List.length_set, digs_len]; decide) rfl rfl ?_
                  rw [cut24 hz26]
                  refine AWo.nil trivial ?_
                  refine AW.seqR ?_
                  refine AWo.loadAll tbok rfl rfl rfl rfl (by rw [List.length_map, digs_len]) rfl rfl ?_
                  refine AWo.pure (PureOp.move rfl) rfl rfl ?_
                  refine AWo.pure (PureOp.move rfl) rfl rfl ?_
                  refine AWo.callX (plus4_ctr (x := y % B24) (y := B24 - m) (t := y / 4294967296 ^ 24 % 4294967296) hd24) bd106 [] [] rfl (.cons rfl (.cons rfl (.cons rfl .nil))) rfl (.pure (by first | rfl | exact pure_aggM flat_vi | exact pure_aggM flat_bool) (.cons rfl rfl (.cons rfl rfl .nil))) .nil rfl .nil frN (by decide) (.pure (by first | rfl | exact pure_aggM flat_vi | exact pure_aggM flat_bool) .nil) rfl rfl rfl rfl ?_
                  refine AWo.storeAllN tbok rfl rfl rfl rfl (by first | rfl | (rw [List.length_map, digs_len])) (by first | rfl | (simp [digs_len]; done)) (oneM (fun _ => rfl) _) rfl ?_
                  refine AWo.nil trivial ?_
                  refine AW.draw mixed ?_
                  refine AWo.loadAll tbok rfl rfl rfl rfl (by rw [List.length_map, digs_len]) rfl rfl ?_
                  refine AWo.buildSlice tbok 71000 [(0, vi .u64 0)] (out := [vi .u64 0]) rfl rfl (by decide) rfl rfl rfl (by decide) rfl rfl rfl rfl rfl ?_
                  refine AWo.pureX 72000 (n := (D 4294967296 (B24 - m)).length) (es := 1) (cells := (D 4294967296 (B24 - m)).map (vi .u64)) (PureOp.move rfl) rfl rfl rfl ?_
                  refine AWo.appendF tbok (cs := [vi .u64 0]) (news := (D 4294967296 (B24 - m)).map (vi .u64)) (all := (0 :: D 4294967296 (B24 - m)).map (vi .u64)) 73000 rfl rfl rfl rfl rfl (by show List.take _ (List.drop 0 _) = _; rw [List.drop_zero]; exact List.take_of_length_le (by simp)) (by simp) (by decide) rfl rfl rfl (by decide) rfl rfl rfl (by omega) (by omega) (oneM (fun _ => rfl) _) rfl (cloM fun _ => rfl) rfl rfl ?_
                  rw [up_deep (show 0 < B24 - m by omega)]
                  refine AWo.pure (PureOp.move rfl) rfl rfl ?_
                  refine AWo.callX (v := .agg ((digs 4294967296 27 (y % B24 + y / B24 * (B24 - m))).map (vi .u64)).toArray) (plus4_ctr (x := y % B24 + (B24 - m) * (y / 4294967296 ^ 24 % 4294967296)) (y := (B24 - m) * 4294967296) (t := y / 4294967296 ^ 25 % 4294967296) hd25) bd106 [] [] rfl (.cons rfl (.cons rfl (.cons rfl .nil))) rfl (.pure (by first | rfl | exact pure_aggM flat_vi | exact pure_aggM flat_bool) (.cons rfl rfl (.cons rfl rfl .nil))) .nil rfl .nil frN (by decide) (.pure (by first | rfl | exact pure_aggM flat_vi | exact pure_aggM flat_bool) .nil) (by rw [two_up hz26]; rfl) rfl rfl rfl ?_
                  refine AWo.storeAllN tbok rfl rfl rfl rfl (by first | rfl | (rw [List.length_map, digs_len])) (by first | rfl | (simp [digs_len]; done)) (oneM (fun _ => rfl) _) rfl ?_
                  refine AWo.nil (by kernel_rfl) ?_
                  refine inBlockA_normal ?_
                  refine thenA_normal ?_
                  refine ⟨1 * (y % B24 + y / B24 * (B24 - m)), [], _, by have := fold_lt hmle hm0 hbig; omega, ?_, _, ⟨Nat.lt_of_le_of_lt (fold_le hmle) hz26, (fold_mod hmle).trans hy2⟩, rfl, rfl⟩
                  refine Wk.of [10000] ?_ ?_ ?_ (by decide) rfl
                  ·
                    refine WkE.upd rfl (by first | exact VR.flat _ rfl | exact VR.eqv (vp_succ _) rfl | exact VR.eqv (vp_succ _).symm rfl | exact VR.eqv (by first | rfl | (congr 1; omega) | (simp; done) | (simp; omega)) rfl) ?_
                    refine WkE.upd rfl (.ptr (10000) 0 ⟨_, rfl⟩) ?_
                    refine WkE.upd rfl (clo_refl (by simp) rfl) ?_
                    refine WkE.upd rfl (clo_refl (by simp) rfl) ?_
                    refine WkE.upd rfl (clo_refl (by simp) rfl) ?_
                    refine WkE.upd rfl (by first | exact VR.flat _ rfl | exact VR.eqv (vp_succ _) rfl | exact VR.eqv (vp_succ _).symm rfl | exact VR.eqv (by first | rfl | (congr 1; omega) | (simp; done) | (simp; omega)) rfl) ?_
                    exact WkE.emp
                  ·
                    refine WkM.flat rfl (flatM flat_vi) (fun h => h) ?_
                    exact WkM.emp
                  ·
                    repeat (refine dom_upd_mem (by decide) ?_)
                    exact dom_emp
                ·
                  have h25 : y / 4294967296 ^ 25 % 4294967296 = 0 := by simpa using hb3
                  have hsm := small_of hz26 h24 h25
                  refine AWo.pure (PureOp.pickF rfl rfl) rfl rfl ?_
                  refine AWo.nil trivial ?_
                  refine AW.condF rfl ?_
                  refine AW.exit ?_
                  refine thenA_exit ?_
                  refine thenA_exit ?_
                  refine inBlockA_hit ?_
                  refine inBlockA_normal ?_
                  refine thenA_normal ?_
                  refine AW.region ?_
                  refine AWo.pure (PureOp.move rfl) rfl rfl ?_
                  first | refine AWo.pure (PureOp.subI (b := 1) rfl rfl (by first | decide | omega) (by first | decide | omega)) rfl rfl ?_ | refine AWo.pure (PureOp.subP rfl rfl (by first | decide | omega)) rfl rfl ?_ | refine AWo.pure (PureOp.bin rfl rfl rfl) rfl rfl ?_
                  refine AWo.pure (PureOp.assign rfl) rfl rfl ?_
                  refine AWo.nil trivial ?_
                  refine thenA_normal ?_
                  refine ⟨1 * r, [], _, by omega, ?_, y, r, ⟨by omega, hsm, hy2⟩, rfl, rfl⟩
                  refine Wk.of [10000] ?_ ?_ ?_ (by decide) rfl
                  ·
                    refine WkE.upd rfl (by first | exact VR.flat _ rfl | exact VR.eqv (vp_succ _) rfl | exact VR.eqv (vp_succ _).symm rfl | exact VR.eqv (by first | rfl | (congr 1; omega) | (simp; done) | (simp; omega)) rfl) ?_
                    refine WkE.upd rfl (.ptr (10000) 0 ⟨_, rfl⟩) ?_
                    refine WkE.upd rfl (clo_refl (by simp) rfl) ?_
                    refine WkE.upd rfl (clo_refl (by simp) rfl) ?_
                    refine WkE.upd rfl (clo_refl (by simp) rfl) ?_
                    refine WkE.upd rfl (by first | exact VR.flat _ rfl | exact VR.eqv (vp_succ _) rfl | exact VR.eqv (vp_succ _).symm rfl | exact VR.eqv (by first | rfl | (congr 1; omega) | (simp; done) | (simp; omega)) rfl) ?_
                    exact WkE.emp
                  ·
                    refine WkM.flat rfl (flatM flat_vi) (fun h => h) ?_
                    exact WkM.emp
                  ·
                    repeat (refine dom_upd_mem (by decide) ?_)
                    exact dom_emp
      ·
        obtain rfl : r = 0 := by simpa using hb0
        refine AW.exit ?_
        refine thenA_exit ?_
        refine thenA_exit ?_
        refine inBlockA_hit ?_
        refine thenA_normal ?_
        refine AW.seqR ?_
        refine AWo.pure (PureOp.move rfl) rfl rfl ?_
        refine AWo.buildSlice tbok 77000 [] (out := []) rfl rfl (by decide) rfl rfl rfl (by decide) rfl rfl rfl rfl rfl ?_
        refine AWo.sliceA tbok (h := 27) rfl .none .none rfl rfl rfl rfl (by decide) (by decide) (.inl rfl) (by simp [digs_len]) rfl rfl rfl ?_
        refine AWo.appendF tbok (cs := []) (news := (digs 4294967296 27 y).map (vi .u64)) (all := (digs 4294967296 27 y).map (vi .u64)) 79000 rfl rfl rfl rfl rfl (by show List.take _ (List.drop 0 _) = _; rw [List.drop_zero]; exact List.take_of_length_le (by simp [digs_len])) (by simp [digs_len]) (by decide) rfl rfl rfl (by decide) rfl rfl rfl (by decide) (by decide) (oneM (fun _ => rfl) _) rfl (cloM fun _ => rfl) rfl rfl ?_
        refine AWo.callX (v := dd y) (triml (l := digs 4294967296 27 y) (n := 0 + 27) (digs_bd (by decide) _ _) (digs_len _ _) (by decide)) bd89 [] [] rfl (.cons rfl .nil) rfl (.cons rfl rfl .nil) .nil rfl .nil frN (by decide) (.cons rfl rfl .nil) (by rw [num_digs_lt (Nat.lt_trans hyb b24_27)]; rfl) rfl rfl rfl ?_
        refine AWo.callX (v := dd (a * b % NG true)) (mod4_ctr (g := true) (x := y) (Nat.lt_of_le_of_lt (dlen24 hyb) (by decide))) bd23 [] [] rfl (.cons rfl (.cons rfl .nil)) rfl (.cons rfl rfl (.cons rfl rfl .nil)) .nil rfl .nil frN (by decide) (.cons rfl rfl .nil) (by rw [fin_mod hy hdv]; rfl) rfl rfl rfl ?_
        refine AWo.pure (PureOp.assign rfl) rfl rfl ?_
        refine AWo.nil trivial ?_
        refine AW.ret ?_
        refine RetQ.gc [_] [] [.tmp 6] (.inl rfl) rfl (.tmp rfl .nil) rfl (.cons rfl rfl .nil) trivial (by decide) rfl
theorem times4_ctr {g : Bool} {a b : Nat} (ha : (D 4294967296 a).length < 1000) (hb : b < B24) : GC Try.prog 62 [.bool g, dd a, dd b] [] [dd (a * b % NG g)] [] := times_ctr ha hb
theorem one_mod {N : Nat} (h : RN N) : 1 % N = 1 := Nat.mod_eq_of_lt (by have := rn_one h; rwa [rn_num h] at this)
theorem bl_zero {y : Nat} : y / 2 ^ blen y = 0 := by
  rcases Nat.eq_zero_or_pos (y / 2 ^ blen y) with h | h
  · exact h
  · have h1 := blen_half (x := y) (k := blen y) (by omega)
    have h2 : blen (y / 2 ^ blen y) = 0 := by omega
    have h3 : 0 < blen (y / 2 ^ blen y) := by generalize y / 2 ^ blen y = q at h; unfold blen; split <;> omega
    omega
theorem bl_top {x y : Nat} : x ^ (y / 2 ^ blen y) = 1 := by
  rw [bl_zero, Nat.pow_zero]
theorem bl_leN {N y : Nat} (h : (D 4294967296 y).length < N) : blen y ≤ 32 * N := by
  have h1 : y < 4294967296 ^ N := Nat.lt_of_lt_of_le ((D_len_le (B := 4294967296) (by decide) y _).1 (Nat.le_refl _)) (Nat.pow_le_pow_right (by decide) (Nat.le_of_lt h))
  exact blen_lt (Nat.lt_of_lt_of_eq h1 (by rw [show (4294967296 : Nat) = 2 ^ 32 from by decide, ← Nat.pow_mul]))
theorem bl_le {y : Nat} (h : (D 4294967296 y).length < 1000) : blen y ≤ 32000 := Nat.le_trans (bl_leN h) (by decide)
theorem exp4_ctr {g : Bool} {x y : Nat} (hx : (D 4294967296 x).length < 100000) (hy : (D 4294967296 y).length < 1000) : GC Try.prog 21 [.bool g, dd x, dd y] [] [dd (x ^ y % NG g)] [] := by
  refine GC.intro Try.func21 rfl (by show 3 ≤ 33; decide) (by first | exact Nat.le_refl _ | decide | simp) ?_
  refine AW.seqR ?_
  refine AWo.pure (PureOp.assign rfl) rfl rfl ?_
  refine AWo.nil trivial ?_
  refine AW.seqR ?_
  refine AWo.buildSliceF tbok 10000 [(0, vi .u64 1)] (out := [vi .u64 1]) rfl rfl (by decide) rfl rfl rfl (by decide) rfl rfl rfl rfl (fun x hx => by simp at hx; subst hx; rfl) rfl rfl ?_
  rw [one_deep]
  refine AWo.pure (PureOp.assign rfl) rfl rfl ?_
  refine AWo.nil trivial ?_
  refine AW.seqR ?_
  refine AWo.pure (PureOp.move rfl) rfl rfl ?_
  refine AWo.pure (PureOp.move rfl) rfl rfl ?_
  refine AWo.callX (mod4_ctr (g := g) (x := x) hx) bd23 [] [] rfl (.cons rfl (.cons rfl .nil)) rfl (.cons rfl rfl (.cons rfl rfl .nil)) .nil rfl .nil frN (by decide) (.cons rfl rfl .nil) rfl rfl rfl rfl ?_
  refine AWo.pure (PureOp.assign rfl) rfl rfl ?_
  refine AWo.nil trivial ?_
  refine AW.seq ?_
  have hbl := bl_le hy
  refine AW.seqR ?_
  refine AWo.pure (PureOp.move rfl) rfl rfl ?_
  refine AWo.callX (bitsd (x := y) (by omega)) bd84 [] [] rfl (.cons rfl .nil) rfl (.cons rfl rfl .nil) .nil rfl .nil frN (by decide) (.cons rfl rfl .nil) rfl rfl rfl rfl ?_
  first | refine AWo.pure ((PureOp.subI (b := 1) rfl rfl (by first | decide | omega) (by first | decide | omega)).mono (v' := vp (blen y)) (by first | rfl | (simp only [vp, vi]; congr 1; omega))) rfl rfl ?_ | refine AWo.pure ((PureOp.subP rfl rfl (by first | decide | omega)).mono (v' := vp (blen y)) (by first | rfl | (simp only [vp, vi]; congr 1; omega))) rfl rfl ?_ | refine AWo.pure ((PureOp.bin rfl rfl rfl).mono (v' := vp (blen y)) (by first | rfl | (simp only [vp, vi]; congr 1; omega))) rfl rfl ?_
  refine AWo.pure (PureOp.assign rfl) rfl rfl ?_
  refine AWo.nil trivial ?_
  refine AW.block ?_
  refine AW.loopw (fun mm σ => ∃ z, ∃ r, (r ≤ blen y ∧ z < 18446744073709551616 ^ 12 ∧ z = x ^ (y / 2 ^ r) % NG g) ∧ mm = 1 * r ∧ σ = ⟨(upd (upd (upd (upd (upd emp 0 (.bool g)) 1 (dd (x % NG g))) 2 (dd y)) 7 (dd z)) 8 (vp r)), emp⟩) (fm := []) ?_ ⟨1, blen y, ⟨Nat.le_refl _, by decide +kernel, by rw [bl_top]; exact (one_mod (rn_g g)).symm⟩, rfl, rfl⟩ ?_
  ·
    refine Wk.of [] ?_ ?_ ?_ (by decide) rfl
    ·
      refine WkE.upd rfl (by first | exact VR.flat _ rfl | exact VR.eqv (vp_succ _) rfl | exact VR.eqv (vp_succ _).symm rfl | exact VR.eqv (by first | rfl | (congr 1; omega) | (simp; done) | (simp; omega)) rfl) ?_
      refine WkE.upd rfl (clo_refl (by simp) rfl) ?_
      refine WkE.upd rfl (clo_refl (by simp) rfl) ?_
      refine WkE.upd rfl (clo_refl (by simp) rfl) ?_
      refine WkE.upd rfl (by first | exact VR.flat _ rfl | exact VR.eqv (vp_succ _) rfl | exact VR.eqv (vp_succ _).symm rfl | exact VR.eqv (by first | rfl | (congr 1; omega) | (simp; done) | (simp; omega)) rfl) ?_
      exact WkE.emp
    ·
      exact WkM.emp
    ·
      repeat (refine dom_upd_mem (by decide) ?_)
      exact dom_emp
  ·
    rintro mm σ ⟨z, r, ⟨hr0, hz12, hz⟩, rfl, rfl⟩
    have hbl := bl_le hy
    refine AW.seq ?_
    refine AW.seqR ?_
    refine AWo.pure (PureOp.move rfl) rfl rfl ?_
    first | refine AWo.pure (PureOp.geP rfl rfl) rfl rfl ?_ | refine AWo.pure (PureOp.geN (b := 0) rfl rfl) rfl rfl ?_ | refine AWo.pure (PureOp.bin rfl rfl rfl) rfl rfl ?_
    refine AWo.nil trivial ?_
    refine AW.cond rfl (fun hb0 => ?_) (fun hb0 => ?_)
    ·
      have hp0 : 0 < r := by simpa using hb0
      obtain ⟨r, rfl⟩ : ∃ q, r = q + 1 := ⟨r - 1, by omega⟩
      rw [vp_succ]
      refine AW.skip ?_
      refine thenA_normal ?_
      refine AW.seq ?_
      refine AW.block ?_
      refine AW.seqR ?_
      refine AWo.pure (PureOp.move rfl) rfl rfl ?_
      refine AWo.pure (PureOp.move rfl) rfl rfl ?_
      refine AWo.pure (PureOp.move rfl) rfl rfl ?_
      refine AWo.callX (times4_ctr (g := g) (a := z) (b := z) (num_rm3 hz12) (b24_w ▸ hz12)) bd62 [] [] rfl (.cons rfl (.cons rfl (.cons rfl .nil))) rfl (.cons rfl rfl (.cons rfl rfl (.cons rfl rfl .nil))) .nil rfl .nil frN (by decide) (.cons rfl rfl .nil) rfl rfl rfl rfl ?_
      refine AWo.pure (PureOp.assign rfl) rfl rfl ?_
      refine AWo.nil trivial ?_
      refine AW.seqR ?_
      refine AWo.pure (PureOp.move rfl) rfl rfl ?_
      refine AWo.pure (PureOp.move rfl) rfl rfl ?_
      refine AWo.callX (bitd (x := y) (i := r) (by omega)) bd85 [] [] rfl (.cons rfl (.cons rfl .nil)) rfl (.cons rfl rfl (.cons rfl rfl .nil)) .nil rfl .nil frN (by decide) (.cons rfl rfl .nil) rfl rfl rfl rfl ?_
      first | refine AWo.pure (PureOp.eqN (b := 1) rfl rfl) rfl rfl ?_ | refine AWo.pure (PureOp.bin rfl rfl rfl) rfl rfl ?_
      refine AWo.nil trivial ?_
      refine AW.cond rfl (fun hb1 => ?_) (fun hb1 => ?_)
      ·
        have hb : y / 2 ^ r % 2 = 1 := by simpa using hb1
        refine AW.region ?_
        refine AWo.pure (PureOp.move rfl) rfl rfl ?_
        refine AWo.pure (PureOp.move rfl) rfl rfl ?_
        refine AWo.pure (PureOp.move rfl) rfl rfl ?_
        refine AWo.callX (times4_ctr (g := g) (a := z * z % NG g) (b := x % NG g) (num_rm3 (mod_lt12 (rn_g g) _)) (b24_w ▸ mod_lt12 (rn_g g) _)) bd62 [] [] rfl (.cons rfl (.cons rfl (.cons rfl .nil))) rfl (.cons rfl rfl (.cons rfl rfl (.cons rfl rfl .nil))) .nil rfl .nil frN (by decide) (.cons rfl rfl .nil) rfl rfl rfl rfl ?_
        refine AWo.pure (PureOp.assign rfl) rfl rfl ?_
        refine AWo.nil trivial ?_
        refine inBlockA_normal ?_
        refine thenA_normal ?_
        refine AW.region ?_
        refine AWo.pure (PureOp.move rfl) rfl rfl ?_
        first | refine AWo.pure (PureOp.subI (b := 1) rfl rfl (by first | decide | omega) (by first | decide | omega)) rfl rfl ?_ | refine AWo.pure (PureOp.subP rfl rfl (by first | decide | omega)) rfl rfl ?_ | refine AWo.pure (PureOp.bin rfl rfl rfl) rfl rfl ?_
        refine AWo.pure (PureOp.assign rfl) rfl rfl ?_
        refine AWo.nil trivial ?_
        refine thenA_normal ?_
        refine ⟨1 * r, [], _, by omega, ?_, z * z % NG g * (x % NG g) % NG g, r, ⟨by omega, mod_lt12 (rn_g g) _, exp_odd hz hb⟩, rfl, rfl⟩
        refine Wk.of [] ?_ ?_ ?_ (by decide) rfl
        ·
          refine WkE.upd rfl (by first | exact VR.flat _ rfl | exact VR.eqv (vp_succ _) rfl | exact VR.eqv (vp_succ _).symm rfl | exact VR.eqv (by first | rfl | (congr 1; omega) | (simp; done) | (simp; omega)) rfl) ?_
          refine WkE.upd rfl (clo_refl (by simp) rfl) ?_
          refine WkE.upd rfl (clo_refl (by simp) rfl) ?_
          refine WkE.upd rfl (clo_refl (by simp) rfl) ?_
          refine WkE.upd rfl (by first | exact VR.flat _ rfl | exact VR.eqv (vp_succ _) rfl | exact VR.eqv (vp_succ _).symm rfl | exact VR.eqv (by first | rfl | (congr 1; omega) | (simp; done) | (simp; omega)) rfl) ?_
          exact WkE.emp
        ·
          exact WkM.emp
        ·
          repeat (refine dom_upd_mem (by decide) ?_)
          exact dom_emp
      ·
        have hb : ¬ y / 2 ^ r % 2 = 1 := by simpa using hb1
        refine AW.skip ?_
        refine inBlockA_normal ?_
        refine thenA_normal ?_
        refine AW.region ?_
        refine AWo.pure (PureOp.move rfl) rfl rfl ?_
        first | refine AWo.pure (PureOp.subI (b := 1) rfl rfl (by first | decide | omega) (by first | decide | omega)) rfl rfl ?_ | refine AWo.pure (PureOp.subP rfl rfl (by first | decide | omega)) rfl rfl ?_ | refine AWo.pure (PureOp.bin rfl rfl rfl) rfl rfl ?_
        refine AWo.pure (PureOp.assign rfl) rfl rfl ?_
        refine AWo.nil trivial ?_
        refine thenA_normal ?_
        refine ⟨1 * r, [], _, by omega, ?_, z * z % NG g, r, ⟨by omega, mod_lt12 (rn_g g) _, exp_even hz hb⟩, rfl, rfl⟩
        refine Wk.of [] ?_ ?_ ?_ (by decide) rfl
        ·
          refine WkE.upd rfl (by first | exact VR.flat _ rfl | exact VR.eqv (vp_succ _) rfl | exact VR.eqv (vp_succ _).symm rfl | exact VR.eqv (by first | rfl | (congr 1; omega) | (simp; done) | (simp; omega)) rfl) ?_
          refine WkE.upd rfl (clo_refl (by simp) rfl) ?_
          refine WkE.upd rfl (clo_refl (by simp) rfl) ?_
          refine WkE.upd rfl (clo_refl (by simp) rfl) ?_
          refine WkE.upd rfl (by first | exact VR.flat _ rfl | exact VR.eqv (vp_succ _) rfl | exact VR.eqv (vp_succ _).symm rfl | exact VR.eqv (by first | rfl | (congr 1; omega) | (simp; done) | (simp; omega)) rfl) ?_
          exact WkE.emp
        ·
          exact WkM.emp
        ·
          repeat (refine dom_upd_mem (by decide) ?_)
          exact dom_emp
    ·
      obtain rfl : r = 0 := by simpa using hb0
      rw [Nat.pow_zero, Nat.div_one] at hz
      subst hz
      refine AW.exit ?_
      refine thenA_exit ?_
      refine thenA_exit ?_
      refine inBlockA_hit ?_
      refine thenA_normal ?_
      refine AW.seqR ?_
      refine AWo.pure (PureOp.move rfl) rfl rfl ?_
      refine AWo.pure (PureOp.assign rfl) rfl rfl ?_
      refine AWo.nil trivial ?_
      refine AW.ret ?_
      refine RetQ.gc [_] [] [.tmp 6] (.inl rfl) rfl (.tmp rfl .nil) rfl (.cons rfl rfl .nil) trivial (by decide) rfl
end Go.Proofs.Ytpahdiljpnfkdaa
