/- What the proof stands on, part 7: the walk of each function, and plain laws of numbers. -/
import Derived.Test.YtlfadlfjjkppfaaGreatDoorK6
import Derived.Test.YtlfadlfjjkppfaaGreatDoorRows
import Derived.ProofKit
namespace Go.Proofs.YtlfadlfjjkppfaaGreatDoor
open Go Sim
set_option maxRecDepth 10000
def pL0 : List It := [⟨1, 1, 1, []⟩, ⟨2, 3, 1, []⟩]
theorem prs_pat : prs 1024 patB = (pL0, 0) := by kernel_rfl
def tagL : List Nat := [174, 238, 55, 155, 190, 167, 47, 248, 248, 208, 150, 211, 50, 217, 6, 59, 13, 219, 141, 167, 72, 35, 42, 161, 17, 120, 160, 60, 83, 20, 154, 57]
theorem tagL_eq : tagB kecF 1 pL0 = tagL := by decide +kernel
def spS0 : Sp Nat := ⟨List.replicate 136 0 ++ tagL ++ List.replicate 32 0, 0, 136, 0⟩
def spT (d : Nat) : List Nat := [1, 1, 1, 0, 0, 0, d, 2, 3, 1, 0, 0, 0] ++ List.replicate 123 0 ++ tagL ++ List.replicate 32 0
def spP7 : List Nat := [119, 191, 199, 152, 193, 238, 2, 195, 240, 90, 169, 227, 190, 146, 244, 243, 165, 49, 103, 10, 140, 86, 43, 254, 155, 123, 53, 107, 234, 203, 80, 112, 95, 59, 125, 197, 115, 249, 248, 242, 167, 224, 157, 121, 28, 196, 13, 40, 240, 146, 28, 200, 233, 67, 76, 205, 235, 109, 171, 99, 170, 159, 49, 19, 248, 190, 29, 162, 89, 70, 122, 99, 123, 52, 7, 228, 143, 152, 5, 30, 177, 187, 221, 64, 188, 219, 175, 13, 169, 224, 103, 116, 52, 0, 72, 70, 247, 100, 47, 86, 76, 60, 45, 122, 218, 58, 159, 22, 233, 37, 33, 238, 127, 27, 192, 118, 149, 201, 88, 201, 173, 164, 210, 144, 226, 46, 46, 206, 128, 222, 124, 188, 81, 197, 193, 13, 147, 149, 14, 53, 216, 46, 96, 223, 231, 93, 134, 90, 227, 91, 133, 137, 172, 17, 125, 106, 40, 182, 71, 179, 203, 175, 39, 101, 209, 209, 194, 154, 242, 167, 246, 56, 107, 167, 164, 213, 218, 99, 17, 23, 164, 22, 21, 183, 198, 86, 208, 123, 186, 152, 138, 100, 149, 161, 0, 162, 169, 182, 39, 254]
theorem spP7_eq : kecB (spT 7) = spP7 := by decide +kernel
def spP8 : List Nat := [156, 42, 83, 246, 253, 134, 37, 83, 20, 236, 206, 84, 45, 45, 247, 76, 118, 199, 158, 237, 236, 122, 232, 232, 113, 101, 175, 6, 232, 113, 147, 64, 123, 168, 39, 166, 19, 73, 61, 45, 75, 34, 42, 161, 3, 180, 72, 93, 200, 150, 110, 40, 246, 91, 119, 35, 177, 217, 228, 101, 240, 78, 40, 180, 251, 80, 168, 192, 204, 24, 98, 151, 126, 128, 5, 122, 164, 55, 32, 245, 75, 122, 106, 67, 25, 172, 64, 35, 44, 67, 199, 176, 134, 73, 216, 91, 181, 31, 230, 93, 62, 76, 7, 14, 255, 178, 164, 7, 255, 221, 4, 184, 62, 204, 197, 117, 18, 185, 59, 191, 108, 168, 198, 58, 73, 101, 32, 55, 252, 178, 241, 219, 79, 77, 224, 23, 175, 28, 124, 187, 55, 253, 165, 156, 184, 227, 153, 161, 115, 169, 4, 57, 209, 221, 174, 133, 119, 24, 125, 173, 225, 221, 171, 3, 80, 30, 128, 98, 126, 237, 41, 86, 236, 139, 186, 179, 202, 34, 30, 218, 49, 139, 130, 212, 9, 116, 255, 169, 145, 100, 148, 164, 80, 225, 64, 110, 25, 92, 95, 182]
theorem spP8_eq : kecB (spT 8) = spP8 := by decide +kernel
end Go.Proofs.YtlfadlfjjkppfaaGreatDoor
namespace Go.Proofs.YtlfadlfjjkppfaaGreatDoor
open Go Sim
set_option maxRecDepth 10000
theorem gives_T {π : List Nat → List Nat} {s : Sp Nat} {X : List Nat} (h : s.o = 136) (hX : π s.st = X) : ∀ n, n < 136 → Sp.gives 136 π (n + 1) s = ⟨X, 0, n + 1, s.c + 1⟩
  | 0, _ => by rw [Sp.gives, Sp.gives, Sp.give1_T h, hX]
  | n + 1, hn => by rw [Sp.gives, gives_T h hX n (by omega), Sp.give1_F (by show n + 1 ≠ 136; omega)]
theorem outs_T {π : List Nat → List Nat} {s : Sp Nat} {X : List Nat} (h : s.o = 136) (hX : π s.st = X) : ∀ n, n ≤ 136 → Sp.outs 136 π 0 n s = (List.range n).map fun i => X.getD i 0
  | 0, _ => rfl
  | n + 1, hn => by
    rw [Sp.outs, outs_T h hX n (by omega), List.range_succ, List.map_append]
    congr 1
    match n, hn with
    | 0, _ => rw [Sp.gives, Sp.out1_T h, hX]; rfl
    | k + 1, hn => rw [gives_T h hX k (by omega), Sp.out1_F (by show k + 1 ≠ 136; omega)]; rfl
def GD0 : Gd := ⟨pL0, 0, 0⟩
def GD1 : Gd := ⟨pL0, 1, 0⟩
def GD2 : Gd := ⟨pL0, 2, 0⟩
theorem spS0_ok : Sp.Ok 136 200 bQ spS0 := ⟨by decide, fun x hx => by
  have h : ∀ x ∈ spS0.st, x < 256 := by decide +kernel
  exact h x hx, by decide, by decide⟩
theorem ck1 (d : Nat) : ckC 1 [d] = 0 := ck_ok (show cC 1 1 = 0 by decide) fun i _ => by
  unfold vC; rw [if_neg (by decide), if_neg (by decide)]
theorem toB1 (d : Nat) : toB ⟨1, 1, 1, [d]⟩ = [1, 1, 1, 0, 0, 0, d] := by
  unfold toB
  rw [if_pos ⟨show itC 1 1 1 = 0 by decide, by rw [if_pos rfl]; exact ⟨show (1 : Int) = ((cN 1 1 : Nat) : Int) by decide, ck1 d⟩⟩]; kernel_rfl
theorem toB2 : toB ⟨2, 3, 1, []⟩ = [2, 3, 1, 0, 0, 0] := by
  unfold toB
  rw [if_pos ⟨show itC 2 3 1 = 0 by decide, by rw [if_neg (by decide)]⟩]; kernel_rfl
theorem nx0 : nxC GD0 1 1 1 = 0 := by kernel_rfl
theorem nx1 : nxC GD1 2 3 1 = 0 := by kernel_rfl
theorem gx0 : gNx GD0 1 1 1 = GD1 := by kernel_rfl
theorem gx1 : gNx GD1 2 3 1 = GD2 := by kernel_rfl
theorem fn2 : fnC GD2 = 0 := by kernel_rfl
def spS1 (d : Nat) : Sp Nat := Sp.takes 136 kecB spS0 [1, 1, 1, 0, 0, 0, d]
theorem spS1_ok {d : Nat} (hd : d < 256) : Sp.Ok 136 200 bQ (spS1 d) := spS0_ok.takes turnB fun x hx => by
  simp only [List.mem_cons, List.not_mem_nil, or_false] at hx
  unfold bQ; omega
theorem spS1_c (d : Nat) : (spS1 d).c ≤ 7 := Nat.le_trans (Sp.takes_c (R := 136) (π := kecB) _ _) (by show 0 + 7 ≤ 7; decide)
theorem ab0 (d : Nat) : abC GD0 1 [d] = 0 ∧ abG GD0 1 [d] = GD1 ∧ abS kecB GD0 spS0 1 [d] = spS1 d := by
  obtain ⟨e1, e2, e3⟩ := ab_4 (π := kecB) (g := GD0) (s := spS0) (t := 1) (d := [d]) rfl (show cC 1 1 = 0 by decide) (n := 1) (show cN 1 1 = 1 by decide) nx0 (ck1 d)
  refine ⟨e1, ?_, ?_⟩
  · rw [e2, gFl_0]; exact gx0
  · rw [e3, if_pos rfl]; unfold tellB; rw [show ((1 : Nat) : Int) = 1 from rfl, toB1]; rfl
theorem hN0 : GC Tryz.prog 12 [vi .i64 1, db patB] [] [.pointer (some ⟨0, 0, none⟩), .int .i64 (-1), vi .i64 0] [⟨trC 112 1 2 tagL, true, 1⟩, ⟨[dI pL0, vi .i64 0, wrV 0], true, 1⟩, ⟨[.iface 213 (.agg #[]), .slice (some ⟨3, 0, none⟩) 200 0, vi .i64 spS0.i, vi .i64 spS0.o, vi .i64 spS0.c], true, 1⟩, ⟨spS0.st.map (vi .u8), true, 1⟩] := by
  have h := tnewB_ctr permF (p := patB) (L := pL0) (by unfold bd; decide) (by decide) prs_pat
  rw [tagL_eq] at h
  exact h
theorem hA0 {d : Nat} (hd : d < 256) : GC Tryz.prog 91 [.agg #[.int .i64 0, .int .i64 1, .int .i64 0, db [d]], .pointer (some ⟨0, 0, none⟩)] [⟨trC 112 1 2 tagL, false, 1⟩, ⟨[dI pL0, vi .i64 0, wrV 0], true, 1⟩, ⟨[.iface 213 (.agg #[]), .slice (some ⟨3, 0, none⟩) 200 0, vi .i64 spS0.i, vi .i64 spS0.o, vi .i64 spS0.c], true, 1⟩, ⟨spS0.st.map (vi .u8), true, 1⟩] [.agg #[vi .i64 0, .slice none 0 0]] [⟨trC 112 1 2 tagL, false, 1⟩, ⟨[dI pL0, vi .i64 1, wrV 0], true, 1⟩, ⟨[.iface 213 (.agg #[]), .slice (some ⟨3, 0, none⟩) 200 0, vi .i64 (spS1 d).i, vi .i64 (spS1 d).o, vi .i64 (spS1 d).c], true, 1⟩, ⟨(spS1 d).st.map (vi .u8), true, 1⟩] := by
  have h := doA_ctr (tag := tagL) (t := 1) (n := 0) (g := GD0) (s := spS0) (d := [d]) permB (by decide) (by decide) spS0_ok (fun x hx => by rw [List.mem_singleton.1 hx]; exact hd) (show 1 < 200000000 by decide) (by decide)
  obtain ⟨e1, e2, e3⟩ := ab0 d
  rw [e1, e2, e3] at h
  exact h
theorem hF0 {s : Sp Nat} : GC Tryz.prog 91 [.agg #[.int .i64 4, .int .i64 0, .int .i64 0, .slice none 0 0], .pointer (some ⟨0, 0, none⟩)] [⟨trC 112 1 2 tagL, false, 1⟩, ⟨[dI pL0, vi .i64 2, wrV 0], true, 1⟩, ⟨[.iface 213 (.agg #[]), .slice (some ⟨3, 0, none⟩) 200 0, vi .i64 s.i, vi .i64 s.o, vi .i64 s.c], false, 1⟩, ⟨s.st.map (vi .u8), false, 1⟩] [.agg #[vi .i64 0, .slice none 0 0]] [⟨trC 112 1 2 tagL, false, 1⟩, ⟨[dI pL0, vi .i64 2, wrV 0], true, 1⟩, ⟨[.iface 213 (.agg #[]), .slice (some ⟨3, 0, none⟩) 200 0, vi .i64 s.i, vi .i64 s.o, vi .i64 s.c], false, 1⟩, ⟨s.st.map (vi .u8), false, 1⟩] := by
  have h := doF_ctr (tag := tagL) (t := 0) (n := 0) (g := GD2) (s := s)
  rw [fn2] at h
  exact h
theorem hC0 {d v : Nat} {S : Sp Nat} (hd : d < 256) (h2 : tellB kecB (spS1 d) ⟨2, 3, 1, []⟩ = S) (hv : sv kecB 0 S = v) (hlt : v < 21888242871839275222246405745257275088548364400416034343698204186575808495617) : ∃ s2 : Sp Nat, GC Tryz.prog 91 [.agg #[.int .i64 2, .int .i64 0, .int .i64 1, .slice none 0 0], .pointer (some ⟨0, 0, none⟩)] [⟨trC 112 1 2 tagL, false, 1⟩, ⟨[dI pL0, vi .i64 1, wrV 0], true, 1⟩, ⟨[.iface 213 (.agg #[]), .slice (some ⟨3, 0, none⟩) 200 0, vi .i64 (spS1 d).i, vi .i64 (spS1 d).o, vi .i64 (spS1 d).c], true, 1⟩, ⟨(spS1 d).st.map (vi .u8), true, 1⟩] [.agg #[vi .i64 0, db (digs 256 32 (fp v).val)]] [⟨trC 112 1 2 tagL, false, 1⟩, ⟨[dI pL0, vi .i64 2, wrV 0], true, 1⟩, ⟨[.iface 213 (.agg #[]), .slice (some ⟨3, 0, none⟩) 200 0, vi .i64 s2.i, vi .i64 s2.o, vi .i64 s2.c], true, 1⟩, ⟨s2.st.map (vi .u8), true, 1⟩] := by
  have hj : fJ kecB S < 64 := by
    unfold fJ; rw [fidx_is S (n := 64) (j := 0) (by decide) (fun i hi => by cases hi) (by rw [hv]; exact hlt)]; decide
  have hj0 : fJ kecB S = 0 := fidx_is S (n := 64) (j := 0) (by decide) (fun i hi => by cases hi) (by rw [hv]; exact hlt)
  obtain ⟨e1, _, e3, _⟩ := sk_pos hj
  rw [hj0, hv] at e1
  have hd0 : dC' kecB 1 S = 0 := (d_all fun i hi => by
    have : i = 0 := by omega
    subst this
    exact e3).1
  have hi : itF kecB 1 S = [fp v] := by rw [← e1]; rfl
  have hc := spS1_c d
  have h := tchY_ctr permB (tag := tagL) (g := GD1) (s := spS1 d) (z := 1) (by decide) ⟨⟨by decide, by decide⟩, by decide⟩ (by decide) (spS1_ok hd) (by omega) nx1 (by rw [h2]; exact hd0)
  have eG : chG kecB GD1 (spS1 d) 1 = GD2 := by
    unfold chG
    rw [if_neg (fun h => h nx1), h2, show sqN 1 = 1 from rfl, hd0, gFl_0]; exact gx1
  obtain ⟨s2, hs2⟩ : ∃ s2, chS kecB GD1 (spS1 d) 1 = s2 := ⟨_, rfl⟩
  refine ⟨s2, ?_⟩
  rw [h2, show sqN 1 = 1 from rfl, hi, eG, hs2] at h
  rw [show (([fp v].map fe).flatten) = fe (fp v) by simp] at h
  exact doC_ctr (G := GD2) (x := fp v) (t := 0) h
theorem play0 {d v : Nat} {S : Sp Nat} (hd : d < 256) (h2 : tellB kecB (spS1 d) ⟨2, 3, 1, []⟩ = S) (hv : sv kecB 0 S = v) (hlt : v < 21888242871839275222246405745257275088548364400416034343698204186575808495617) : GC Tryz.prog 40 [.agg #[vi .i64 1, db patB, .slice (some ⟨0, 0, none⟩) 3 0]] [⟨([vi .i64 0, vi .i64 1, .int .i64 0, db [d], vi .i64 2, .int .i64 0, vi .i64 1, .slice none 0 0, vi .i64 4, .int .i64 0, .int .i64 0, .slice none 0 0]), false, 4⟩] [.slice (some ⟨1, 0, none⟩) 3 0, .int .i64 (-1), vi .i64 0] [⟨([vi .i64 0, vi .i64 1, .int .i64 0, db [d], vi .i64 2, .int .i64 0, vi .i64 1, .slice none 0 0, vi .i64 4, .int .i64 0, .int .i64 0, .slice none 0 0]), false, 4⟩, ⟨([vi .i64 0, .slice none 0 0, vi .i64 0, db (digs 256 32 (fp v).val), vi .i64 0, .slice none 0 0]), true, 2⟩] := by
  obtain ⟨s2, hC⟩ := hC0 hd h2 hv hlt
  exact play_ctr hN0 (hA0 hd) hC hF0
def spV7 : Nat := 21853771871605392762467335335119898471817862399485148236894783059929674006391
theorem tell7 : tellB kecB (spS1 7) ⟨2, 3, 1, []⟩ = ⟨spT 7, 13, 136, 0⟩ := by
  unfold tellB spS1; rw [toB2]
  kernel_rfl
theorem sv7 : sv kecB 0 ⟨spT 7, 13, 136, 0⟩ = spV7 := by
  unfold sv blkB
  rw [bks, outs_T (s := ⟨spT 7, 13, 136, 0⟩) rfl spP7_eq 32 (by decide)]
  decide +kernel
theorem play7 : GC Tryz.prog 40 [.agg #[vi .i64 1, db patB, .slice (some ⟨0, 0, none⟩) 3 0]] [⟨([vi .i64 0, vi .i64 1, .int .i64 0, db [7], vi .i64 2, .int .i64 0, vi .i64 1, .slice none 0 0, vi .i64 4, .int .i64 0, .int .i64 0, .slice none 0 0]), false, 4⟩] [.slice (some ⟨1, 0, none⟩) 3 0, .int .i64 (-1), vi .i64 0] [⟨([vi .i64 0, vi .i64 1, .int .i64 0, db [7], vi .i64 2, .int .i64 0, vi .i64 1, .slice none 0 0, vi .i64 4, .int .i64 0, .int .i64 0, .slice none 0 0]), false, 4⟩, ⟨([vi .i64 0, .slice none 0 0, vi .i64 0, db (digs 256 32 (fp spV7).val), vi .i64 0, .slice none 0 0]), true, 2⟩] := play0 (by decide) tell7 sv7 (by decide)
def spV8 : Nat := 260512671271264199265159988940520699264073844560642577268674968892518640284
theorem tell8 : tellB kecB (spS1 8) ⟨2, 3, 1, []⟩ = ⟨spT 8, 13, 136, 0⟩ := by
  unfold tellB spS1; rw [toB2]
  kernel_rfl
theorem sv8 : sv kecB 0 ⟨spT 8, 13, 136, 0⟩ = spV8 := by
  unfold sv blkB
  rw [bks, outs_T (s := ⟨spT 8, 13, 136, 0⟩) rfl spP8_eq 32 (by decide)]
  decide +kernel
theorem play8 : GC Tryz.prog 40 [.agg #[vi .i64 1, db patB, .slice (some ⟨0, 0, none⟩) 3 0]] [⟨([vi .i64 0, vi .i64 1, .int .i64 0, db [8], vi .i64 2, .int .i64 0, vi .i64 1, .slice none 0 0, vi .i64 4, .int .i64 0, .int .i64 0, .slice none 0 0]), false, 4⟩] [.slice (some ⟨1, 0, none⟩) 3 0, .int .i64 (-1), vi .i64 0] [⟨([vi .i64 0, vi .i64 1, .int .i64 0, db [8], vi .i64 2, .int .i64 0, vi .i64 1, .slice none 0 0, vi .i64 4, .int .i64 0, .int .i64 0, .slice none 0 0]), false, 4⟩, ⟨([vi .i64 0, .slice none 0 0, vi .i64 0, db (digs 256 32 (fp spV8).val), vi .i64 0, .slice none 0 0]), true, 2⟩] := play0 (by decide) tell8 sv8 (by decide)
theorem spV_ne : digs 256 32 (fp spV7).val ≠ digs 256 32 (fp spV8).val := by decide +kernel
end Go.Proofs.YtlfadlfjjkppfaaGreatDoor
namespace Go.Proofs.YtlfadlfjjkppfaaGreatDoor
open Go Sim
set_option maxRecDepth 10000
theorem speaks_ctr : GC Tryz.prog 10 [] [] [.bool true] [] := by
 have p7 := play7
 have p8 := play8
 have rne := spV_ne
 have l7 : (digs 256 32 (fp spV7).val).length = 32 := digs_len (B := 256) _ _
 have l8 : (digs 256 32 (fp spV8).val).length = 32 := digs_len (B := 256) _ _
 have b7 : ∀ x ∈ digs 256 32 (fp spV7).val, x < 256 := digs_bd (by decide) _ _
 have b8 : ∀ x ∈ digs 256 32 (fp spV8).val, x < 256 := digs_bd (by decide) _ _
 generalize digs 256 32 (fp spV7).val = r7 at p7 rne l7 b7
 generalize digs 256 32 (fp spV8).val = r8 at p8 rne l8 b8
 refine GC.intro Tryz.func10 rfl (by show 0 ≤ 90; decide) (Nat.le_of_ble_eq_true rfl) ?_
 refine zS ?_
 refine yA ?_
 refine zN (zS ?_)
 refine AWo.buildSlice tbok 10000 [(0, vi .u8 1), (1, vi .u8 16), (2, vi .u8 0), (3, vi .u8 1), (4, vi .u8 1), (5, vi .u8 1), (6, vi .u8 0), (7, vi .u8 0), (8, vi .u8 0), (9, vi .u8 0), (10, vi .u8 0), (11, vi .u8 2), (12, vi .u8 3), (13, vi .u8 1), (14, vi .u8 0), (15, vi .u8 0), (16, vi .u8 0), (17, vi .u8 0), (18, vi .u8 0), (19, vi .u8 0), (20, vi .u8 1), (21, vi .u8 1), (22, vi .u8 0), (23, vi .u8 7), (24, vi .u8 2), (25, vi .u8 1), (26, vi .u8 0), (27, vi .u8 4)] (out := [vi .u8 1, vi .u8 16, vi .u8 0, vi .u8 1, vi .u8 1, vi .u8 1, vi .u8 0, vi .u8 0, vi .u8 0, vi .u8 0, vi .u8 0, vi .u8 2, vi .u8 3, vi .u8 1, vi .u8 0, vi .u8 0, vi .u8 0, vi .u8 0, vi .u8 0, vi .u8 0, vi .u8 1, vi .u8 1, vi .u8 0, vi .u8 7, vi .u8 2, vi .u8 1, vi .u8 0, vi .u8 4]) rfl rfl (by decide) rfl rfl rfl (by decide) rfl rfl rfl rfl rfl ?_
 refine yA ?_
 refine zN ?_
 refine AW.freeze 1 10000 (o := 0) (n := 28) (es := 1) (cells := scrB.map (vi .u8)) (scrB.map (vi .u8)) ?_ rfl rfl (cloM fun _ => rfl) (by decide) rfl
 rw [show deep 28 1 (scrB.map (vi .u8)) = db scrB from rfl]
 refine zS ?_
 refine yM ?_
 refine yC (v := .tuple #[.agg #[vi .i64 1, db patB, .slice (some ⟨13000, 0, none⟩) 3 0], vi .i64 0]) (decode_ctr) bd39 [] [13000] ?_ (hargs := (.clo rfl .nil)) (hnew := (.new (clo_map_ren (calls_clo _)) (OkL.clo (calls_clo _)) .nil))
 refine yM ?_
 refine yP pX ?_
 refine yP pX ?_
 refine yN 3000 1 _ ?_
 refine AWo.storeAllN (vs := [vi .i64 1, db patB, .slice (some ⟨13000, 0, none⟩) 3 0]) tbok rfl rfl rfl rfl rfl rfl rfl rfl ?_
 refine yA ?_
 refine zN (zQ (zS ?_))
 refine yM ?_
 refine yP ((PureOp.neN (b := 0) rfl rfl).mono (v' := .bool false) (congrArg Value.bool (rfl))) ?_
 refine yM ?_
 refine yP pF ?_
 refine AWo.load tbok (v := .slice (some ⟨13000, 0, none⟩) 3 0) rfl rfl rfl rfl rfl rfl ?_
 refine yP pL ?_
 refine yP ((PureOp.neN (b := 3) rfl rfl).mono (v' := .bool false) (congrArg Value.bool (rfl))) ?_
 refine yP pE ?_
 refine zN (zF (zK (zT (zS ?_))))
 refine AWo.loadAll (cells := [vi .i64 1, db patB, .slice (some ⟨13000, 0, none⟩) 3 0]) tbok rfl rfl rfl rfl rfl rfl rfl ?_
 refine yC (p7) bd40 [(13000, 0)] [26000] ?_ (hfit := (.clo rfl (calls_clo _) (by intro h; rfl) .nil)) (hnew := (.keep rfl (.new (clo_map_ren (ans_clo _)) (OkL.clo (ans_clo _)) .nil)))
 refine yM ?_
 refine yP pX ?_
 refine yP pX ?_
 refine yP pX ?_
 refine yA ?_
 refine yA ?_
 refine yA ?_
 refine zN (zS ?_)
 refine yP pF ?_
 refine AWo.load tbok (v := .slice (some ⟨13000, 0, none⟩) 3 0) rfl rfl rfl rfl rfl rfl ?_
 refine AWo.buildSlice tbok 32000 [(0, vi .u8 8)] (out := [vi .u8 8]) rfl rfl (by decide) rfl rfl rfl (by decide) rfl rfl rfl rfl rfl ?_
 refine yP (PureOp.idx (j := 0) tbok rfl rfl rfl rfl (by decide)) ?_
 refine yP pF ?_
 refine AWo.store1 tbok (v := .slice (some ⟨32000, 0, none⟩) 1 0) rfl rfl rfl rfl rfl (of_decide_eq_true rfl) rfl rfl ?_
 refine zN ?_
 refine AW.freezeC 13000 32000 3 [vi .u8 8] ([vi .i64 0, vi .i64 1, .int .i64 0, db [8], vi .i64 2, .int .i64 0, vi .i64 1, .slice none 0 0, vi .i64 4, .int .i64 0, .int .i64 0, .slice none 0 0]) rfl rfl rfl rfl (by decide) (by decide) (by decide) rfl ?_
 refine zS ?_
 refine AWo.loadAll (cells := [vi .i64 1, db patB, .slice (some ⟨13000, 0, none⟩) 3 0]) tbok rfl rfl rfl rfl rfl rfl rfl ?_
 refine yC (p8) bd40 [(13000, 0)] [37000] ?_ (hfit := (.clo rfl (calls_clo _) (by intro h; rfl) .nil)) (hnew := (.keep rfl (.new (clo_map_ren (ans_clo _)) (OkL.clo (ans_clo _)) .nil)))
 refine yM ?_
 refine yP pX ?_
 refine yP pX ?_
 refine yP pX ?_
 refine yA ?_
 refine yA ?_
 refine yA ?_
 refine zN (zQ (zS ?_))
 refine yM ?_
 refine yP ((PureOp.neN (b := 0) rfl rfl).mono (v' := .bool false) (congrArg Value.bool (rfl))) ?_
 refine yM ?_
 refine yM ?_
 refine yP ((PureOp.neN (b := 0) rfl rfl).mono (v' := .bool false) (congrArg Value.bool (rfl))) ?_
 refine yP pE ?_
 refine yM ?_
 refine yM ?_
 refine yP pL ?_
 refine yP ((PureOp.neN (b := 3) rfl rfl).mono (v' := .bool false) (congrArg Value.bool (rfl))) ?_
 refine yP pE ?_
 refine yM ?_
 refine yM ?_
 refine yP pL ?_
 refine yP ((PureOp.neN (b := 3) rfl rfl).mono (v' := .bool false) (congrArg Value.bool (rfl))) ?_
 refine yP pE ?_
 refine yM ?_
 refine yM ?_
 refine yP (PureOp.idx (j := 2) tbok rfl rfl rfl rfl (by decide)) ?_
 refine yP pF ?_
 refine AWo.load tbok (v := vi .i64 0) rfl rfl rfl rfl rfl rfl ?_
 refine yP ((PureOp.neN (b := 0) rfl rfl).mono (v' := .bool false) (congrArg Value.bool (rfl))) ?_
 refine yP pE ?_
 refine yM ?_
 refine yM ?_
 refine yP (PureOp.idx (j := 1) tbok rfl rfl rfl rfl (by decide)) ?_
 refine yP pF ?_
 refine AWo.load tbok (v := db r7) rfl rfl rfl rfl rfl rfl ?_
 refine yP pD ?_
 refine yP ((PureOp.neN (b := 32) rfl rfl).mono (v' := .bool false) (congrArg Value.bool (by rw [l7]; rfl))) ?_
 refine yP pE ?_
 refine yM ?_
 refine yM ?_
 refine yP (PureOp.idx (j := 1) tbok rfl rfl rfl rfl (by decide)) ?_
 refine yP pF ?_
 refine AWo.load tbok (v := db r8) rfl rfl rfl rfl rfl rfl ?_
 refine yP pD ?_
 refine yP ((PureOp.neN (b := 32) rfl rfl).mono (v' := .bool false) (congrArg Value.bool (by rw [l8]; rfl))) ?_
 refine yP pE ?_
 refine zN (zF (zK (zT ?_)))
 refine AW.seqD mixed ?_
 refine yM ?_
 refine yP (PureOp.idx (j := 1) tbok rfl rfl rfl rfl (by decide)) ?_
 refine yP pF ?_
 refine AWo.load tbok (v := db r7) rfl rfl rfl rfl rfl rfl ?_
 refine AWo.strD tbok r7 rfl rfl rfl Tryz.underlying5 Tryz.underlying9 rfl rfl ?_
 refine yM ?_
 refine yP (PureOp.idx (j := 1) tbok rfl rfl rfl rfl (by decide)) ?_
 refine yP pF ?_
 refine AWo.load tbok (v := db r8) rfl rfl rfl rfl rfl rfl ?_
 refine AWo.strD tbok r8 rfl rfl rfl Tryz.underlying5 Tryz.underlying9 rfl rfl ?_
 refine yP ((PureOp.neStrD rfl rfl b7 b8).mono (v' := .bool true) (by rw [decide_eq_false rne]; rfl)) ?_
 refine yA ?_
 refine zD (zE ?_)
 exact rq [] [.tmp 0]
end Go.Proofs.YtlfadlfjjkppfaaGreatDoor
namespace Go.Proofs.YtlfadlfjjkppfaaGreatDoor
open Go Sim
set_option maxRecDepth 10000
theorem sayA_ctr {π : List Nat → List Nat} (hπ : PermB π) {g : Gd} {tag : List Nat} {s : Sp Nat} {x : Opn} (htl : tag.length = 32) (hg : GOk g) (hga : g.a < 1000000) (hs : Sp.Ok 136 200 bQ s) (hc : s.c < 1152921504606846976) (hk : x.k = 1) (hb : bd 256 x.d) (hl : x.d.length < 200000000) : GC Tryz.prog 18 [.pointer (some ⟨0, 0, none⟩), opV x] [⟨trC 112 1 2 tag, false, 1⟩, ⟨[dI g.its, vi .i64 g.a, wrV g.wr], true, 1⟩, ⟨[.iface 213 (.agg #[]), .slice (some ⟨3, 0, none⟩) 200 0, vi .i64 s.i, vi .i64 s.o, vi .i64 s.c], true, 1⟩, ⟨s.st.map (vi .u8), true, 1⟩] [vi .i64 (abC g x.t x.d), .slice (some ⟨4, 0, none⟩) 0 0, .slice (some ⟨5, 0, none⟩) 0 0] [⟨trC 112 1 2 tag, false, 1⟩, ⟨[dI g.its, vi .i64 ((abG g x.t x.d).a), wrV ((abG g x.t x.d).wr)], true, 1⟩, ⟨[.iface 213 (.agg #[]), .slice (some ⟨3, 0, none⟩) 200 0, vi .i64 ((abS π g s x.t x.d).i), vi .i64 ((abS π g s x.t x.d).o), vi .i64 ((abS π g s x.t x.d).c)], true, 1⟩, ⟨((abS π g s x.t x.d).st).map (vi .u8), true, 1⟩, ⟨[], true, 4⟩, ⟨[], true, 1⟩] := by
 have hX := tabs_ctr hπ (t := x.t) (d := x.d) htl hga hs hb hl hc
 refine GC.intro Tryz.func18 rfl (by show 2 ≤ 54; decide) (Nat.le_of_ble_eq_true rfl) ?_
 obtain ⟨G, hG⟩ : ∃ G, abG g x.t x.d = G := ⟨_, rfl⟩
 obtain ⟨S2, hS2⟩ : ∃ S2, abS π g s x.t x.d = S2 := ⟨_, rfl⟩
 rw [hG, hS2] at hX
 rw [hG, hS2]
 obtain ⟨e, he⟩ : ∃ e, abC g x.t x.d = e := ⟨_, rfl⟩
 rw [he] at hX
 rw [he]
 refine AW.ghost 77000 4 rfl ?_
 refine AW.ghost 78000 1 rfl ?_
 refine zS ?_
 refine AWo.box 4000 1 [.int .i64 x.k, .int .i64 x.t, .int .i64 x.c, db x.d] rfl rfl rfl rfl rfl ?_
 refine yA ?_
 refine yA ?_
 refine yA ?_
 refine zN (zQ (zB (zS ?_)))
 refine yP pF ?_
 refine AWo.load tbok (v := .int .i64 x.k) rfl rfl rfl rfl rfl rfl ?_
 refine yP ((PureOp.bin rfl rfl rfl).mono (v' := .bool true) (congrArg Value.bool (decide_eq_true hk))) ?_
 refine yA ?_
 refine zN (zC (zS ?_))
 refine yM ?_
 refine yP pF ?_
 refine AWo.load tbok (v := .int .i64 x.t) rfl rfl rfl rfl rfl rfl ?_
 refine yP pF ?_
 refine AWo.load tbok (v := db x.d) rfl rfl rfl rfl rfl rfl ?_
 refine yC (hX) bd19 [(0, 0), (1, 0), (2, 0), (3, 0)] [] ?_ (hargs := (.cons rfl rfl (.cons rfl rfl (.clo rfl .nil)))) (hfit := (.whole rfl (trC_ren rfl rfl rfl rfl) (trC_ok rfl rfl (by decide)) (by intro h; exact h) (.clo rfl (gd_clo _ _ _) (by intro h; exact h) (.whole rfl rfl (OkL.all rfl) (by intro h; exact h) (.flat rfl (flatM flat_vi) (by intro h; exact h) .nil))))) (hnew := (.keep rfl (.chg rfl rfl (clo_map_ren (gd_clo _ _ _)) (OkL.clo (gd_clo _ _ _)) (.chg (cells := [.iface 213 (.agg #[]), .slice (some ⟨3, 0, none⟩) 200 0, vi .i64 _, vi .i64 _, vi .i64 _]) rfl rfl rfl (OkL.all rfl) (.chg rfl rfl (flat_map_ren (flatM flat_vi)) (OkL.flat (flatM flat_vi)) .nil)))))
 refine yA ?_
 refine yA ?_
 refine yA ?_
 refine zN (zE (zI (zU ?_)))
 exact rq [77000, 78000] [.tmp 4, .tmp 5, .tmp 6] (hb := (OutL.whole rfl (trC_ren rfl rfl rfl rfl) (trC_ok rfl rfl (by decide)) (by intro h; exact h.elim id fun h => absurd h.1 (by simp)) (OutL.clo rfl (gd_clo _ _ _) (by intro h; rfl) (OutL.whole rfl rfl (OkL.all rfl) (by intro h; rfl) (OutL.flat rfl (flatM flat_vi) (by intro h; rfl) (OutL.flat rfl (fun _ h => by cases h) (by intro h; rfl) (OutL.flat rfl (fun _ h => by cases h) (by intro h; rfl) trivial)))))))
theorem sayQY_ctr {π : List Nat → List Nat} (hπ : PermB π) {g : Gd} {tag : List Nat} {s : Sp Nat} {x : Opn} (htl : tag.length = 32) (hg : GOk g) (hga : g.a < 1000000) (hs : Sp.Ok 136 200 bQ s) (hc : s.c < 1152921504606846976) (hk : x.k = 2) (ht : x.t = 1) (hz : nxC g 2 1 x.c = 0) : GC Tryz.prog 18 [.pointer (some ⟨0, 0, none⟩), opV x] [⟨trC 112 1 2 tag, false, 1⟩, ⟨[dI g.its, vi .i64 g.a, wrV g.wr], true, 1⟩, ⟨[.iface 213 (.agg #[]), .slice (some ⟨3, 0, none⟩) 200 0, vi .i64 s.i, vi .i64 s.o, vi .i64 s.c], true, 1⟩, ⟨s.st.map (vi .u8), true, 1⟩] [vi .i64 0, .slice (some ⟨4, 0, none⟩) 0 0, .slice (some ⟨5, 0, none⟩) (sqO π s x.c).length 0] [⟨trC 112 1 2 tag, false, 1⟩, ⟨[dI g.its, vi .i64 ((gNx g 2 1 x.c).a), wrV ((gNx g 2 1 x.c).wr)], true, 1⟩, ⟨[.iface 213 (.agg #[]), .slice (some ⟨3, 0, none⟩) 200 0, vi .i64 ((sqS π g s x.c).i), vi .i64 ((sqS π g s x.c).o), vi .i64 ((sqS π g s x.c).c)], true, 1⟩, ⟨((sqS π g s x.c).st).map (vi .u8), true, 1⟩, ⟨[], true, 4⟩, ⟨(sqO π s x.c).map (vi .u8), true, 1⟩] := by
 have hX := tsqY_ctr hπ (z := x.c) htl hg hga hs hc hz
 refine GC.intro Tryz.func18 rfl (by show 2 ≤ 54; decide) (Nat.le_of_ble_eq_true rfl) ?_
 obtain ⟨G, hG⟩ : ∃ G, gNx g 2 1 x.c = G := ⟨_, rfl⟩
 obtain ⟨S2, hS2⟩ : ∃ S2, sqS π g s x.c = S2 := ⟨_, rfl⟩
 rw [hG, hS2] at hX
 rw [hG, hS2]
 obtain ⟨u, hu⟩ : ∃ u, sqO π s x.c = u := ⟨_, rfl⟩
 have hul : sqN x.c = u.length := by rw [← hu]; exact (Sp.outs_len _ _).symm
 rw [hu, hul] at hX
 rw [hu]
 refine AW.ghost 77000 4 rfl ?_
 refine AW.ghost 78000 1 rfl ?_
 refine zS ?_
 refine AWo.box 4000 1 [.int .i64 x.k, .int .i64 x.t, .int .i64 x.c, db x.d] rfl rfl rfl rfl rfl ?_
 refine yA ?_
 refine yA ?_
 refine yA ?_
 refine zN (zQ (zB (zS ?_)))
 refine yP pF ?_
 refine AWo.load tbok (v := .int .i64 x.k) rfl rfl rfl rfl rfl rfl ?_
 refine yP ((PureOp.bin rfl rfl rfl).mono (v' := .bool false) (congrArg Value.bool (decide_eq_false (by omega)))) ?_
 refine yA ?_
 refine zN (zF (zS ?_))
 refine yP pF ?_
 refine AWo.load tbok (v := .int .i64 x.k) rfl rfl rfl rfl rfl rfl ?_
 refine yP ((PureOp.bin rfl rfl rfl).mono (v' := .bool true) (congrArg Value.bool (decide_eq_true hk))) ?_
 refine yM ?_
 refine yP pF ?_
 refine AWo.load tbok (v := .int .i64 x.t) rfl rfl rfl rfl rfl rfl ?_
 refine yP ((PureOp.bin rfl rfl rfl).mono (v' := .bool true) (congrArg Value.bool (decide_eq_true ht))) ?_
 refine yP pT ?_
 refine yA ?_
 refine zN (zC (zS ?_))
 refine yM ?_
 refine yP pF ?_
 refine AWo.load tbok (v := .int .i64 x.c) rfl rfl rfl rfl rfl rfl ?_
 refine yC (hX) bd52 [(0, 0), (1, 0), (2, 0), (3, 0)] [35000] ?_ (hfit := (.whole rfl (trC_ren rfl rfl rfl rfl) (trC_ok rfl rfl (by decide)) (by intro h; exact h) (.clo rfl (gd_clo _ _ _) (by intro h; exact h) (.whole rfl rfl (OkL.all rfl) (by intro h; exact h) (.flat rfl (flatM flat_vi) (by intro h; exact h) .nil))))) (hnew := (.keep rfl (.chg rfl rfl (clo_map_ren (gd_clo _ _ _)) (OkL.clo (gd_clo _ _ _)) (.chg (cells := [.iface 213 (.agg #[]), .slice (some ⟨3, 0, none⟩) 200 0, vi .i64 _, vi .i64 _, vi .i64 _]) rfl rfl rfl (OkL.all rfl) (.chg rfl rfl (flat_map_ren (flatM flat_vi)) (OkL.flat (flatM flat_vi)) (.new (flat_map_ren (flatM flat_vi)) (OkL.flat (flatM flat_vi)) .nil))))))
 refine yM ?_
 refine yP pX ?_
 refine yP pX ?_
 refine yA ?_
 refine yA ?_
 refine zN (zS ?_)
 refine yM ?_
 refine yM ?_
 refine yA ?_
 refine yA ?_
 refine yA ?_
 refine zN (zE (zI (zU ?_)))
 exact rq [77000, 35000] [.tmp 4, .tmp 5, .tmp 6] (hb := (OutL.whole rfl (trC_ren rfl rfl rfl rfl) (trC_ok rfl rfl (by decide)) (by intro h; exact h.elim id fun h => absurd h.1 (by simp)) (OutL.clo rfl (gd_clo _ _ _) (by intro h; rfl) (OutL.whole rfl rfl (OkL.all rfl) (by intro h; rfl) (OutL.flat rfl (flatM flat_vi) (by intro h; rfl) (OutL.flat rfl (fun _ h => by cases h) (by intro h; rfl) (OutL.flat rfl (flatM flat_vi) (by intro h; rfl) trivial)))))))
theorem sayQN_ctr {π : List Nat → List Nat} (hπ : PermB π) {g : Gd} {tag : List Nat} {s : Sp Nat} {x : Opn} (htl : tag.length = 32) (hg : GOk g) (hga : g.a < 1000000) (hs : Sp.Ok 136 200 bQ s) (hc : s.c < 1152921504606846976) (hk : x.k = 2) (ht : x.t = 1) (hz : ¬ nxC g 2 1 x.c = 0) : GC Tryz.prog 18 [.pointer (some ⟨0, 0, none⟩), opV x] [⟨trC 112 1 2 tag, false, 1⟩, ⟨[dI g.its, vi .i64 g.a, wrV g.wr], true, 1⟩, ⟨[.iface 213 (.agg #[]), .slice (some ⟨3, 0, none⟩) 200 0, vi .i64 s.i, vi .i64 s.o, vi .i64 s.c], true, 1⟩, ⟨s.st.map (vi .u8), true, 1⟩] [vi .i64 (nxC g 2 1 x.c), .slice (some ⟨4, 0, none⟩) 0 0, .slice (some ⟨5, 0, none⟩) 0 0] [⟨trC 112 1 2 tag, false, 1⟩, ⟨[dI g.its, vi .i64 ((gNx g 2 1 x.c).a), wrV ((gNx g 2 1 x.c).wr)], true, 1⟩, ⟨[.iface 213 (.agg #[]), .slice (some ⟨3, 0, none⟩) 200 0, vi .i64 ((sqS π g s x.c).i), vi .i64 ((sqS π g s x.c).o), vi .i64 ((sqS π g s x.c).c)], true, 1⟩, ⟨((sqS π g s x.c).st).map (vi .u8), true, 1⟩, ⟨[], true, 4⟩, ⟨[], true, 1⟩] := by
 have hX := tsqN_ctr (π := π) (tag := tag) (s := s) (z := x.c) hga hz
 refine GC.intro Tryz.func18 rfl (by show 2 ≤ 54; decide) (Nat.le_of_ble_eq_true rfl) ?_
 obtain ⟨G, hG⟩ : ∃ G, gNx g 2 1 x.c = G := ⟨_, rfl⟩
 obtain ⟨S2, hS2⟩ : ∃ S2, sqS π g s x.c = S2 := ⟨_, rfl⟩
 rw [hG, hS2] at hX
 rw [hG, hS2]
 obtain ⟨e, he⟩ : ∃ e, nxC g 2 1 x.c = e := ⟨_, rfl⟩
 rw [he] at hX
 rw [he]
 refine AW.ghost 77000 4 rfl ?_
 refine AW.ghost 78000 1 rfl ?_
 refine zS ?_
 refine AWo.box 4000 1 [.int .i64 x.k, .int .i64 x.t, .int .i64 x.c, db x.d] rfl rfl rfl rfl rfl ?_
 refine yA ?_
 refine yA ?_
 refine yA ?_
 refine zN (zQ (zB (zS ?_)))
 refine yP pF ?_
 refine AWo.load tbok (v := .int .i64 x.k) rfl rfl rfl rfl rfl rfl ?_
 refine yP ((PureOp.bin rfl rfl rfl).mono (v' := .bool false) (congrArg Value.bool (decide_eq_false (by omega)))) ?_
 refine yA ?_
 refine zN (zF (zS ?_))
 refine yP pF ?_
 refine AWo.load tbok (v := .int .i64 x.k) rfl rfl rfl rfl rfl rfl ?_
 refine yP ((PureOp.bin rfl rfl rfl).mono (v' := .bool true) (congrArg Value.bool (decide_eq_true hk))) ?_
 refine yM ?_
 refine yP pF ?_
 refine AWo.load tbok (v := .int .i64 x.t) rfl rfl rfl rfl rfl rfl ?_
 refine yP ((PureOp.bin rfl rfl rfl).mono (v' := .bool true) (congrArg Value.bool (decide_eq_true ht))) ?_
 refine yP pT ?_
 refine yA ?_
 refine zN (zC (zS ?_))
 refine yM ?_
 refine yP pF ?_
 refine AWo.load tbok (v := .int .i64 x.c) rfl rfl rfl rfl rfl rfl ?_
 refine yC (hX) bd52 [(0, 0), (1, 0), (2, 0), (3, 0)] [] ?_ (hfit := (.whole rfl (trC_ren rfl rfl rfl rfl) (trC_ok rfl rfl (by decide)) (by intro h; exact h) (.clo rfl (gd_clo _ _ _) (by intro h; exact h) (.whole rfl rfl (OkL.all rfl) (by intro h; exact h) (.flat rfl (flatM flat_vi) (by intro h; exact h) .nil))))) (hnew := (.keep rfl (.chg rfl rfl (clo_map_ren (gd_clo _ _ _)) (OkL.clo (gd_clo _ _ _)) (.chg (cells := [.iface 213 (.agg #[]), .slice (some ⟨3, 0, none⟩) 200 0, vi .i64 _, vi .i64 _, vi .i64 _]) rfl rfl rfl (OkL.all rfl) (.chg rfl rfl (flat_map_ren (flatM flat_vi)) (OkL.flat (flatM flat_vi)) .nil)))))
 refine yM ?_
 refine yP pX ?_
 refine yP pX ?_
 refine yA ?_
 refine yA ?_
 refine zN (zS ?_)
 refine yM ?_
 refine yM ?_
 refine yA ?_
 refine yA ?_
 refine yA ?_
 refine zN (zE (zI (zU ?_)))
 exact rq [77000, 78000] [.tmp 4, .tmp 5, .tmp 6] (hb := (OutL.whole rfl (trC_ren rfl rfl rfl rfl) (trC_ok rfl rfl (by decide)) (by intro h; exact h.elim id fun h => absurd h.1 (by simp)) (OutL.clo rfl (gd_clo _ _ _) (by intro h; rfl) (OutL.whole rfl rfl (OkL.all rfl) (by intro h; rfl) (OutL.flat rfl (flatM flat_vi) (by intro h; rfl) (OutL.flat rfl (fun _ h => by cases h) (by intro h; rfl) (OutL.flat rfl (fun _ h => by cases h) (by intro h; rfl) trivial)))))))
theorem sayCY_ctr {π : List Nat → List Nat} (hπ : PermB π) {g : Gd} {tag : List Nat} {s : Sp Nat} {x : Opn} (htl : tag.length = 32) (hg : GOk g) (hga : g.a < 1000000) (hs : Sp.Ok 136 200 bQ s) (hc : s.c < 1152921504606846976) (hk : x.k = 2) (ht : ¬ x.t = 1) (hz : nxC g 2 3 x.c = 0) (hd : dC' π (sqN x.c) (tellB π s ⟨2, 3, x.c, []⟩) = 0) : GC Tryz.prog 18 [.pointer (some ⟨0, 0, none⟩), opV x] [⟨trC 112 1 2 tag, false, 1⟩, ⟨[dI g.its, vi .i64 g.a, wrV g.wr], true, 1⟩, ⟨[.iface 213 (.agg #[]), .slice (some ⟨3, 0, none⟩) 200 0, vi .i64 s.i, vi .i64 s.o, vi .i64 s.c], true, 1⟩, ⟨s.st.map (vi .u8), true, 1⟩] [vi .i64 0, .slice (some ⟨4, 0, none⟩) (itF π (sqN x.c) (tellB π s ⟨2, 3, x.c, []⟩)).length 0, .slice (some ⟨5, 0, none⟩) 0 0] [⟨trC 112 1 2 tag, false, 1⟩, ⟨[dI g.its, vi .i64 ((chG π g s x.c).a), wrV ((chG π g s x.c).wr)], true, 1⟩, ⟨[.iface 213 (.agg #[]), .slice (some ⟨3, 0, none⟩) 200 0, vi .i64 ((chS π g s x.c).i), vi .i64 ((chS π g s x.c).o), vi .i64 ((chS π g s x.c).c)], true, 1⟩, ⟨((chS π g s x.c).st).map (vi .u8), true, 1⟩, ⟨(((itF π (sqN x.c) (tellB π s ⟨2, 3, x.c, []⟩)).map fe).flatten).map (vi .u64), true, 4⟩, ⟨[], true, 1⟩] := by
 have hX := tchY_ctr hπ (z := x.c) htl hg hga hs hc hz hd
 refine GC.intro Tryz.func18 rfl (by show 2 ≤ 54; decide) (Nat.le_of_ble_eq_true rfl) ?_
 obtain ⟨G, hG⟩ : ∃ G, chG π g s x.c = G := ⟨_, rfl⟩
 obtain ⟨S2, hS2⟩ : ∃ S2, chS π g s x.c = S2 := ⟨_, rfl⟩
 rw [hG, hS2] at hX
 rw [hG, hS2]
 obtain ⟨l, hlx⟩ : ∃ l, itF π (sqN x.c) (tellB π s ⟨2, 3, x.c, []⟩) = l := ⟨_, rfl⟩
 have hll : sqN x.c = l.length := by rw [← hlx]; exact (itF_len _ _).symm
 rw [hlx, hll] at hX
 rw [hlx]
 refine AW.ghost 77000 4 rfl ?_
 refine AW.ghost 78000 1 rfl ?_
 refine zS ?_
 refine AWo.box 4000 1 [.int .i64 x.k, .int .i64 x.t, .int .i64 x.c, db x.d] rfl rfl rfl rfl rfl ?_
 refine yA ?_
 refine yA ?_
 refine yA ?_
 refine zN (zQ (zB (zS ?_)))
 refine yP pF ?_
 refine AWo.load tbok (v := .int .i64 x.k) rfl rfl rfl rfl rfl rfl ?_
 refine yP ((PureOp.bin rfl rfl rfl).mono (v' := .bool false) (congrArg Value.bool (decide_eq_false (by omega)))) ?_
 refine yA ?_
 refine zN (zF (zS ?_))
 refine yP pF ?_
 refine AWo.load tbok (v := .int .i64 x.k) rfl rfl rfl rfl rfl rfl ?_
 refine yP ((PureOp.bin rfl rfl rfl).mono (v' := .bool true) (congrArg Value.bool (decide_eq_true hk))) ?_
 refine yM ?_
 refine yP pF ?_
 refine AWo.load tbok (v := .int .i64 x.t) rfl rfl rfl rfl rfl rfl ?_
 refine yP ((PureOp.bin rfl rfl rfl).mono (v' := .bool false) (congrArg Value.bool (decide_eq_false ht))) ?_
 refine yP pT ?_
 refine yA ?_
 refine zN (zF (zS ?_))
 refine yP pF ?_
 refine AWo.load tbok (v := .int .i64 x.k) rfl rfl rfl rfl rfl rfl ?_
 refine yP ((PureOp.bin rfl rfl rfl).mono (v' := .bool true) (congrArg Value.bool (decide_eq_true hk))) ?_
 refine yA ?_
 refine zN (zC (zS ?_))
 refine yM ?_
 refine yP pF ?_
 refine AWo.load tbok (v := .int .i64 x.c) rfl rfl rfl rfl rfl rfl ?_
 refine yC (hX) bd21 [(0, 0), (1, 0), (2, 0), (3, 0)] [48000] ?_ (hfit := (.whole rfl (trC_ren rfl rfl rfl rfl) (trC_ok rfl rfl (by decide)) (by intro h; exact h) (.clo rfl (gd_clo _ _ _) (by intro h; exact h) (.whole rfl rfl (OkL.all rfl) (by intro h; exact h) (.flat rfl (flatM flat_vi) (by intro h; exact h) .nil))))) (hnew := (.keep rfl (.chg rfl rfl (clo_map_ren (gd_clo _ _ _)) (OkL.clo (gd_clo _ _ _)) (.chg (cells := [.iface 213 (.agg #[]), .slice (some ⟨3, 0, none⟩) 200 0, vi .i64 _, vi .i64 _, vi .i64 _]) rfl rfl rfl (OkL.all rfl) (.chg rfl rfl (flat_map_ren (flatM flat_vi)) (OkL.flat (flatM flat_vi)) (.new (flat_map_ren (flatM flat_vi)) (OkL.flat (flatM flat_vi)) .nil))))))
 refine yM ?_
 refine yP pX ?_
 refine yP pX ?_
 refine yA ?_
 refine yA ?_
 refine zN (zS ?_)
 refine yM ?_
 refine yM ?_
 refine yA ?_
 refine yA ?_
 refine yA ?_
 refine zN (zE (zI (zU ?_)))
 exact rq [48000, 78000] [.tmp 4, .tmp 5, .tmp 6] (hb := (OutL.whole rfl (trC_ren rfl rfl rfl rfl) (trC_ok rfl rfl (by decide)) (by intro h; exact h.elim id fun h => absurd h.1 (by simp)) (OutL.clo rfl (gd_clo _ _ _) (by intro h; rfl) (OutL.whole rfl rfl (OkL.all rfl) (by intro h; rfl) (OutL.flat rfl (flatM flat_vi) (by intro h; rfl) (OutL.flat rfl (flatM flat_vi) (by intro h; rfl) (OutL.flat rfl (fun _ h => by cases h) (by intro h; rfl) trivial)))))))
theorem sayCN_ctr {π : List Nat → List Nat} (hπ : PermB π) {g : Gd} {tag : List Nat} {s : Sp Nat} {x : Opn} (htl : tag.length = 32) (hg : GOk g) (hga : g.a < 1000000) (hs : Sp.Ok 136 200 bQ s) (hc : s.c < 1152921504606846976) (hk : x.k = 2) (ht : ¬ x.t = 1) (hz : nxC g 2 3 x.c ≠ 0) : GC Tryz.prog 18 [.pointer (some ⟨0, 0, none⟩), opV x] [⟨trC 112 1 2 tag, false, 1⟩, ⟨[dI g.its, vi .i64 g.a, wrV g.wr], true, 1⟩, ⟨[.iface 213 (.agg #[]), .slice (some ⟨3, 0, none⟩) 200 0, vi .i64 s.i, vi .i64 s.o, vi .i64 s.c], true, 1⟩, ⟨s.st.map (vi .u8), true, 1⟩] [vi .i64 (chC π g s x.c), .slice (some ⟨4, 0, none⟩) 0 0, .slice (some ⟨5, 0, none⟩) 0 0] [⟨trC 112 1 2 tag, false, 1⟩, ⟨[dI g.its, vi .i64 ((chG π g s x.c).a), wrV ((chG π g s x.c).wr)], true, 1⟩, ⟨[.iface 213 (.agg #[]), .slice (some ⟨3, 0, none⟩) 200 0, vi .i64 ((chS π g s x.c).i), vi .i64 ((chS π g s x.c).o), vi .i64 ((chS π g s x.c).c)], true, 1⟩, ⟨((chS π g s x.c).st).map (vi .u8), true, 1⟩, ⟨[], true, 4⟩, ⟨[], true, 1⟩] := by
 have hX := tchN_ctr (π := π) (tag := tag) (s := s) (z := x.c) hga hz
 refine GC.intro Tryz.func18 rfl (by show 2 ≤ 54; decide) (Nat.le_of_ble_eq_true rfl) ?_
 obtain ⟨G, hG⟩ : ∃ G, chG π g s x.c = G := ⟨_, rfl⟩
 obtain ⟨S2, hS2⟩ : ∃ S2, chS π g s x.c = S2 := ⟨_, rfl⟩
 rw [hG, hS2] at hX
 rw [hG, hS2]
 obtain ⟨e, he⟩ : ∃ e, chC π g s x.c = e := ⟨_, rfl⟩
 rw [he] at hX
 rw [he]
 refine AW.ghost 77000 4 rfl ?_
 refine AW.ghost 78000 1 rfl ?_
 refine zS ?_
 refine AWo.box 4000 1 [.int .i64 x.k, .int .i64 x.t, .int .i64 x.c, db x.d] rfl rfl rfl rfl rfl ?_
 refine yA ?_
 refine yA ?_
 refine yA ?_
 refine zN (zQ (zB (zS ?_)))
 refine yP pF ?_
 refine AWo.load tbok (v := .int .i64 x.k) rfl rfl rfl rfl rfl rfl ?_
 refine yP ((PureOp.bin rfl rfl rfl).mono (v' := .bool false) (congrArg Value.bool (decide_eq_false (by omega)))) ?_
 refine yA ?_
 refine zN (zF (zS ?_))
 refine yP pF ?_
 refine AWo.load tbok (v := .int .i64 x.k) rfl rfl rfl rfl rfl rfl ?_
 refine yP ((PureOp.bin rfl rfl rfl).mono (v' := .bool true) (congrArg Value.bool (decide_eq_true hk))) ?_
 refine yM ?_
 refine yP pF ?_
 refine AWo.load tbok (v := .int .i64 x.t) rfl rfl rfl rfl rfl rfl ?_
 refine yP ((PureOp.bin rfl rfl rfl).mono (v' := .bool false) (congrArg Value.bool (decide_eq_false ht))) ?_
 refine yP pT ?_
 refine yA ?_
 refine zN (zF (zS ?_))
 refine yP pF ?_
 refine AWo.load tbok (v := .int .i64 x.k) rfl rfl rfl rfl rfl rfl ?_
 refine yP ((PureOp.bin rfl rfl rfl).mono (v' := .bool true) (congrArg Value.bool (decide_eq_true hk))) ?_
 refine yA ?_
 refine zN (zC (zS ?_))
 refine yM ?_
 refine yP pF ?_
 refine AWo.load tbok (v := .int .i64 x.c) rfl rfl rfl rfl rfl rfl ?_
 refine yC (hX) bd21 [(0, 0), (1, 0), (2, 0), (3, 0)] [] ?_ (hfit := (.whole rfl (trC_ren rfl rfl rfl rfl) (trC_ok rfl rfl (by decide)) (by intro h; exact h) (.clo rfl (gd_clo _ _ _) (by intro h; exact h) (.whole rfl rfl (OkL.all rfl) (by intro h; exact h) (.flat rfl (flatM flat_vi) (by intro h; exact h) .nil))))) (hnew := (.keep rfl (.chg rfl rfl (clo_map_ren (gd_clo _ _ _)) (OkL.clo (gd_clo _ _ _)) (.chg (cells := [.iface 213 (.agg #[]), .slice (some ⟨3, 0, none⟩) 200 0, vi .i64 _, vi .i64 _, vi .i64 _]) rfl rfl rfl (OkL.all rfl) (.chg rfl rfl (flat_map_ren (flatM flat_vi)) (OkL.flat (flatM flat_vi)) .nil)))))
 refine yM ?_
 refine yP pX ?_
 refine yP pX ?_
 refine yA ?_
 refine yA ?_
 refine zN (zS ?_)
 refine yM ?_
 refine yM ?_
 refine yA ?_
 refine yA ?_
 refine yA ?_
 refine zN (zE (zI (zU ?_)))
 exact rq [77000, 78000] [.tmp 4, .tmp 5, .tmp 6] (hb := (OutL.whole rfl (trC_ren rfl rfl rfl rfl) (trC_ok rfl rfl (by decide)) (by intro h; exact h.elim id fun h => absurd h.1 (by simp)) (OutL.clo rfl (gd_clo _ _ _) (by intro h; rfl) (OutL.whole rfl rfl (OkL.all rfl) (by intro h; rfl) (OutL.flat rfl (flatM flat_vi) (by intro h; rfl) (OutL.flat rfl (fun _ h => by cases h) (by intro h; rfl) (OutL.flat rfl (fun _ h => by cases h) (by intro h; rfl) trivial)))))))
theorem sayCB_ctr {π : List Nat → List Nat} (hπ : PermB π) {g : Gd} {tag : List Nat} {s : Sp Nat} {x : Opn} (htl : tag.length = 32) (hg : GOk g) (hga : g.a < 1000000) (hs : Sp.Ok 136 200 bQ s) (hc : s.c < 1152921504606846976) (hk : x.k = 2) (ht : ¬ x.t = 1) (hz : nxC g 2 3 x.c = 0) (hd : dC' π (sqN x.c) (tellB π s ⟨2, 3, x.c, []⟩) ≠ 0) : GC Tryz.prog 18 [.pointer (some ⟨0, 0, none⟩), opV x] [⟨trC 112 1 2 tag, false, 1⟩, ⟨[dI g.its, vi .i64 g.a, wrV g.wr], true, 1⟩, ⟨[.iface 213 (.agg #[]), .slice (some ⟨3, 0, none⟩) 200 0, vi .i64 s.i, vi .i64 s.o, vi .i64 s.c], true, 1⟩, ⟨s.st.map (vi .u8), true, 1⟩] [vi .i64 (chC π g s x.c), .slice (some ⟨4, 0, none⟩) 0 0, .slice (some ⟨5, 0, none⟩) 0 0] [⟨trC 112 1 2 tag, false, 1⟩, ⟨[dI g.its, vi .i64 ((chG π g s x.c).a), wrV ((chG π g s x.c).wr)], true, 1⟩, ⟨[.iface 213 (.agg #[]), .slice (some ⟨3, 0, none⟩) 200 0, vi .i64 ((chS π g s x.c).i), vi .i64 ((chS π g s x.c).o), vi .i64 ((chS π g s x.c).c)], true, 1⟩, ⟨((chS π g s x.c).st).map (vi .u8), true, 1⟩, ⟨[], true, 4⟩, ⟨[], true, 1⟩] := by
 have hX := tchB_ctr hπ (z := x.c) htl hg hga hs hc hz hd
 refine GC.intro Tryz.func18 rfl (by show 2 ≤ 54; decide) (Nat.le_of_ble_eq_true rfl) ?_
 obtain ⟨G, hG⟩ : ∃ G, chG π g s x.c = G := ⟨_, rfl⟩
 obtain ⟨S2, hS2⟩ : ∃ S2, chS π g s x.c = S2 := ⟨_, rfl⟩
 rw [hG, hS2] at hX
 rw [hG, hS2]
 obtain ⟨e, he⟩ : ∃ e, chC π g s x.c = e := ⟨_, rfl⟩
 rw [he] at hX
 rw [he]
 refine AW.ghost 77000 4 rfl ?_
 refine AW.ghost 78000 1 rfl ?_
 refine zS ?_
 refine AWo.box 4000 1 [.int .i64 x.k, .int .i64 x.t, .int .i64 x.c, db x.d] rfl rfl rfl rfl rfl ?_
 refine yA ?_
 refine yA ?_
 refine yA ?_
 refine zN (zQ (zB (zS ?_)))
 refine yP pF ?_
 refine AWo.load tbok (v := .int .i64 x.k) rfl rfl rfl rfl rfl rfl ?_
 refine yP ((PureOp.bin rfl rfl rfl).mono (v' := .bool false) (congrArg Value.bool (decide_eq_false (by omega)))) ?_
 refine yA ?_
 refine zN (zF (zS ?_))
 refine yP pF ?_
 refine AWo.load tbok (v := .int .i64 x.k) rfl rfl rfl rfl rfl rfl ?_
 refine yP ((PureOp.bin rfl rfl rfl).mono (v' := .bool true) (congrArg Value.bool (decide_eq_true hk))) ?_
 refine yM ?_
 refine yP pF ?_
 refine AWo.load tbok (v := .int .i64 x.t) rfl rfl rfl rfl rfl rfl ?_
 refine yP ((PureOp.bin rfl rfl rfl).mono (v' := .bool false) (congrArg Value.bool (decide_eq_false ht))) ?_
 refine yP pT ?_
 refine yA ?_
 refine zN (zF (zS ?_))
 refine yP pF ?_
 refine AWo.load tbok (v := .int .i64 x.k) rfl rfl rfl rfl rfl rfl ?_
 refine yP ((PureOp.bin rfl rfl rfl).mono (v' := .bool true) (congrArg Value.bool (decide_eq_true hk))) ?_
 refine yA ?_
 refine zN (zC (zS ?_))
 refine yM ?_
 refine yP pF ?_
 refine AWo.load tbok (v := .int .i64 x.c) rfl rfl rfl rfl rfl rfl ?_
 refine yC (hX) bd21 [(0, 0), (1, 0), (2, 0), (3, 0)] [] ?_ (hfit := (.whole rfl (trC_ren rfl rfl rfl rfl) (trC_ok rfl rfl (by decide)) (by intro h; exact h) (.clo rfl (gd_clo _ _ _) (by intro h; exact h) (.whole rfl rfl (OkL.all rfl) (by intro h; exact h) (.flat rfl (flatM flat_vi) (by intro h; exact h) .nil))))) (hnew := (.keep rfl (.chg rfl rfl (clo_map_ren (gd_clo _ _ _)) (OkL.clo (gd_clo _ _ _)) (.chg (cells := [.iface 213 (.agg #[]), .slice (some ⟨3, 0, none⟩) 200 0, vi .i64 _, vi .i64 _, vi .i64 _]) rfl rfl rfl (OkL.all rfl) (.chg rfl rfl (flat_map_ren (flatM flat_vi)) (OkL.flat (flatM flat_vi)) .nil)))))
 refine yM ?_
 refine yP pX ?_
 refine yP pX ?_
 refine yA ?_
 refine yA ?_
 refine zN (zS ?_)
 refine yM ?_
 refine yM ?_
 refine yA ?_
 refine yA ?_
 refine yA ?_
 refine zN (zE (zI (zU ?_)))
 exact rq [77000, 78000] [.tmp 4, .tmp 5, .tmp 6] (hb := (OutL.whole rfl (trC_ren rfl rfl rfl rfl) (trC_ok rfl rfl (by decide)) (by intro h; exact h.elim id fun h => absurd h.1 (by simp)) (OutL.clo rfl (gd_clo _ _ _) (by intro h; rfl) (OutL.whole rfl rfl (OkL.all rfl) (by intro h; rfl) (OutL.flat rfl (flatM flat_vi) (by intro h; rfl) (OutL.flat rfl (fun _ h => by cases h) (by intro h; rfl) (OutL.flat rfl (fun _ h => by cases h) (by intro h; rfl) trivial)))))))
theorem sayR_ctr {π : List Nat → List Nat} (hπ : PermB π) {g : Gd} {tag : List Nat} {s : Sp Nat} {x : Opn} (htl : tag.length = 32) (hg : GOk g) (hga : g.a < 1000000) (hs : Sp.Ok 136 200 bQ s) (hc : s.c < 1152921504606846976) (hk : ¬ x.k = 1) (hk2 : ¬ x.k = 2) : GC Tryz.prog 18 [.pointer (some ⟨0, 0, none⟩), opV x] [⟨trC 112 1 2 tag, false, 1⟩, ⟨[dI g.its, vi .i64 g.a, wrV g.wr], true, 1⟩, ⟨[.iface 213 (.agg #[]), .slice (some ⟨3, 0, none⟩) 200 0, vi .i64 s.i, vi .i64 s.o, vi .i64 s.c], true, 1⟩, ⟨s.st.map (vi .u8), true, 1⟩] [vi .i64 (nxC g 3 0 1), .slice (some ⟨4, 0, none⟩) 0 0, .slice (some ⟨5, 0, none⟩) 0 0] [⟨trC 112 1 2 tag, false, 1⟩, ⟨[dI g.its, vi .i64 ((gNx g 3 0 1).a), wrV ((gNx g 3 0 1).wr)], true, 1⟩, ⟨[.iface 213 (.agg #[]), .slice (some ⟨3, 0, none⟩) 200 0, vi .i64 ((raS π g s).i), vi .i64 ((raS π g s).o), vi .i64 ((raS π g s).c)], true, 1⟩, ⟨((raS π g s).st).map (vi .u8), true, 1⟩, ⟨[], true, 4⟩, ⟨[], true, 1⟩] := by
 have hX := trat_ctr hπ htl hga hs hc
 refine GC.intro Tryz.func18 rfl (by show 2 ≤ 54; decide) (Nat.le_of_ble_eq_true rfl) ?_
 obtain ⟨G, hG⟩ : ∃ G, gNx g 3 0 1 = G := ⟨_, rfl⟩
 obtain ⟨S2, hS2⟩ : ∃ S2, raS π g s = S2 := ⟨_, rfl⟩
 rw [hG, hS2] at hX
 rw [hG, hS2]
 obtain ⟨e, he⟩ : ∃ e, nxC g 3 0 1 = e := ⟨_, rfl⟩
 rw [he] at hX
 rw [he]
 refine AW.ghost 77000 4 rfl ?_
 refine AW.ghost 78000 1 rfl ?_
 refine zS ?_
 refine AWo.box 4000 1 [.int .i64 x.k, .int .i64 x.t, .int .i64 x.c, db x.d] rfl rfl rfl rfl rfl ?_
 refine yA ?_
 refine yA ?_
 refine yA ?_
 refine zN (zQ (zB (zS ?_)))
 refine yP pF ?_
 refine AWo.load tbok (v := .int .i64 x.k) rfl rfl rfl rfl rfl rfl ?_
 refine yP ((PureOp.bin rfl rfl rfl).mono (v' := .bool false) (congrArg Value.bool (decide_eq_false (by omega)))) ?_
 refine yA ?_
 refine zN (zF (zS ?_))
 refine yP pF ?_
 refine AWo.load tbok (v := .int .i64 x.k) rfl rfl rfl rfl rfl rfl ?_
 refine yP ((PureOp.bin rfl rfl rfl).mono (v' := .bool false) (congrArg Value.bool (decide_eq_false (by omega)))) ?_
 refine yM ?_
 refine yK ?_
 refine yK ?_
 refine yK ?_
 refine yP pE ?_
 refine yA ?_
 refine zN (zF (zS ?_))
 refine yP pF ?_
 refine AWo.load tbok (v := .int .i64 x.k) rfl rfl rfl rfl rfl rfl ?_
 refine yP ((PureOp.bin rfl rfl rfl).mono (v' := .bool false) (congrArg Value.bool (decide_eq_false (by omega)))) ?_
 refine yA ?_
 refine zN (zF (zK (zL (zT (zS ?_)))))
 refine yM ?_
 refine yC (hX) bd53 [(0, 0), (1, 0), (2, 0), (3, 0)] [] ?_ (hfit := (.whole rfl (trC_ren rfl rfl rfl rfl) (trC_ok rfl rfl (by decide)) (by intro h; exact h) (.clo rfl (gd_clo _ _ _) (by intro h; exact h) (.whole rfl rfl (OkL.all rfl) (by intro h; exact h) (.flat rfl (flatM flat_vi) (by intro h; exact h) .nil))))) (hnew := (.keep rfl (.chg rfl rfl (clo_map_ren (gd_clo _ _ _)) (OkL.clo (gd_clo _ _ _)) (.chg (cells := [.iface 213 (.agg #[]), .slice (some ⟨3, 0, none⟩) 200 0, vi .i64 _, vi .i64 _, vi .i64 _]) rfl rfl rfl (OkL.all rfl) (.chg rfl rfl (flat_map_ren (flatM flat_vi)) (OkL.flat (flatM flat_vi)) .nil)))))
 refine yA ?_
 refine yA ?_
 refine yA ?_
 refine zN (zE ?_)
 exact rq [77000, 78000] [.tmp 4, .tmp 5, .tmp 6] (hb := (OutL.whole rfl (trC_ren rfl rfl rfl rfl) (trC_ok rfl rfl (by decide)) (by intro h; exact h.elim id fun h => absurd h.1 (by simp)) (OutL.clo rfl (gd_clo _ _ _) (by intro h; rfl) (OutL.whole rfl rfl (OkL.all rfl) (by intro h; rfl) (OutL.flat rfl (flatM flat_vi) (by intro h; rfl) (OutL.flat rfl (fun _ h => by cases h) (by intro h; rfl) (OutL.flat rfl (fun _ h => by cases h) (by intro h; rfl) trivial)))))))
end Go.Proofs.YtlfadlfjjkppfaaGreatDoor
namespace Go.Proofs.YtlfadlfjjkppfaaGreatDoor
open Go Sim
set_option maxRecDepth 10000
noncomputable def saC (g : Gd) (x : Opn) : Nat := if x.k = 1 then abC g x.t x.d else if x.k = 2 then nxC g 2 (if x.t = 1 then 1 else 3) x.c else nxC g 3 0 1
noncomputable def saG (g : Gd) (x : Opn) : Gd := if x.k = 1 then abG g x.t x.d else if x.k = 2 then gNx g 2 (if x.t = 1 then 1 else 3) x.c else gNx g 3 0 1
theorem GOk.ab {g : Gd} (h : GOk g) (t : Int) (d : List Nat) : GOk (abG g t d) ∧ (abG g t d).its = g.its := by
  unfold abG
  split
  · exact ⟨h, rfl⟩
  · split
    · exact ⟨h.fl _, rfl⟩
    · split
      · exact ⟨h.nx _ _ _, rfl⟩
      · exact ⟨(h.nx _ _ _).fl _, rfl⟩
theorem GOk.lt {g : Gd} (h : GOk g) : g.a < 1000000 := by
  have h1 := h.a
  have h2 := h.its.1
  omega
structure SayR (π : List Nat → List Nat) (g : Gd) (s : Sp Nat) (x : Opn) (e : Nat) (G : Gd) (S : Sp Nat) (F : List Fp) (U : List Nat) : Prop where
  its : G.its = g.its
  ok : GOk G
  sok : Sp.Ok 136 200 bQ S
  c : S.c ≤ s.c + 3000000000
  bd : Go.Proofs.YtlfadlfjjkppfaaGreatDoor.bd 256 U
  ul : U.length ≤ 1048576
  fl : F.length ≤ 1048576
  e : e = 11 ∨ (e = saC g x ∧ G.a = (saG g x).a ∧ G.wr = (saG g x).wr)
theorem say_ctr {π : List Nat → List Nat} (hπ : PermB π) {g : Gd} {tag : List Nat} {s : Sp Nat} {x : Opn} (htl : tag.length = 32) (hg : GOk g) (hs : Sp.Ok 136 200 bQ s) (hc : s.c < 1152921504606846976) (hb : bd 256 x.d) (hl : x.d.length < 200000000) :
    ∃ e G S F U, SayR π g s x e G S F U ∧ GC Tryz.prog 18 [.pointer (some ⟨0, 0, none⟩), opV x] [⟨trC 112 1 2 tag, false, 1⟩, ⟨[dI g.its, vi .i64 g.a, wrV g.wr], true, 1⟩, ⟨[.iface 213 (.agg #[]), .slice (some ⟨3, 0, none⟩) 200 0, vi .i64 s.i, vi .i64 s.o, vi .i64 s.c], true, 1⟩, ⟨s.st.map (vi .u8), true, 1⟩] [vi .i64 e, .slice (some ⟨4, 0, none⟩) F.length 0, .slice (some ⟨5, 0, none⟩) U.length 0] [⟨trC 112 1 2 tag, false, 1⟩, ⟨[dI g.its, vi .i64 G.a, wrV G.wr], true, 1⟩, ⟨[.iface 213 (.agg #[]), .slice (some ⟨3, 0, none⟩) 200 0, vi .i64 S.i, vi .i64 S.o, vi .i64 S.c], true, 1⟩, ⟨S.st.map (vi .u8), true, 1⟩, ⟨((F.map fe).flatten).map (vi .u64), true, 4⟩, ⟨U.map (vi .u8), true, 1⟩] := by
  have hga := hg.lt
  have hn : ∀ {t z : Int}, nxC g 2 t z = 0 → sqN z ≤ 1048576 := fun h => by
    have hzi := itC_inv (nx_ok hg h).2.1
    unfold sqN; omega
  by_cases hk : x.k = 1
  · obtain ⟨h1, h2⟩ := hg.ab x.t x.d
    have hS : Sp.Ok 136 200 bQ (abS π g s x.t x.d) ∧ (abS π g s x.t x.d).c ≤ s.c + 3000000000 := by
      unfold abS
      split
      · refine ⟨tellB_ok hπ.1 hs hb, ?_⟩
        have h3 := tellB_c (π := π) (s := s) ⟨1, x.t, cN x.t x.d.length, x.d⟩
        have h4 : (Opn.mk 1 x.t (cN x.t x.d.length) x.d).d.length = x.d.length := rfl
        omega
      · exact ⟨hs, by omega⟩
    have h := sayA_ctr hπ htl hg hga hs hc hk hb hl
    refine ⟨abC g x.t x.d, abG g x.t x.d, abS π g s x.t x.d, [], [], ⟨h2, h1, hS.1, hS.2, fun x hx => (by cases hx), by decide, by decide, .inr ⟨(if_pos hk).symm, by unfold saG; rw [if_pos hk], by unfold saG; rw [if_pos hk]⟩⟩, h⟩
  · by_cases hk2 : x.k = 2
    · by_cases ht : x.t = 1
      · have e1 : saC g x = nxC g 2 1 x.c := by unfold saC; rw [if_neg hk, if_pos hk2, if_pos ht]
        have e2 : saG g x = gNx g 2 1 x.c := by unfold saG; rw [if_neg hk, if_pos hk2, if_pos ht]
        by_cases hz : nxC g 2 1 x.c = 0
        · have h := sayQY_ctr hπ htl hg hga hs hc hk2 ht hz
          have h0 := hn hz
          have h3 := tellB_c (π := π) (s := s) ⟨2, 1, x.c, []⟩
          have h4 : (Opn.mk 2 1 x.c []).d.length = 0 := rfl
          have h5 := Sp.gives_c (R := 136) (π := π) (tellB π s ⟨2, 1, x.c, []⟩) (sqN x.c)
          have hok := tellB_ok hπ.1 hs (x := ⟨2, 1, x.c, []⟩) (fun x hx => by cases hx)
          have e3 : sqS π g s x.c = Sp.gives 136 π (sqN x.c) (tellB π s ⟨2, 1, x.c, []⟩) := if_pos hz
          refine ⟨0, gNx g 2 1 x.c, sqS π g s x.c, [], sqO π s x.c, ⟨rfl, hg.nx _ _ _, by rw [e3]; exact hok.gives hπ.1 _, by rw [e3]; omega, hok.outs hπ.1 _, by unfold sqO; rw [Sp.outs_len]; exact h0, by decide, .inr ⟨by rw [e1, hz], by rw [e2], by rw [e2]⟩⟩, h⟩
        · have h := sayQN_ctr hπ htl hg hga hs hc hk2 ht hz
          have e3 : sqS π g s x.c = s := if_neg hz
          refine ⟨nxC g 2 1 x.c, gNx g 2 1 x.c, sqS π g s x.c, [], [], ⟨rfl, hg.nx _ _ _, by rw [e3]; exact hs, by rw [e3]; omega, fun x hx => (by cases hx), by decide, by decide, .inr ⟨e1.symm, by rw [e2], by rw [e2]⟩⟩, h⟩
      · have e1 : saC g x = nxC g 2 3 x.c := by unfold saC; rw [if_neg hk, if_pos hk2, if_neg ht]
        have e2 : saG g x = gNx g 2 3 x.c := by unfold saG; rw [if_neg hk, if_pos hk2, if_neg ht]
        by_cases hz : nxC g 2 3 x.c = 0
        · have h0 := hn hz
          have hz2 : ¬ nxC g 2 3 x.c ≠ 0 := fun h => h hz
          have h3 := tellB_c (π := π) (s := s) ⟨2, 3, x.c, []⟩
          have h4 : (Opn.mk 2 3 x.c []).d.length = 0 := rfl
          have hok := tellB_ok hπ.1 hs (x := ⟨2, 3, x.c, []⟩) (fun x hx => by cases hx)
          have h5 := dN_c (π := π) (tellB π s ⟨2, 3, x.c, []⟩) (sqN x.c)
          have h6 := dN_ok hπ.1 hok (sqN x.c)
          have e3 : chS π g s x.c = dN π (sqN x.c) (tellB π s ⟨2, 3, x.c, []⟩) := if_neg hz2
          by_cases hd : dC' π (sqN x.c) (tellB π s ⟨2, 3, x.c, []⟩) = 0
          · have h := sayCY_ctr hπ htl hg hga hs hc hk2 ht hz hd
            have e4 : chG π g s x.c = gNx g 2 3 x.c := by unfold chG; rw [if_neg hz2, hd, gFl_0]
            refine ⟨0, chG π g s x.c, chS π g s x.c, itF π (sqN x.c) (tellB π s ⟨2, 3, x.c, []⟩), [], ⟨by rw [e4]; rfl, by rw [e4]; exact hg.nx _ _ _, by rw [e3]; exact h6, by rw [e3]; omega, fun x hx => (by cases hx), by decide, by rw [itF_len]; exact h0, .inr ⟨by rw [e1, hz], by rw [e2, e4], by rw [e2, e4]⟩⟩, h⟩
          · have h := sayCB_ctr hπ htl hg hga hs hc hk2 ht hz hd
            have hd11 := (dC_eq (sqN x.c) (tellB π s ⟨2, 3, x.c, []⟩)).resolve_left hd
            have e4 : chG π g s x.c = gFl (gNx g 2 3 x.c) 11 := by unfold chG; rw [if_neg hz2, hd11]
            have e5 : chC π g s x.c = 11 := by unfold chC; rw [if_neg hz2, hd11]
            refine ⟨chC π g s x.c, chG π g s x.c, chS π g s x.c, [], [], ⟨by rw [e4]; rfl, by rw [e4]; exact (hg.nx _ _ _).fl _, by rw [e3]; exact h6, by rw [e3]; omega, fun x hx => (by cases hx), by decide, by decide, .inl e5⟩, h⟩
        · have h := sayCN_ctr hπ htl hg hga hs hc hk2 ht hz
          have e3 : chS π g s x.c = s := if_pos hz
          have e4 : chG π g s x.c = gNx g 2 3 x.c := if_pos hz
          have e5 : chC π g s x.c = nxC g 2 3 x.c := if_pos hz
          refine ⟨chC π g s x.c, chG π g s x.c, chS π g s x.c, [], [], ⟨by rw [e4]; rfl, by rw [e4]; exact hg.nx _ _ _, by rw [e3]; exact hs, by rw [e3]; omega, fun x hx => (by cases hx), by decide, by decide, .inr ⟨by rw [e1, e5], by rw [e2, e4], by rw [e2, e4]⟩⟩, h⟩
    · have h := sayR_ctr hπ htl hg hga hs hc hk hk2
      have h3 := tellB_c (π := π) (s := s) ⟨3, 0, 1, []⟩
      have h4 : (Opn.mk 3 0 1 []).d.length = 0 := rfl
      have hok := tellB_ok hπ.1 hs (x := ⟨3, 0, 1, []⟩) (fun x hx => by cases hx)
      have e1 : saC g x = nxC g 3 0 1 := by unfold saC; rw [if_neg hk, if_neg hk2]
      have e2 : saG g x = gNx g 3 0 1 := by unfold saG; rw [if_neg hk, if_neg hk2]
      have hS : Sp.Ok 136 200 bQ (raS π g s) ∧ (raS π g s).c ≤ s.c + 3000000000 := by
        unfold raS
        split
        · refine ⟨hok.ratch hπ.1 (by unfold bQ; decide), ?_⟩
          show (tellB π s ⟨3, 0, 1, []⟩).c + 1 ≤ _
          omega
        · exact ⟨hs, by omega⟩
      refine ⟨nxC g 3 0 1, gNx g 3 0 1, raS π g s, [], [], ⟨rfl, hg.nx _ _ _, hS.1, hS.2, fun x hx => (by cases hx), by decide, by decide, .inr ⟨e1.symm, by rw [e2], by rw [e2]⟩⟩, h⟩
end Go.Proofs.YtlfadlfjjkppfaaGreatDoor
namespace Go.Proofs.YtlfadlfjjkppfaaGreatDoor
open Go Sim
set_option maxRecDepth 10000
def opC (x : Opn) : List Value := [.int .i64 x.k, .int .i64 x.t, .int .i64 x.c, db x.d]
theorem opC_clo (x : Opn) : ∀ v ∈ [.int .i64 x.k, .int .i64 x.t, .int .i64 x.c, db x.d], cloV v = true := by
  intro v hv
  simp only [List.mem_cons, List.not_mem_nil, or_false] at hv
  rcases hv with rfl | rfl | rfl | rfl <;> rfl
theorem cloF (Ls : List Opn) : ∀ v ∈ Ls.flatMap opC, cloV v = true := fun v hv => by
  obtain ⟨x, _, hx⟩ := List.mem_flatMap.1 hv
  exact opC_clo x v hx
theorem opC_len : ∀ Ls : List Opn, (Ls.flatMap opC).length = Ls.length * 4
  | [] => rfl
  | x :: Ls => by rw [List.flatMap_cons, List.length_append, opC_len Ls, List.length_cons]; show 4 + _ = _; omega
theorem opC_room {Ls : List Opn} {k : Nat} (hk : k < Ls.length) : 0 + k * 4 + 4 ≤ (Ls.flatMap opC).length := by rw [opC_len]; omega
theorem opC_at : ∀ {Ls : List Opn} {k : Nat}, k < Ls.length → ((Ls.flatMap opC).drop (0 + k * 4)).take 4 = opC (Ls.getD k op0)
  | [], _, h => by cases h
  | x :: Ls, 0, _ => rfl
  | x :: Ls, k + 1, h => by
    have ih := opC_at (Ls := Ls) (k := k) (by simpa using h)
    rw [Nat.zero_add] at ih ⊢
    rw [List.flatMap_cons, show (k + 1) * 4 = (opC x).length + k * 4 by show _ = 4 + _; omega, ← List.drop_drop, List.drop_left, ih]; rfl
theorem getD_all {l : List Opn} (h : ∀ x ∈ l, bd 256 x.d) {i : Nat} (hi : i < l.length) : bd 256 (l.getD i op0).d := by
  have e : l.getD i op0 = l[i] := by simp [List.getD, hi]
  rw [e]; exact h _ (List.getElem_mem hi)
theorem ffL_room {F : List Fp} {k : Nat} (hk : k < F.length) : 0 + k * 4 + 4 ≤ (((F.map fe).flatten).map (vi .u64)).length := by rw [List.length_map, ffl_len rfl]; omega
theorem ffL_at {F : List Fp} {k : Nat} (hk : k < F.length) : ((((F.map fe).flatten).map (vi .u64)).drop (0 + k * 4)).take 4 = (fe (F.getD k 0)).map (vi .u64) := by
  have h := fsum_at (vs := F.map (·.val)) (i := k) (by simpa using hk)
  rw [List.map_map] at h
  have e : (F.map (·.val)).getD k 0 = (F.getD k 0).val := by simp [List.getD, hk]
  rw [e] at h
  exact h
theorem trC_all {T g s : Nat} {tag : List Nat} {ids : List Nat} (h1 : ids.contains g = true) (h2 : ids.contains s = true) (hT : T ≠ 987654321) : (trC T g s tag).all (okC ids) = true := by
  unfold trC
  rw [List.all_cons, List.all_append, List.all_cons, List.all_nil, Bool.and_true, Bool.and_eq_true, Bool.and_eq_true]
  refine ⟨h1, ?_, ?_⟩
  · rw [List.all_eq_true]
    intro v hv
    obtain ⟨n, _, rfl⟩ := List.mem_map.1 hv
    rfl
  · show (T != 987654321 && ids.contains s) = true
    rw [h2, Bool.and_true, bne_iff_ne]; exact hT
end Go.Proofs.YtlfadlfjjkppfaaGreatDoor
namespace Go.Proofs.YtlfadlfjjkppfaaGreatDoor
open Go Sim
set_option maxRecDepth 10000
theorem tcsY_ctr {π : List Nat → List Nat} {p tag : List Nat} {l : List Opn} {g0 : Gd} {s0 : Sp Nat} (hπ : PermB π) (htl : tag.length = 32) (hg0 : GOk g0) (hs0 : Sp.Ok 136 200 bQ s0) (h0 : s0.c = 0) (hb : ∀ x ∈ l, bd 256 x.d)
  (hN : p.length < 200000000 → GC Tryz.prog 12 [vi .i64 1, db p] [] [.pointer (some ⟨0, 0, none⟩), .int .i64 (-1), vi .i64 0] [⟨trC 112 1 2 tag, true, 1⟩, ⟨[dI g0.its, vi .i64 g0.a, wrV g0.wr], true, 1⟩, ⟨[.iface 213 (.agg #[]), .slice (some ⟨3, 0, none⟩) 200 0, vi .i64 s0.i, vi .i64 s0.o, vi .i64 s0.c], true, 1⟩, ⟨s0.st.map (vi .u8), true, 1⟩]) : GC Tryz.prog 8 [db p, .slice (some ⟨0, 0, none⟩) l.length 0] [⟨l.flatMap opC, false, 4⟩] [.bool true] [⟨l.flatMap opC, false, 4⟩] := by
 refine GC.intro Tryz.func8 rfl (by show 2 ≤ 176; decide) (Nat.le_of_ble_eq_true rfl) ?_
 refine zS ?_
 refine yA ?_
 refine zN (zQ (zS ?_))
 refine yC (speaks_ctr) bd10 [] [] ?_
 refine yP (PureOp.not rfl) ?_
 refine yM ?_
 refine yM ?_
 refine yP pD ?_
 refine yB (pGt (b := 1000)) (fun hb0 => ?_) (fun hb0 => ?_)
 ·
  refine yP pE ?_
  refine yM ?_
  refine yK ?_
  refine yK ?_
  refine yK ?_
  refine yP pT ?_
  refine zN (zC (zS ?_))
  refine yC (speaks_ctr) bd10 [] [] ?_
  refine yA ?_
  refine zN (zE (zU ?_))
  exact rq [] [.tmp 4] (hb := (OutL.clo rfl (cloF l) (by intro h; exact h.elim id fun h => absurd h.1 (by simp)) trivial))
 ·
  have hp1 : p.length ≤ 1000 := by simpa using hb0
  refine yP pE ?_
  refine yM ?_
  refine yM ?_
  refine yP pL ?_
  refine yB (pGt (b := 8)) (fun hb1 => ?_) (fun hb1 => ?_)
  ·
   refine yP pE ?_
   refine zN (zC (zS ?_))
   refine yC (speaks_ctr) bd10 [] [] ?_
   refine yA ?_
   refine zN (zE (zU ?_))
   exact rq [] [.tmp 4] (hb := (OutL.clo rfl (cloF l) (by intro h; exact h.elim id fun h => absurd h.1 (by simp)) trivial))
  ·
   have hl8 : l.length ≤ 8 := by simpa using hb1
   refine yP pE ?_
   refine zN (zF (zK (zT (zS ?_))))
   refine yM ?_
   refine yC ((hN (by omega))) bd12 [] [37000, 37001, 37002, 37003] ?_ (hargs := (.cons rfl rfl (.clo rfl .nil))) (hnew := (.new (cells := trC 112 37001 37002 _) (trC_ren rfl rfl rfl rfl) (trC_ok rfl rfl (by decide)) (.new (clo_map_ren (gd_clo _ _ _)) (OkL.clo (gd_clo _ _ _)) (.new (cells := [.iface 213 (.agg #[]), .slice (some ⟨37003, 0, none⟩) 200 0, vi .i64 _, vi .i64 _, vi .i64 _]) rfl (OkL.all rfl) (.new (flat_map_ren (flatM flat_vi)) (OkL.flat (flatM flat_vi)) .nil)))))
   refine yM ?_
   refine yP pX ?_
   refine yP pX ?_
   refine yP pX ?_
   refine yA ?_
   refine yA ?_
   refine yA ?_
   refine zN (zS ?_)
   refine yM ?_
   refine yC ((hN (by omega))) bd12 [] [43000, 43001, 43002, 43003] ?_ (hargs := (.cons rfl rfl (.clo rfl .nil))) (hnew := (.new (cells := trC 112 43001 43002 _) (trC_ren rfl rfl rfl rfl) (trC_ok rfl rfl (by decide)) (.new (clo_map_ren (gd_clo _ _ _)) (OkL.clo (gd_clo _ _ _)) (.new (cells := [.iface 213 (.agg #[]), .slice (some ⟨43003, 0, none⟩) 200 0, vi .i64 _, vi .i64 _, vi .i64 _]) rfl (OkL.all rfl) (.new (flat_map_ren (flatM flat_vi)) (OkL.flat (flatM flat_vi)) .nil)))))
   refine yM ?_
   refine yP pX ?_
   refine yP pX ?_
   refine yP pX ?_
   refine yA ?_
   refine yA ?_
   refine yA ?_
   refine zN (zQ (zS ?_))
   refine yM ?_
   refine yP ((PureOp.neN (b := 0) rfl rfl).mono (v' := .bool false) (congrArg Value.bool (rfl))) ?_
   refine yM ?_
   refine yM ?_
   refine yP ((PureOp.neN (b := 0) rfl rfl).mono (v' := .bool false) (congrArg Value.bool (rfl))) ?_
   refine yP pE ?_
   refine zN (zF (zK (zT (zQ (zS ?_)))))
   refine yM ?_
   refine yP (PureOp.ptrEqNil Tryz.underlying28 rfl) ?_
   refine yM ?_
   refine yM ?_
   refine yP (PureOp.ptrEqNil Tryz.underlying28 rfl) ?_
   refine yP pE ?_
   refine zN (zF (zK (zT (zQ (zS ?_)))))
   refine yM ?_
   refine yP pL ?_
   refine yM ?_
   refine zN (zB ?_)
   refine AW.loopw (fun mm σ => ∃ i, ∃ g, ∃ s, (i ≤ l.length ∧ GOk g ∧ Sp.Ok 136 200 bQ s ∧ s.c ≤ 3000000000 * i) ∧ mm = l.length - i ∧ σ = ⟨(upd (upd (upd (upd (upd emp 5 (.pointer (some ⟨37000, 0, none⟩))) 8 (.pointer (some ⟨43000, 0, none⟩))) 69 (.slice (some ⟨0, 0, none⟩) l.length 0)) 70 (vi .i64 l.length)) 71 (vi .i64 i)), (upd (upd (upd (upd (upd (upd (upd (upd (upd emp 0 ⟨l.flatMap opC, false, 4⟩) 37000 ⟨trC 112 37001 37002 tag, true, 1⟩) 37001 ⟨[dI g.its, vi .i64 g.a, wrV g.wr], true, 1⟩) 37002 ⟨[.iface 213 (.agg #[]), .slice (some ⟨37003, 0, none⟩) 200 0, vi .i64 s.i, vi .i64 s.o, vi .i64 s.c], true, 1⟩) 37003 ⟨s.st.map (vi .u8), true, 1⟩) 43000 ⟨trC 112 43001 43002 tag, true, 1⟩) 43001 ⟨[dI g.its, vi .i64 g.a, wrV g.wr], true, 1⟩) 43002 ⟨[.iface 213 (.agg #[]), .slice (some ⟨43003, 0, none⟩) 200 0, vi .i64 s.i, vi .i64 s.o, vi .i64 s.c], true, 1⟩) 43003 ⟨s.st.map (vi .u8), true, 1⟩)⟩) (fm := []) ?_ ⟨0, g0, s0, ⟨Nat.zero_le _, hg0, hs0, by omega⟩, rfl, rfl⟩ ?_
   ·
    refine Wk.of [0, 37000, 37001, 37002, 37003, 43000, 43001, 43002, 43003] ?_ ?_ ?_ (by decide) rfl
    ·
     refine WkE.upd rfl (by exact VR.flat _ rfl) ?_
     refine WkE.upd rfl (by exact VR.flat _ rfl) ?_
     refine WkE.upd rfl (.slice (0) 0 _ 0 ⟨_, rfl⟩ (by simp) (by simp)) ?_
     refine WkE.upd rfl (.ptr (43000) 0 ⟨_, rfl⟩) ?_
     refine WkE.upd rfl (.ptr (37000) 0 ⟨_, rfl⟩) ?_
     exact WkE.emp
    ·
     refine WkM.flatM rfl (by rfl) (fun _ => rfl) (fun h => h) ?_
     refine WkM.cells [43003] rfl rfl rfl (dom_all rfl) (fun h => h) ?_
     refine WkM.clo rfl (gd_clo _ _ _) (fun h => h) ?_
     refine WkM.cells [43001, 43002] rfl (trC_ren rfl rfl rfl rfl) (trC_all rfl rfl (by decide)) (dom_all rfl) (fun h => h) ?_
     refine WkM.flatM rfl (by rfl) (fun _ => rfl) (fun h => h) ?_
     refine WkM.cells [37003] rfl rfl rfl (dom_all rfl) (fun h => h) ?_
     refine WkM.clo rfl (gd_clo _ _ _) (fun h => h) ?_
     refine WkM.cells [37001, 37002] rfl (trC_ren rfl rfl rfl rfl) (trC_all rfl rfl (by decide)) (dom_all rfl) (fun h => h) ?_
     refine WkM.clo rfl (cloF l) (fun h => h) ?_
     exact WkM.emp
    ·
     repeat (refine dom_upd_mem (by decide) ?_)
     exact dom_emp
   ·
    rintro mm σ ⟨i, g, s, ⟨hil, hg, hs, hsc⟩, rfl, rfl⟩
    refine zS ?_
    refine yP pLt ?_
    refine zN (zQ ?_)
    refine zA (fun hb2 => ?_) (fun hb2 => ?_)
    ·
     have hi : i < l.length := by simpa using hb2
     obtain ⟨x, hx⟩ : ∃ x, l.getD i op0 = x := ⟨_, rfl⟩
     have hxb : bd 256 x.d := by rw [← hx]; exact getD_all hb hi
     refine zK (zT (zQ (zB (zS ?_))))
     refine yP (PureOp.idx tbok rfl rfl rfl rfl (by omega)) ?_
     refine AWo.loadAgg tbok (vs := [.int .i64 x.k, .int .i64 x.t, .int .i64 x.c, db x.d]) rfl rfl rfl rfl (opC_room hi) ((opC_at hi).trans (by rw [hx]; rfl)) rfl rfl ?_
     refine yN 13000 1 _ ?_
     refine AWo.storeAllN (vs := [.int .i64 x.k, .int .i64 x.t, .int .i64 x.c, db x.d]) tbok rfl rfl rfl rfl rfl rfl rfl rfl ?_
     refine zN (zQ ?_)
     refine AW.seqJ (fun σ => ∃ b, (b = false → x.d.length ≤ 300) ∧ σ = ⟨(upd (upd (upd (upd (upd (upd (upd emp 5 (.pointer (some ⟨37000, 0, none⟩))) 8 (.pointer (some ⟨43000, 0, none⟩))) 69 (.slice (some ⟨0, 0, none⟩) l.length 0)) 70 (vi .i64 l.length)) 71 (vi .i64 i)) 12 (.pointer (some ⟨13000, 0, none⟩))) 88 (.bool b)), (upd (upd (upd (upd (upd (upd (upd (upd (upd (upd emp 0 ⟨l.flatMap opC, false, 4⟩) 37000 ⟨trC 112 37001 37002 tag, true, 1⟩) 37001 ⟨[dI g.its, vi .i64 g.a, wrV g.wr], true, 1⟩) 37002 ⟨[.iface 213 (.agg #[]), .slice (some ⟨37003, 0, none⟩) 200 0, vi .i64 s.i, vi .i64 s.o, vi .i64 s.c], true, 1⟩) 37003 ⟨s.st.map (vi .u8), true, 1⟩) 43000 ⟨trC 112 43001 43002 tag, true, 1⟩) 43001 ⟨[dI g.its, vi .i64 g.a, wrV g.wr], true, 1⟩) 43002 ⟨[.iface 213 (.agg #[]), .slice (some ⟨43003, 0, none⟩) 200 0, vi .i64 s.i, vi .i64 s.o, vi .i64 s.c], true, 1⟩) 43003 ⟨s.st.map (vi .u8), true, 1⟩) 13000 ⟨[.int .i64 x.k, .int .i64 x.t, .int .i64 x.c, db x.d], true, 1⟩)⟩) ?_ ?_
     ·
      refine zR ?_
      refine yP pF ?_
      refine AWo.load tbok (v := db x.d) rfl rfl rfl rfl rfl rfl ?_
      refine yP pD ?_
      refine yB (pGt (b := 300)) (fun hb3 => ?_) (fun hb3 => ?_)
      ·
       refine yM ?_
       refine yK ?_
       refine yK ?_
       refine yK ?_
       refine yK ?_
       refine yK ?_
       refine yK ?_
       refine yK ?_
       refine yK ?_
       refine yP pT ?_
       refine zN (zT ?_)
       refine ⟨[], _, ?_, ⟨true, (fun h => by cases h), rfl⟩⟩
       refine Wk.of [0, 37000, 37001, 37002, 37003, 43000, 43001, 43002, 43003, 13000] ?_ ?_ ?_ (by decide) rfl
       ·
        refine WkE.upd rfl (by exact VR.flat _ rfl) ?_
        refine WkE.upd rfl (.ptr (13000) 0 ⟨_, rfl⟩) ?_
        refine WkE.upd rfl (by exact VR.flat _ rfl) ?_
        refine WkE.upd rfl (by exact VR.flat _ rfl) ?_
        refine WkE.upd rfl (.slice (0) 0 _ 0 ⟨_, rfl⟩ (by simp) (by simp)) ?_
        refine WkE.upd rfl (.ptr (43000) 0 ⟨_, rfl⟩) ?_
        refine WkE.upd rfl (.ptr (37000) 0 ⟨_, rfl⟩) ?_
        exact WkE.emp
       ·
        refine WkM.clo rfl (opC_clo x) (fun h => h) ?_
        refine WkM.flatM rfl (by rfl) (fun _ => rfl) (fun h => h) ?_
        refine WkM.cells [43003] rfl rfl rfl (dom_all rfl) (fun h => h) ?_
        refine WkM.clo rfl (gd_clo _ _ _) (fun h => h) ?_
        refine WkM.cells [43001, 43002] rfl (trC_ren rfl rfl rfl rfl) (trC_all rfl rfl (by decide)) (dom_all rfl) (fun h => h) ?_
        refine WkM.flatM rfl (by rfl) (fun _ => rfl) (fun h => h) ?_
        refine WkM.cells [37003] rfl rfl rfl (dom_all rfl) (fun h => h) ?_
        refine WkM.clo rfl (gd_clo _ _ _) (fun h => h) ?_
        refine WkM.cells [37001, 37002] rfl (trC_ren rfl rfl rfl rfl) (trC_all rfl rfl (by decide)) (dom_all rfl) (fun h => h) ?_
        refine WkM.clo rfl (cloF l) (fun h => h) ?_
        exact WkM.emp
       ·
        repeat (refine dom_upd_mem (by decide) ?_)
        exact dom_emp
      ·
       have hd3 : x.d.length ≤ 300 := by simpa using hb3
       refine yM ?_
       refine yP pF ?_
       refine AWo.load tbok (v := .int .i64 x.c) rfl rfl rfl rfl rfl rfl ?_
       refine yB (PureOp.bin rfl rfl rfl) (fun hb4 => ?_) (fun hb4 => ?_)
       ·
        refine yM ?_
        refine yP pF ?_
        refine AWo.load tbok (v := .int .i64 x.c) rfl rfl rfl rfl rfl rfl ?_
        refine yB (PureOp.bin rfl rfl rfl) (fun hb5 => ?_) (fun hb5 => ?_)
        ·
         refine yP pT ?_
         refine yP pE ?_
         refine zN (zT ?_)
         refine ⟨[], _, ?_, ⟨true, (fun h => by cases h), rfl⟩⟩
         refine Wk.of [0, 37000, 37001, 37002, 37003, 43000, 43001, 43002, 43003, 13000] ?_ ?_ ?_ (by decide) rfl
         ·
          refine WkE.upd rfl (by exact VR.flat _ rfl) ?_
          refine WkE.upd rfl (.ptr (13000) 0 ⟨_, rfl⟩) ?_
          refine WkE.upd rfl (by exact VR.flat _ rfl) ?_
          refine WkE.upd rfl (by exact VR.flat _ rfl) ?_
          refine WkE.upd rfl (.slice (0) 0 _ 0 ⟨_, rfl⟩ (by simp) (by simp)) ?_
          refine WkE.upd rfl (.ptr (43000) 0 ⟨_, rfl⟩) ?_
          refine WkE.upd rfl (.ptr (37000) 0 ⟨_, rfl⟩) ?_
          exact WkE.emp
         ·
          refine WkM.clo rfl (opC_clo x) (fun h => h) ?_
          refine WkM.flatM rfl (by rfl) (fun _ => rfl) (fun h => h) ?_
          refine WkM.cells [43003] rfl rfl rfl (dom_all rfl) (fun h => h) ?_
          refine WkM.clo rfl (gd_clo _ _ _) (fun h => h) ?_
          refine WkM.cells [43001, 43002] rfl (trC_ren rfl rfl rfl rfl) (trC_all rfl rfl (by decide)) (dom_all rfl) (fun h => h) ?_
          refine WkM.flatM rfl (by rfl) (fun _ => rfl) (fun h => h) ?_
          refine WkM.cells [37003] rfl rfl rfl (dom_all rfl) (fun h => h) ?_
          refine WkM.clo rfl (gd_clo _ _ _) (fun h => h) ?_
          refine WkM.cells [37001, 37002] rfl (trC_ren rfl rfl rfl rfl) (trC_all rfl rfl (by decide)) (dom_all rfl) (fun h => h) ?_
          refine WkM.clo rfl (cloF l) (fun h => h) ?_
          exact WkM.emp
         ·
          repeat (refine dom_upd_mem (by decide) ?_)
          exact dom_emp
        ·
         refine yP pT ?_
         refine yP pE ?_
         refine zN (zT ?_)
         refine ⟨[], _, ?_, ⟨false, fun _ => hd3, rfl⟩⟩
         refine Wk.of [0, 37000, 37001, 37002, 37003, 43000, 43001, 43002, 43003, 13000] ?_ ?_ ?_ (by decide) rfl
         ·
          refine WkE.upd rfl (by exact VR.flat _ rfl) ?_
          refine WkE.upd rfl (.ptr (13000) 0 ⟨_, rfl⟩) ?_
          refine WkE.upd rfl (by exact VR.flat _ rfl) ?_
          refine WkE.upd rfl (by exact VR.flat _ rfl) ?_
          refine WkE.upd rfl (.slice (0) 0 _ 0 ⟨_, rfl⟩ (by simp) (by simp)) ?_
          refine WkE.upd rfl (.ptr (43000) 0 ⟨_, rfl⟩) ?_
          refine WkE.upd rfl (.ptr (37000) 0 ⟨_, rfl⟩) ?_
          exact WkE.emp
         ·
          refine WkM.clo rfl (opC_clo x) (fun h => h) ?_
          refine WkM.flatM rfl (by rfl) (fun _ => rfl) (fun h => h) ?_
          refine WkM.cells [43003] rfl rfl rfl (dom_all rfl) (fun h => h) ?_
          refine WkM.clo rfl (gd_clo _ _ _) (fun h => h) ?_
          refine WkM.cells [43001, 43002] rfl (trC_ren rfl rfl rfl rfl) (trC_all rfl rfl (by decide)) (dom_all rfl) (fun h => h) ?_
          refine WkM.flatM rfl (by rfl) (fun _ => rfl) (fun h => h) ?_
          refine WkM.cells [37003] rfl rfl rfl (dom_all rfl) (fun h => h) ?_
          refine WkM.clo rfl (gd_clo _ _ _) (fun h => h) ?_
          refine WkM.cells [37001, 37002] rfl (trC_ren rfl rfl rfl rfl) (trC_all rfl rfl (by decide)) (dom_all rfl) (fun h => h) ?_
          refine WkM.clo rfl (cloF l) (fun h => h) ?_
          exact WkM.emp
         ·
          repeat (refine dom_upd_mem (by decide) ?_)
          exact dom_emp
       ·
        refine yM ?_
        refine yK ?_
        refine yK ?_
        refine yK ?_
        refine yP pE ?_
        refine yP pE ?_
        refine zN (zT ?_)
        refine ⟨[], _, ?_, ⟨false, fun _ => hd3, rfl⟩⟩
        refine Wk.of [0, 37000, 37001, 37002, 37003, 43000, 43001, 43002, 43003, 13000] ?_ ?_ ?_ (by decide) rfl
        ·
         refine WkE.upd rfl (by exact VR.flat _ rfl) ?_
         refine WkE.upd rfl (.ptr (13000) 0 ⟨_, rfl⟩) ?_
         refine WkE.upd rfl (by exact VR.flat _ rfl) ?_
         refine WkE.upd rfl (by exact VR.flat _ rfl) ?_
         refine WkE.upd rfl (.slice (0) 0 _ 0 ⟨_, rfl⟩ (by simp) (by simp)) ?_
         refine WkE.upd rfl (.ptr (43000) 0 ⟨_, rfl⟩) ?_
         refine WkE.upd rfl (.ptr (37000) 0 ⟨_, rfl⟩) ?_
         exact WkE.emp
        ·
         refine WkM.clo rfl (opC_clo x) (fun h => h) ?_
         refine WkM.flatM rfl (by rfl) (fun _ => rfl) (fun h => h) ?_
         refine WkM.cells [43003] rfl rfl rfl (dom_all rfl) (fun h => h) ?_
         refine WkM.clo rfl (gd_clo _ _ _) (fun h => h) ?_
         refine WkM.cells [43001, 43002] rfl (trC_ren rfl rfl rfl rfl) (trC_all rfl rfl (by decide)) (dom_all rfl) (fun h => h) ?_
         refine WkM.flatM rfl (by rfl) (fun _ => rfl) (fun h => h) ?_
         refine WkM.cells [37003] rfl rfl rfl (dom_all rfl) (fun h => h) ?_
         refine WkM.clo rfl (gd_clo _ _ _) (fun h => h) ?_
         refine WkM.cells [37001, 37002] rfl (trC_ren rfl rfl rfl rfl) (trC_all rfl rfl (by decide)) (dom_all rfl) (fun h => h) ?_
         refine WkM.clo rfl (cloF l) (fun h => h) ?_
         exact WkM.emp
        ·
         repeat (refine dom_upd_mem (by decide) ?_)
         exact dom_emp
     ·
      rintro σ ⟨b, hj, rfl⟩
      refine zA (fun hb6 => ?_) (fun hb6 => ?_)
      ·
       refine zS ?_
       refine yA ?_
       refine zN (zE (zU (zI (zU (zU (zI (zU ?_)))))))
       exact rq [] [.tmp 4] (hb := (OutL.clo rfl (cloF l) (by intro h; exact h.elim id fun h => absurd h.1 (by simp)) trivial))
      ·
       have hd3 : x.d.length ≤ 300 := hj hb6
       refine zK (zT (zS ?_))
       refine yP pF ?_
       refine AWo.load tbok (v := .int .i64 x.t) rfl rfl rfl rfl rfl rfl ?_
       refine yP pF ?_
       refine AWo.load tbok (v := .int .i64 x.c) rfl rfl rfl rfl rfl rfl ?_
       refine yP pF ?_
       refine AWo.load tbok (v := db x.d) rfl rfl rfl rfl rfl rfl ?_
       refine yP ((PureOp.buildStruct [(0, .int .i64 1), (1, .int .i64 x.t), (2, .int .i64 x.c), (3, db x.d)] pl34.choose_spec.1 zr34 (by decide) pl34.choose_spec.2 rfl rfl).mono (v' := .agg #[.int .i64 1, .int .i64 x.t, .int .i64 x.c, db x.d]) rfl) ?_
       refine yN 14000 1 _ ?_
       refine AWo.storeAllN (vs := [.int .i64 1, .int .i64 x.t, .int .i64 x.c, db x.d]) tbok rfl rfl rfl rfl rfl rfl rfl rfl ?_
       refine zN (zQ (zS ?_))
       refine yP pF ?_
       refine AWo.load tbok (v := .int .i64 x.k) rfl rfl rfl rfl rfl rfl ?_
       refine zN ?_
       refine AW.joinT (fun σ => ∃ k1, ∃ t1, (True) ∧ σ = ⟨(upd (upd (upd (upd (upd (upd emp 5 (.pointer (some ⟨37000, 0, none⟩))) 8 (.pointer (some ⟨43000, 0, none⟩))) 69 (.slice (some ⟨0, 0, none⟩) l.length 0)) 70 (vi .i64 l.length)) 71 (vi .i64 i)) 13 (.pointer (some ⟨14000, 0, none⟩))), (upd (upd (upd (upd (upd (upd (upd (upd (upd (upd emp 0 ⟨l.flatMap opC, false, 4⟩) 37000 ⟨trC 112 37001 37002 tag, true, 1⟩) 37001 ⟨[dI g.its, vi .i64 g.a, wrV g.wr], true, 1⟩) 37002 ⟨[.iface 213 (.agg #[]), .slice (some ⟨37003, 0, none⟩) 200 0, vi .i64 s.i, vi .i64 s.o, vi .i64 s.c], true, 1⟩) 37003 ⟨s.st.map (vi .u8), true, 1⟩) 43000 ⟨trC 112 43001 43002 tag, true, 1⟩) 43001 ⟨[dI g.its, vi .i64 g.a, wrV g.wr], true, 1⟩) 43002 ⟨[.iface 213 (.agg #[]), .slice (some ⟨43003, 0, none⟩) 200 0, vi .i64 s.i, vi .i64 s.o, vi .i64 s.c], true, 1⟩) 43003 ⟨s.st.map (vi .u8), true, 1⟩) 14000 ⟨[.int .i64 k1, .int .i64 t1, .int .i64 x.c, db x.d], true, 1⟩)⟩) ?_ ?_
       ·
        refine zB (zS ?_)
        refine yP (PureOp.bin rfl rfl rfl) ?_
        refine yA ?_
        refine zN ?_
        refine zA (fun hb7 => ?_) (fun hb7 => ?_)
        ·
         refine zR ?_
         refine yP pF ?_
         refine AWo.store1 tbok rfl rfl rfl rfl rfl (of_decide_eq_true rfl) rfl rfl ?_
         refine yP pF ?_
         refine AWo.store1 tbok rfl rfl rfl rfl rfl (of_decide_eq_true rfl) rfl rfl ?_
         refine zN (zL (zT ?_))
         refine ⟨[], _, ?_, ⟨2, 1, trivial, rfl⟩⟩
         refine Wk.of [0, 37000, 37001, 37002, 37003, 43000, 43001, 43002, 43003, 14000] ?_ ?_ ?_ (by decide) rfl
         ·
          refine WkE.upd rfl (.ptr (14000) 0 ⟨_, rfl⟩) ?_
          refine WkE.upd rfl (by exact VR.flat _ rfl) ?_
          refine WkE.upd rfl (by exact VR.flat _ rfl) ?_
          refine WkE.upd rfl (.slice (0) 0 _ 0 ⟨_, rfl⟩ (by simp) (by simp)) ?_
          refine WkE.upd rfl (.ptr (43000) 0 ⟨_, rfl⟩) ?_
          refine WkE.upd rfl (.ptr (37000) 0 ⟨_, rfl⟩) ?_
          exact WkE.emp
         ·
          refine WkM.clo rfl (opC_clo ⟨_, _, x.c, x.d⟩) (fun h => h) ?_
          refine WkM.flatM rfl (by rfl) (fun _ => rfl) (fun h => h) ?_
          refine WkM.cells [43003] rfl rfl rfl (dom_all rfl) (fun h => h) ?_
          refine WkM.clo rfl (gd_clo _ _ _) (fun h => h) ?_
          refine WkM.cells [43001, 43002] rfl (trC_ren rfl rfl rfl rfl) (trC_all rfl rfl (by decide)) (dom_all rfl) (fun h => h) ?_
          refine WkM.flatM rfl (by rfl) (fun _ => rfl) (fun h => h) ?_
          refine WkM.cells [37003] rfl rfl rfl (dom_all rfl) (fun h => h) ?_
          refine WkM.clo rfl (gd_clo _ _ _) (fun h => h) ?_
          refine WkM.cells [37001, 37002] rfl (trC_ren rfl rfl rfl rfl) (trC_all rfl rfl (by decide)) (dom_all rfl) (fun h => h) ?_
          refine WkM.clo rfl (cloF l) (fun h => h) ?_
          exact WkM.emp
         ·
          repeat (refine dom_upd_mem (by decide) ?_)
          exact dom_emp
        ·
         refine zS ?_
         refine yP (PureOp.bin rfl rfl rfl) ?_
         refine yA ?_
         refine zN ?_
         refine zA (fun hb8 => ?_) (fun hb8 => ?_)
         ·
          refine zR ?_
          refine yP pF ?_
          refine AWo.store1 tbok rfl rfl rfl rfl rfl (of_decide_eq_true rfl) rfl rfl ?_
          refine yP pF ?_
          refine AWo.store1 tbok rfl rfl rfl rfl rfl (of_decide_eq_true rfl) rfl rfl ?_
          refine zN (zL (zT ?_))
          refine ⟨[], _, ?_, ⟨2, 3, trivial, rfl⟩⟩
          refine Wk.of [0, 37000, 37001, 37002, 37003, 43000, 43001, 43002, 43003, 14000] ?_ ?_ ?_ (by decide) rfl
          ·
           refine WkE.upd rfl (.ptr (14000) 0 ⟨_, rfl⟩) ?_
           refine WkE.upd rfl (by exact VR.flat _ rfl) ?_
           refine WkE.upd rfl (by exact VR.flat _ rfl) ?_
           refine WkE.upd rfl (.slice (0) 0 _ 0 ⟨_, rfl⟩ (by simp) (by simp)) ?_
           refine WkE.upd rfl (.ptr (43000) 0 ⟨_, rfl⟩) ?_
           refine WkE.upd rfl (.ptr (37000) 0 ⟨_, rfl⟩) ?_
           exact WkE.emp
          ·
           refine WkM.clo rfl (opC_clo ⟨_, _, x.c, x.d⟩) (fun h => h) ?_
           refine WkM.flatM rfl (by rfl) (fun _ => rfl) (fun h => h) ?_
           refine WkM.cells [43003] rfl rfl rfl (dom_all rfl) (fun h => h) ?_
           refine WkM.clo rfl (gd_clo _ _ _) (fun h => h) ?_
           refine WkM.cells [43001, 43002] rfl (trC_ren rfl rfl rfl rfl) (trC_all rfl rfl (by decide)) (dom_all rfl) (fun h => h) ?_
           refine WkM.flatM rfl (by rfl) (fun _ => rfl) (fun h => h) ?_
           refine WkM.cells [37003] rfl rfl rfl (dom_all rfl) (fun h => h) ?_
           refine WkM.clo rfl (gd_clo _ _ _) (fun h => h) ?_
           refine WkM.cells [37001, 37002] rfl (trC_ren rfl rfl rfl rfl) (trC_all rfl rfl (by decide)) (dom_all rfl) (fun h => h) ?_
           refine WkM.clo rfl (cloF l) (fun h => h) ?_
           exact WkM.emp
          ·
           repeat (refine dom_upd_mem (by decide) ?_)
           exact dom_emp
         ·
          refine zS ?_
          refine yP (PureOp.bin rfl rfl rfl) ?_
          refine yA ?_
          refine zN ?_
          refine zA (fun hb9 => ?_) (fun hb9 => ?_)
          ·
           refine zR ?_
           refine yP pF ?_
           refine AWo.store1 tbok rfl rfl rfl rfl rfl (of_decide_eq_true rfl) rfl rfl ?_
           refine zN (zL (zT ?_))
           refine ⟨[], _, ?_, ⟨3, x.t, trivial, rfl⟩⟩
           refine Wk.of [0, 37000, 37001, 37002, 37003, 43000, 43001, 43002, 43003, 14000] ?_ ?_ ?_ (by decide) rfl
           ·
            refine WkE.upd rfl (.ptr (14000) 0 ⟨_, rfl⟩) ?_
            refine WkE.upd rfl (by exact VR.flat _ rfl) ?_
            refine WkE.upd rfl (by exact VR.flat _ rfl) ?_
            refine WkE.upd rfl (.slice (0) 0 _ 0 ⟨_, rfl⟩ (by simp) (by simp)) ?_
            refine WkE.upd rfl (.ptr (43000) 0 ⟨_, rfl⟩) ?_
            refine WkE.upd rfl (.ptr (37000) 0 ⟨_, rfl⟩) ?_
            exact WkE.emp
           ·
            refine WkM.clo rfl (opC_clo ⟨_, _, x.c, x.d⟩) (fun h => h) ?_
            refine WkM.flatM rfl (by rfl) (fun _ => rfl) (fun h => h) ?_
            refine WkM.cells [43003] rfl rfl rfl (dom_all rfl) (fun h => h) ?_
            refine WkM.clo rfl (gd_clo _ _ _) (fun h => h) ?_
            refine WkM.cells [43001, 43002] rfl (trC_ren rfl rfl rfl rfl) (trC_all rfl rfl (by decide)) (dom_all rfl) (fun h => h) ?_
            refine WkM.flatM rfl (by rfl) (fun _ => rfl) (fun h => h) ?_
            refine WkM.cells [37003] rfl rfl rfl (dom_all rfl) (fun h => h) ?_
            refine WkM.clo rfl (gd_clo _ _ _) (fun h => h) ?_
            refine WkM.cells [37001, 37002] rfl (trC_ren rfl rfl rfl rfl) (trC_all rfl rfl (by decide)) (dom_all rfl) (fun h => h) ?_
            refine WkM.clo rfl (cloF l) (fun h => h) ?_
            exact WkM.emp
           ·
            repeat (refine dom_upd_mem (by decide) ?_)
            exact dom_emp
          ·
           refine zK (zL (zT ?_))
           refine ⟨[], _, ?_, ⟨1, x.t, trivial, rfl⟩⟩
           refine Wk.of [0, 37000, 37001, 37002, 37003, 43000, 43001, 43002, 43003, 14000] ?_ ?_ ?_ (by decide) rfl
           ·
            refine WkE.upd rfl (.ptr (14000) 0 ⟨_, rfl⟩) ?_
            refine WkE.upd rfl (by exact VR.flat _ rfl) ?_
            refine WkE.upd rfl (by exact VR.flat _ rfl) ?_
            refine WkE.upd rfl (.slice (0) 0 _ 0 ⟨_, rfl⟩ (by simp) (by simp)) ?_
            refine WkE.upd rfl (.ptr (43000) 0 ⟨_, rfl⟩) ?_
            refine WkE.upd rfl (.ptr (37000) 0 ⟨_, rfl⟩) ?_
            exact WkE.emp
           ·
            refine WkM.clo rfl (opC_clo ⟨_, _, x.c, x.d⟩) (fun h => h) ?_
            refine WkM.flatM rfl (by rfl) (fun _ => rfl) (fun h => h) ?_
            refine WkM.cells [43003] rfl rfl rfl (dom_all rfl) (fun h => h) ?_
            refine WkM.clo rfl (gd_clo _ _ _) (fun h => h) ?_
            refine WkM.cells [43001, 43002] rfl (trC_ren rfl rfl rfl rfl) (trC_all rfl rfl (by decide)) (dom_all rfl) (fun h => h) ?_
            refine WkM.flatM rfl (by rfl) (fun _ => rfl) (fun h => h) ?_
            refine WkM.cells [37003] rfl rfl rfl (dom_all rfl) (fun h => h) ?_
            refine WkM.clo rfl (gd_clo _ _ _) (fun h => h) ?_
            refine WkM.cells [37001, 37002] rfl (trC_ren rfl rfl rfl rfl) (trC_all rfl rfl (by decide)) (dom_all rfl) (fun h => h) ?_
            refine WkM.clo rfl (cloF l) (fun h => h) ?_
            exact WkM.emp
           ·
            repeat (refine dom_upd_mem (by decide) ?_)
            exact dom_emp
       ·
        rintro σ ⟨k1, t1, _, rfl⟩
        obtain ⟨e, G, S, F, U, hR, hX⟩ := say_ctr hπ (tag := tag) (g := g) (s := s) (x := ⟨k1, t1, x.c, x.d⟩) htl hg hs (by omega) hxb (by show x.d.length < _; omega)
        have hUl : U.length ≤ 1048576 := hR.ul
        have hFl : F.length ≤ 1048576 := hR.fl
        refine zS ?_
        refine yM ?_
        refine AWo.loadAll (cells := [.int .i64 k1, .int .i64 t1, .int .i64 x.c, db x.d]) tbok rfl rfl rfl rfl rfl rfl rfl ?_
        refine yC (hX) bd18 [(37000, 0), (37001, 0), (37002, 0), (37003, 0)] [113000, 113001] ?_ (hargs := (.cons rfl rfl (.clo rfl .nil))) (hfit := (.whole rfl (trC_ren rfl rfl rfl rfl) (trC_ok rfl rfl (by decide)) (by intro h; rfl) (.clo rfl (gd_clo _ _ _) (by intro h; exact h) (.whole rfl rfl (OkL.all rfl) (by intro h; exact h) (.flat rfl (flatM flat_vi) (by intro h; exact h) .nil))))) (hnew := (.keep rfl (.chg rfl rfl (clo_map_ren (gd_clo _ _ _)) (OkL.clo (gd_clo _ _ _)) (.chg (cells := [.iface 213 (.agg #[]), .slice (some ⟨37003, 0, none⟩) 200 0, vi .i64 _, vi .i64 _, vi .i64 _]) rfl rfl rfl (OkL.all rfl) (.chg rfl rfl (flat_map_ren (flatM flat_vi)) (OkL.flat (flatM flat_vi)) (.new (flat_map_ren (flatM flat_vi)) (OkL.flat (flatM flat_vi)) (.new (flat_map_ren (flatM flat_vi)) (OkL.flat (flatM flat_vi)) .nil)))))))
        refine yM ?_
        refine yP pX ?_
        refine yP pX ?_
        refine yP pX ?_
        refine yA ?_
        refine yA ?_
        refine yA ?_
        refine zN (zS ?_)
        refine yM ?_
        refine AWo.loadAll (cells := [.int .i64 k1, .int .i64 t1, .int .i64 x.c, db x.d]) tbok rfl rfl rfl rfl rfl rfl rfl ?_
        refine yC (hX) bd18 [(43000, 0), (43001, 0), (43002, 0), (43003, 0)] [120000, 120001] ?_ (hargs := (.cons rfl rfl (.clo rfl .nil))) (hfit := (.whole rfl (trC_ren rfl rfl rfl rfl) (trC_ok rfl rfl (by decide)) (by intro h; rfl) (.clo rfl (gd_clo _ _ _) (by intro h; exact h) (.whole rfl rfl (OkL.all rfl) (by intro h; exact h) (.flat rfl (flatM flat_vi) (by intro h; exact h) .nil))))) (hnew := (.keep rfl (.chg rfl rfl (clo_map_ren (gd_clo _ _ _)) (OkL.clo (gd_clo _ _ _)) (.chg (cells := [.iface 213 (.agg #[]), .slice (some ⟨43003, 0, none⟩) 200 0, vi .i64 _, vi .i64 _, vi .i64 _]) rfl rfl rfl (OkL.all rfl) (.chg rfl rfl (flat_map_ren (flatM flat_vi)) (OkL.flat (flatM flat_vi)) (.new (flat_map_ren (flatM flat_vi)) (OkL.flat (flatM flat_vi)) (.new (flat_map_ren (flatM flat_vi)) (OkL.flat (flatM flat_vi)) .nil)))))))
        refine yM ?_
        refine yP pX ?_
        refine yP pX ?_
        refine yP pX ?_
        refine yA ?_
        refine yA ?_
        refine yA ?_
        refine zN (zQ (zS ?_))
        refine yM ?_
        refine yM ?_
        refine yP ((PureOp.neN rfl rfl).mono (v' := .bool false) (congrArg Value.bool (by simp))) ?_
        refine yM ?_
        refine yM ?_
        refine yP pL ?_
        refine yM ?_
        refine yP pL ?_
        refine yP ((PureOp.neN rfl rfl).mono (v' := .bool false) (congrArg Value.bool (by simp))) ?_
        refine yP pE ?_
        refine yM ?_
        refine yM ?_
        refine AWo.bytesStr tbok (U) rfl rfl (List.take_of_length_le (by simp)) (rfl) rfl Tryz.underlying5 Tryz.underlying9 rfl rfl ?_
        refine yM ?_
        refine AWo.bytesStr tbok (U) rfl rfl (List.take_of_length_le (by simp)) (rfl) rfl Tryz.underlying5 Tryz.underlying9 rfl rfl ?_
        refine yP (PureOp.neStr rfl rfl) ?_
        refine yP pE ?_
        refine yM ?_
        refine yM ?_
        refine yC (tat_ctr (g := (Gd.mk g.its G.a G.wr)) (s := S) (tag := tag)) bd27 [(37000, 0), (37001, 0), (37002, 0), (37003, 0)] [] ?_ (hfit := (.whole rfl (trC_ren rfl rfl rfl rfl) (trC_ok rfl rfl (by decide)) (by intro h; rfl) (.clo rfl (gd_clo _ _ _) (by intro h; rfl) (.whole rfl rfl (OkL.all rfl) (by intro h; rfl) (.flat rfl (flatM flat_vi) (by intro h; rfl) .nil)))))
        refine yM ?_
        refine yC (tat_ctr (g := (Gd.mk g.its G.a G.wr)) (s := S) (tag := tag)) bd27 [(43000, 0), (43001, 0), (43002, 0), (43003, 0)] [] ?_ (hfit := (.whole rfl (trC_ren rfl rfl rfl rfl) (trC_ok rfl rfl (by decide)) (by intro h; rfl) (.clo rfl (gd_clo _ _ _) (by intro h; rfl) (.whole rfl rfl (OkL.all rfl) (by intro h; rfl) (.flat rfl (flatM flat_vi) (by intro h; rfl) .nil)))))
        refine yP ((PureOp.neN rfl rfl).mono (v' := .bool false) (congrArg Value.bool (by simp))) ?_
        refine yP pE ?_
        refine yM ?_
        refine yM ?_
        refine yC (tcalls_ctr (g := (Gd.mk g.its G.a G.wr)) (s := S) htl) bd15 [(37000, 0), (37001, 0), (37002, 0), (37003, 0)] [] ?_ (hfit := (.whole rfl (trC_ren rfl rfl rfl rfl) (trC_ok rfl rfl (by decide)) (by intro h; rfl) (.clo rfl (gd_clo _ _ _) (by intro h; rfl) (.whole rfl rfl (OkL.all rfl) (by intro h; rfl) (.flat rfl (flatM flat_vi) (by intro h; rfl) .nil)))))
        refine yM ?_
        refine yC (tcalls_ctr (g := (Gd.mk g.its G.a G.wr)) (s := S) htl) bd15 [(43000, 0), (43001, 0), (43002, 0), (43003, 0)] [] ?_ (hfit := (.whole rfl (trC_ren rfl rfl rfl rfl) (trC_ok rfl rfl (by decide)) (by intro h; rfl) (.clo rfl (gd_clo _ _ _) (by intro h; rfl) (.whole rfl rfl (OkL.all rfl) (by intro h; rfl) (.flat rfl (flatM flat_vi) (by intro h; rfl) .nil)))))
        refine yP ((PureOp.neN rfl rfl).mono (v' := .bool false) (congrArg Value.bool (by simp))) ?_
        refine yP pE ?_
        refine zN (zF (zK (zT (zS ?_))))
        refine yM ?_
        refine yP pL ?_
        refine yM ?_
        refine zN (zB ?_)
        refine AW.loopw (fun mm σ => ∃ k, (k ≤ F.length) ∧ mm = F.length - k ∧ σ = ⟨(upd (upd (upd (upd (upd (upd (upd (upd (upd (upd emp 5 (.pointer (some ⟨37000, 0, none⟩))) 8 (.pointer (some ⟨43000, 0, none⟩))) 69 (.slice (some ⟨0, 0, none⟩) l.length 0)) 70 (vi .i64 l.length)) 71 (vi .i64 i)) 15 (.slice (some ⟨113000, 0, none⟩) F.length 0)) 18 (.slice (some ⟨120000, 0, none⟩) F.length 0)) 154 (.slice (some ⟨113000, 0, none⟩) F.length 0)) 155 (vi .i64 F.length)) 156 (vi .i64 k)), (upd (upd (upd (upd (upd (upd (upd (upd (upd (upd (upd emp 0 ⟨l.flatMap opC, false, 4⟩) 37000 ⟨trC 112 37001 37002 tag, true, 1⟩) 37001 ⟨[dI g.its, vi .i64 G.a, wrV G.wr], true, 1⟩) 37002 ⟨[.iface 213 (.agg #[]), .slice (some ⟨37003, 0, none⟩) 200 0, vi .i64 S.i, vi .i64 S.o, vi .i64 S.c], true, 1⟩) 37003 ⟨S.st.map (vi .u8), true, 1⟩) 43000 ⟨trC 112 43001 43002 tag, true, 1⟩) 43001 ⟨[dI g.its, vi .i64 G.a, wrV G.wr], true, 1⟩) 43002 ⟨[.iface 213 (.agg #[]), .slice (some ⟨43003, 0, none⟩) 200 0, vi .i64 S.i, vi .i64 S.o, vi .i64 S.c], true, 1⟩) 43003 ⟨S.st.map (vi .u8), true, 1⟩) 113000 ⟨((F.map fe).flatten).map (vi .u64), true, 4⟩) 120000 ⟨((F.map fe).flatten).map (vi .u64), true, 4⟩)⟩) (fm := []) ?_ ⟨0, Nat.zero_le _, rfl, rfl⟩ ?_
        ·
         refine Wk.of [0, 37000, 37001, 37002, 37003, 43000, 43001, 43002, 43003, 113000, 120000] ?_ ?_ ?_ (by decide) rfl
         ·
          refine WkE.upd rfl (by exact VR.flat _ rfl) ?_
          refine WkE.upd rfl (by exact VR.flat _ rfl) ?_
          refine WkE.upd rfl (.slice (113000) 0 _ 0 ⟨_, rfl⟩ (by simp) (by simp)) ?_
          refine WkE.upd rfl (.slice (120000) 0 _ 0 ⟨_, rfl⟩ (by simp) (by simp)) ?_
          refine WkE.upd rfl (.slice (113000) 0 _ 0 ⟨_, rfl⟩ (by simp) (by simp)) ?_
          refine WkE.upd rfl (by exact VR.flat _ rfl) ?_
          refine WkE.upd rfl (by exact VR.flat _ rfl) ?_
          refine WkE.upd rfl (.slice (0) 0 _ 0 ⟨_, rfl⟩ (by simp) (by simp)) ?_
          refine WkE.upd rfl (.ptr (43000) 0 ⟨_, rfl⟩) ?_
          refine WkE.upd rfl (.ptr (37000) 0 ⟨_, rfl⟩) ?_
          exact WkE.emp
         ·
          refine WkM.flat rfl (flatM flat_vi) (fun h => h) ?_
          refine WkM.flat rfl (flatM flat_vi) (fun h => h) ?_
          refine WkM.flatM rfl (by rfl) (fun _ => rfl) (fun h => h) ?_
          refine WkM.cells [43003] rfl rfl rfl (dom_all rfl) (fun h => h) ?_
          refine WkM.clo rfl (gd_clo _ _ _) (fun h => h) ?_
          refine WkM.cells [43001, 43002] rfl (trC_ren rfl rfl rfl rfl) (trC_all rfl rfl (by decide)) (dom_all rfl) (fun h => h) ?_
          refine WkM.flatM rfl (by rfl) (fun _ => rfl) (fun h => h) ?_
          refine WkM.cells [37003] rfl rfl rfl (dom_all rfl) (fun h => h) ?_
          refine WkM.clo rfl (gd_clo _ _ _) (fun h => h) ?_
          refine WkM.cells [37001, 37002] rfl (trC_ren rfl rfl rfl rfl) (trC_all rfl rfl (by decide)) (dom_all rfl) (fun h => h) ?_
          refine WkM.clo rfl (cloF l) (fun h => h) ?_
          exact WkM.emp
         ·
          repeat (refine dom_upd_mem (by decide) ?_)
          exact dom_emp
        ·
         rintro mm σ ⟨k, hinv, rfl, rfl⟩
         refine zS ?_
         refine yP pLt ?_
         refine zN (zQ ?_)
         refine zA (fun hb10 => ?_) (fun hb10 => ?_)
         ·
          have hk : k < F.length := by simpa using hb10
          refine zK (zT (zQ (zB (zS ?_))))
          refine yM ?_
          refine yA ?_
          refine zN ?_
          refine AW.seqD mixed ?_
          refine yM ?_
          refine yM ?_
          refine yP (PureOp.idx tbok rfl rfl rfl rfl (by omega)) ?_
          refine AWo.loadAgg tbok (vs := (fe (F.getD k 0)).map (vi .u64)) rfl rfl rfl rfl (ffL_room hk) (ffL_at hk) rfl rfl ?_
          refine yM ?_
          refine yM ?_
          refine yP (PureOp.idx tbok rfl rfl rfl rfl (by omega)) ?_
          refine AWo.loadAgg tbok (vs := (fe (F.getD k 0)).map (vi .u64)) rfl rfl rfl rfl (ffL_room hk) (ffL_at hk) rfl rfl ?_
          refine AWo.callX (v := .bool true) (equalF_ctr (x := F.getD k 0) (y := F.getD k 0)) bd29 [] [] rfl (.cons rfl (.cons rfl .nil)) rfl (.pure (by rfl) (.pure (by rfl) .nil)) .nil rfl .nil frN (by decide) (.cons rfl rfl .nil) (congrArg Value.bool (decide_eq_true rfl)) rfl rfl rfl ?_
          refine AWo.pure (PureOp.not rfl) rfl rfl ?_
          refine zD (zF (zK (zL (zT (zR ?_)))))
          refine yP (pAdd (b := 1)) ?_
          refine yM ?_
          refine zN (zT ?_)
          refine ⟨F.length - (k + 1), [], _, by omega, ?_, k + 1, by omega, rfl, rfl⟩
          refine Wk.of [0, 37000, 37001, 37002, 37003, 43000, 43001, 43002, 43003, 113000, 120000] ?_ ?_ ?_ (by decide) rfl
          ·
           refine WkE.upd rfl (by exact VR.flat _ rfl) ?_
           refine WkE.upd rfl (by exact VR.flat _ rfl) ?_
           refine WkE.upd rfl (.slice (113000) 0 _ 0 ⟨_, rfl⟩ (by simp) (by simp)) ?_
           refine WkE.upd rfl (.slice (120000) 0 _ 0 ⟨_, rfl⟩ (by simp) (by simp)) ?_
           refine WkE.upd rfl (.slice (113000) 0 _ 0 ⟨_, rfl⟩ (by simp) (by simp)) ?_
           refine WkE.upd rfl (by exact VR.flat _ rfl) ?_
           refine WkE.upd rfl (by exact VR.flat _ rfl) ?_
           refine WkE.upd rfl (.slice (0) 0 _ 0 ⟨_, rfl⟩ (by simp) (by simp)) ?_
           refine WkE.upd rfl (.ptr (43000) 0 ⟨_, rfl⟩) ?_
           refine WkE.upd rfl (.ptr (37000) 0 ⟨_, rfl⟩) ?_
           exact WkE.emp
          ·
           refine WkM.flat rfl (flatM flat_vi) (fun h => h) ?_
           refine WkM.flat rfl (flatM flat_vi) (fun h => h) ?_
           refine WkM.flatM rfl (by rfl) (fun _ => rfl) (fun h => h) ?_
           refine WkM.cells [43003] rfl rfl rfl (dom_all rfl) (fun h => h) ?_
           refine WkM.clo rfl (gd_clo _ _ _) (fun h => h) ?_
           refine WkM.cells [43001, 43002] rfl (trC_ren rfl rfl rfl rfl) (trC_all rfl rfl (by decide)) (dom_all rfl) (fun h => h) ?_
           refine WkM.flatM rfl (by rfl) (fun _ => rfl) (fun h => h) ?_
           refine WkM.cells [37003] rfl rfl rfl (dom_all rfl) (fun h => h) ?_
           refine WkM.clo rfl (gd_clo _ _ _) (fun h => h) ?_
           refine WkM.cells [37001, 37002] rfl (trC_ren rfl rfl rfl rfl) (trC_all rfl rfl (by decide)) (dom_all rfl) (fun h => h) ?_
           refine WkM.clo rfl (cloF l) (fun h => h) ?_
           exact WkM.emp
          ·
           repeat (refine dom_upd_mem (by decide) ?_)
           exact dom_emp
         ·
          refine zX (zV (zV (zH (zL (zT (zR ?_))))))
          refine yP (pAdd (b := 1)) ?_
          refine yM ?_
          refine zN (zT ?_)
          refine ⟨l.length - (i + 1), [], _, by omega, ?_, i + 1, (Gd.mk g.its G.a G.wr), S, ⟨by omega, ⟨hg.its, by have h1 := hR.ok.a; rw [hR.its] at h1; exact h1⟩, hR.sok, by have h1 := hR.c; omega⟩, rfl, rfl⟩
          refine Wk.of [0, 37000, 37001, 37002, 37003, 43000, 43001, 43002, 43003] ?_ ?_ ?_ (by decide) rfl
          ·
           refine WkE.upd rfl (by exact VR.flat _ rfl) ?_
           refine WkE.upd rfl (by exact VR.flat _ rfl) ?_
           refine WkE.upd rfl (.slice (0) 0 _ 0 ⟨_, rfl⟩ (by simp) (by simp)) ?_
           refine WkE.upd rfl (.ptr (43000) 0 ⟨_, rfl⟩) ?_
           refine WkE.upd rfl (.ptr (37000) 0 ⟨_, rfl⟩) ?_
           exact WkE.emp
          ·
           refine WkM.flatM rfl (by rfl) (fun _ => rfl) (fun h => h) ?_
           refine WkM.cells [43003] rfl rfl rfl (dom_all rfl) (fun h => h) ?_
           refine WkM.clo rfl (gd_clo _ _ _) (fun h => h) ?_
           refine WkM.cells [43001, 43002] rfl (trC_ren rfl rfl rfl rfl) (trC_all rfl rfl (by decide)) (dom_all rfl) (fun h => h) ?_
           refine WkM.flatM rfl (by rfl) (fun _ => rfl) (fun h => h) ?_
           refine WkM.cells [37003] rfl rfl rfl (dom_all rfl) (fun h => h) ?_
           refine WkM.clo rfl (gd_clo _ _ _) (fun h => h) ?_
           refine WkM.cells [37001, 37002] rfl (trC_ren rfl rfl rfl rfl) (trC_all rfl rfl (by decide)) (dom_all rfl) (fun h => h) ?_
           refine WkM.clo rfl (cloF l) (fun h => h) ?_
           exact WkM.emp
          ·
           repeat (refine dom_upd_mem (by decide) ?_)
           exact dom_emp
    ·
     refine zX (zV (zV (zH (zT (zS ?_)))))
     refine yM ?_
     refine yC (tfin_ctr (g := g) (s := s) (tag := tag)) bd22 [(37000, 0), (37001, 0), (37002, 0), (37003, 0)] [] ?_ (hfit := (.whole rfl (trC_ren rfl rfl rfl rfl) (trC_ok rfl rfl (by decide)) (by intro h; rfl) (.clo rfl (gd_clo _ _ _) (by intro h; exact h) (.whole rfl rfl (OkL.all rfl) (by intro h; rfl) (.flat rfl (flatM flat_vi) (by intro h; rfl) .nil))))) (hnew := (.keep rfl (.chg rfl rfl (clo_map_ren (gd_clo _ _ _)) (OkL.clo (gd_clo _ _ _)) (.keep rfl (.keep rfl .nil)))))
     refine yM ?_
     refine yC (tfin_ctr (g := g) (s := s) (tag := tag)) bd22 [(43000, 0), (43001, 0), (43002, 0), (43003, 0)] [] ?_ (hfit := (.whole rfl (trC_ren rfl rfl rfl rfl) (trC_ok rfl rfl (by decide)) (by intro h; rfl) (.clo rfl (gd_clo _ _ _) (by intro h; exact h) (.whole rfl rfl (OkL.all rfl) (by intro h; rfl) (.flat rfl (flatM flat_vi) (by intro h; rfl) .nil))))) (hnew := (.keep rfl (.chg rfl rfl (clo_map_ren (gd_clo _ _ _)) (OkL.clo (gd_clo _ _ _)) (.keep rfl (.keep rfl .nil)))))
     refine yP ((PureOp.eqN rfl rfl).mono (v' := .bool true) (congrArg Value.bool (by simp))) ?_
     refine yA ?_
     refine zN (zE ?_)
     exact rq [] [.tmp 4] (hb := (OutL.clo rfl (cloF l) (by intro h; exact h.elim id fun h => absurd h.1 (by simp)) trivial))
theorem tcsN_ctr {p : List Nat} {l : List Opn} {L : List It} {c : Nat} (hc : c ≠ 0) (hN : p.length < 200000000 → GC Tryz.prog 12 [vi .i64 1, db p] [] [.pointer none, vi .i64 L.length, vi .i64 c] []) : GC Tryz.prog 8 [db p, .slice (some ⟨0, 0, none⟩) l.length 0] [⟨l.flatMap opC, false, 4⟩] [.bool true] [⟨l.flatMap opC, false, 4⟩] := by
 refine GC.intro Tryz.func8 rfl (by show 2 ≤ 176; decide) (Nat.le_of_ble_eq_true rfl) ?_
 refine zS ?_
 refine yA ?_
 refine zN (zQ (zS ?_))
 refine yC (speaks_ctr) bd10 [] [] ?_
 refine yP (PureOp.not rfl) ?_
 refine yM ?_
 refine yM ?_
 refine yP pD ?_
 refine yB (pGt (b := 1000)) (fun hb0 => ?_) (fun hb0 => ?_)
 ·
  refine yP pE ?_
  refine yM ?_
  refine yK ?_
  refine yK ?_
  refine yK ?_
  refine yP pT ?_
  refine zN (zC (zS ?_))
  refine yC (speaks_ctr) bd10 [] [] ?_
  refine yA ?_
  refine zN (zE (zU ?_))
  exact rq [] [.tmp 4] (hb := (OutL.clo rfl (cloF l) (by intro h; exact h.elim id fun h => absurd h.1 (by simp)) trivial))
 ·
  have hp1 : p.length ≤ 1000 := by simpa using hb0
  refine yP pE ?_
  refine yM ?_
  refine yM ?_
  refine yP pL ?_
  refine yB (pGt (b := 8)) (fun hb1 => ?_) (fun hb1 => ?_)
  ·
   refine yP pE ?_
   refine zN (zC (zS ?_))
   refine yC (speaks_ctr) bd10 [] [] ?_
   refine yA ?_
   refine zN (zE (zU ?_))
   exact rq [] [.tmp 4] (hb := (OutL.clo rfl (cloF l) (by intro h; exact h.elim id fun h => absurd h.1 (by simp)) trivial))
  ·
   have hl8 : l.length ≤ 8 := by simpa using hb1
   refine yP pE ?_
   refine zN (zF (zK (zT (zS ?_))))
   refine yM ?_
   refine yC ((hN (by omega))) bd12 [] [] ?_ (hargs := (.cons rfl rfl (.clo rfl .nil)))
   refine yM ?_
   refine yP pX ?_
   refine yP pX ?_
   refine yP pX ?_
   refine yA ?_
   refine yA ?_
   refine yA ?_
   refine zN (zS ?_)
   refine yM ?_
   refine yC ((hN (by omega))) bd12 [] [] ?_ (hargs := (.cons rfl rfl (.clo rfl .nil)))
   refine yM ?_
   refine yP pX ?_
   refine yP pX ?_
   refine yP pX ?_
   refine yA ?_
   refine yA ?_
   refine yA ?_
   refine zN (zQ (zS ?_))
   refine yM ?_
   refine yP ((PureOp.neN (b := 0) rfl rfl).mono (v' := .bool true) (congrArg Value.bool (by simpa using hc))) ?_
   refine yM ?_
   refine yK ?_
   refine yK ?_
   refine yP pT ?_
   refine zN (zC (zS ?_))
   refine yM ?_
   refine yM ?_
   refine yP ((PureOp.eqN rfl rfl).mono (v' := .bool true) (congrArg Value.bool (by simp))) ?_
   refine yM ?_
   refine yM ?_
   refine yP (PureOp.nilEqNil Tryz.underlying28 rfl rfl) ?_
   refine yP pT ?_
   refine yM ?_
   refine yM ?_
   refine yP (PureOp.nilEqNil Tryz.underlying28 rfl rfl) ?_
   refine yP pT ?_
   refine yA ?_
   refine zN (zE (zU ?_))
   exact rq [] [.tmp 4] (hb := (OutL.clo rfl (cloF l) (by intro h; exact h.elim id fun h => absurd h.1 (by simp)) trivial))
end Go.Proofs.YtlfadlfjjkppfaaGreatDoor
namespace Go.Proofs.YtlfadlfjjkppfaaGreatDoor
open Go Sim
set_option maxRecDepth 10000
theorem newst_ok {tag : List Nat} (hl : tag.length = 32) (hb : bd 256 tag) : Sp.Ok 136 200 bQ ⟨List.replicate 136 0 ++ tag ++ List.replicate 32 0, 0, 136, 0⟩ := by
  refine ⟨by show (_ : List Nat).length = 200; simp [hl], fun x hx => ?_, Nat.zero_le _, Nat.le_refl _⟩
  unfold bQ
  rcases List.mem_append.1 hx with h | h
  · rcases List.mem_append.1 h with h | h
    · rw [List.eq_of_mem_replicate h]; decide
    · exact hb x h
  · rw [List.eq_of_mem_replicate h]; decide
theorem tcs_ctr {p : List Nat} {l : List Opn} (hp : bd 256 p) (hb : ∀ x ∈ l, bd 256 x.d) : GC Tryz.prog 8 [db p, .slice (some ⟨0, 0, none⟩) l.length 0] [⟨l.flatMap opC, false, 4⟩] [.bool true] [⟨l.flatMap opC, false, 4⟩] := by
  by_cases hl : p.length < 200000000
  · obtain ⟨L, c, hP⟩ : ∃ L c, prs 1024 p = (L, c) := ⟨_, _, rfl⟩
    by_cases hc : c = 0
    · rw [hc] at hP
      exact tcsY_ctr (g0 := ⟨L, 0, 0⟩) (s0 := ⟨List.replicate 136 0 ++ tagB kecF 1 L ++ List.replicate 32 0, 0, 136, 0⟩) permB (tagB_len _ _ _) ⟨prs_ok hp hl hP, Nat.zero_le _⟩ (newst_ok (tagB_len _ _ _) (tagB_bd _ _ _)) rfl hb fun _ => tnewB_ctr permF hp hl hP
    · exact tcsN_ctr hc fun _ => tnewN_ctr hp hl hP hc
  · exact tcsN_ctr (L := []) (c := 1) (by decide) fun h => absurd h hl
end Go.Proofs.YtlfadlfjjkppfaaGreatDoor
namespace Go.Proofs.YtlfadlfjjkppfaaGreatDoor
open Go
namespace Head
set_option maxRecDepth 100000 in
theorem words : ∃ l, Tryz.prog.initOrder = String.ofList l ∧ (behindMainWord (wordsSigns l)).head? = some "cut".toList := ⟨_, rfl, by kernel_rfl⟩
theorem head_of {P : Program} (h : ∃ l, P.initOrder = String.ofList l ∧ (behindMainWord (wordsSigns l)).head? = some "cut".toList) :
    ∃ rest, behindMainWord (wordsSigns P.initOrder.toList) = "cut".toList :: rest := by
  obtain ⟨l, h, hh⟩ := h
  rw [h, String.toList_ofList]
  cases hb : behindMainWord (wordsSigns l) with
  | nil => rw [hb] at hh; cases hh
  | cons c r => rw [hb] at hh; simp only [List.head?_cons, Option.some.injEq] at hh; exact ⟨r, by rw [hh]⟩
theorem cut_words : (liftWords.all fun s => !("cut".toList == s.toList)) = true := by decide +kernel
theorem strip_cut (rest : List (List Char)) : stripLifts liftWords ("cut".toList :: rest) = ([], "cut".toList :: rest) := by
  have key : ∀ o : List String, (o.all fun s => !("cut".toList == s.toList)) = true → stripLifts o ("cut".toList :: rest) = ([], "cut".toList :: rest) := by
    intro o
    induction o with
    | nil => intro _; rfl
    | cons s o ih =>
      intro h
      simp only [List.all_cons, Bool.and_eq_true, Bool.not_eq_true'] at h
      rw [stripLifts, if_neg (by rw [h.1]; exact Bool.false_ne_true)]
      exact ih h.2
  exact key liftWords cut_words
theorem mayEnter_of {P : Program} {rest : List (List Char)} (hr : behindMainWord (wordsSigns P.initOrder.toList) = "cut".toList :: rest) (e1 : P.laysLater = false) (e2 : P.bearsReflect = false) (e3 : P.doorFits [] = true) : P.mayEnter = true := by
  unfold Program.mayEnter
  rw [hr]
  simp only [strip_cut, e1, e2, e3]
  simp
theorem headLifts_of {P : Program} {rest : List (List Char)} (hr : behindMainWord (wordsSigns P.initOrder.toList) = "cut".toList :: rest) : P.headLifts = [] := by
  unfold Program.headLifts
  rw [hr, strip_cut]
  simp
theorem cut_ne : ("cut".toList == "carried".toList) = false ∧ ("cut".toList == "gc".toList) = false ∧ ("cut".toList == "spec".toList) = false := by decide +kernel
theorem liftsFinal_of {P : Program} {rest : List (List Char)} (hr : behindMainWord (wordsSigns P.initOrder.toList) = "cut".toList :: rest) : P.liftsFinal = false := by
  unfold Program.liftsFinal
  rw [hr, headLifts_of hr]
  simp
theorem make_of {P : Program} {rest : List (List Char)} (hr : behindMainWord (wordsSigns P.initOrder.toList) = "cut".toList :: rest) : P.make = some .cut := by
  unfold Program.make
  rw [hr]
  simp only [cut_ne.2.1, cut_ne.2.2, beq_self_eq_true]
  simp
theorem laysLater : Tryz.prog.laysLater = false := by kernel_rfl
theorem bearsReflect : Tryz.prog.bearsReflect = false := by kernel_rfl
theorem doorFits : Tryz.prog.doorFits [] = true := by kernel_rfl
theorem mayEnter : Tryz.prog.mayEnter = true := let ⟨_, hr⟩ := head_of words; mayEnter_of hr laysLater bearsReflect doorFits
theorem liftsFinal : Tryz.prog.liftsFinal = false := let ⟨_, hr⟩ := head_of words; liftsFinal_of hr
theorem make_cut : Tryz.prog.make = some .cut := let ⟨_, hr⟩ := head_of words; make_of hr
theorem band {a b : Bool} (ha : a = true) (hb : b = true) : (a && b) = true := by rw [ha, hb]; rfl
end Head
end Go.Proofs.YtlfadlfjjkppfaaGreatDoor
