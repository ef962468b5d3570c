/- What the proof stands on, part 4: the walk of each function, and plain laws of numbers. -/
import Derived.Test.YteeifahhejangaaDoorK3
import Derived.Test.YteeifahhejangaaDoorRows
import Derived.ProofKit
namespace Go.Proofs.YteeifahhejangaaDoor
open Go Sim
def pw : List Nat := digs 18446744073709551616 4 21888242871839275222246405745257275088548364400416034343698204186575808495617
theorem pw_len : pw.length = 4 := digs_len _ _
theorem pw_num : num 18446744073709551616 pw = 21888242871839275222246405745257275088548364400416034343698204186575808495617 := num_digs_lt (by decide)
theorem pw_bd : bd 18446744073709551616 pw := digs_bd (by decide) _ _
theorem pwOk : MwOk pw := ⟨pw_bd, by rw [pw_len]; decide, by rw [pw_len]; decide, by rw [pw_num]; decide⟩
theorem pw_0 : pw.getD 0 0 = 4891460686036598785 := by kernel_rfl
theorem pw_3 : pw.getD (pw.length - 1) 0 = 3486998266802970665 := by rw [pw_len]; kernel_rfl
theorem newP_ctr : GC Tryd.prog 47 [.slice (some ⟨0, 0, none⟩) pw.length 0] [⟨pw.map (vi .u64), false, 1⟩] [.pointer (some ⟨1, 0, none⟩), .int .i64 0] [⟨pw.map (vi .u64), false, 1⟩, ⟨[.slice (some ⟨2, 0, none⟩) pw.length 0, vi .u64 (ninvR (pw.getD 0 0)), .slice (some ⟨3, 0, none⟩) pw.length 0], true, 1⟩, ⟨(pw).map (vi .u64), true, 1⟩, ⟨(digs 18446744073709551616 pw.length (18446744073709551616 ^ pw.length * 18446744073709551616 ^ pw.length % num 18446744073709551616 pw)).map (vi .u64), true, 1⟩] := lnew_ctr pw_bd (by rw [pw_len]; decide) (by rw [pw_len]; decide) (by rw [pw_0]) (by rw [pw_3]; decide) (by rw [pw_len]; decide)
theorem redP_ctr {a : List Nat} {sq : List Nat} {iv ns na xa : Nat} (hna : a.length = na) (hxa : num 18446744073709551616 a = xa) (ha : bd 18446744073709551616 a) (hla : na ≤ 1000) : GC Tryd.prog 49 [.pointer (some ⟨0, 0, none⟩), .slice (some ⟨3, 0, none⟩) na 0] [⟨[.slice (some ⟨1, 0, none⟩) pw.length 0, vi .u64 iv, .slice (some ⟨2, 0, none⟩) ns 0], false, 1⟩, ⟨(pw).map (vi .u64), false, 1⟩, ⟨(sq).map (vi .u64), false, 1⟩, ⟨a.map (vi .u64), false, 1⟩] [.slice (some ⟨4, 0, none⟩) 4 0] [⟨[.slice (some ⟨1, 0, none⟩) pw.length 0, vi .u64 iv, .slice (some ⟨2, 0, none⟩) ns 0], false, 1⟩, ⟨(pw).map (vi .u64), false, 1⟩, ⟨(sq).map (vi .u64), false, 1⟩, ⟨a.map (vi .u64), false, 1⟩, ⟨(digs 18446744073709551616 4 (xa % 21888242871839275222246405745257275088548364400416034343698204186575808495617)).map (vi .u64), true, 1⟩] := by
 have h := reduce_ctr (mw := pw) (iv := iv) (sq := sq) (ns := ns) pwOk ha (by omega)
 rw [pw_len, pw_num, hna, hxa] at h
 rw [pw_len]
 exact h
theorem rest4 {x : Nat} : num 18446744073709551616 (digs 18446744073709551616 4 (x % 21888242871839275222246405745257275088548364400416034343698204186575808495617)) = x % 21888242871839275222246405745257275088548364400416034343698204186575808495617 := num_digs_lt (Nat.lt_trans (Nat.mod_lt _ (by decide)) (by decide))
theorem fsum_room {vs : List Nat} {i : Nat} (hi : i < vs.length) : 0 + i * 4 + 4 ≤ (((vs.map fel).flatten).map (vi .u64)).length := by
 rw [List.length_map, flat_len (n := 4) (fun x hx => by obtain ⟨y, _, rfl⟩ := List.mem_map.1 hx; exact fel_len y), List.length_map]
 omega
theorem fsum_at {vs : List Nat} {i : Nat} (hi : i < vs.length) : ((((vs.map fel).flatten).map (vi .u64)).drop (0 + i * 4)).take 4 = (fel (vs.getD i 0)).map (vi .u64) := by
 rw [Nat.zero_add, flat_take_map (n := 4) (fun x hx => by obtain ⟨y, _, rfl⟩ := List.mem_map.1 hx; exact fel_len y) (by rw [List.length_map]; exact hi)]
 rw [List.getD_eq_getElem?_getD, List.getD_eq_getElem?_getD, List.getElem?_map, List.getElem?_eq_getElem hi]
 rfl
theorem fsum_next {vs : List Nat} {i : Nat} (hi : i < vs.length) : (vs.take (i + 1)).foldl (fun a b => (a + b) % 21888242871839275222246405745257275088548364400416034343698204186575808495617) 0 = ((vs.take i).foldl (fun a b => (a + b) % 21888242871839275222246405745257275088548364400416034343698204186575808495617) 0 + vs.getD i 0) % 21888242871839275222246405745257275088548364400416034343698204186575808495617 := by
 rw [List.take_succ_eq_append_getElem hi, List.foldl_append, List.getD_eq_getElem?_getD, List.getElem?_eq_getElem hi]
 rfl
theorem emulP_ctr {u v : Nat} : GC Tryd.prog 25 [.agg ((fel u).map (vi .u64)).toArray, .agg ((fel v).map (vi .u64)).toArray] [] [.agg ((fel (u * v % 21888242871839275222246405745257275088548364400416034343698204186575808495617)).map (vi .u64)).toArray] [] := by
 have h := emul_ctr (u := u) (v := v)
 rw [← fel_mod (u * v)] at h
 exact h
theorem add_fel {u v : Nat} : digs 18446744073709551616 4 (num 18446744073709551616 (digs 18446744073709551616 4 (num 18446744073709551616 (fel u) + num 18446744073709551616 (fel v))) % 21888242871839275222246405745257275088548364400416034343698204186575808495617) = fel ((u + v) % 21888242871839275222246405745257275088548364400416034343698204186575808495617) := by
 have h1 := fel_lt u
 have h2 := fel_lt v
 rw [num_digs_lt (by omega), num_fel, num_fel, fel_mod, fel, ← Nat.add_mod, Nat.add_mul]
theorem sub_fel {u v : Nat} (hv : v < 21888242871839275222246405745257275088548364400416034343698204186575808495617) : (u + (21888242871839275222246405745257275088548364400416034343698204186575808495617 - v)) * 18446744073709551616 ^ 4 % 21888242871839275222246405745257275088548364400416034343698204186575808495617 = (num 18446744073709551616 (fel u) + (21888242871839275222246405745257275088548364400416034343698204186575808495617 - num 18446744073709551616 (fel v))) % 21888242871839275222246405745257275088548364400416034343698204186575808495617 := by
 have h1 := fel_lt u
 have h2 := fel_lt v
 have h3 : ((u + (21888242871839275222246405745257275088548364400416034343698204186575808495617 - v)) * 18446744073709551616 ^ 4 % 21888242871839275222246405745257275088548364400416034343698204186575808495617 + num 18446744073709551616 (fel v)) % 21888242871839275222246405745257275088548364400416034343698204186575808495617 = num 18446744073709551616 (fel u) := by
  rw [num_fel, num_fel, ← Nat.add_mod, ← Nat.add_mul, show u + (21888242871839275222246405745257275088548364400416034343698204186575808495617 - v) + v = u + 21888242871839275222246405745257275088548364400416034343698204186575808495617 by omega, Nat.add_mul, Nat.add_mul_mod_self_left]
 have h4 := Nat.mod_lt ((u + (21888242871839275222246405745257275088548364400416034343698204186575808495617 - v)) * 18446744073709551616 ^ 4) (show 0 < 21888242871839275222246405745257275088548364400416034343698204186575808495617 by decide)
 omega
theorem sub_fel_ge {u v : Nat} (hv : v < 21888242871839275222246405745257275088548364400416034343698204186575808495617) (h : num 18446744073709551616 (fel v) ≤ num 18446744073709551616 (fel u)) : digs 18446744073709551616 4 (num 18446744073709551616 (fel u) + 18446744073709551616 ^ 4 - num 18446744073709551616 (fel v)) = fel ((u + (21888242871839275222246405745257275088548364400416034343698204186575808495617 - v)) % 21888242871839275222246405745257275088548364400416034343698204186575808495617) := by
 have h1 := fel_lt u
 refine num_inj (digs_bd (by decide) _ _) (bd_fel _) (by rw [digs_len, fel_len]) ?_
 rw [num_digs, num_fel ((u + (21888242871839275222246405745257275088548364400416034343698204186575808495617 - v)) % 21888242871839275222246405745257275088548364400416034343698204186575808495617), Nat.mod_mul_mod, sub_fel hv]
 omega
theorem sub_fel_lt {u v : Nat} (hv : v < 21888242871839275222246405745257275088548364400416034343698204186575808495617) (h : num 18446744073709551616 (fel u) < num 18446744073709551616 (fel v)) : digs 18446744073709551616 4 (num 18446744073709551616 (digs 18446744073709551616 4 (num 18446744073709551616 (fel u) + 18446744073709551616 ^ 4 - num 18446744073709551616 (fel v))) + num 18446744073709551616 (digs 18446744073709551616 4 21888242871839275222246405745257275088548364400416034343698204186575808495617)) = fel ((u + (21888242871839275222246405745257275088548364400416034343698204186575808495617 - v)) % 21888242871839275222246405745257275088548364400416034343698204186575808495617) := by
 have h1 := fel_lt u
 have h2 := fel_lt v
 refine num_inj (digs_bd (by decide) _ _) (bd_fel _) (by rw [digs_len, fel_len]) ?_
 rw [num_digs, num_fel ((u + (21888242871839275222246405745257275088548364400416034343698204186575808495617 - v)) % 21888242871839275222246405745257275088548364400416034343698204186575808495617), Nat.mod_mul_mod, sub_fel hv, num_digs, num_digs]
 omega
theorem one_word {x : Nat} (hx : x < 18446744073709551616) : digs 18446744073709551616 4 x = [x, 0, 0, 0] := by
 simp only [digs, Nat.mod_eq_of_lt hx, Nat.div_eq_of_lt hx]
set_option maxRecDepth 10000 in
theorem eaddP_ctr {u v : Nat} : GC Tryd.prog 23 [.agg ((fel u).map (vi .u64)).toArray, .agg ((fel v).map (vi .u64)).toArray] [] [.agg ((fel ((u + v) % 21888242871839275222246405745257275088548364400416034343698204186575808495617)).map (vi .u64)).toArray] [] := by
 refine gi Tryd.func23 ?_
 have hd1 := fel_len u
 have hd2 := fel_len v
 have hd3 := fel_len ((u + v) % 21888242871839275222246405745257275088548364400416034343698204186575808495617)
 have h1 := fel_lt u
 have h2 := fel_lt v
 have hds := digs_len (B := 18446744073709551616) 4 (num 18446744073709551616 (fel u) + num 18446744073709551616 (fel v))
 refine zS ?_
 refine yO 3000 1 ((fel u).map (vi .u64)) ?_
 refine yO 4000 1 ((fel v).map (vi .u64)) ?_
 refine yN 5000 1 _ ?_
 refine zN (zS ?_)
 refine yP pF ?_
 refine AWo.loadAgg tbok (vs := (fel u).map (vi .u64)) rfl rfl rfl rfl (by simp [fel_len]) (ld4 (fel_len _)) rfl rfl ?_
 refine yP pF ?_
 refine AWo.loadAgg tbok (vs := (fel v).map (vi .u64)) rfl rfl rfl rfl (by simp [fel_len]) (ld4 (fel_len _)) rfl rfl ?_
 refine yC (plus_ctr (bd_fel u) (bd_fel v) (fel_len u) (fel_len v)) bd52 [] [] ?_
 refine yC (below_ctr (a := digs 18446744073709551616 4 (num 18446744073709551616 (fel u) + num 18446744073709551616 (fel v))) (digs_bd (by decide) _ _) (digs_len _ _) (by rw [num_digs_lt (by omega)]; omega)) bd51 [] [] ?_
 rw [add_fel]
 refine yP (build50 (by exact digs_len _ _) rfl) ?_
 refine ySA ?_
 refine zN (zE ?_)
 exact rq [] [.cell 4 43]
set_option maxRecDepth 10000 in
theorem esubP_ctr {u v : Nat} (hv : v < 21888242871839275222246405745257275088548364400416034343698204186575808495617) : GC Tryd.prog 26 [.agg ((fel u).map (vi .u64)).toArray, .agg ((fel v).map (vi .u64)).toArray] [] [.agg ((fel ((u + (21888242871839275222246405745257275088548364400416034343698204186575808495617 - v)) % 21888242871839275222246405745257275088548364400416034343698204186575808495617)).map (vi .u64)).toArray] [] := by
 refine gi Tryd.func26 ?_
 have hd1 := fel_len u
 have hd2 := fel_len v
 have hd3 := fel_len ((u + (21888242871839275222246405745257275088548364400416034343698204186575808495617 - v)) % 21888242871839275222246405745257275088548364400416034343698204186575808495617)
 have hd4 := digs_len (B := 18446744073709551616) 4 (num 18446744073709551616 (fel u) + 18446744073709551616 ^ 4 - num 18446744073709551616 (fel v))
 have hd5 := digs_len (B := 18446744073709551616) 4 (num 18446744073709551616 (digs 18446744073709551616 4 (num 18446744073709551616 (fel u) + 18446744073709551616 ^ 4 - num 18446744073709551616 (fel v))) + num 18446744073709551616 (digs 18446744073709551616 4 21888242871839275222246405745257275088548364400416034343698204186575808495617))
 have hsub := sub_fel (u := u) hv
 refine zS ?_
 refine yO 3000 1 ((fel u).map (vi .u64)) ?_
 refine yO 4000 1 ((fel v).map (vi .u64)) ?_
 refine yN 5000 1 _ ?_
 refine zN (zS ?_)
 refine yP pF ?_
 refine AWo.loadAgg tbok (vs := (fel u).map (vi .u64)) rfl rfl rfl rfl (by simp [fel_len]) (ld4 (fel_len _)) rfl rfl ?_
 refine yP pF ?_
 refine AWo.loadAgg tbok (vs := (fel v).map (vi .u64)) rfl rfl rfl rfl (by simp [fel_len]) (ld4 (fel_len _)) rfl rfl ?_
 refine yC (borrow_ctr (bd_fel u) (bd_fel v) (fel_len u) (fel_len v)) bd54 [] [] ?_
 refine yM ?_
 refine yP pX ?_
 refine yP pX ?_
 refine yN 6000 1 ((List.replicate 4 0).map (vi .u64)) ?_
 refine ySA ?_
 refine yA ?_
 refine zN (zQ (zS ?_))
 refine yM ?_
 refine yP (pNe (b := 0)) ?_
 refine zN ?_
 refine zA (fun hb0 => ?_) (fun hb0 => ?_)
 ·
  have hlt : num 18446744073709551616 (fel u) < num 18446744073709551616 (fel v) := by
   rcases Nat.lt_or_ge (num 18446744073709551616 (fel u)) (num 18446744073709551616 (fel v)) with h | h
   · exact h
   · rw [if_neg (by omega)] at hb0; simp at hb0
  refine AW.draw mixed ?_
  refine AWo.loadAgg tbok (vs := (digs 18446744073709551616 4 (num 18446744073709551616 (fel u) + 18446744073709551616 ^ 4 - num 18446744073709551616 (fel v))).map (vi .u64)) rfl rfl rfl rfl (by simp [digs_len]) (ld4 (digs_len _ _)) rfl rfl ?_
  refine yC (prime_ctr) bd46 [] [] ?_
  refine yC (plus_ctr (a := digs 18446744073709551616 4 (num 18446744073709551616 (fel u) + 18446744073709551616 ^ 4 - num 18446744073709551616 (fel v))) (b := digs 18446744073709551616 4 21888242871839275222246405745257275088548364400416034343698204186575808495617) (digs_bd (by decide) _ _) (digs_bd (by decide) _ _) (digs_len _ _) (digs_len _ _)) bd52 [] [] ?_
  rw [sub_fel_lt hv hlt]
  refine ySA ?_
  refine zD (zT (zS ?_))
  refine AWo.loadAgg tbok (vs := (fel ((u + (21888242871839275222246405745257275088548364400416034343698204186575808495617 - v)) % 21888242871839275222246405745257275088548364400416034343698204186575808495617)).map (vi .u64)) rfl rfl rfl rfl (by simp [fel_len]) (ld4 (fel_len _)) rfl rfl ?_
  refine yP (build50 (by exact digs_len _ _) rfl) ?_
  refine ySA ?_
  refine zN (zE ?_)
  exact rq [] [.cell 4 43]
 ·
  have hge : num 18446744073709551616 (fel v) ≤ num 18446744073709551616 (fel u) := by
   rcases Nat.lt_or_ge (num 18446744073709551616 (fel u)) (num 18446744073709551616 (fel v)) with h | h
   · rw [if_pos h] at hb0; simp at hb0
   · exact h
  rw [sub_fel_ge hv hge]
  refine zK (zT (zS ?_))
  refine AWo.loadAgg tbok (vs := (fel ((u + (21888242871839275222246405745257275088548364400416034343698204186575808495617 - v)) % 21888242871839275222246405745257275088548364400416034343698204186575808495617)).map (vi .u64)) rfl rfl rfl rfl (by simp [fel_len]) (ld4 (fel_len _)) rfl rfl ?_
  refine yP (build50 (by exact digs_len _ _) rfl) ?_
  refine ySA ?_
  refine zN (zE ?_)
  exact rq [] [.cell 4 43]
set_option maxRecDepth 10000 in
theorem fromuP_ctr {x : Nat} (hx : x < 18446744073709551616) : GC Tryd.prog 22 [vi .u64 (x)] [] [.agg ((fel x).map (vi .u64)).toArray] [] := by
 refine gi Tryd.func22 ?_
 have hd1 := fel_len (num 18446744073709551616 (digs 18446744073709551616 4 x))
 have hd2 := fel_len x
 have h4 : x < 18446744073709551616 ^ 4 := Nat.lt_of_lt_of_le hx (by decide)
 refine zS ?_
 refine yN 3000 1 _ ?_
 refine zN (zS ?_)
 refine yM ?_
 refine yP ((PureOp.buildArr tbok [(0, vi .u64 x)] rfl rfl rfl (by decide) rfl rfl).mono (v' := .agg ((digs 18446744073709551616 4 x).map (vi .u64)).toArray) (by rw [one_word hx]; rfl)) ?_
 refine yC (enter_ctr (a := digs 18446744073709551616 4 x) (digs_bd (by decide) _ _) (digs_len _ _) (by rw [num_digs_lt h4]; exact Nat.lt_trans hx (by decide))) bd48 [] [] ?_
 rw [num_digs_lt h4]
 refine ySA ?_
 refine zN (zE ?_)
 exact rq [] [.cell 2 43]
set_option maxRecDepth 10000 in
theorem fromwide_ctr {b : List Nat} (hb : bd 256 b) (hlb : b.length ≤ 1000) : GC Tryd.prog 21 [.slice (some ⟨0, 0, none⟩) b.length 0] [⟨b.map (vi .u8), false, 1⟩] [.agg ((fel (num 256 b % 21888242871839275222246405745257275088548364400416034343698204186575808495617)).map (vi .u64)).toArray] [⟨b.map (vi .u8), false, 1⟩] := by
 refine gi Tryd.func21 ?_
 have h8 := reads_num hb
 have hd4 := fel_len (num 18446744073709551616 (digs 18446744073709551616 4 (num 256 b % 21888242871839275222246405745257275088548364400416034343698204186575808495617)))
 have hl4 := digs_len (B := 18446744073709551616) 4 21888242871839275222246405745257275088548364400416034343698204186575808495617
 refine zS ?_
 refine yN 3000 1 _ ?_
 refine zN (zS ?_)
 refine yC (prime_ctr) bd46 [] [] ?_
 refine yN 4000 1 ((List.replicate 4 0).map (vi .u64)) ?_
 refine ySA ?_
 refine zN (zS ?_)
 refine AWo.sliceA tbok (h := 4) rfl .none .none rfl rfl rfl rfl (by decide) (by decide) (.inl rfl) (by simp [digs_len]) rfl rfl rfl ?_
 refine yC (newP_ctr) bd47 [(4000, 0)] [10000, 10001, 10002] ?_
 refine yM ?_
 refine yP pX ?_
 refine yP pX ?_
 refine yA ?_
 refine yA ?_
 refine zN (zS ?_)
 refine yM ?_
 refine yM ?_
 refine yC (lwords_ctr hb (by omega)) bd50 [(0, 0)] [15000] ?_
 refine yC (redP_ctr (a := digs 18446744073709551616 ((b.length + 7) / 8) (num 256 b)) (na := (b.length + 7) / 8) (xa := num 256 b) (digs_len _ _) h8 (digs_bd (by decide) _ _) (by omega)) bd49 [(10000, 0), (10001, 0), (10002, 0), (15000, 0)] [16000] ?_
 refine yP (PureOp.toArrT tbok rfl rfl (by decide) (by decide)) ?_
 refine AWo.loadAgg tbok (vs := (digs 18446744073709551616 4 (num 256 b % 21888242871839275222246405745257275088548364400416034343698204186575808495617)).map (vi .u64)) rfl rfl rfl rfl (by show 0 + 4 ≤ _; simp [digs_len]) (ld4 (digs_len _ _)) rfl rfl ?_
 refine yC (enter_ctr (a := digs 18446744073709551616 4 (num 256 b % 21888242871839275222246405745257275088548364400416034343698204186575808495617)) (digs_bd (by decide) _ _) (digs_len _ _) (by rw [rest4]; exact Nat.mod_lt _ (by decide))) bd48 [] [] ?_
 refine ySA ?_
 refine zN (zE ?_)
 rw [rest4]
 exact rq [] [.cell 2 43]
set_option maxRecDepth 10000 in
theorem fsum_ctr {vs : List Nat} (hvl : vs.length < 1000000000) : GC Tryd.prog 45 [.slice (some ⟨0, 0, none⟩) vs.length 0] [⟨((vs.map fel).flatten).map (vi .u64), false, 4⟩] [.agg ((fel (vs.foldl (fun a b => (a + b) % 21888242871839275222246405745257275088548364400416034343698204186575808495617) 0)).map (vi .u64)).toArray] [⟨((vs.map fel).flatten).map (vi .u64), false, 4⟩] := by
 refine gi Tryd.func45 ?_
 refine zS ?_
 refine yN 3000 1 _ ?_
 refine zN (zS ?_)
 refine yN 4000 1 _ ?_
 refine zN (zQ (zS ?_))
 refine yM ?_
 refine yP pL ?_
 refine yM ?_
 refine zN (zB ?_)
 refine AW.loopw (fun mm σ => ∃ i, ∃ z, ∃ (y : List Nat), (i ≤ vs.length ∧ z = (vs.take i).foldl (fun a b => (a + b) % 21888242871839275222246405745257275088548364400416034343698204186575808495617) 0) ∧ mm = vs.length - i ∧ σ = ⟨(upd (upd (upd (upd (upd emp 2 (.pointer (some ⟨3000, 0, none⟩))) 3 (.pointer (some ⟨4000, 0, none⟩))) 6 (.slice (some ⟨0, 0, none⟩) vs.length 0)) 7 (vi .i64 vs.length)) 8 (vi .i64 i)), (upd (upd (upd emp 0 ⟨((vs.map fel).flatten).map (vi .u64), false, 4⟩) 3000 ⟨(List.replicate 4 0).map (vi .u64), true, 1⟩) 4000 ⟨(fel z).map (vi .u64), true, 1⟩)⟩) (fm := []) (wk [0, 3000, 4000]) ⟨0, 0, [], ⟨Nat.zero_le _, rfl⟩, rfl, rfl⟩ ?_
 rintro mm σ ⟨i, z, y, ⟨hi0, hz⟩, rfl, rfl⟩
 have hdz := fel_len z
 have hdv := fel_len (vs.getD i 0)
 have hdz2 := fel_len ((z + vs.getD i 0) % 21888242871839275222246405745257275088548364400416034343698204186575808495617)
 refine zS ?_
 refine yP pLt ?_
 refine zN (zQ ?_)
 refine zA (fun hb0 => ?_) (fun hb0 => ?_)
 ·
  have hi : i < vs.length := by simpa using hb0
  refine zK (zT (zQ (zB (zS ?_))))
  refine yP (PureOp.idxN tbok (j := i) rfl rfl rfl rfl hi) ?_
  refine AWo.loadAgg tbok (vs := (fel (vs.getD i 0)).map (vi .u64)) rfl rfl rfl rfl (fsum_room hi) (fsum_at hi) rfl rfl ?_
  refine yN 6000 1 _ ?_
  refine ySA ?_
  refine zN (zR ?_)
  refine AWo.loadAgg tbok (vs := (fel z).map (vi .u64)) rfl rfl rfl rfl (by simp [fel_len]) (ld4 (fel_len _)) rfl rfl ?_
  refine AWo.loadAgg tbok (vs := (fel (vs.getD i 0)).map (vi .u64)) rfl rfl rfl rfl (by simp [fel_len]) (ld4 (fel_len _)) rfl rfl ?_
  refine yC (eaddP_ctr (u := z) (v := vs.getD i 0)) bd23 [] [] ?_
  refine ySA ?_
  refine zN (zL (zT (zR ?_)))
  refine yP (pAdd (b := 1)) ?_
  refine yM ?_
  refine zN (zT ?_)
  exact ⟨vs.length - (i + 1), [], _, by omega, wk [0, 3000, 4000], i + 1, (z + vs.getD i 0) % 21888242871839275222246405745257275088548364400416034343698204186575808495617, [], ⟨by omega, by rw [fsum_next hi, ← hz]⟩, rfl, rfl⟩
 ·
  have hi : i = vs.length := by simp at hb0; omega
  rw [hi, List.take_length] at hz
  rw [← hz]
  refine zX (zV (zV (zH (zT (zS ?_)))))
  refine AWo.loadAgg tbok (vs := (fel z).map (vi .u64)) rfl rfl rfl rfl (by simp [fel_len]) (ld4 (fel_len _)) rfl rfl ?_
  refine ySA ?_
  refine zN (zE ?_)
  exact rq [] [.cell 2 43]
end Go.Proofs.YteeifahhejangaaDoor
namespace Go.Proofs.YteeifahhejangaaDoor.Rg
variable {n : Nat} [NeZero n] {x y z u v w : Fin n}
theorem add_comm (x y : Fin n) : x + y = y + x := by grind
theorem mul_comm (x y : Fin n) : x * y = y * x := by grind
theorem mul_assoc (x y z : Fin n) : x * (y * z) = x * y * z := by grind
theorem mul_add (x y z : Fin n) : x * (y + z) = x * y + x * z := by grind
theorem mul_one (x : Fin n) : x * 1 = x := by grind
theorem one_mul (x : Fin n) : 1 * x = x := by grind
theorem sub_self (x : Fin n) : x - x = 0 := by grind
theorem zero_mul (x : Fin n) : 0 * x = 0 := by grind
theorem mul_zero (x : Fin n) : x * 0 = 0 := by grind
theorem add_zero (x : Fin n) : x + 0 = x := by grind
theorem zero_add (x : Fin n) : 0 + x = x := by grind
theorem add_assoc (x y z : Fin n) : x + y + z = x + (y + z) := by grind
end Go.Proofs.YteeifahhejangaaDoor.Rg
namespace Go.Proofs.YteeifahhejangaaDoor
open Go Sim
abbrev Fp := Fin 21888242871839275222246405745257275088548364400416034343698204186575808495617
def fe (x : Fp) : List Nat := fel x.val
def fp (v : Nat) : Fp := ⟨v % 21888242871839275222246405745257275088548364400416034343698204186575808495617, Nat.mod_lt _ (by decide)⟩
def fsumL (xs : List Fp) : Fp := xs.foldl (· + ·) 0
@[simp] theorem fe_len (x : Fp) : (fe x).length = 4 := fel_len _
theorem fe_inj {x y : Fp} (h : fe x = fe y) : x = y := Fin.ext (fel_inj x.isLt y.isLt h)
theorem fe_eq {x y : Fp} : fe x = fe y ↔ x = y := ⟨fe_inj, fun h => by rw [h]⟩
theorem fe_zero : fe 0 = List.replicate 4 0 := fel_zero
theorem addF_ctr {x y : Fp} : GC Tryd.prog 23 [.agg ((fe x).map (vi .u64)).toArray, .agg ((fe y).map (vi .u64)).toArray] [] [.agg ((fe (x + y)).map (vi .u64)).toArray] [] := eaddP_ctr (u := x.val) (v := y.val)
theorem subF_ctr {x y : Fp} : GC Tryd.prog 26 [.agg ((fe x).map (vi .u64)).toArray, .agg ((fe y).map (vi .u64)).toArray] [] [.agg ((fe (x - y)).map (vi .u64)).toArray] [] := by
  have h := esubP_ctr (u := x.val) (v := y.val) y.isLt
  rwa [Nat.add_comm x.val] at h
theorem mulF_ctr {x y : Fp} : GC Tryd.prog 25 [.agg ((fe x).map (vi .u64)).toArray, .agg ((fe y).map (vi .u64)).toArray] [] [.agg ((fe (x * y)).map (vi .u64)).toArray] [] := emulP_ctr (u := x.val) (v := y.val)
theorem equalF_ctr {x y : Fp} : GC Tryd.prog 24 [.agg ((fe x).map (vi .u64)).toArray, .agg ((fe y).map (vi .u64)).toArray] [] [.bool (decide (x = y))] [] := by
  have h := equal_ctr (a := fe x) (b := fe y) (fe_len x) (fe_len y)
  rwa [show decide (fe x = fe y) = decide (x = y) from decide_eq_decide.2 fe_eq] at h
theorem iszeroF_ctr {x : Fp} : GC Tryd.prog 35 [.agg ((fe x).map (vi .u64)).toArray] [] [.bool (decide (x = 0))] [] := by
  have h := iszero_ctr (a := fe x) (fe_len x)
  rwa [show decide (fe x = List.replicate 4 0) = decide (x = 0) from decide_eq_decide.2 (by rw [← fe_zero, fe_eq])] at h
theorem fromuF_ctr {v : Nat} (hv : v < 18446744073709551616) : GC Tryd.prog 22 [vi .u64 (v)] [] [.agg ((fe (fp v)).map (vi .u64)).toArray] [] := by
  have h := fromuP_ctr hv
  rwa [← fel_mod] at h
theorem fromwideF_ctr {b : List Nat} (hb : bd 256 b) (hlb : b.length ≤ 1000) : GC Tryd.prog 21 [.slice (some ⟨0, 0, none⟩) b.length 0] [⟨b.map (vi .u8), false, 1⟩] [.agg ((fe (fp (num 256 b))).map (vi .u64)).toArray] [⟨b.map (vi .u8), false, 1⟩] := fromwide_ctr hb hlb
theorem fsum_val : ∀ (xs : List Fp) (a : Fp), (xs.foldl (· + ·) a).val = (xs.map (·.val)).foldl (fun a b => (a + b) % 21888242871839275222246405745257275088548364400416034343698204186575808495617) a.val
  | [], _ => rfl
  | x :: xs, a => fsum_val xs (a + x)
theorem sumF_ctr {xs : List Fp} (hl : xs.length < 1000000000) : GC Tryd.prog 45 [.slice (some ⟨0, 0, none⟩) xs.length 0] [⟨((xs.map fe).flatten).map (vi .u64), false, 4⟩] [.agg ((fe (fsumL xs)).map (vi .u64)).toArray] [⟨((xs.map fe).flatten).map (vi .u64), false, 4⟩] := by
  have h := fsum_ctr (vs := xs.map (·.val)) (by simpa using hl)
  rw [List.map_map, List.length_map] at h
  have e := fsum_val xs 0
  rw [show ((0 : Fp)).val = 0 from rfl] at e
  rw [← e] at h
  exact h
theorem modR_ctr {v : Nat} (hl : (D 4294967296 v).length < 1000000) : GC Tryd.prog 36 [.slice (some ⟨0, 0, none⟩) (D 4294967296 v).length 0] [⟨(D 4294967296 v).map (vi .u64), false, 1⟩] [.slice (some ⟨1, 0, none⟩) (D 4294967296 ((fp v).val)).length 0] [⟨(D 4294967296 v).map (vi .u64), false, 1⟩, ⟨(D 4294967296 ((fp v).val)).map (vi .u64), true, 1⟩] := mod02_ctr hl
section
variable {ops : Array Oper} {n i : Nat} {os : List Oper} {E : Env} {M : Mem} {D : List Eff → Prop} {K : ASt → Prop}
  {d : Tmp} {ty : TypeId} {ps : String} {af : Array Edge} {g : Option (Nat × Bool)} {t : TypeId} {a : Operand}
theorem yLE {x : Fp} {id sz : Nat} {rw : Bool} {es : Nat} (hr : AWo Tryd.prog ops n (i + 1) os ⟨upd E d (.agg ((fe x).map (vi .u64)).toArray), M⟩ (fun es => D (⟨[id], []⟩ :: es)) K)
    (ha : aev E a = some (.pointer (some ⟨id, 0, none⟩)) := by exact rfl) (hb : M id = some ⟨(fe x).map (vi .u64), rw, es⟩ := by exact rfl)
    (ht : Tb.agg.lookup t = some true := by exact rfl) (hs : Tb.sz.lookup t = some sz := by exact rfl) (hl : 4 = sz := by exact rfl) (hw : wantA ops E ⟨some d, .load t a, ty, ps, af, g⟩ = some true := by exact rfl) (hd : Nat.blt d n = true := by exact rfl) :
    AWo Tryd.prog ops n i (⟨some d, .load t a, ty, ps, af, g⟩ :: os) ⟨E, M⟩ D K := AWo.loadAll tbok ha hb ht hs (by simpa using hl) hw hd hr
theorem yLEi {xs : List Fp} {id j sz : Nat} {rw : Bool} {es : Nat} (hr : AWo Tryd.prog ops n (i + 1) os ⟨upd E d (.agg ((fe (xs.getD j 0)).map (vi .u64)).toArray), M⟩ (fun es => D (⟨[id], []⟩ :: es)) K)
    (ha : aev E a = some (.pointer (some ⟨id, 0 + j * 4, none⟩)) := by exact rfl) (hb : M id = some ⟨((xs.map fe).flatten).map (vi .u64), rw, es⟩ := by exact rfl) (hj : j < xs.length := by first | decide | omega)
    (ht : Tb.agg.lookup t = some true := by exact rfl) (hs : Tb.sz.lookup t = some sz := by exact rfl) (hl : 4 = sz := by exact rfl) (hw : wantA ops E ⟨some d, .load t a, ty, ps, af, g⟩ = some true := by exact rfl) (hd : Nat.blt d n = true := by exact rfl) :
    AWo Tryd.prog ops n i (⟨some d, .load t a, ty, ps, af, g⟩ :: os) ⟨E, M⟩ D K := by
  subst hl
  have hlen : ∀ x ∈ xs.map fe, x.length = 4 := fun x hx => by obtain ⟨y, _, rfl⟩ := List.mem_map.1 hx; exact fe_len y
  refine AWo.loadAgg tbok (vs := (fe (xs.getD j 0)).map (vi .u64)) ha hb ht hs ?_ ?_ hw hd hr
  · rw [List.length_map, flat_len hlen, List.length_map]; omega
  · rw [Nat.zero_add, flat_take_map hlen (by rw [List.length_map]; exact hj)]
    congr 1
    rw [List.getD_eq_getElem?_getD, List.getElem?_map, List.getElem?_eq_getElem hj, List.getD_eq_getElem?_getD, List.getElem?_eq_getElem hj]
    rfl
end
end Go.Proofs.YteeifahhejangaaDoor
namespace Go.Proofs.YteeifahhejangaaDoor
open Go Sim
abbrev dd (v : Nat) : Value := deep (D 4294967296 v).length 1 ((D 4294967296 v).map (vi .u64))
abbrev dv (x : Fp) : Value := dd x.val
abbrev db (b : List Nat) : Value := deep b.length 1 (b.map (vi .u8))
theorem cloA {α : Type} {f : α → Value} {l : List α} (hf : ∀ x, flatV (f x) = true) : cloV (.agg (l.map f).toArray) = true := by
  simp only [cloV, List.all_eq_true]
  intro x hx
  obtain ⟨y, _, rfl⟩ := List.mem_map.1 (by simpa using hx)
  simp [clo1, hf y]
theorem modRd {v : Nat} (hl : (D 4294967296 v).length < 1000000) : GC Tryd.prog 36 [dd v] [] [dv (fp v)] [] := GC.deepen (modR_ctr hl) (.deep .nil) (.new (Nat.le_refl _) rfl (by simp) (cloM fun _ => rfl) .nil)
theorem fromwideFd {b : List Nat} (hb : bd 256 b) (hlb : b.length ≤ 1000) : GC Tryd.prog 21 [db b] [] [.agg ((fe (fp (num 256 b))).map (vi .u64)).toArray] [] := GC.deepen (fromwideF_ctr hb hlb) (.deep .nil) (.pure (cloA flat_vi) .nil)
theorem ofbd {a : List Nat} (ha : bd 256 a) (hl : a.length < 100000000) : GC Tryd.prog 37 [db a] [] [dd (num 256 a)] [] := GC.deepen (ofb_ctr ha hl) (.deep .nil) (.new (Nat.le_refl _) rfl (by simp) (cloM fun _ => rfl) .nil)
end Go.Proofs.YteeifahhejangaaDoor
namespace Go.Proofs.YteeifahhejangaaDoor
open Go Sim
def blk (L : List (List Nat)) (c : Nat) : List Nat := L.getD (c % L.length) []
end Go.Proofs.YteeifahhejangaaDoor
namespace Go.Proofs.YteeifahhejangaaDoor
open Go Sim
theorem setL_eq : ∀ (vs cells : List Value) (o : Nat), o + vs.length ≤ cells.length → setL cells o vs = cells.take o ++ vs ++ cells.drop (o + vs.length) := by
 intro vs
 induction vs with
 | nil => intro cells o _; simp [setL]
 | cons v vs ih =>
  intro cells o h
  simp only [List.length_cons] at h
  simp only [setL]
  rw [ih (cells.set o v) (o + 1) (by simp; omega), List.drop_set_of_lt (by omega)]
  have h1 : (cells.set o v).take (o + 1) = cells.take o ++ [v] := by
   rw [List.take_add_one, List.take_set_of_le (by omega), List.getElem?_set_self (by omega)]
   rfl
  rw [h1]
  simp [Nat.add_assoc, Nat.add_comm 1]
theorem fillB1 {b : List Nat} {c : Value} {k : IntKind} {n : Nat} (h : b.length = n) : fillL (fun i => some (i * n, n)) (List.replicate (1 * n) c) [(0, .agg (b.map (vi k)).toArray)] = some ([b].flatten.map (vi k)) := by
 simp only [fillL]
 rw [if_neg (by simp [Value.cells, h])]
 simp only [Value.cells]
 rw [setL_eq _ _ _ (by simp [h])]
 simp [h]
end Go.Proofs.YteeifahhejangaaDoor
namespace Go.Proofs.YteeifahhejangaaDoor
open Go Sim
attribute [local simp] digs_len
def bstr (xs : List Fp) (i : Nat) : Nat := (digs 256 32 (xs.getD (i / 31 % xs.length) 0).val).getD (i % 31) 0
def bts (xs : List Fp) (n : Nat) : List Nat := (List.range n).map (bstr xs)
@[simp] theorem bts_len (xs : List Fp) (n : Nat) : (bts xs n).length = n := by simp [bts]
theorem bts_step {xs : List Fp} {k n : Nat} (h : 31 * k < n) : bts xs (min (31 * k) n) ++ (digs 256 32 (xs.getD (k % xs.length) 0).val).take (min 31 (n - min (31 * k) n)) = bts xs (min (31 * (k + 1)) n) := by
  have h1 : min (31 * k) n = 31 * k := by omega
  rw [h1]
  obtain ⟨m, hm⟩ : ∃ m, m = min 31 (n - 31 * k) := ⟨_, rfl⟩
  rw [← hm, show min (31 * (k + 1)) n = 31 * k + m by omega]
  apply List.ext_getElem?
  intro i
  have hl : ((digs 256 32 (xs.getD (k % xs.length) 0).val).take m).length = m := by rw [List.length_take, digs_len]; omega
  rcases Nat.lt_or_ge i (31 * k) with hi | hi
  · rw [List.getElem?_append_left (by simpa using hi)]
    simp only [bts, List.getElem?_map, List.getElem?_range hi, List.getElem?_range (show i < 31 * k + m by omega)]
  · rw [List.getElem?_append_right (by simpa using hi), bts_len]
    rcases Nat.lt_or_ge i (31 * k + m) with hj | hj
    · simp only [bts, List.getElem?_map, List.getElem?_range hj, Option.map_some, bstr]
      rw [List.getElem?_take, if_pos (by omega), List.getElem?_eq_getElem (by rw [digs_len]; omega), show i / 31 = k by omega, show i % 31 = i - 31 * k by omega, List.getD_eq_getElem?_getD (i := i - 31 * k), List.getElem?_eq_getElem (by rw [digs_len]; omega)]
      rfl
    · rw [List.getElem?_eq_none (by omega), List.getElem?_eq_none (by simpa using hj)]
end Go.Proofs.YteeifahhejangaaDoor
namespace Go.Proofs.YteeifahhejangaaDoor
open Go Sim
theorem fe_flat (xs : List Fp) : ((xs.map fe).flatten).length = xs.length * 4 := by
 have := flat_len (L := xs.map fe) (n := 4) (fun x hx => by obtain ⟨y, _, rfl⟩ := List.mem_map.1 hx; exact fe_len y)
 rwa [List.length_map] at this
end Go.Proofs.YteeifahhejangaaDoor
namespace Go.Proofs.YteeifahhejangaaDoor
open Go Sim
theorem sumN_ctr {xs : List Fp} {n : Nat} {s : Fp} (hn : xs.length = n) (hl : n < 1000000000) (hs : fsumL xs = s) : GC Tryd.prog 45 [.slice (some ⟨0, 0, none⟩) n 0] [⟨((xs.map fe).flatten).map (vi .u64), false, 4⟩] [.agg ((fe s).map (vi .u64)).toArray] [⟨((xs.map fe).flatten).map (vi .u64), false, 4⟩] := by
 subst hn hs; exact sumF_ctr hl
theorem fsumL_from (xs : List Fp) : ∀ a : Fp, xs.foldl (· + ·) a = a + fsumL xs := by
 induction xs with
 | nil => intro a; exact (Rg.add_zero a).symm
 | cons x xs ih =>
  intro a
  rw [List.foldl_cons, ih, show fsumL (x :: xs) = (0 + x) + fsumL xs from ih (0 + x), Rg.zero_add, Rg.add_assoc]
theorem fsumL_app (xs ys : List Fp) : fsumL (xs ++ ys) = fsumL xs + fsumL ys := by
 rw [fsumL, List.foldl_append, fsumL_from ys]; rfl
end Go.Proofs.YteeifahhejangaaDoor
namespace Go.Proofs.YteeifahhejangaaDoor
open Go Sim
abbrev FF (xs : List Fp) : List Value := ((xs.map fe).flatten).map (vi .u64)
theorem FF_len (xs : List Fp) : (FF xs).length = xs.length * 4 := by rw [List.length_map, fe_flat]
theorem FF_app (xs ys : List Fp) : FF (xs ++ ys) = FF xs ++ FF ys := by simp
theorem FF_cons (x : Fp) (xs : List Fp) : FF (x :: xs) = (fe x).map (vi .u64) ++ FF xs := by simp
theorem FF_drop (xs : List Fp) (j : Nat) : (FF xs).drop (j * 4) = FF (xs.drop j) := by
  by_cases h : j ≤ xs.length
  · have e : FF xs = FF (xs.take j) ++ FF (xs.drop j) := by rw [← FF_app, List.take_append_drop]
    have hl : (FF (xs.take j)).length = j * 4 := by rw [FF_len, List.length_take, Nat.min_eq_left h]
    rw [e, ← hl, List.drop_left]
  · rw [List.drop_eq_nil_of_le (by rw [FF_len]; omega), List.drop_eq_nil_of_le (by omega)]; rfl
theorem FF_take (xs : List Fp) (j : Nat) : (FF xs).take (j * 4) = FF (xs.take j) := by
  by_cases h : j ≤ xs.length
  · have e : FF xs = FF (xs.take j) ++ FF (xs.drop j) := by rw [← FF_app, List.take_append_drop]
    have hl : (FF (xs.take j)).length = j * 4 := by rw [FF_len, List.length_take, Nat.min_eq_left h]
    rw [e, ← hl, List.take_left]
  · rw [List.take_of_length_le (by rw [FF_len]; omega), List.take_of_length_le (by omega)]
theorem setL_app : ∀ (a b c : List Value) (o : Nat), setL c o (a ++ b) = setL (setL c o a) (o + a.length) b
  | [], b, c, o => rfl
  | v :: a, b, c, o => by
    show setL (c.set o v) (o + 1) (a ++ b) = setL (setL (c.set o v) (o + 1) a) (o + (a.length + 1)) b
    rw [setL_app a b, show o + 1 + a.length = o + (a.length + 1) by omega]
theorem setL_FF {xs : List Fp} {j : Nat} {x : Fp} (h : j < xs.length) : setL (FF xs) (j * 4) ((fe x).map (vi .u64)) = FF (xs.set j x) := by
  rw [setL_eq _ _ _ (by rw [List.length_map, fe_len, FF_len]; omega), List.length_map, fe_len, show j * 4 + 4 = (j + 1) * 4 by omega, FF_drop, FF_take, List.set_eq_take_append_cons_drop, if_pos h, FF_app, FF_cons, List.append_assoc]
def setE (xs : List Fp) (j : Nat) : List Fp → List Fp
  | [] => xs
  | v :: vs => setE (xs.set j v) (j + 1) vs
theorem setE_len : ∀ (vs xs : List Fp) (j : Nat), (setE xs j vs).length = xs.length
  | [], _, _ => rfl
  | v :: vs, xs, j => by rw [setE, setE_len vs, List.length_set]
theorem setL_FFs : ∀ (vs xs : List Fp) (j : Nat), j + vs.length ≤ xs.length → setL (FF xs) (j * 4) (FF vs) = FF (setE xs j vs)
  | [], _, _, _ => rfl
  | v :: vs, xs, j, h => by
    simp only [List.length_cons] at h
    rw [FF_cons, setL_app, setL_FF (by omega), List.length_map, fe_len, show j * 4 + 4 = (j + 1) * 4 by omega, setL_FFs vs _ _ (by rw [List.length_set]; omega)]
    rfl
theorem setL_at {A vs : List Value} {c : Value} {k : Nat} : setL (A ++ List.replicate (vs.length + k) c) A.length vs = (A ++ vs) ++ List.replicate k c := by
  rw [setL_eq _ _ _ (by simp), List.take_left, List.drop_append, List.drop_of_length_le (by omega), List.nil_append, List.drop_replicate, show vs.length + k - (A.length + vs.length - A.length) = k by omega]
theorem fill4 {c : Value} {x : Fp} {A : List Value} {i k n : Nat} {vals : List (Nat × Value)} {out : List Value} (hA : A.length = i * 4) (hk : n = 4 + k) (h : fillL (fun i => some (i * 4, 4)) ((A ++ (fe x).map (vi .u64)) ++ List.replicate k c) vals = some out) :
    fillL (fun i => some (i * 4, 4)) (A ++ List.replicate n c) ((i, .agg ((fe x).map (vi .u64)).toArray) :: vals) = some out := by
  subst hk
  simp only [fillL]
  have hl : ((fe x).map (vi .u64)).length = 4 := by rw [List.length_map, fe_len]
  rw [if_neg (by
    simp only [Value.cells, List.size_toArray, hl, List.length_append, List.length_replicate, hA]
    intro hh
    rcases hh with hh | hh <;> omega)]
  have := setL_at (A := A) (vs := (fe x).map (vi .u64)) (c := c) (k := k)
  rw [hl, hA] at this
  simp only [Value.cells]
  rw [this]; exact h
theorem zeroFF (n : Nat) : FF (List.replicate n 0) = List.replicate (n * 4) (vi .u64 0) := by
  induction n with
  | zero => rfl
  | succ n ih => rw [List.replicate_succ, FF_cons, ih, fe_zero, List.map_replicate, List.replicate_append_replicate, show 4 + n * 4 = (n + 1) * 4 by omega]
theorem ptr_off {E : Env} {a : Operand} {id o o' : Nat} (h : aev E a = some (.pointer (some ⟨id, o, none⟩))) (e : o = o') : aev E a = some (.pointer (some ⟨id, o', none⟩)) := e ▸ h
section
variable {ops : Array Oper} {n i : Nat} {os : List Oper} {E : Env} {M : Mem} {D : List Eff → Prop} {K : ASt → Prop}
  {d : Tmp} {ty : TypeId} {ps : String} {af : Array Edge} {g : Option (Nat × Bool)} {t : TypeId} {a x : Operand}
theorem yLJ {xs : List Fp} {id sz o : Nat} {rw : Bool} {es : Nat} (j : Nat) (hr : AWo Tryd.prog ops n (i + 1) os ⟨upd E d (.agg ((fe (xs.getD j 0)).map (vi .u64)).toArray), M⟩ (fun es => D (⟨[id], []⟩ :: es)) K)
        (ha : aev E a = some (.pointer (some ⟨id, o, none⟩)) := by exact rfl) (hb : M id = some ⟨((xs.map fe).flatten).map (vi .u64), rw, es⟩ := by exact rfl)
    (ht : Tb.agg.lookup t = some true := by exact rfl) (hs : Tb.sz.lookup t = some sz := by exact rfl) (hl : 4 = sz := by exact rfl) (hw : wantA ops E ⟨some d, .load t a, ty, ps, af, g⟩ = some true := by exact rfl) (hd : Nat.blt d n = true := by exact rfl) (hj : j < xs.length := by first | decide | omega | (simp only [List.length_cons, List.length_nil]; omega)) (ho : o = j * 4 := by omega) :
    AWo Tryd.prog ops n i (⟨some d, .load t a, ty, ps, af, g⟩ :: os) ⟨E, M⟩ D K :=
  yLEi (xs := xs) (j := j) hr (ptr_off ha (by omega)) hb hj ht hs hl hw hd
theorem ySE {xs vs : List Fp} {id o sz es : Nat} (j : Nat) (hr' : AWo Tryd.prog ops n (i + 1) os ⟨E, upd M id ⟨(((setE xs j vs).map fe).flatten).map (vi .u64), true, es⟩⟩ (fun es' => D (⟨[id], [(id, ⟨(((setE xs j vs).map fe).flatten).map (vi .u64), true, es⟩)]⟩ :: es')) K)
        (ha : aev E a = some (.pointer (some ⟨id, o, none⟩)) := by exact rfl) (hx : aev E x = some (.agg (((vs.map fe).flatten).map (vi .u64)).toArray) := by exact rfl) (hb : M id = some ⟨((xs.map fe).flatten).map (vi .u64), true, es⟩ := by exact rfl)
    (hs : Tb.sz.lookup t = some sz := by exact rfl) (hl : vs.length * 4 = sz := by exact rfl) (hw : wantA ops E ⟨none, .store t a x, ty, ps, af, g⟩ = some true := by exact rfl) (hj : j + vs.length ≤ xs.length := by first | decide | omega | (simp only [List.length_cons, List.length_nil, List.length_replicate, List.length_set, setE_len]; omega)) (ho : o = j * 4 := by omega) :
    AWo Tryd.prog ops n i (⟨none, .store t a x, ty, ps, af, g⟩ :: os) ⟨E, M⟩ D K := by
  subst ho
  have hl2 : (FF vs).length = sz := by rw [FF_len]; exact hl
  refine AWo.store tbok ha hx hb rfl (by show Tb.sz.lookup t = some (FF vs).toArray.size; rw [List.size_toArray, hl2]; exact hs) ?_ (by show (FF vs).all _ = true; exact oneM (fun _ => rfl) _) (setL_FFs vs xs j hj) hw hr'
  show j * 4 + (FF vs).toArray.size ≤ (FF xs).length
  rw [List.size_toArray, FF_len, FF_len]; omega
theorem ySJ {xs : List Fp} {y : Fp} {id o sz es : Nat} (j : Nat) (hr' : AWo Tryd.prog ops n (i + 1) os ⟨E, upd M id ⟨(((xs.set j y).map fe).flatten).map (vi .u64), true, es⟩⟩ (fun es' => D (⟨[id], [(id, ⟨(((xs.set j y).map fe).flatten).map (vi .u64), true, es⟩)]⟩ :: es')) K)
        (ha : aev E a = some (.pointer (some ⟨id, o, none⟩)) := by exact rfl) (hx : aev E x = some (.agg ((fe y).map (vi .u64)).toArray) := by exact rfl) (hb : M id = some ⟨((xs.map fe).flatten).map (vi .u64), true, es⟩ := by exact rfl)
    (hs : Tb.sz.lookup t = some sz := by exact rfl) (hl : 4 = sz := by exact rfl) (hw : wantA ops E ⟨none, .store t a x, ty, ps, af, g⟩ = some true := by exact rfl) (hj : j < xs.length := by first | decide | omega | (simp only [List.length_cons, List.length_nil, List.length_replicate, List.length_set, setE_len]; omega)) (ho : o = j * 4 := by omega) :
    AWo Tryd.prog ops n i (⟨none, .store t a x, ty, ps, af, g⟩ :: os) ⟨E, M⟩ D K :=
  ySE (vs := [y]) j hr' ha (by rw [hx]; simp) hb hs hl hw (by simp only [List.length_cons, List.length_nil]; omega) ho
end
end Go.Proofs.YteeifahhejangaaDoor
namespace Go.Proofs.YteeifahhejangaaDoor
open Go Sim Go.RowKit
theorem Sim.Rep.sub {C : Ctx} {ρ : Rho} {E E' : Env} {M : Mem} {a : Act} {w : World} (h : Rep C ρ ⟨E, M⟩ a w) (hE : ∀ t v, E' t = some v → E t = some v) : Rep C ρ ⟨E', M⟩ a w :=
  ⟨h.size, h.defers, fun t v ht => h.env t v (hE t v ht), h.mem, h.agree, h.low, h.own, h.frame, h.im, h.imsub, h.imnew, h.gl⟩
end Go.Proofs.YteeifahhejangaaDoor
namespace Go.Proofs.YteeifahhejangaaDoor
open Go Sim
def hiN (xs : List Fp) : Nat → Nat
  | 0 => 0
  | n + 1 => if xs.getD n 0 = 0 then hiN xs n else n + 1
end Go.Proofs.YteeifahhejangaaDoor
namespace Go.Proofs.YteeifahhejangaaDoor.Po
variable {n : Nat} [NeZero n]
def co (p : List (Fin n)) (i : Nat) : Fin n := p.getD i 0
def ev (x : Fin n) : List (Fin n) → Fin n
  | [] => 0
  | a :: p => ev x p * x + a
theorem co_lt {p : List (Fin n)} {i : Nat} (h : i < p.length) : co p i = p[i] := by simp [co, List.getD_eq_getElem?_getD, h]
theorem ext {p q : List (Fin n)} (hl : p.length = q.length) (h : ∀ i, co p i = co q i) : p = q :=
  List.ext_getElem hl fun i h1 h2 => by rw [← co_lt h1, ← co_lt h2, h]
def ps (c : Fin n) (p : List (Fin n)) : List (Fin n) := p.map (· * c)
end Go.Proofs.YteeifahhejangaaDoor.Po
namespace Go.Proofs.YteeifahhejangaaDoor
open Go Sim
theorem few_step {Ls : List (List Nat)} {i : Nat} (hi : i < Ls.length) (hs : ∀ b ∈ Ls.take i, b.length ≤ 40) (hle : (Ls.getD i []).length ≤ 40) : ∀ b ∈ Ls.take (i + 1), b.length ≤ 40 := by
  intro b hb
  rw [List.take_add_one, List.mem_append] at hb
  rcases hb with hb | hb
  · exact hs b hb
  · rw [List.getElem?_eq_getElem hi] at hb
    rw [List.getD_eq_getElem?_getD, List.getElem?_eq_getElem hi] at hle
    obtain rfl : b = Ls[i] := by simpa using hb
    exact hle
end Go.Proofs.YteeifahhejangaaDoor
namespace Go.Proofs.YteeifahhejangaaDoor
open Go Sim
theorem fillB2 {c : Value} {x y : Fp} : fillL (fun i => some (i * 4, 4)) (List.replicate (2 * 4) c) [(0, .agg ((fe x).map (vi .u64)).toArray), (1, .agg ((fe y).map (vi .u64)).toArray)] = some (FF [x, y]) := by
  have hl : ∀ x : Fp, ((fe x).map (vi .u64)).length = 4 := fun x => by rw [List.length_map, fe_len]
  refine fill4 (A := []) (k := 4) rfl rfl (fill4 (k := 0) (by simp [hl]) rfl ?_)
  simp [fillL]
theorem AWd.ghost {P : Program} {n m : Nat} {c : Code} {E : Env} {M : Mem} {Q : Exit → ASt → Prop} {z : Bool} {id es : Nat} (hid : M id = none) (h : AWd z P n m c ⟨E, Sim.upd M id ⟨[], true, es⟩⟩ Q) : AWd z P n m c ⟨E, M⟩ Q :=
  fun C hn hm ds _ a w hz hst hR => let ⟨ρ', hR'⟩ := hR.2.ghost es hid; h C hn hm ds ρ' a w hz hst ⟨hR.1, hR'⟩
end Go.Proofs.YteeifahhejangaaDoor
namespace Go.Proofs.YteeifahhejangaaDoor
open Go Sim
def nb (b : List Nat) : Fp := fp (num 256 b)
theorem nb_step {Ls : List (List Nat)} {i : Nat} (h : i < Ls.length) : (Ls.take i).map nb ++ [nb (Ls.getD i [])] = (Ls.take (i + 1)).map nb := by
  rw [List.take_succ_eq_append_getElem h, List.map_append, List.getD_eq_getElem?_getD, List.getElem?_eq_getElem h]; rfl
def fewB (Ls : List (List Nat)) (most : Nat) : Bool := (Ls.all fun b => decide (b.length ≤ 40)) && decide (Ls.length ≤ most)
theorem fewB_ok {Ls : List (List Nat)} {most : Nat} (h : ∀ b ∈ Ls, b.length ≤ 40) : fewB Ls most = decide (Ls.length ≤ most) := by
  rw [fewB, List.all_eq_true.2 fun b hb => decide_eq_true (h b hb), Bool.true_and]
theorem fewB_bad {Ls : List (List Nat)} {most i : Nat} (hi : i < Ls.length) (h : 40 < (Ls.getD i []).length) : fewB Ls most = false := by
  have : (Ls.all fun b => decide (b.length ≤ 40)) = false := by
    rw [← Bool.not_eq_true, List.all_eq_true]
    intro hh
    have h2 := of_decide_eq_true (hh (Ls.getD i []) (by rw [List.getD_eq_getElem?_getD, List.getElem?_eq_getElem hi]; exact List.getElem_mem _))
    omega
  rw [fewB, this, Bool.false_and]
theorem fewB_get {Ls : List (List Nat)} {most : Nat} (h : fewB Ls most = true) : (∀ b ∈ Ls, b.length ≤ 40) ∧ Ls.length ≤ most := by
  rw [fewB, Bool.and_eq_true, List.all_eq_true] at h
  exact ⟨fun b hb => of_decide_eq_true (h.1 b hb), of_decide_eq_true h.2⟩
theorem ofb_short {b : List Nat} (h : bd 256 b) (hl : b.length ≤ 40) : (D 4294967296 (num 256 b)).length < 1000000 := by
  have h1 : num 256 b < 256 ^ 40 := Nat.lt_of_lt_of_le (num_lt h) (Nat.pow_le_pow_right (by decide) hl)
  have h2 := (D_len_le (B := 4294967296) (by decide) (num 256 b) 10).2 (Nat.lt_of_lt_of_le h1 (by decide))
  omega
theorem few22_ctr {Ls : List (List Nat)} {most : Nat} (hl : Ls.length ≤ 9223372036854775807) (hm : most < 100000000) : GC Tryd.prog 8 [.slice (some ⟨0, 0, none⟩) Ls.length 0, vi .i64 (most)] [⟨Ls.map (db), false, 1⟩] [.bool (fewB Ls most)] [⟨Ls.map (db), false, 1⟩] := by
  refine GC.intro Tryd.func8 rfl (by show 2 ≤ 21; decide) (by first | exact Nat.le_refl _ | decide | simp) ?_
  refine AW.seqR ?_
  refine AWo.pure (PureOp.assign rfl) rfl rfl ?_
  refine AWo.nil trivial ?_
  refine AW.seq ?_
  refine AW.seqR ?_
  refine AWo.pure (PureOp.move rfl) rfl rfl ?_
  first | refine AWo.pure (PureOp.lenS tbok rfl rfl) rfl rfl ?_ | refine AWo.pure (PureOp.lenD tbok rfl rfl) rfl rfl ?_
  refine AWo.pure (PureOp.move rfl) rfl rfl ?_
  refine AWo.nil trivial ?_
  refine AW.block ?_
  refine AW.loopw (fun mm σ => ∃ i, (i ≤ Ls.length ∧ ∀ b ∈ Ls.take i, b.length ≤ 40) ∧ mm = Ls.length - i ∧ σ = ⟨(upd (upd (upd (upd (upd emp 0 (.slice (some ⟨0, 0, none⟩) Ls.length 0)) 1 (vi .i64 most)) 7 (.slice (some ⟨0, 0, none⟩) Ls.length 0)) 8 (vi .i64 Ls.length)) 9 (vi .i64 i)), (upd emp 0 ⟨Ls.map db, false, 1⟩)⟩) (fm := []) ?_ ⟨0, ⟨Nat.zero_le _, fun b hb => by simp at hb⟩, rfl, rfl⟩ ?_
  ·
    refine Wk.of [0] ?_ ?_ ?_ (by decide) rfl
    ·
      refine WkE.upd rfl (by first | exact VR.flat _ rfl | exact VR.eqv (vp_succ _) rfl | exact VR.eqv (vp_succ _).symm rfl | exact VR.eqv (by first | rfl | (congr 1; omega) | (simp; done) | (simp; omega)) rfl) ?_
      refine WkE.upd rfl (by first | exact VR.flat _ rfl | exact VR.eqv (vp_succ _) rfl | exact VR.eqv (vp_succ _).symm rfl | exact VR.eqv (by first | rfl | (congr 1; omega) | (simp; done) | (simp; omega)) rfl) ?_
      refine WkE.upd rfl (.slice (0) 0 _ 0 ⟨_, rfl⟩ (by simp) (by simp)) ?_
      refine WkE.upd rfl (by first | exact VR.flat _ rfl | exact VR.eqv (vp_succ _) rfl | exact VR.eqv (vp_succ _).symm rfl | exact VR.eqv (by first | rfl | (congr 1; omega) | (simp; done) | (simp; omega)) rfl) ?_
      refine WkE.upd rfl (.slice (0) 0 _ 0 ⟨_, rfl⟩ (by simp) (by simp)) ?_
      exact WkE.emp
    ·
      refine WkM.cloM rfl rfl (fun _ => rfl) (fun h => h) ?_
      exact WkM.emp
    ·
      repeat (refine dom_upd_mem (by decide) ?_)
      exact dom_emp
  ·
    rintro mm σ ⟨i, ⟨hi0, hs⟩, rfl, rfl⟩
    refine AW.seqR ?_
    first | refine AWo.pure (PureOp.ltN rfl rfl) rfl rfl ?_ | refine AWo.pure (PureOp.bin rfl rfl rfl) rfl rfl ?_
    refine AWo.nil trivial ?_
    refine AW.seq ?_
    refine AW.cond rfl (fun hb0 => ?_) (fun hb0 => ?_)
    ·
      have hi : i < Ls.length := by simpa using hb0
      refine AW.skip ?_
      refine thenA_normal ?_
      refine AW.seq ?_
      refine AW.block ?_
      refine AW.seqR ?_
      refine AWo.pure (PureOp.idx1 tbok (j := i) rfl rfl rfl rfl hi) rfl rfl ?_
      refine AWo.loadM tbok (f := db) [] rfl rfl rfl hi rfl rfl ?_
      refine AWo.pure (PureOp.assign rfl) rfl rfl ?_
      refine AWo.nil trivial ?_
      refine AW.seqR ?_
      refine AWo.pure (PureOp.move rfl) rfl rfl ?_
      first | refine AWo.pure (PureOp.lenS tbok rfl rfl) rfl rfl ?_ | refine AWo.pure (PureOp.lenD tbok rfl rfl) rfl rfl ?_
      first | refine AWo.pure (PureOp.gtN (b := 40) rfl rfl) rfl rfl ?_ | refine AWo.pure (PureOp.bin rfl rfl rfl) rfl rfl ?_
      refine AWo.nil trivial ?_
      refine AW.cond rfl (fun hb1 => ?_) (fun hb1 => ?_)
      ·
        have hgt : 40 < (Ls.getD i []).length := by simpa using hb1
        rw [fewB_bad hi hgt]
        refine AW.seqR ?_
        refine AWo.pure (PureOp.assign rfl) rfl rfl ?_
        refine AWo.nil trivial ?_
        refine AW.ret ?_
        refine inBlockA_ret ?_
        refine thenA_ret ?_
        refine thenA_ret ?_
        refine inBlockA_ret ?_
        refine thenA_ret ?_
        refine RetQ.gc [_] [] [.tmp 4] (.inl rfl) rfl (.tmp rfl .nil) rfl (.cons rfl rfl .nil) (OutL.clo rfl (cloM fun _ => rfl) (by intro h; first | rfl | exact h.elim id fun h => absurd h.1 (by simp)) trivial) (by decide) rfl
      ·
        have hle : (Ls.getD i []).length ≤ 40 := by simpa using hb1
        refine AW.skip ?_
        refine inBlockA_normal ?_
        refine thenA_normal ?_
        refine AW.region ?_
        first | refine AWo.pure (PureOp.addI (b := 1) rfl rfl (by first | decide | omega)) rfl rfl ?_ | refine AWo.pure (PureOp.bin rfl rfl rfl) rfl rfl ?_
        refine AWo.pure (PureOp.move rfl) rfl rfl ?_
        refine AWo.nil trivial ?_
        refine thenA_normal ?_
        refine ⟨Ls.length - (i + 1), [], _, by omega, ?_, i + 1, ⟨by omega, few_step hi hs hle⟩, rfl, rfl⟩
        refine Wk.of [0] ?_ ?_ ?_ (by decide) rfl
        ·
          refine WkE.upd rfl (by first | exact VR.flat _ rfl | exact VR.eqv (vp_succ _) rfl | exact VR.eqv (vp_succ _).symm rfl | exact VR.eqv (by first | rfl | (congr 1; omega) | (simp; done) | (simp; omega)) rfl) ?_
          refine WkE.upd rfl (by first | exact VR.flat _ rfl | exact VR.eqv (vp_succ _) rfl | exact VR.eqv (vp_succ _).symm rfl | exact VR.eqv (by first | rfl | (congr 1; omega) | (simp; done) | (simp; omega)) rfl) ?_
          refine WkE.upd rfl (.slice (0) 0 _ 0 ⟨_, rfl⟩ (by simp) (by simp)) ?_
          refine WkE.upd rfl (by first | exact VR.flat _ rfl | exact VR.eqv (vp_succ _) rfl | exact VR.eqv (vp_succ _).symm rfl | exact VR.eqv (by first | rfl | (congr 1; omega) | (simp; done) | (simp; omega)) rfl) ?_
          refine WkE.upd rfl (.slice (0) 0 _ 0 ⟨_, rfl⟩ (by simp) (by simp)) ?_
          exact WkE.emp
        ·
          refine WkM.cloM rfl rfl (fun _ => rfl) (fun h => h) ?_
          exact WkM.emp
        ·
          repeat (refine dom_upd_mem (by decide) ?_)
          exact dom_emp
    ·
      obtain rfl : i = Ls.length := by simp at hb0; omega
      rw [List.take_length] at hs
      rw [fewB_ok hs]
      refine AW.exit ?_
      refine thenA_exit ?_
      refine thenA_exit ?_
      refine inBlockA_hit ?_
      refine thenA_normal ?_
      refine AW.seqR ?_
      refine AWo.pure (PureOp.move rfl) rfl rfl ?_
      first | refine AWo.pure (PureOp.lenS tbok rfl rfl) rfl rfl ?_ | refine AWo.pure (PureOp.lenD tbok rfl rfl) rfl rfl ?_
      refine AWo.pure (PureOp.move rfl) rfl rfl ?_
      first | refine AWo.pure (PureOp.leN rfl rfl) rfl rfl ?_ | refine AWo.pure (PureOp.bin rfl rfl rfl) rfl rfl ?_
      refine AWo.pure (PureOp.assign rfl) rfl rfl ?_
      refine AWo.nil trivial ?_
      refine AW.ret ?_
      refine RetQ.gc [_] [] [.tmp 4] (.inl rfl) rfl (.tmp rfl .nil) rfl (.cons rfl rfl .nil) (OutL.clo rfl (cloM fun _ => rfl) (by intro h; first | rfl | exact h.elim id fun h => absurd h.1 (by simp)) trivial) (by decide) rfl
theorem of22_ctr {Ls : List (List Nat)} (hB : ∀ b ∈ Ls, bd 256 b) (hS : ∀ b ∈ Ls, b.length ≤ 40) (hl : Ls.length < 1000000) : GC Tryd.prog 10 [.slice (some ⟨0, 0, none⟩) Ls.length 0] [⟨Ls.map (db), false, 1⟩] [.slice (some ⟨1, 0, none⟩) Ls.length 0, .slice (some ⟨2, 0, none⟩) Ls.length 0] [⟨Ls.map (db), false, 1⟩, ⟨(((Ls.map nb).map fe).flatten).map (vi .u64), true, 4⟩, ⟨(Ls.map nb).map dv, true, 1⟩] := by
  refine GC.intro Tryd.func10 rfl (by show 1 ≤ 29; decide) (by first | exact Nat.le_refl _ | decide | simp) ?_
  refine AW.seqR ?_
  refine AWo.pure (PureOp.assign rfl) rfl rfl ?_
  refine AWo.pure (PureOp.assign rfl) rfl rfl ?_
  refine AWo.nil trivial ?_
  refine AW.seqR ?_
  refine AWo.pure (PureOp.assign rfl) rfl rfl ?_
  refine AWo.nil trivial ?_
  refine AW.seqR ?_
  refine AWo.buildSlice tbok 9000 [] (out := []) rfl rfl (by decide) rfl rfl rfl (by decide) rfl rfl rfl rfl rfl ?_
  refine AWo.pure (PureOp.assign rfl) rfl rfl ?_
  refine AWo.nil trivial ?_
  refine AW.seq ?_
  refine AW.seqR ?_
  refine AWo.pure (PureOp.move rfl) rfl rfl ?_
  first | refine AWo.pure (PureOp.lenS tbok rfl rfl) rfl rfl ?_ | refine AWo.pure (PureOp.lenD tbok rfl rfl) rfl rfl ?_
  refine AWo.pure (PureOp.move rfl) rfl rfl ?_
  refine AWo.nil trivial ?_
  refine AW.block ?_
  refine AW.ghost 77000 4 rfl ?_
  refine AW.loopw (fun mm σ => ∃ i, (i ≤ Ls.length) ∧ mm = Ls.length - i ∧ σ = ⟨(upd (upd (upd (upd (upd emp 4 (.slice (some ⟨77000, 0, none⟩) i 0)) 5 (.slice (some ⟨77001, 0, none⟩) i 0)) 9 (.slice (some ⟨0, 0, none⟩) Ls.length 0)) 10 (vi .i64 Ls.length)) 11 (vi .i64 i)), (upd (upd (upd emp 0 ⟨Ls.map db, false, 1⟩) 77000 ⟨((((Ls.take i).map nb).map fe).flatten).map (vi .u64), true, 4⟩) 77001 ⟨((Ls.take i).map nb).map dv, true, 1⟩)⟩) (fm := [(77001, 9000)]) ?_ ⟨0, Nat.zero_le _, rfl, rfl⟩ ?_
  ·
    refine Wk.of [0, 77000, 77001] ?_ ?_ ?_ (by decide) rfl
    ·
      refine WkE.upd rfl (by first | exact VR.flat _ rfl | exact VR.eqv (vp_succ _) rfl | exact VR.eqv (vp_succ _).symm rfl | exact VR.eqv (by first | rfl | (congr 1; omega) | (simp; done) | (simp; omega)) rfl) ?_
      refine WkE.upd rfl (by first | exact VR.flat _ rfl | exact VR.eqv (vp_succ _) rfl | exact VR.eqv (vp_succ _).symm rfl | exact VR.eqv (by first | rfl | (congr 1; omega) | (simp; done) | (simp; omega)) rfl) ?_
      refine WkE.upd rfl (.slice (0) 0 _ 0 ⟨_, rfl⟩ (by simp) (by simp)) ?_
      refine WkE.upd rfl (by first | exact .nilS _ (by simp) | exact .slice (77001) 0 _ 0 ⟨_, rfl⟩ (by simp) (by simp)) ?_
      refine WkE.upd rfl (by first | exact .nilS _ (by simp) | exact .slice (77000) 0 _ 0 ⟨_, rfl⟩ (by simp) (by simp)) ?_
      exact WkE.emp
    ·
      refine WkM.cloM rfl rfl (fun _ => rfl) (fun h => h) ?_
      refine WkM.flat rfl (flatM flat_vi) (fun h => h) ?_
      refine WkM.cloM rfl rfl (fun _ => rfl) (fun h => h) ?_
      exact WkM.emp
    ·
      repeat (refine dom_upd_mem (by decide) ?_)
      exact dom_emp
  ·
    rintro mm σ ⟨i, hinv, rfl, rfl⟩
    refine AW.seqR ?_
    first | refine AWo.pure (PureOp.ltN rfl rfl) rfl rfl ?_ | refine AWo.pure (PureOp.bin rfl rfl rfl) rfl rfl ?_
    refine AWo.nil trivial ?_
    refine AW.seq ?_
    refine AW.cond rfl (fun hb0 => ?_) (fun hb0 => ?_)
    ·
      have hi : i < Ls.length := by simpa using hb0
      have hbm : Ls.getD i [] ∈ Ls := by rw [List.getD_eq_getElem?_getD, List.getElem?_eq_getElem hi]; exact List.getElem_mem _
      have hbb := hB _ hbm
      have hbl := hS _ hbm
      refine AW.skip ?_
      refine thenA_normal ?_
      refine AW.seq ?_
      refine AW.block ?_
      refine AW.seqR ?_
      refine AWo.pure (PureOp.idx1 tbok (j := i) rfl rfl rfl rfl hi) rfl rfl ?_
      refine AWo.loadM tbok (f := db) [] rfl rfl rfl hi rfl rfl ?_
      refine AWo.pure (PureOp.assign rfl) rfl rfl ?_
      refine AWo.nil trivial ?_
      refine AW.seqR ?_
      refine AWo.pure (PureOp.move rfl) rfl rfl ?_
      refine AWo.pure (PureOp.move rfl) rfl rfl ?_
      refine AWo.callX (fromwideFd (b := Ls.getD i []) hbb (by omega)) bd21 [] [] rfl (.cons rfl .nil) rfl (.cons rfl rfl .nil) .nil rfl .nil frN (by decide) (.pure (by first | rfl | exact pure_aggM flat_vi | exact pure_aggM flat_bool) .nil) rfl rfl rfl rfl ?_
      refine AWo.buildSlice tbok 19000 [(0, .agg ((fe (nb (Ls.getD i []))).map (vi .u64)).toArray)] (out := [fe (nb (Ls.getD i []))].flatten.map (vi .u64)) rfl rfl (by decide) rfl rfl rfl (by decide) rfl (fillB1 (fe_len _)) rfl rfl rfl ?_
      refine AWo.append tbok (all := ((((Ls.take (i + 1)).map nb).map fe).flatten).map (vi .u64)) (news := [fe (nb (Ls.getD i []))].flatten.map (vi .u64)) 20000 rfl rfl rfl rfl (by show (FF _).length = _; rw [FF_len, List.length_map, List.length_take, Nat.min_eq_left hinv]) (by show List.take _ (List.drop 0 _) = _; rw [List.drop_zero]; exact List.take_of_length_le (by simp)) (by simp; done) (by decide) rfl rfl rfl (by first | decide | exact Nat.one_ne_zero) rfl rfl rfl (by first | decide | omega) (by first | decide | omega) (by first | exact oneM (fun _ => rfl) _ | (simp; done)) (by show FF _ ++ FF [_] = FF _; rw [← FF_app, nb_step hi]) rfl rfl ?_
      refine AWo.pure (PureOp.assign rfl) rfl rfl ?_
      refine AWo.nil trivial ?_
      refine AW.region ?_
      refine AWo.pure (PureOp.move rfl) rfl rfl ?_
      refine AWo.pure (PureOp.move rfl) rfl rfl ?_
      refine AWo.callX (ofbd (a := Ls.getD i []) hbb (by omega)) bd37 [] [] rfl (.cons rfl .nil) rfl (.cons rfl rfl .nil) .nil rfl .nil frN (by decide) (.cons rfl rfl .nil) rfl rfl rfl rfl ?_
      refine AWo.callX (modRd (v := num 256 (Ls.getD i [])) (ofb_short hbb hbl)) bd36 [] [] rfl (.cons rfl .nil) rfl (.cons rfl rfl .nil) .nil rfl .nil frN (by decide) (.cons rfl rfl .nil) rfl rfl rfl rfl ?_
      refine AWo.buildSlice tbok 25000 [(0, dv (nb (Ls.getD i [])))] (out := [dv (nb (Ls.getD i []))]) rfl rfl (by decide) rfl rfl rfl (by decide) rfl rfl rfl rfl rfl ?_
      refine AWo.append tbok (all := ((Ls.take (i + 1)).map nb).map dv) (news := [dv (nb (Ls.getD i []))]) 26000 rfl rfl rfl rfl (by simp; omega) (by show List.take _ (List.drop 0 _) = _; rw [List.drop_zero]; exact List.take_of_length_le (by simp)) (by first | decide | (simp; done) | (simp; omega)) (by decide) rfl rfl rfl (by first | decide | exact Nat.one_ne_zero) rfl rfl rfl (by first | decide | omega) (by first | decide | omega) (by rfl) (by rw [← nb_step hi, List.map_append]; rfl) rfl rfl ?_
      refine AWo.pure (PureOp.assign rfl) rfl rfl ?_
      refine AWo.nil trivial ?_
      refine inBlockA_normal ?_
      refine thenA_normal ?_
      refine AW.region ?_
      first | refine AWo.pure (PureOp.addI (b := 1) rfl rfl (by first | decide | omega)) rfl rfl ?_ | refine AWo.pure (PureOp.bin rfl rfl rfl) rfl rfl ?_
      refine AWo.pure (PureOp.move rfl) rfl rfl ?_
      refine AWo.nil trivial ?_
      refine thenA_normal ?_
      refine ⟨Ls.length - (i + 1), [(77000, 20000), (77001, 26000)], _, by omega, ?_, i + 1, by omega, rfl, rfl⟩
      refine Wk.of [0, 77000, 77001] ?_ ?_ ?_ (by decide) rfl
      ·
        refine WkE.upd rfl (by first | exact VR.flat _ rfl | exact VR.eqv (vp_succ _) rfl | exact VR.eqv (vp_succ _).symm rfl | exact VR.eqv (by first | rfl | (congr 1; omega) | (simp; done) | (simp; omega)) rfl) ?_
        refine WkE.upd rfl (by first | exact VR.flat _ rfl | exact VR.eqv (vp_succ _) rfl | exact VR.eqv (vp_succ _).symm rfl | exact VR.eqv (by first | rfl | (congr 1; omega) | (simp; done) | (simp; omega)) rfl) ?_
        refine WkE.upd rfl (.slice (0) 0 _ 0 ⟨_, rfl⟩ (by simp) (by simp)) ?_
        refine WkE.upd rfl (by first | exact .nilS _ (by simp) | exact .slice (77001) 0 _ 0 ⟨_, rfl⟩ (by simp) (by simp)) ?_
        refine WkE.upd rfl (by first | exact .nilS _ (by simp) | exact .slice (77000) 0 _ 0 ⟨_, rfl⟩ (by simp) (by simp)) ?_
        exact WkE.emp
      ·
        refine WkM.cloM rfl rfl (fun _ => rfl) (fun h => h) ?_
        refine WkM.flat rfl (flatM flat_vi) (fun h => h) ?_
        refine WkM.cloM rfl rfl (fun _ => rfl) (fun h => h) ?_
        exact WkM.emp
      ·
        repeat (refine dom_upd_mem (by decide) ?_)
        exact dom_emp
    ·
      obtain rfl : i = Ls.length := by simp at hb0; omega
      simp only [List.take_length]
      refine AW.exit ?_
      refine thenA_exit ?_
      refine thenA_exit ?_
      refine inBlockA_hit ?_
      refine thenA_normal ?_
      refine AW.seqR ?_
      refine AWo.pure (PureOp.move rfl) rfl rfl ?_
      refine AWo.pure (PureOp.move rfl) rfl rfl ?_
      refine AWo.pure (PureOp.assign rfl) rfl rfl ?_
      refine AWo.pure (PureOp.assign rfl) rfl rfl ?_
      refine AWo.nil trivial ?_
      refine AW.ret ?_
      refine RetQ.gc [_, _] [77000, 77001] [.tmp 2, .tmp 3] (.inl rfl) rfl (.tmp rfl (.tmp rfl .nil)) rfl (.cons rfl rfl (.cons rfl rfl .nil)) (OutL.clo rfl (cloM fun _ => rfl) (by intro h; first | rfl | exact h.elim id fun h => absurd h.1 (by simp)) (OutL.flat rfl (flatM flat_vi) (by intro h; first | rfl | exact h.elim id fun h => absurd h.1 (by simp)) (OutL.clo rfl (cloM fun _ => rfl) (by intro h; first | rfl | exact h.elim id fun h => absurd h.1 (by simp)) trivial))) (by decide) rfl
end Go.Proofs.YteeifahhejangaaDoor
namespace Go.Proofs.YteeifahhejangaaDoor
open Go Sim
def isV (n : Nat) : Bool := n != 0 && (n &&& (n - 1)) == 0 && decide (n ≤ 4096)
def vN (n : Nat) : Nat := if isV n then Lib.ctz 64 n else 0
def vC (n : Nat) : Int := if isV n then 0 else 7
def vAll : Bool := (List.range 4097).all fun n => !isV n || (2 ^ Lib.ctz 64 n == n && decide (Lib.ctz 64 n ≤ 12))
theorem vAll_t : vAll = true := by decide +kernel
theorem isV_pow {n : Nat} (h : isV n = true) : n = 2 ^ vN n ∧ vN n ≤ 12 := by
  have h4 : n ≤ 4096 := by
    simp only [isV, Bool.and_eq_true] at h
    exact of_decide_eq_true h.2
  have h1 := List.all_eq_true.1 vAll_t n (List.mem_range.2 (by omega))
  rw [h] at h1
  simp only [Bool.not_true, Bool.false_or, Bool.and_eq_true, beq_iff_eq, decide_eq_true_eq] at h1
  rw [vN, if_pos h]
  exact ⟨h1.1.symm, h1.2⟩
def pAll : Bool := (List.range 13).all fun k => isV (2 ^ k) && vN (2 ^ k) == k
theorem pAll_t : pAll = true := by decide +kernel
theorem pow_isV {k : Nat} (hk : k ≤ 12) : isV (2 ^ k) = true ∧ vN (2 ^ k) = k := by
  have h1 := List.all_eq_true.1 pAll_t k (List.mem_range.2 (by omega))
  simpa using h1
theorem vC_ok {n : Nat} (h : isV n = true) : vC n = 0 := if_pos h
theorem vC_no {n : Nat} (h : isV n = false) : vC n = 7 := if_neg (by rw [h]; decide)
theorem vN_no {n : Nat} (h : isV n = false) : vN n = 0 := if_neg (by rw [h]; decide)
theorem vC_iff {n : Nat} : vC n = 0 ↔ isV n = true := by
  cases h : isV n with
  | true => simp [vC_ok h]
  | false => simp [vC_no h]
def fixL (xs : List Fp) (x : Fp) : List Fp := (List.range (xs.length / 2)).map fun i => xs.getD i 0 + x * (xs.getD (xs.length / 2 + i) 0 - xs.getD i 0)
def fixB (n : Nat) : Bool := isV n && decide (0 < vN n)
def fixT (xs : List Fp) (x : Fp) : List Fp := if fixB xs.length then fixL xs x else []
theorem fixL_len (xs : List Fp) (x : Fp) : (fixL xs x).length = xs.length / 2 := by simp [fixL]
theorem fixL_at {xs : List Fp} {x : Fp} {i : Nat} (h : i < xs.length / 2) : (fixL xs x).getD i 0 = xs.getD i 0 + x * (xs.getD (xs.length / 2 + i) 0 - xs.getD i 0) := by
  rw [fixL, List.getD_eq_getElem?_getD, List.getElem?_map, List.getElem?_range h]; rfl
theorem fixT_len (xs : List Fp) (x : Fp) : (fixT xs x).length ≤ xs.length / 2 := by
  unfold fixT; split
  · rw [fixL_len]; exact Nat.le_refl _
  · exact Nat.zero_le _
theorem fixB_pow {k : Nat} (hk : k + 1 ≤ 12) : fixB (2 ^ (k + 1)) = true := by
  have h := pow_isV hk
  rw [fixB, h.1, h.2]; simp
theorem pow_half (k : Nat) : 2 ^ (k + 1) / 2 = 2 ^ k := by rw [Nat.pow_succ, Nat.mul_div_cancel _ (by decide)]
theorem fix_eq {xs : List Fp} {x : Fp} {k : Nat} (hl : xs.length = 2 ^ (k + 1)) (hk : k + 1 ≤ 12) : fixT xs x = fixL xs x ∧ (fixT xs x).length = 2 ^ k := by
  have h : fixT xs x = fixL xs x := if_pos (by rw [hl]; exact fixB_pow hk)
  exact ⟨h, by rw [h, fixL_len, hl, pow_half]⟩
def evF (xs : List Fp) (ps : List Fp) : List Fp := ps.foldl fixT xs
def evV (xs : List Fp) (ps : List Fp) : Fp := (evF xs ps).getD 0 0
def evB (n k : Nat) : Bool := isV n && decide (vN n = k)
def eT (xs ps : List Fp) : Fp := if evB xs.length ps.length then evV xs ps else 0
def eC (xs ps : List Fp) : Int := if isV xs.length then (if vN xs.length = ps.length then 0 else 1) else 7
theorem evF_len : ∀ (ps xs : List Fp), xs.length = 2 ^ ps.length → ps.length ≤ 12 → (evF xs ps).length = 1
  | [], xs, h, _ => h
  | x :: ps, xs, h, hk => by
    simp only [List.length_cons] at h hk
    have h1 := fix_eq (x := x) h hk
    exact evF_len ps (fixT xs x) h1.2 (by omega)
theorem evB_spec {n k : Nat} (h : evB n k = true) : n = 2 ^ k ∧ k ≤ 12 := by
  simp only [evB, Bool.and_eq_true, decide_eq_true_eq] at h
  have := isV_pow h.1
  rw [h.2] at this
  exact this
theorem eC_B {xs ps : List Fp} : eC xs ps = 0 ↔ evB xs.length ps.length = true := by
  unfold eC evB
  cases isV xs.length <;> simp
def smN (f : Nat → Fp) : Nat → Fp
  | 0 => 0
  | n + 1 => smN f n + f n
theorem smN_congr {f g : Nat → Fp} : ∀ {n}, (∀ i, i < n → f i = g i) → smN f n = smN g n
  | 0, _ => rfl
  | n + 1, h => by rw [smN, smN, smN_congr fun i hi => h i (by omega), h n (by omega)]
end Go.Proofs.YteeifahhejangaaDoor
namespace Go.Proofs.YteeifahhejangaaDoor
open Go Sim
theorem isV_zero {n : Nat} (h : n = 0) : isV n = false := by rw [h]; rfl
theorem isV_and {n : Nat} (h : ¬ n &&& (n - 1) = 0) : isV n = false := by
  unfold isV; rw [show ((n &&& (n - 1)) == 0) = false from beq_eq_false_iff_ne.2 h, Bool.and_false, Bool.false_and]
theorem isV_gt {n : Nat} (h : 4096 < n) : isV n = false := by
  unfold isV; rw [decide_eq_false (show ¬ n ≤ 4096 by omega), Bool.and_false]
theorem isV_ok {n : Nat} (h0 : ¬ n = 0) (h1 : n &&& (n - 1) = 0) (h2 : n ≤ 4096) : isV n = true := by
  unfold isV; rw [h1, decide_eq_true h2]; simp [h0]
theorem fixB_no {n : Nat} (h : ¬ isV n = true) : fixB n = false := by
  unfold fixB; rw [Bool.eq_false_iff.2 h]; rfl
theorem fixB_n0 {n : Nat} (h : vN n = 0) : fixB n = false := by unfold fixB; rw [h]; simp
theorem fixB_ok {n : Nat} (hv : isV n = true) (h : ¬ vN n = 0) : fixB n = true := by
  unfold fixB; rw [hv, decide_eq_true (by omega)]; rfl
def fxp (xs : List Fp) (x : Fp) (i : Nat) : List Fp := (List.range (xs.length / 2)).map fun j => if j < i then (fixL xs x).getD j 0 else 0
theorem fxp_len (xs : List Fp) (x : Fp) (i : Nat) : (fxp xs x i).length = xs.length / 2 := by simp [fxp]
theorem fxp_zero (xs : List Fp) (x : Fp) : fxp xs x 0 = List.replicate (xs.length / 2) 0 := by
  refine List.ext_getElem (by simp [fxp]) fun i h1 h2 => ?_
  simp [fxp]
theorem fxp_all {xs : List Fp} {x : Fp} : fxp xs x (xs.length / 2) = fixL xs x := by
  refine List.ext_getElem (by simp [fxp, fixL_len]) fun i h1 h2 => ?_
  rw [fxp_len] at h1
  simp [fxp, h1, List.getElem?_eq_getElem h2]
theorem fxp_set {xs : List Fp} {x : Fp} {i : Nat} (hi : i < xs.length / 2) : (fxp xs x i).set i (xs.getD i 0 + x * (xs.getD (xs.length / 2 + i) 0 - xs.getD i 0)) = fxp xs x (i + 1) := by
  refine List.ext_getElem (by simp [fxp]) fun j h1 h2 => ?_
  simp only [fxp, List.getElem_set, List.getElem_map, List.getElem_range]
  by_cases h : i = j
  · subst h; rw [if_pos rfl, if_pos (Nat.lt_succ_self i), fixL_at hi]
  · rw [if_neg h]
    by_cases hj : j < i
    · rw [if_pos hj, if_pos (by omega)]
    · rw [if_neg hj, if_neg (by omega)]
theorem vars_ctr {xs : List Fp} {n : Nat} (hn : xs.length = n) (hx : n < 1000000) : GC Tryd.prog 11 [.slice (some ⟨0, 0, none⟩) n 0] [⟨((xs.map fe).flatten).map (vi .u64), false, 4⟩] [vi .i64 (vN n), .int .i64 (vC n)] [⟨((xs.map fe).flatten).map (vi .u64), false, 4⟩] := by
  refine GC.intro Tryd.func11 rfl (by show 1 ≤ 23; decide) (by first | exact Nat.le_refl _ | decide | simp) ?_
  refine AW.seqR ?_
  refine AWo.pure (PureOp.assign rfl) rfl rfl ?_
  refine AWo.pure (PureOp.assign rfl) rfl rfl ?_
  refine AWo.nil trivial ?_
  refine AW.seqR ?_
  refine AWo.pure (PureOp.move rfl) rfl rfl ?_
  first | refine AWo.pure (PureOp.lenS tbok rfl rfl) rfl rfl ?_ | refine AWo.pure (PureOp.lenD tbok rfl rfl) rfl rfl ?_
  refine AWo.pure (PureOp.assign rfl) rfl rfl ?_
  refine AWo.nil trivial ?_
  refine AW.seq ?_
  refine AW.seqR ?_
  refine AWo.pure (PureOp.move rfl) rfl rfl ?_
  first | refine AWo.pureB (PureOp.eqN (b := 0) rfl rfl) rfl rfl (fun hb0 => ?_) (fun hb0 => ?_) | refine AWo.pureB (PureOp.bin rfl rfl rfl) rfl rfl (fun hb0 => ?_) (fun hb0 => ?_)
  ·
    have hv : isV n = false := isV_zero (by simpa using hb0)
    refine AWo.pure (PureOp.move rfl) rfl rfl ?_
    refine AWo.skipped rfl rfl ?_
    refine AWo.skipped rfl rfl ?_
    refine AWo.skipped rfl rfl ?_
    refine AWo.skipped rfl rfl ?_
    refine AWo.skipped rfl rfl ?_
    refine AWo.pure (PureOp.pickT rfl rfl) rfl rfl ?_
    refine AWo.pure (PureOp.move rfl) rfl rfl ?_
    refine AWo.skipped rfl rfl ?_
    refine AWo.skipped rfl rfl ?_
    refine AWo.pure (PureOp.pickT rfl rfl) rfl rfl ?_
    refine AWo.nil trivial ?_
    refine AW.condT rfl ?_
    refine AW.seqR ?_
    refine AWo.pure (PureOp.assign rfl) rfl rfl ?_
    refine AWo.pure (PureOp.assign rfl) rfl rfl ?_
    refine AWo.nil trivial ?_
    refine AW.ret ?_
    refine thenA_ret ?_
    rw [vC_no hv, vN_no hv]
    refine RetQ.gc [_, _] [] [.tmp 2, .tmp 3] (.inl rfl) rfl (.tmp rfl (.tmp rfl .nil)) rfl (.pure rfl (.pure rfl .nil)) (OutL.flat rfl (flatM flat_vi) (by intro h; exact h.elim id fun h => absurd h.1 (by simp)) trivial) (by decide) rfl
  ·
    have h8 : ¬ n = 0 := by simpa using hb0
    refine AWo.pure (PureOp.move rfl) rfl rfl ?_
    refine AWo.pure (PureOp.move rfl) rfl rfl ?_
    refine AWo.pure (PureOp.move rfl) rfl rfl ?_
    first | refine AWo.pure (PureOp.subI (b := 1) rfl rfl (by first | decide | omega) (by first | decide | omega)) rfl rfl ?_ | refine AWo.pure (PureOp.subP rfl rfl (by first | decide | omega)) rfl rfl ?_ | refine AWo.pure (PureOp.bin rfl rfl rfl) rfl rfl ?_
    first | refine AWo.pure (PureOp.andN 9223372036854775808 rfl rfl (by decide) (by decide) (by first | decide | omega) (by first | decide | omega)) rfl rfl ?_ | refine AWo.pure (PureOp.bin rfl rfl rfl) rfl rfl ?_
    first | refine AWo.pureB (PureOp.neN (b := 0) rfl rfl) rfl rfl (fun hb1 => ?_) (fun hb1 => ?_) | refine AWo.pureB (PureOp.bin rfl rfl rfl) rfl rfl (fun hb1 => ?_) (fun hb1 => ?_)
    ·
      have hv : isV n = false := isV_and (by simpa using hb1)
      refine AWo.pure (PureOp.pickF rfl rfl) rfl rfl ?_
      refine AWo.pure (PureOp.move rfl) rfl rfl ?_
      refine AWo.skipped rfl rfl ?_
      refine AWo.skipped rfl rfl ?_
      refine AWo.pure (PureOp.pickT rfl rfl) rfl rfl ?_
      refine AWo.nil trivial ?_
      refine AW.condT rfl ?_
      refine AW.seqR ?_
      refine AWo.pure (PureOp.assign rfl) rfl rfl ?_
      refine AWo.pure (PureOp.assign rfl) rfl rfl ?_
      refine AWo.nil trivial ?_
      refine AW.ret ?_
      refine thenA_ret ?_
      rw [vC_no hv, vN_no hv]
      refine RetQ.gc [_, _] [] [.tmp 2, .tmp 3] (.inl rfl) rfl (.tmp rfl (.tmp rfl .nil)) rfl (.pure rfl (.pure rfl .nil)) (OutL.flat rfl (flatM flat_vi) (by intro h; exact h.elim id fun h => absurd h.1 (by simp)) trivial) (by decide) rfl
    ·
      have h14 : n &&& (n - 1) = 0 := by simpa using hb1
      refine AWo.pure (PureOp.pickF rfl rfl) rfl rfl ?_
      refine AWo.pure (PureOp.move rfl) rfl rfl ?_
      refine AWo.pure (PureOp.move rfl) rfl rfl ?_
      first | refine AWo.pure (PureOp.gtN (b := 4096) rfl rfl) rfl rfl ?_ | refine AWo.pure (PureOp.bin rfl rfl rfl) rfl rfl ?_
      refine AWo.pure (PureOp.pickF rfl rfl) rfl rfl ?_
      refine AWo.nil trivial ?_
      refine AW.cond rfl (fun hb2 => ?_) (fun hb2 => ?_)
      ·
        have hv : isV n = false := isV_gt (of_decide_eq_true hb2)
        refine AW.seqR ?_
        refine AWo.pure (PureOp.assign rfl) rfl rfl ?_
        refine AWo.pure (PureOp.assign rfl) rfl rfl ?_
        refine AWo.nil trivial ?_
        refine AW.ret ?_
        refine thenA_ret ?_
        rw [vC_no hv, vN_no hv]
        refine RetQ.gc [_, _] [] [.tmp 2, .tmp 3] (.inl rfl) rfl (.tmp rfl (.tmp rfl .nil)) rfl (.pure rfl (.pure rfl .nil)) (OutL.flat rfl (flatM flat_vi) (by intro h; exact h.elim id fun h => absurd h.1 (by simp)) trivial) (by decide) rfl
      ·
        have hv : isV n = true := isV_ok h8 h14 (by have := of_decide_eq_false hb2; omega)
        refine AW.skip ?_
        refine thenA_normal ?_
        refine AW.seqR ?_
        refine AWo.pure (PureOp.move rfl) rfl rfl ?_
        first | refine AWo.pure (PureOp.cvtN tbok 18446744073709551616 rfl rfl rfl (by decide) (by decide) (by first | decide | omega)) rfl rfl ?_ | refine AWo.pure (PureOp.cvtU tbok 18446744073709551616 rfl rfl rfl rfl rfl) rfl rfl ?_ | refine AWo.pure (PureOp.cvt tbok rfl rfl rfl) rfl rfl ?_
        refine AWo.callX (tz_ctr (x := n) (by omega) h8) bd38 [] [] rfl (.cons rfl .nil) rfl (.cons rfl rfl .nil) .nil rfl .nil frN (by decide) (.cons rfl rfl .nil) rfl rfl rfl rfl ?_
        refine AWo.pure (PureOp.assign rfl) rfl rfl ?_
        refine AWo.pure (PureOp.assign rfl) rfl rfl ?_
        refine AWo.nil trivial ?_
        refine AW.ret ?_
        rw [vC_ok hv, show vN n = Lib.ctz 64 n from if_pos hv]
        refine RetQ.gc [_, _] [] [.tmp 2, .tmp 3] (.inl rfl) rfl (.tmp rfl (.tmp rfl .nil)) rfl (.cons rfl rfl (.cons rfl rfl .nil)) (OutL.flat rfl (flatM flat_vi) (by intro h; exact h.elim id fun h => absurd h.1 (by simp)) trivial) (by decide) rfl
theorem fix_ctr {xs : List Fp} {x : Fp} {n : Nat} (hn : xs.length = n) (hx : n < 1000000) : GC Tryd.prog 17 [.slice (some ⟨0, 0, none⟩) n 0, .agg ((fe x).map (vi .u64)).toArray] [⟨((xs.map fe).flatten).map (vi .u64), false, 4⟩] [.slice (some ⟨1, 0, none⟩) (fixT xs x).length 0] [⟨((xs.map fe).flatten).map (vi .u64), false, 4⟩, ⟨(((fixT xs x).map fe).flatten).map (vi .u64), true, 4⟩] := by
  refine GC.intro Tryd.func17 rfl (by show 2 ≤ 54; decide) (by first | exact Nat.le_refl _ | decide | simp) ?_
  subst hn
  refine AW.seqR ?_
  refine AWo.box 4000 1 _ rfl rfl rfl rfl rfl ?_
  refine AWo.pure (PureOp.assign rfl) rfl rfl ?_
  refine AWo.nil trivial ?_
  refine AW.seqR ?_
  refine AWo.pure (PureOp.move rfl) rfl rfl ?_
  refine AWo.callX (vars_ctr (xs := xs) (n := xs.length) rfl hx) bd11 [(0, 0)] [] rfl (.cons rfl .nil) rfl (.cons rfl rfl .nil) (.flat rfl (flatM flat_vi) (by intro h; first | exact h | rfl) .nil) rfl (.keep rfl .nil) frN (by decide) (.cons rfl rfl (.cons rfl rfl .nil)) rfl rfl rfl rfl ?_
  refine AWo.pure (PureOp.move rfl) rfl rfl ?_
  refine AWo.pure (PureOp.extract rfl rfl) rfl rfl ?_
  refine AWo.pure (PureOp.extract rfl rfl) rfl rfl ?_
  refine AWo.pure (PureOp.assign rfl) rfl rfl ?_
  refine AWo.pure (PureOp.assign rfl) rfl rfl ?_
  refine AWo.nil trivial ?_
  refine AW.seq ?_
  refine AW.seqR ?_
  refine AWo.pure (PureOp.move rfl) rfl rfl ?_
  first | refine AWo.pureB (PureOp.neN (b := 0) rfl rfl) rfl rfl (fun hb0 => ?_) (fun hb0 => ?_) | refine AWo.pureB (PureOp.bin rfl rfl rfl) rfl rfl (fun hb0 => ?_) (fun hb0 => ?_)
  ·
    have hv : ¬ vC xs.length = 0 := by simpa using hb0
    have hfb : fixB xs.length = false := fixB_no (fun h => hv (vC_iff.2 h))
    refine AWo.pure (PureOp.move rfl) rfl rfl ?_
    refine AWo.skipped rfl rfl ?_
    refine AWo.skipped rfl rfl ?_
    refine AWo.pure (PureOp.pickT rfl rfl) rfl rfl ?_
    refine AWo.nil trivial ?_
    refine AW.condT rfl ?_
    refine AW.ghost 77000 4 rfl ?_
    refine AW.seqR ?_
    refine AWo.pure (PureOp.assign rfl) rfl rfl ?_
    refine AWo.nil trivial ?_
    refine AW.ret ?_
    refine thenA_ret ?_
    have e : fixT xs x = [] := if_neg (by rw [hfb]; decide)
    rw [e]
    refine RetQ.gc [_] [77000] [.tmp 4] (.inl rfl) rfl (.tmp rfl .nil) rfl (.nilS .nil) (OutL.flat rfl (flatM flat_vi) (by intro h; exact h.elim id fun h => absurd h.1 (by simp)) (OutL.flat rfl (flatM flat_vi) (fun _ => rfl) trivial)) (by decide) rfl
  ·
    have hv : isV xs.length = true := vC_iff.1 (by simpa using hb0)
    refine AWo.pure (PureOp.move rfl) rfl rfl ?_
    refine AWo.pure (PureOp.move rfl) rfl rfl ?_
    first | refine AWo.pure (PureOp.eqN (b := 0) rfl rfl) rfl rfl ?_ | refine AWo.pure (PureOp.bin rfl rfl rfl) rfl rfl ?_
    refine AWo.pure (PureOp.pickF rfl rfl) rfl rfl ?_
    refine AWo.nil trivial ?_
    refine AW.cond rfl (fun hb1 => ?_) (fun hb1 => ?_)
    ·
      have h0 : vN xs.length = 0 := by simpa using hb1
      have hfb : fixB xs.length = false := fixB_n0 h0
      refine AW.ghost 77000 4 rfl ?_
      refine AW.seqR ?_
      refine AWo.pure (PureOp.assign rfl) rfl rfl ?_
      refine AWo.nil trivial ?_
      refine AW.ret ?_
      refine thenA_ret ?_
      have e : fixT xs x = [] := if_neg (by rw [hfb]; decide)
      rw [e]
      refine RetQ.gc [_] [77000] [.tmp 4] (.inl rfl) rfl (.tmp rfl .nil) rfl (.nilS .nil) (OutL.flat rfl (flatM flat_vi) (by intro h; exact h.elim id fun h => absurd h.1 (by simp)) (OutL.flat rfl (flatM flat_vi) (fun _ => rfl) trivial)) (by decide) rfl
    ·
      have h0 : ¬ vN xs.length = 0 := by simpa using hb1
      have hfb : fixB xs.length = true := fixB_ok hv h0
      refine AW.skip ?_
      refine thenA_normal ?_
      refine AW.seqR ?_
      refine AWo.pure (PureOp.move rfl) rfl rfl ?_
      first | refine AWo.pure (PureOp.lenS tbok rfl rfl) rfl rfl ?_ | refine AWo.pure (PureOp.lenD tbok rfl rfl) rfl rfl ?_
      first | refine AWo.pure (PureOp.quoN (b := 2) 9223372036854775808 rfl rfl (by decide) (by decide) (by first | decide | omega) (by first | decide | omega)) rfl rfl ?_ | refine AWo.pure (PureOp.quo rfl rfl (by first | decide | omega)) rfl rfl ?_
      refine AWo.pure (PureOp.assign rfl) rfl rfl ?_
      refine AWo.nil trivial ?_
      refine AW.seqR ?_
      refine AWo.pure (PureOp.move rfl) rfl rfl ?_
      refine AWo.makeSliceC tbok 26000 ((((List.replicate (xs.length / 2) (0 : Fp)).map fe).flatten).map (vi .u64)) rfl rfl (Nat.le_refl _) rfl rfl (by decide) rfl rfl rfl rfl (by omega) (by omega) (zeroFF _).symm rfl rfl rfl ?_
      rw [show List.replicate (xs.length / 2) (0 : Fp) = fxp xs x 0 from (fxp_zero xs x).symm]
      refine AWo.pure (PureOp.assign rfl) rfl rfl ?_
      refine AWo.nil trivial ?_
      refine AW.seq ?_
      refine AW.seqR ?_
      refine AWo.pure (PureOp.move rfl) rfl rfl ?_
      first | refine AWo.pure (PureOp.lenS tbok rfl rfl) rfl rfl ?_ | refine AWo.pure (PureOp.lenD tbok rfl rfl) rfl rfl ?_
      refine AWo.pure (PureOp.move rfl) rfl rfl ?_
      refine AWo.nil trivial ?_
      refine AW.block ?_
      refine AW.loopw (fun mm σ => ∃ i, (i ≤ (xs.length / 2)) ∧ mm = (xs.length / 2) - i ∧ σ = ⟨(upd (upd (upd (upd (upd (upd emp 0 (.slice (some ⟨0, 0, none⟩) xs.length 0)) 3 (.pointer (some ⟨4000, 0, none⟩))) 7 (vi .i64 (xs.length / 2))) 8 (.slice (some ⟨26000, 0, none⟩) (xs.length / 2) 0)) 27 (vi .i64 (xs.length / 2))) 28 (vi .i64 i)), (upd (upd (upd emp 0 ⟨((xs.map fe).flatten).map (vi .u64), false, 4⟩) 4000 ⟨(fe x).map (vi .u64), true, 1⟩) 26000 ⟨(((fxp xs x i).map fe).flatten).map (vi .u64), true, 4⟩)⟩) (fm := []) ?_ ⟨0, Nat.zero_le _, rfl, rfl⟩ ?_
      ·
        refine Wk.of [0, 4000, 26000] ?_ ?_ ?_ (by decide) rfl
        ·
          refine WkE.upd rfl (by first | exact VR.flat _ rfl | exact VR.eqv (vp_succ _) rfl | exact VR.eqv (vp_succ _).symm rfl | exact VR.eqv (by first | rfl | (congr 1; omega) | (simp; done) | (simp; omega)) rfl) ?_
          refine WkE.upd rfl (by first | exact VR.flat _ rfl | exact VR.eqv (vp_succ _) rfl | exact VR.eqv (vp_succ _).symm rfl | exact VR.eqv (by first | rfl | (congr 1; omega) | (simp; done) | (simp; omega)) rfl) ?_
          refine WkE.upd rfl (.slice (26000) 0 _ 0 ⟨_, rfl⟩ (by simp) (by simp)) ?_
          refine WkE.upd rfl (by first | exact VR.flat _ rfl | exact VR.eqv (vp_succ _) rfl | exact VR.eqv (vp_succ _).symm rfl | exact VR.eqv (by first | rfl | (congr 1; omega) | (simp; done) | (simp; omega)) rfl) ?_
          refine WkE.upd rfl (.ptr (4000) 0 ⟨_, rfl⟩) ?_
          refine WkE.upd rfl (.slice (0) 0 _ 0 ⟨_, rfl⟩ (by simp) (by simp)) ?_
          exact WkE.emp
        ·
          refine WkM.flat rfl (flatM flat_vi) (fun h => h) ?_
          refine WkM.flat rfl (flatM flat_vi) (fun h => h) ?_
          refine WkM.flat rfl (flatM flat_vi) (fun h => h) ?_
          exact WkM.emp
        ·
          repeat (refine dom_upd_mem (by decide) ?_)
          exact dom_emp
      ·
        rintro mm σ ⟨i, hinv, rfl, rfl⟩
        have hfl := fxp_len xs x i
        refine AW.seqR ?_
        first | refine AWo.pure (PureOp.ltN rfl rfl) rfl rfl ?_ | refine AWo.pure (PureOp.bin rfl rfl rfl) rfl rfl ?_
        refine AWo.nil trivial ?_
        refine AW.seq ?_
        refine AW.cond rfl (fun hb2 => ?_) (fun hb2 => ?_)
        ·
          have hi : i < (xs.length / 2) := by simpa using hb2
          refine AW.skip ?_
          refine thenA_normal ?_
          refine AW.seq ?_
          refine AW.block ?_
          refine AW.seqR ?_
          refine AWo.pure (PureOp.move rfl) rfl rfl ?_
          refine AWo.pure (PureOp.assign rfl) rfl rfl ?_
          refine AWo.nil trivial ?_
          refine AW.draw mixed ?_
          refine AWo.pure (PureOp.move rfl) rfl rfl ?_
          refine AWo.pure (PureOp.move rfl) rfl rfl ?_
          refine AWo.pure (PureOp.move rfl) rfl rfl ?_
          refine AWo.pure (PureOp.move rfl) rfl rfl ?_
          first | refine AWo.pure (PureOp.idx1 tbok rfl rfl rfl rfl (by first | decide | omega)) rfl rfl ?_ | refine AWo.pure (PureOp.idx tbok rfl rfl rfl rfl (by first | decide | omega)) rfl rfl ?_
          refine yLJ (xs := xs) i ?_
          first | refine yLE ?_ | refine yLEi ?_
          refine AWo.pure (PureOp.move rfl) rfl rfl ?_
          refine AWo.pure (PureOp.move rfl) rfl rfl ?_
          refine AWo.pure (PureOp.move rfl) rfl rfl ?_
          first | refine AWo.pure (PureOp.addI rfl rfl (by first | decide | omega)) rfl rfl ?_ | refine AWo.pure (PureOp.bin rfl rfl rfl) rfl rfl ?_
          first | refine AWo.pure (PureOp.idx1 tbok rfl rfl rfl rfl (by first | decide | omega)) rfl rfl ?_ | refine AWo.pure (PureOp.idx tbok rfl rfl rfl rfl (by first | decide | omega)) rfl rfl ?_
          refine yLJ (xs := xs) (xs.length / 2 + i) ?_
          refine AWo.pure (PureOp.move rfl) rfl rfl ?_
          refine AWo.pure (PureOp.move rfl) rfl rfl ?_
          first | refine AWo.pure (PureOp.idx1 tbok rfl rfl rfl rfl (by first | decide | omega)) rfl rfl ?_ | refine AWo.pure (PureOp.idx tbok rfl rfl rfl rfl (by first | decide | omega)) rfl rfl ?_
          refine yLJ (xs := xs) i ?_
          refine AWo.callX (subF_ctr (x := xs.getD (xs.length / 2 + i) 0) (y := xs.getD i 0)) bd26 [] [] rfl (.cons rfl (.cons rfl .nil)) rfl (.pure (by first | rfl | exact pure_aggM flat_vi | exact pure_aggM flat_bool) (.pure (by first | rfl | exact pure_aggM flat_vi | exact pure_aggM flat_bool) .nil)) .nil rfl .nil frN (by decide) (.pure (by first | rfl | exact pure_aggM flat_vi | exact pure_aggM flat_bool) .nil) rfl rfl rfl rfl ?_
          refine AWo.callX (mulF_ctr (x := x) (y := xs.getD (xs.length / 2 + i) 0 - xs.getD i 0)) bd25 [] [] rfl (.cons rfl (.cons rfl .nil)) rfl (.pure (by first | rfl | exact pure_aggM flat_vi | exact pure_aggM flat_bool) (.pure (by first | rfl | exact pure_aggM flat_vi | exact pure_aggM flat_bool) .nil)) .nil rfl .nil frN (by decide) (.pure (by first | rfl | exact pure_aggM flat_vi | exact pure_aggM flat_bool) .nil) rfl rfl rfl rfl ?_
          refine AWo.callX (addF_ctr (x := xs.getD i 0) (y := x * (xs.getD (xs.length / 2 + i) 0 - xs.getD i 0))) bd23 [] [] rfl (.cons rfl (.cons rfl .nil)) rfl (.pure (by first | rfl | exact pure_aggM flat_vi | exact pure_aggM flat_bool) (.pure (by first | rfl | exact pure_aggM flat_vi | exact pure_aggM flat_bool) .nil)) .nil rfl .nil frN (by decide) (.pure (by first | rfl | exact pure_aggM flat_vi | exact pure_aggM flat_bool) .nil) rfl rfl rfl rfl ?_
          first | refine AWo.pure (PureOp.idx1 tbok rfl rfl rfl rfl (by first | decide | omega)) rfl rfl ?_ | refine AWo.pure (PureOp.idx tbok rfl rfl rfl rfl (by first | decide | omega)) rfl rfl ?_
          refine ySJ (xs := fxp xs x i) (y := (xs.getD i 0 + x * (xs.getD (xs.length / 2 + i) 0 - xs.getD i 0))) i ?_
          rw [fxp_set hi]
          refine AWo.nil (by kernel_rfl) ?_
          refine inBlockA_normal ?_
          refine thenA_normal ?_
          refine AW.region ?_
          first | refine AWo.pure (PureOp.addI (b := 1) rfl rfl (by first | decide | omega)) rfl rfl ?_ | refine AWo.pure (PureOp.bin rfl rfl rfl) rfl rfl ?_
          refine AWo.pure (PureOp.move rfl) rfl rfl ?_
          refine AWo.nil trivial ?_
          refine thenA_normal ?_
          refine ⟨(xs.length / 2) - (i + 1), [], _, by omega, ?_, i + 1, by omega, rfl, rfl⟩
          refine Wk.of [0, 4000, 26000] ?_ ?_ ?_ (by decide) rfl
          ·
            refine WkE.upd rfl (by first | exact VR.flat _ rfl | exact VR.eqv (vp_succ _) rfl | exact VR.eqv (vp_succ _).symm rfl | exact VR.eqv (by first | rfl | (congr 1; omega) | (simp; done) | (simp; omega)) rfl) ?_
            refine WkE.upd rfl (by first | exact VR.flat _ rfl | exact VR.eqv (vp_succ _) rfl | exact VR.eqv (vp_succ _).symm rfl | exact VR.eqv (by first | rfl | (congr 1; omega) | (simp; done) | (simp; omega)) rfl) ?_
            refine WkE.upd rfl (.slice (26000) 0 _ 0 ⟨_, rfl⟩ (by simp) (by simp)) ?_
            refine WkE.upd rfl (by first | exact VR.flat _ rfl | exact VR.eqv (vp_succ _) rfl | exact VR.eqv (vp_succ _).symm rfl | exact VR.eqv (by first | rfl | (congr 1; omega) | (simp; done) | (simp; omega)) rfl) ?_
            refine WkE.upd rfl (.ptr (4000) 0 ⟨_, rfl⟩) ?_
            refine WkE.upd rfl (.slice (0) 0 _ 0 ⟨_, rfl⟩ (by simp) (by simp)) ?_
            exact WkE.emp
          ·
            refine WkM.flat rfl (flatM flat_vi) (fun h => h) ?_
            refine WkM.flat rfl (flatM flat_vi) (fun h => h) ?_
            refine WkM.flat rfl (flatM flat_vi) (fun h => h) ?_
            exact WkM.emp
          ·
            repeat (refine dom_upd_mem (by decide) ?_)
            exact dom_emp
        ·
          obtain rfl : i = (xs.length / 2) := by simp at hb2; omega
          refine AW.exit ?_
          refine thenA_exit ?_
          refine thenA_exit ?_
          refine inBlockA_hit ?_
          refine thenA_normal ?_
          refine AW.seqR ?_
          refine AWo.pure (PureOp.move rfl) rfl rfl ?_
          refine AWo.pure (PureOp.assign rfl) rfl rfl ?_
          refine AWo.nil trivial ?_
          refine AW.ret ?_
          have e : fixT xs x = fixL xs x := if_pos hfb
          rw [e, fixL_len, fxp_all]
          refine RetQ.gc [_] [26000] [.tmp 4] (.inl rfl) rfl (.tmp rfl .nil) rfl (.cons rfl rfl .nil) (OutL.flat rfl (flatM flat_vi) (by intro h; exact h.elim id fun h => absurd h.1 (by simp)) (OutL.flat rfl (flatM flat_vi) (fun _ => rfl) trivial)) (by decide) rfl
theorem sumT_ctr {xs : List Fp} {n : Nat} (hn : xs.length = n) (hx : n < 1000000) : GC Tryd.prog 19 [.slice (some ⟨0, 0, none⟩) n 0] [⟨((xs.map fe).flatten).map (vi .u64), false, 4⟩] [.agg ((fe (fsumL xs)).map (vi .u64)).toArray] [⟨((xs.map fe).flatten).map (vi .u64), false, 4⟩] := by
  refine GC.intro Tryd.func19 rfl (by show 1 ≤ 5; decide) (by first | exact Nat.le_refl _ | decide | simp) ?_
  refine AW.seqR ?_
  refine AWo.alloc tbok 3000 1 _ rfl rfl rfl rfl rfl rfl ?_
  refine AWo.nil trivial ?_
  refine AW.seqR ?_
  refine AWo.pure (PureOp.move rfl) rfl rfl ?_
  refine AWo.callX (sumN_ctr (xs := xs) (n := n) (s := fsumL xs) hn (by omega) rfl) bd45 [(0, 0)] [] rfl (.cons rfl .nil) rfl (.cons rfl rfl .nil) (.flat rfl (by first | exact flatM flat_vi | exact flatM flat_bool | (simp [flatV, flat_vi]; done)) (by intro h; first | exact h | rfl) .nil) rfl (.keep rfl .nil) frN (by decide) (.pure (by first | rfl | exact pure_aggM flat_vi | exact pure_aggM flat_bool) .nil) rfl rfl rfl rfl ?_
  refine AWo.storeAllN tbok rfl rfl rfl rfl (by first | (simp [*]; done) | rfl) (by first | (simp [*]; done) | rfl) (by first | exact oneM (fun _ => rfl) _ | rfl | (simp; done)) rfl ?_
  refine AWo.nil trivial ?_
  refine AW.ret ?_
  refine RetQ.gc [_] [] [.cell 2 43] (.inl rfl) rfl (.val (RVal.cellAll tbok rfl rfl rfl rfl (by first | (simp [*]; done) | rfl)) .nil) rfl (.pure (by first | rfl | exact pure_aggM flat_vi | exact pure_aggM flat_bool) .nil) (OutL.flat rfl (flatM flat_vi) (by intro h; first | rfl | exact h.elim id fun h => absurd h.1 (by simp)) trivial) (by decide) rfl
end Go.Proofs.YteeifahhejangaaDoor
namespace Go.Proofs.YteeifahhejangaaDoor
open Go Sim
theorem evF_step {xs ps : List Fp} {i : Nat} (hi : i < ps.length) : fixT (evF xs (ps.take i)) (ps.getD i 0) = evF xs (ps.take (i + 1)) := by
  rw [List.take_succ_eq_append_getElem hi, evF, evF, List.foldl_append, List.getD_eq_getElem?_getD, List.getElem?_eq_getElem hi]; rfl
theorem evF_le : ∀ (xs ps : List Fp), (evF xs ps).length ≤ xs.length
  | _, [] => Nat.le_refl _
  | xs, x :: ps => by
    have h1 := evF_le (fixT xs x) ps
    have h2 := fixT_len xs x
    show (evF (fixT xs x) ps).length ≤ _
    omega
theorem sp_val : eT [fp 1, fp 2, fp 3, fp 4] [fp 1, fp 0] = fp 3 := by decide +kernel
theorem sp_code : eC [fp 1, fp 2, fp 3, fp 4] [fp 1, fp 0] = 0 := by decide +kernel
theorem sp_ne : ¬ eT [fp 1, fp 2, fp 3, fp 4] [fp 1, fp 0] = 0 := by decide +kernel
theorem fillB4 {c : Value} {x y z u : Fp} : fillL (fun i => some (i * 4, 4)) (List.replicate (4 * 4) c) [(0, .agg ((fe x).map (vi .u64)).toArray), (1, .agg ((fe y).map (vi .u64)).toArray), (2, .agg ((fe z).map (vi .u64)).toArray), (3, .agg ((fe u).map (vi .u64)).toArray)] = some (FF [x, y, z, u]) := by
  have hl : ∀ x : Fp, ((fe x).map (vi .u64)).length = 4 := fun x => by rw [List.length_map, fe_len]
  refine fill4 (A := []) (k := 12) rfl rfl (fill4 (k := 8) (by simp [hl]) rfl (fill4 (k := 4) (by simp [hl]) rfl (fill4 (k := 0) (by simp [hl]) rfl ?_)))
  simp [fillL]
theorem evT_ctr {xs ps : List Fp} {n k : Nat} (hn : xs.length = n) (hk : ps.length = k) (hx : n < 1000000) (hy : k < 1000000) : GC Tryd.prog 13 [.slice (some ⟨0, 0, none⟩) n 0, .slice (some ⟨1, 0, none⟩) k 0] [⟨((xs.map fe).flatten).map (vi .u64), false, 4⟩, ⟨((ps.map fe).flatten).map (vi .u64), false, 4⟩] [.agg ((fe (eT xs ps)).map (vi .u64)).toArray, .int .i64 (eC xs ps)] [⟨((xs.map fe).flatten).map (vi .u64), false, 4⟩, ⟨((ps.map fe).flatten).map (vi .u64), false, 4⟩] := by
  refine GC.intro Tryd.func13 rfl (by show 2 ≤ 39; decide) (by first | exact Nat.le_refl _ | decide | simp) ?_
  subst hn
  subst hk
  refine AW.seqR ?_
  refine yN 5000 1 ((fe 0).map (vi .u64)) ?_ (hc := by rw [fe_zero]; rfl)
  refine AWo.pure (PureOp.assign rfl) rfl rfl ?_
  refine AWo.nil trivial ?_
  refine AW.seqR ?_
  refine AWo.pure (PureOp.move rfl) rfl rfl ?_
  refine AWo.callX (vars_ctr (xs := xs) (n := xs.length) rfl hx) bd11 [(0, 0)] [] rfl (.cons rfl .nil) rfl (.cons rfl rfl .nil) (.flat rfl (flatM flat_vi) (by intro h; first | exact h | rfl) .nil) rfl (.keep rfl .nil) frN (by decide) (.cons rfl rfl (.cons rfl rfl .nil)) rfl rfl rfl rfl ?_
  refine AWo.pure (PureOp.move rfl) rfl rfl ?_
  refine AWo.pure (PureOp.extract rfl rfl) rfl rfl ?_
  refine AWo.pure (PureOp.extract rfl rfl) rfl rfl ?_
  refine AWo.pure (PureOp.assign rfl) rfl rfl ?_
  refine AWo.pure (PureOp.assign rfl) rfl rfl ?_
  refine AWo.nil trivial ?_
  refine AW.seq ?_
  refine AW.block ?_
  refine AW.seqR ?_
  refine AWo.pure (PureOp.move rfl) rfl rfl ?_
  first | refine AWo.pure (PureOp.neN (b := 0) rfl rfl) rfl rfl ?_ | refine AWo.pure (PureOp.bin rfl rfl rfl) rfl rfl ?_
  refine AWo.pure (PureOp.assign rfl) rfl rfl ?_
  refine AWo.nil trivial ?_
  refine AW.cond rfl (fun hb0 => ?_) (fun hb0 => ?_)
  ·
    have h16 : ¬ vC xs.length = 0 := by simpa using hb0
    refine AW.seqR ?_
    refine AWo.pure ((PureOp.buildStruct [] pl43.choose_spec.1 zr43 (by decide) pl43.choose_spec.2 rfl rfl).mono (v' := .agg ((fe 0).map (vi .u64)).toArray) (by kernel_rfl)) rfl rfl ?_
    refine AWo.pure (PureOp.move rfl) rfl rfl ?_
    refine AWo.storeAllN tbok rfl rfl rfl rfl (by first | (simp [*]; done) | rfl) (by first | (simp [*]; done) | rfl) (by first | exact oneM (fun _ => rfl) _ | rfl | (simp; done)) rfl ?_
    refine AWo.pure (PureOp.assign rfl) rfl rfl ?_
    refine AWo.nil trivial ?_
    refine AW.ret ?_
    refine inBlockA_ret ?_
    refine thenA_ret ?_
    have hv : isV xs.length = false := Bool.eq_false_iff.2 fun h => h16 (vC_iff.2 h)
    rw [show eT xs ps = 0 from if_neg (by rw [evB, hv, Bool.false_and]; decide), show eC xs ps = 7 from if_neg (by rw [hv]; decide), vC_no hv]
    refine RetQ.gc [_, _] [] [.cell 4 43, .tmp 5] (.inl rfl) rfl (.val (RVal.cellAll tbok rfl rfl rfl rfl (by first | (simp [*]; done) | rfl)) (.tmp rfl .nil)) rfl (.pure (pure_aggM flat_vi) (.pure rfl .nil)) (OutL.flat rfl (flatM flat_vi) (by intro h; exact h.elim id fun h => absurd h.1 (by simp)) (OutL.flat rfl (flatM flat_vi) (by intro h; exact h.elim id fun h => absurd h.1 (by simp)) trivial)) (by decide) rfl
  ·
    have hv : isV xs.length = true := vC_iff.1 (by simpa using hb0)
    refine AW.seqR ?_
    refine AWo.pure (PureOp.move rfl) rfl rfl ?_
    refine AWo.pure (PureOp.move rfl) rfl rfl ?_
    first | refine AWo.pure (PureOp.lenS tbok rfl rfl) rfl rfl ?_ | refine AWo.pure (PureOp.lenD tbok rfl rfl) rfl rfl ?_
    first | refine AWo.pure (PureOp.neN rfl rfl) rfl rfl ?_ | refine AWo.pure (PureOp.bin rfl rfl rfl) rfl rfl ?_
    refine AWo.pure (PureOp.assign rfl) rfl rfl ?_
    refine AWo.nil trivial ?_
    refine AW.cond rfl (fun hb1 => ?_) (fun hb1 => ?_)
    ·
      have h21 : ¬ vN xs.length = ps.length := by simpa using hb1
      refine AW.seqR ?_
      refine AWo.pure ((PureOp.buildStruct [] pl43.choose_spec.1 zr43 (by decide) pl43.choose_spec.2 rfl rfl).mono (v' := .agg ((fe 0).map (vi .u64)).toArray) (by kernel_rfl)) rfl rfl ?_
      refine AWo.storeAllN tbok rfl rfl rfl rfl (by first | (simp [*]; done) | rfl) (by first | (simp [*]; done) | rfl) (by first | exact oneM (fun _ => rfl) _ | rfl | (simp; done)) rfl ?_
      refine AWo.pure (PureOp.assign rfl) rfl rfl ?_
      refine AWo.nil trivial ?_
      refine AW.ret ?_
      refine inBlockA_ret ?_
      refine thenA_ret ?_
      rw [show eT xs ps = 0 from if_neg (by rw [evB, decide_eq_false h21, Bool.and_false]; decide), show eC xs ps = 1 by rw [eC, if_pos hv, if_neg h21]]
      refine RetQ.gc [_, _] [] [.cell 4 43, .tmp 5] (.inl rfl) rfl (.val (RVal.cellAll tbok rfl rfl rfl rfl (by first | (simp [*]; done) | rfl)) (.tmp rfl .nil)) rfl (.pure (pure_aggM flat_vi) (.pure rfl .nil)) (OutL.flat rfl (flatM flat_vi) (by intro h; exact h.elim id fun h => absurd h.1 (by simp)) (OutL.flat rfl (flatM flat_vi) (by intro h; exact h.elim id fun h => absurd h.1 (by simp)) trivial)) (by decide) rfl
    ·
      have h21 : vN xs.length = ps.length := by simpa using hb1
      refine AW.skip ?_
      refine inBlockA_normal ?_
      refine thenA_normal ?_
      refine AW.seq ?_
      refine AW.seqR ?_
      refine AWo.pure (PureOp.move rfl) rfl rfl ?_
      first | refine AWo.pure (PureOp.lenS tbok rfl rfl) rfl rfl ?_ | refine AWo.pure (PureOp.lenD tbok rfl rfl) rfl rfl ?_
      refine AWo.pure (PureOp.move rfl) rfl rfl ?_
      refine AWo.nil trivial ?_
      refine AW.block ?_
      refine AW.alias 0 0 76000 rfl rfl rfl ?_
      refine AW.loopw (fun mm σ => ∃ i, (i ≤ ps.length) ∧ mm = ps.length - i ∧ σ = ⟨(upd (upd (upd (upd (upd (upd emp 0 (.slice (some ⟨76000, 0, none⟩) (evF xs (ps.take i)).length 0)) 1 (.slice (some ⟨1, 0, none⟩) ps.length 0)) 4 (.pointer (some ⟨5000, 0, none⟩))) 26 (.slice (some ⟨1, 0, none⟩) ps.length 0)) 27 (vi .i64 ps.length)) 28 (vi .i64 i)), (upd (upd (upd (upd emp 0 ⟨((xs.map fe).flatten).map (vi .u64), false, 4⟩) 1 ⟨((ps.map fe).flatten).map (vi .u64), false, 4⟩) 5000 ⟨(fe 0).map (vi .u64), true, 1⟩) 76000 ⟨(((evF xs (ps.take i)).map fe).flatten).map (vi .u64), false, 4⟩)⟩) (fm := []) ?_ ⟨0, Nat.zero_le _, rfl, rfl⟩ ?_
      ·
        refine Wk.of [0, 1, 5000, 76000] ?_ ?_ ?_ (by decide) rfl
        ·
          refine WkE.upd rfl (by first | exact VR.flat _ rfl | exact VR.eqv (vp_succ _) rfl | exact VR.eqv (vp_succ _).symm rfl | exact VR.eqv (by first | rfl | (congr 1; omega) | (simp; done) | (simp; omega)) rfl) ?_
          refine WkE.upd rfl (by first | exact VR.flat _ rfl | exact VR.eqv (vp_succ _) rfl | exact VR.eqv (vp_succ _).symm rfl | exact VR.eqv (by first | rfl | (congr 1; omega) | (simp; done) | (simp; omega)) rfl) ?_
          refine WkE.upd rfl (.slice (1) 0 _ 0 ⟨_, rfl⟩ (by simp) (by simp)) ?_
          refine WkE.upd rfl (.ptr (5000) 0 ⟨_, rfl⟩) ?_
          refine WkE.upd rfl (.slice (1) 0 _ 0 ⟨_, rfl⟩ (by simp) (by simp)) ?_
          refine WkE.upd rfl (.slice (76000) 0 _ 0 ⟨_, rfl⟩ (by simp) (by simp)) ?_
          exact WkE.emp
        ·
          refine WkM.flat rfl (flatM flat_vi) (fun h => by cases h) ?_
          refine WkM.flat rfl (flatM flat_vi) (fun h => h) ?_
          refine WkM.flat rfl (flatM flat_vi) (fun h => h) ?_
          refine WkM.flat rfl (flatM flat_vi) (fun h => h) ?_
          exact WkM.emp
        ·
          repeat (refine dom_upd_mem (by decide) ?_)
          exact dom_emp
      ·
        rintro mm σ ⟨i, hinv, rfl, rfl⟩
        have hel := evF_le xs (ps.take i)
        refine AW.seqR ?_
        first | refine AWo.pure (PureOp.ltN rfl rfl) rfl rfl ?_ | refine AWo.pure (PureOp.bin rfl rfl rfl) rfl rfl ?_
        refine AWo.nil trivial ?_
        refine AW.seq ?_
        refine AW.cond rfl (fun hb2 => ?_) (fun hb2 => ?_)
        ·
          have hi : i < ps.length := by simpa using hb2
          refine AW.skip ?_
          refine thenA_normal ?_
          refine AW.seq ?_
          refine AW.block ?_
          refine AW.seqR ?_
          first | refine AWo.pure (PureOp.idx1 tbok rfl rfl rfl rfl (by first | decide | omega)) rfl rfl ?_ | refine AWo.pure (PureOp.idx tbok rfl rfl rfl rfl (by first | decide | omega)) rfl rfl ?_
          refine yLJ (xs := ps) i ?_
          refine AWo.alloc tbok 10000 1 _ rfl rfl rfl rfl rfl rfl ?_
          refine AWo.storeAllN tbok rfl rfl rfl rfl (by first | (simp [*]; done) | rfl) (by first | (simp [*]; done) | rfl) (by first | exact oneM (fun _ => rfl) _ | rfl | (simp; done)) rfl ?_
          refine AWo.nil trivial ?_
          refine AW.region ?_
          refine AWo.pure (PureOp.move rfl) rfl rfl ?_
          first | refine yLE ?_ | refine yLEi ?_
          refine AWo.callX (fix_ctr (xs := (evF xs (ps.take i))) (x := ps.getD i 0) (n := (evF xs (ps.take i)).length) rfl (by omega)) bd17 [(76000, 0)] [35000] rfl (.cons rfl (.cons rfl .nil)) rfl (.cons rfl rfl (.pure (by first | rfl | exact pure_aggM flat_vi | exact pure_aggM flat_bool) .nil)) (.flat rfl (flatM flat_vi) (by intro h; first | exact h | rfl) .nil) rfl (.keep rfl (.new (flat_map_ren (flatM flat_vi)) (OkL.flat (flatM flat_vi)) .nil)) (frC rfl frN) (by decide) (.cons rfl rfl .nil) rfl rfl rfl rfl ?_
          refine AWo.pure (PureOp.assign rfl) rfl rfl ?_
          refine AWo.nil trivial ?_
          refine inBlockA_normal ?_
          refine thenA_normal ?_
          refine AW.region ?_
          first | refine AWo.pure (PureOp.addI (b := 1) rfl rfl (by first | decide | omega)) rfl rfl ?_ | refine AWo.pure (PureOp.bin rfl rfl rfl) rfl rfl ?_
          refine AWo.pure (PureOp.move rfl) rfl rfl ?_
          refine AWo.nil trivial ?_
          refine thenA_normal ?_
          rw [evF_step hi]
          refine ⟨ps.length - (i + 1), [(76000, 35000)], _, by omega, ?_, i + 1, by omega, rfl, rfl⟩
          refine Wk.of [0, 1, 5000, 76000] ?_ ?_ ?_ (by decide) rfl
          ·
            refine WkE.upd rfl (by first | exact VR.flat _ rfl | exact VR.eqv (vp_succ _) rfl | exact VR.eqv (vp_succ _).symm rfl | exact VR.eqv (by first | rfl | (congr 1; omega) | (simp; done) | (simp; omega)) rfl) ?_
            refine WkE.upd rfl (by first | exact VR.flat _ rfl | exact VR.eqv (vp_succ _) rfl | exact VR.eqv (vp_succ _).symm rfl | exact VR.eqv (by first | rfl | (congr 1; omega) | (simp; done) | (simp; omega)) rfl) ?_
            refine WkE.upd rfl (.slice (1) 0 _ 0 ⟨_, rfl⟩ (by simp) (by simp)) ?_
            refine WkE.upd rfl (.ptr (5000) 0 ⟨_, rfl⟩) ?_
            refine WkE.upd rfl (.slice (1) 0 _ 0 ⟨_, rfl⟩ (by simp) (by simp)) ?_
            refine WkE.upd rfl (.slice (76000) 0 _ 0 ⟨_, rfl⟩ (by simp) (by simp)) ?_
            exact WkE.emp
          ·
            refine WkM.flat rfl (flatM flat_vi) (fun h => by cases h) ?_
            refine WkM.flat rfl (flatM flat_vi) (fun h => h) ?_
            refine WkM.flat rfl (flatM flat_vi) (fun h => h) ?_
            refine WkM.flat rfl (flatM flat_vi) (fun h => h) ?_
            exact WkM.emp
          ·
            repeat (refine dom_upd_mem (by decide) ?_)
            exact dom_emp
        ·
          obtain rfl : i = ps.length := by simp at hb2; omega
          have hb : evB xs.length ps.length = true := by rw [evB, hv, decide_eq_true h21]; rfl
          have hl1 : (evF xs ps).length = 1 := evF_len ps xs (evB_spec hb).1 (evB_spec hb).2
          rw [List.take_length]
          refine AW.exit ?_
          refine thenA_exit ?_
          refine thenA_exit ?_
          refine inBlockA_hit ?_
          refine thenA_normal ?_
          refine AW.seqR ?_
          refine AWo.pure (PureOp.move rfl) rfl rfl ?_
          first | refine AWo.pure (PureOp.idx1 (j := 0) tbok rfl rfl rfl rfl (by first | decide | omega)) rfl rfl ?_ | refine AWo.pure (PureOp.idx (j := 0) tbok rfl rfl rfl rfl (by first | decide | omega)) rfl rfl ?_
          refine yLJ (xs := evF xs ps) 0 ?_
          refine AWo.storeAllN tbok rfl rfl rfl rfl (by first | (simp [*]; done) | rfl) (by first | (simp [*]; done) | rfl) (by first | exact oneM (fun _ => rfl) _ | rfl | (simp; done)) rfl ?_
          refine AWo.pure (PureOp.assign rfl) rfl rfl ?_
          refine AWo.nil trivial ?_
          refine AW.ret ?_
          rw [show eC xs ps = 0 from eC_B.2 hb, show eT xs ps = (evF xs ps).getD 0 0 from if_pos hb]
          refine RetQ.gc [_, _] [] [.cell 4 43, .tmp 5] (.inl rfl) rfl (.val (RVal.cellAll tbok rfl rfl rfl rfl (by first | (simp [*]; done) | rfl)) (.tmp rfl .nil)) rfl (.pure (pure_aggM flat_vi) (.pure rfl .nil)) (OutL.flat rfl (flatM flat_vi) (by intro h; exact h.elim id fun h => absurd h.1 (by simp)) (OutL.flat rfl (flatM flat_vi) (by intro h; exact h.elim id fun h => absurd h.1 (by simp)) trivial)) (by decide) rfl
theorem of23_ctr {Ls : List (List Nat)} (hB : ∀ b ∈ Ls, bd 256 b) (hS : ∀ b ∈ Ls, b.length ≤ 40) (hL : Ls.length < 1000000) : GC Tryd.prog 9 [.slice (some ⟨0, 0, none⟩) Ls.length 0] [⟨Ls.map (db), false, 1⟩] [.slice (some ⟨1, 0, none⟩) Ls.length 0, .slice (some ⟨2, 0, none⟩) Ls.length 0] [⟨Ls.map (db), false, 1⟩, ⟨(((Ls.map nb).map fe).flatten).map (vi .u64), true, 4⟩, ⟨(Ls.map nb).map dv, true, 1⟩] := by
  refine GC.intro Tryd.func9 rfl (by show 1 ≤ 13; decide) (by first | exact Nat.le_refl _ | decide | simp) ?_
  refine AW.seqR ?_
  refine AWo.pure (PureOp.assign rfl) rfl rfl ?_
  refine AWo.pure (PureOp.assign rfl) rfl rfl ?_
  refine AWo.nil trivial ?_
  refine AW.seqR ?_
  refine AWo.pure (PureOp.move rfl) rfl rfl ?_
  refine AWo.callX (of22_ctr (Ls := Ls) hB hS hL) bd10 [(0, 0)] [9000, 9001] rfl (.cons rfl .nil) rfl (.cons rfl rfl .nil) (.clo rfl (cloM fun _ => rfl) (by intro h; first | exact h | rfl) .nil) rfl (.keep rfl (.new (flat_map_ren (flatM flat_vi)) (OkL.flat (flatM flat_vi)) (.new (clo_map_ren (cloM fun _ => rfl)) (OkL.clo (cloM fun _ => rfl)) .nil))) (frC rfl (frC rfl frN)) (by decide) (.cons rfl rfl (.cons rfl rfl .nil)) rfl rfl rfl rfl ?_
  refine AWo.pure (PureOp.move rfl) rfl rfl ?_
  refine AWo.pure (PureOp.extract rfl rfl) rfl rfl ?_
  refine AWo.pure (PureOp.extract rfl rfl) rfl rfl ?_
  refine AWo.pure (PureOp.assign rfl) rfl rfl ?_
  refine AWo.pure (PureOp.assign rfl) rfl rfl ?_
  refine AWo.nil trivial ?_
  refine AW.seqR ?_
  refine AWo.pure (PureOp.move rfl) rfl rfl ?_
  refine AWo.pure (PureOp.move rfl) rfl rfl ?_
  refine AWo.pure (PureOp.assign rfl) rfl rfl ?_
  refine AWo.pure (PureOp.assign rfl) rfl rfl ?_
  refine AWo.nil trivial ?_
  refine AW.ret ?_
  refine RetQ.gc [_, _] [9000, 9001] [.tmp 2, .tmp 3] (.inl rfl) rfl (.tmp rfl (.tmp rfl .nil)) rfl (.cons rfl rfl (.cons rfl rfl .nil)) (OutL.clo rfl (cloM fun _ => rfl) (by intro h; first | rfl | exact h.elim id fun h => absurd h.1 (by simp)) (OutL.flat rfl (flatM flat_vi) (by intro h; first | rfl | exact h.elim id fun h => absurd h.1 (by simp)) (OutL.clo rfl (cloM fun _ => rfl) (by intro h; first | rfl | exact h.elim id fun h => absurd h.1 (by simp)) trivial))) (by decide) rfl
theorem speaks23_ctr : GC Tryd.prog 7 [] [] [.bool true] [] := by
  refine GC.intro Tryd.func7 rfl (by show 0 ≤ 35; decide) (by first | exact Nat.le_refl _ | decide | simp) ?_
  refine AW.seqR ?_
  refine AWo.pure (PureOp.assign rfl) rfl rfl ?_
  refine AWo.nil trivial ?_
  refine AW.seqR ?_
  refine AWo.pure (PureOp.assign rfl) rfl rfl ?_
  refine AWo.nil trivial ?_
  refine AW.seqR ?_
  refine AWo.pure (PureOp.move rfl) rfl rfl ?_
  refine AWo.callX (fromuF_ctr (v := 1) (by decide)) bd22 [] [] rfl (.cons rfl .nil) rfl (.cons rfl rfl .nil) .nil rfl .nil frN (by decide) (.pure (by first | rfl | exact pure_aggM flat_vi | exact pure_aggM flat_bool) .nil) rfl rfl rfl rfl ?_
  refine AWo.pure (PureOp.move rfl) rfl rfl ?_
  refine AWo.callX (fromuF_ctr (v := 2) (by decide)) bd22 [] [] rfl (.cons rfl .nil) rfl (.cons rfl rfl .nil) .nil rfl .nil frN (by decide) (.pure (by first | rfl | exact pure_aggM flat_vi | exact pure_aggM flat_bool) .nil) rfl rfl rfl rfl ?_
  refine AWo.pure (PureOp.move rfl) rfl rfl ?_
  refine AWo.callX (fromuF_ctr (v := 3) (by decide)) bd22 [] [] rfl (.cons rfl .nil) rfl (.cons rfl rfl .nil) .nil rfl .nil frN (by decide) (.pure (by first | rfl | exact pure_aggM flat_vi | exact pure_aggM flat_bool) .nil) rfl rfl rfl rfl ?_
  refine AWo.pure (PureOp.move rfl) rfl rfl ?_
  refine AWo.callX (fromuF_ctr (v := 4) (by decide)) bd22 [] [] rfl (.cons rfl .nil) rfl (.cons rfl rfl .nil) .nil rfl .nil frN (by decide) (.pure (by first | rfl | exact pure_aggM flat_vi | exact pure_aggM flat_bool) .nil) rfl rfl rfl rfl ?_
  refine AWo.buildSlice tbok 14000 [(0, .agg ((fe (fp 1)).map (vi .u64)).toArray), (1, .agg ((fe (fp 2)).map (vi .u64)).toArray), (2, .agg ((fe (fp 3)).map (vi .u64)).toArray), (3, .agg ((fe (fp 4)).map (vi .u64)).toArray)] (out := FF [fp 1, fp 2, fp 3, fp 4]) rfl rfl (by decide) rfl rfl rfl (by decide) rfl fillB4 rfl rfl rfl ?_
  refine AWo.pure (PureOp.move rfl) rfl rfl ?_
  refine AWo.callX (fromuF_ctr (v := 1) (by decide)) bd22 [] [] rfl (.cons rfl .nil) rfl (.cons rfl rfl .nil) .nil rfl .nil frN (by decide) (.pure (by first | rfl | exact pure_aggM flat_vi | exact pure_aggM flat_bool) .nil) rfl rfl rfl rfl ?_
  refine AWo.pure (PureOp.move rfl) rfl rfl ?_
  refine AWo.callX (fromuF_ctr (v := 0) (by decide)) bd22 [] [] rfl (.cons rfl .nil) rfl (.cons rfl rfl .nil) .nil rfl .nil frN (by decide) (.pure (by first | rfl | exact pure_aggM flat_vi | exact pure_aggM flat_bool) .nil) rfl rfl rfl rfl ?_
  refine AWo.buildSlice tbok 19000 [(0, .agg ((fe (fp 1)).map (vi .u64)).toArray), (1, .agg ((fe (fp 0)).map (vi .u64)).toArray)] (out := FF [fp 1, fp 0]) rfl rfl (by decide) rfl rfl rfl (by decide) rfl fillB2 rfl rfl rfl ?_
  refine AWo.callX (evT_ctr (xs := [fp 1, fp 2, fp 3, fp 4]) (ps := [fp 1, fp 0]) (n := 4) (k := 2) rfl rfl (by decide) (by decide)) bd13 [(14000, 0), (19000, 0)] [] rfl (.cons rfl (.cons rfl .nil)) rfl (.cons rfl rfl (.cons rfl rfl .nil)) (.flat rfl (flatM flat_vi) (by intro h; first | exact h | rfl) (.flat rfl (flatM flat_vi) (by intro h; first | exact h | rfl) .nil)) rfl (.keep rfl (.keep rfl .nil)) frN (by decide) (.pure (by first | rfl | exact pure_aggM flat_vi | exact pure_aggM flat_bool) (.cons rfl rfl .nil)) rfl rfl rfl rfl ?_
  refine AWo.pure (PureOp.move rfl) rfl rfl ?_
  refine AWo.pure (PureOp.extract rfl rfl) rfl rfl ?_
  refine AWo.pure (PureOp.extract rfl rfl) rfl rfl ?_
  refine AWo.alloc tbok 3000 1 _ rfl rfl rfl rfl rfl rfl ?_
  refine AWo.storeAllN tbok rfl rfl rfl rfl (by first | (simp [*]; done) | rfl) (by first | (simp [*]; done) | rfl) (by first | exact oneM (fun _ => rfl) _ | rfl | (simp; done)) rfl ?_
  refine AWo.pure (PureOp.assign rfl) rfl rfl ?_
  refine AWo.nil trivial ?_
  refine AW.seqD mixed ?_
  refine AWo.pure (PureOp.move rfl) rfl rfl ?_
  first | refine AWo.pure ((PureOp.eqN (b := 0) rfl rfl).mono (v' := .bool true) (congrArg Value.bool (by rw [sp_code]; rfl))) rfl rfl ?_ | refine AWo.pure ((PureOp.bin rfl rfl rfl).mono (v' := .bool true) (congrArg Value.bool (by rw [sp_code]; rfl))) rfl rfl ?_
  refine AWo.pure (PureOp.move rfl) rfl rfl ?_
  first | refine yLE ?_ | refine yLEi ?_
  refine AWo.pure (PureOp.move rfl) rfl rfl ?_
  refine AWo.callX (fromuF_ctr (v := 3) (by decide)) bd22 [] [] rfl (.cons rfl .nil) rfl (.cons rfl rfl .nil) .nil rfl .nil frN (by decide) (.pure (by first | rfl | exact pure_aggM flat_vi | exact pure_aggM flat_bool) .nil) rfl rfl rfl rfl ?_
  refine AWo.callX (v := .bool true) (equalF_ctr (x := eT [fp 1, fp 2, fp 3, fp 4] [fp 1, fp 0]) (y := fp 3)) bd24 [] [] rfl (.cons rfl (.cons rfl .nil)) rfl (.pure (by first | rfl | exact pure_aggM flat_vi | exact pure_aggM flat_bool) (.pure (by first | rfl | exact pure_aggM flat_vi | exact pure_aggM flat_bool) .nil)) .nil rfl .nil frN (by decide) (.cons rfl rfl .nil) (congrArg Value.bool (decide_eq_true (sp_val))) rfl rfl rfl ?_
  refine AWo.pure (PureOp.pickT rfl rfl) rfl rfl ?_
  refine AWo.pure (PureOp.move rfl) rfl rfl ?_
  first | refine yLE ?_ | refine yLEi ?_
  refine AWo.callX (v := .bool false) (iszeroF_ctr (x := eT [fp 1, fp 2, fp 3, fp 4] [fp 1, fp 0])) bd35 [] [] rfl (.cons rfl .nil) rfl (.pure (by first | rfl | exact pure_aggM flat_vi | exact pure_aggM flat_bool) .nil) .nil rfl .nil frN (by decide) (.cons rfl rfl .nil) (congrArg Value.bool (decide_eq_false sp_ne)) rfl rfl rfl ?_
  refine AWo.pure (PureOp.not rfl) rfl rfl ?_
  refine AWo.pure (PureOp.pickT rfl rfl) rfl rfl ?_
  refine AWo.pure (PureOp.assign rfl) rfl rfl ?_
  refine AWo.nil (by kernel_rfl) ?_
  refine AW.ret ?_
  refine RetQ.gc [_] [] [.tmp 0] (.inl rfl) rfl (.tmp rfl .nil) rfl (.cons rfl rfl .nil) trivial (by decide) rfl
end Go.Proofs.YteeifahhejangaaDoor
namespace Go.Proofs.YteeifahhejangaaDoor
open Go Sim
def bN (bs : List Bool) : Nat := bs.foldl (fun a b => 2 * a + b.toNat) 0
def unitV (n j : Nat) : List Fp := (List.replicate n 0).set j 1
def sameT (bs : List Bool) : List Fp := if bs.length ≤ 12 then unitV (2 ^ bs.length) (bN bs) else []
def sameC (bs : List Bool) : Int := if bs.length ≤ 12 then 0 else 7
theorem unitV_len (n j : Nat) : (unitV n j).length = n := by simp [unitV]
theorem fp_one : fp 1 = (1 : Fp) := by decide +kernel
theorem bN_snoc (bs : List Bool) (b : Bool) : bN (bs ++ [b]) = 2 * bN bs + b.toNat := by rw [bN, List.foldl_append]; rfl
theorem bN_step {bs : List Bool} {i : Nat} (hi : i < bs.length) : bN (bs.take (i + 1)) = 2 * bN (bs.take i) + (bs.getD i false).toNat := by
  rw [List.take_succ_eq_append_getElem hi, bN_snoc, List.getD_eq_getElem?_getD, List.getElem?_eq_getElem hi]; rfl
theorem bN_lt' : ∀ (i : Nat) (bs : List Bool), i ≤ bs.length → bN (bs.take i) < 2 ^ i
  | 0, bs, _ => by rw [List.take_zero]; exact Nat.one_pos
  | i + 1, bs, h => by
    have ih := bN_lt' i bs (by omega)
    rw [bN_step (by omega), Nat.pow_succ]
    have : (bs.getD i false).toNat ≤ 1 := Bool.toNat_le _
    omega
theorem bN_lt (bs : List Bool) : bN bs < 2 ^ bs.length := by
  have := bN_lt' bs.length bs (Nat.le_refl _)
  rwa [List.take_length] at this
theorem bN_le {bs : List Bool} {i : Nat} (hl : bs.length ≤ 12) : bN (bs.take i) < 4096 := by
  have h := bN_lt (bs.take i)
  have h2 : 2 ^ (bs.take i).length ≤ 2 ^ 12 := Nat.pow_le_pow_right (by decide) (by rw [List.length_take]; omega)
  omega
theorem shl1 {a : Nat} (h : a < 4096) : Value.int .i64 (IntKind.i64.wrap ((a : Int) * 2 ^ (min (1 : Int).toNat IntKind.i64.bits))) = vi .i64 (2 * a) := by
  show _ = Value.int .i64 _
  rw [show (a : Int) * 2 ^ (min (1 : Int).toNat IntKind.i64.bits) = ((2 * a : Nat) : Int) by
    rw [show min (1 : Int).toNat IntKind.i64.bits = 1 by decide]; omega]
  rw [wrap_in (k := .i64) (Nat.lt_of_lt_of_le (show 2 * a < 8192 by omega) (by decide)) (by decide)]
theorem shlL {k : Nat} (h : k ≤ 12) : Value.int .i64 (IntKind.i64.wrap ((1 : Int) * 2 ^ (min (k : Int).toNat IntKind.i64.bits))) = vi .i64 (2 ^ k) := by
  have h2 : 2 ^ k ≤ 2 ^ 12 := Nat.pow_le_pow_right (by decide) h
  show _ = Value.int .i64 _
  rw [Int.toNat_natCast, Nat.min_eq_left (show k ≤ IntKind.i64.bits from Nat.le_trans h (by decide)), Int.one_mul, show ((2 : Int) ^ k) = ((2 ^ k : Nat) : Int) by simp]
  rw [wrap_in (k := .i64) (Nat.lt_of_le_of_lt h2 (by decide)) (by decide)]
theorem or_one (a : Nat) : 2 * a ||| 1 = 2 * a + 1 := (Nat.two_pow_add_eq_or_of_lt (i := 1) (b := 1) (by decide) a).symm
theorem same_ctr {bs : List Bool} {n : Nat} (hn : bs.length = n) (hx : n < 1000000) : GC Tryd.prog 28 [.slice (some ⟨0, 0, none⟩) n 0] [⟨bs.map (Value.bool), false, 1⟩] [.slice (some ⟨1, 0, none⟩) (sameT bs).length 0, .int .i64 (sameC bs)] [⟨bs.map (Value.bool), false, 1⟩, ⟨(((sameT bs).map fe).flatten).map (vi .u64), true, 4⟩] := by
  refine GC.intro Tryd.func28 rfl (by show 1 ≤ 32; decide) (by first | exact Nat.le_refl _ | decide | simp) ?_
  subst hn
  refine AW.ghost 77000 4 rfl ?_
  refine AW.seqR ?_
  refine AWo.pure (PureOp.assign rfl) rfl rfl ?_
  refine AWo.pure (PureOp.assign rfl) rfl rfl ?_
  refine AWo.nil trivial ?_
  refine AW.seq ?_
  refine AW.seqR ?_
  refine AWo.pure (PureOp.move rfl) rfl rfl ?_
  first | refine AWo.pure (PureOp.lenS tbok rfl rfl) rfl rfl ?_ | refine AWo.pure (PureOp.lenD tbok rfl rfl) rfl rfl ?_
  first | refine AWo.pure (PureOp.gtN (b := 12) rfl rfl) rfl rfl ?_ | refine AWo.pure (PureOp.bin rfl rfl rfl) rfl rfl ?_
  refine AWo.nil trivial ?_
  refine AW.cond rfl (fun hb0 => ?_) (fun hb0 => ?_)
  ·
    have hl : ¬ bs.length ≤ 12 := by have := of_decide_eq_true hb0; omega
    refine AW.seqR ?_
    refine AWo.pure (PureOp.assign rfl) rfl rfl ?_
    refine AWo.pure (PureOp.assign rfl) rfl rfl ?_
    refine AWo.nil trivial ?_
    refine AW.ret ?_
    refine thenA_ret ?_
    rw [show sameT bs = [] from if_neg hl, show sameC bs = 7 from if_neg hl]
    refine RetQ.gc [_, _] [77000] [.tmp 2, .tmp 3] (.inl rfl) rfl (.tmp rfl (.tmp rfl .nil)) rfl (.nilS (.pure rfl .nil)) (OutL.flat rfl (flatM flat_bool) (by intro h; exact h.elim id fun h => absurd h.1 (by simp)) (OutL.flat rfl (flatM flat_vi) (fun _ => rfl) trivial)) (by decide) rfl
  ·
    have hl : bs.length ≤ 12 := by have := of_decide_eq_false hb0; omega
    have h2l : 2 ^ bs.length ≤ 4096 := Nat.pow_le_pow_right (n := 2) (by decide) hl
    refine AW.skip ?_
    refine thenA_normal ?_
    refine AW.seqR ?_
    refine AWo.pure (PureOp.assign rfl) rfl rfl ?_
    refine AWo.nil trivial ?_
    refine AW.seq ?_
    refine AW.seqR ?_
    refine AWo.pure (PureOp.move rfl) rfl rfl ?_
    first | refine AWo.pure (PureOp.lenS tbok rfl rfl) rfl rfl ?_ | refine AWo.pure (PureOp.lenD tbok rfl rfl) rfl rfl ?_
    refine AWo.pure (PureOp.move rfl) rfl rfl ?_
    refine AWo.nil trivial ?_
    refine AW.block ?_
    refine AW.loopw (fun mm σ => ∃ i, (i ≤ bs.length) ∧ mm = bs.length - i ∧ σ = ⟨(upd (upd (upd (upd (upd emp 0 (.slice (some ⟨0, 0, none⟩) bs.length 0)) 4 (vi .i64 (bN (bs.take i)))) 11 (.slice (some ⟨0, 0, none⟩) bs.length 0)) 12 (vi .i64 bs.length)) 13 (vi .i64 i)), (upd emp 0 ⟨bs.map Value.bool, false, 1⟩)⟩) (fm := []) ?_ ⟨0, Nat.zero_le _, rfl, rfl⟩ ?_
    ·
      refine Wk.of [0] ?_ ?_ ?_ (by decide) rfl
      ·
        refine WkE.upd rfl (by first | exact VR.flat _ rfl | exact VR.eqv (vp_succ _) rfl | exact VR.eqv (vp_succ _).symm rfl | exact VR.eqv (by first | rfl | (congr 1; omega) | (simp; done) | (simp; omega)) rfl) ?_
        refine WkE.upd rfl (by first | exact VR.flat _ rfl | exact VR.eqv (vp_succ _) rfl | exact VR.eqv (vp_succ _).symm rfl | exact VR.eqv (by first | rfl | (congr 1; omega) | (simp; done) | (simp; omega)) rfl) ?_
        refine WkE.upd rfl (.slice (0) 0 _ 0 ⟨_, rfl⟩ (by simp) (by simp)) ?_
        refine WkE.upd rfl (by first | exact VR.flat _ rfl | exact VR.eqv (vp_succ _) rfl | exact VR.eqv (vp_succ _).symm rfl | exact VR.eqv (by first | rfl | (congr 1; omega) | (simp; done) | (simp; omega)) rfl) ?_
        refine WkE.upd rfl (.slice (0) 0 _ 0 ⟨_, rfl⟩ (by simp) (by simp)) ?_
        exact WkE.emp
      ·
        refine WkM.flatM rfl (by first | rfl | assumption | simp) (fun _ => rfl) (fun h => h) ?_
        exact WkM.emp
      ·
        repeat (refine dom_upd_mem (by decide) ?_)
        exact dom_emp
    ·
      rintro mm σ ⟨i, hinv, rfl, rfl⟩
      have hlt : bN (bs.take i) < 4096 := bN_le hl
      refine AW.seqR ?_
      first | refine AWo.pure (PureOp.ltN rfl rfl) rfl rfl ?_ | refine AWo.pure (PureOp.bin rfl rfl rfl) rfl rfl ?_
      refine AWo.nil trivial ?_
      refine AW.seq ?_
      refine AW.cond rfl (fun hb1 => ?_) (fun hb1 => ?_)
      ·
        have hi : i < bs.length := by simpa using hb1
        refine AW.skip ?_
        refine thenA_normal ?_
        refine AW.seq ?_
        refine AW.block ?_
        refine AW.seqR ?_
        first | refine AWo.pure (PureOp.idx1 tbok rfl rfl rfl rfl (by first | decide | omega)) rfl rfl ?_ | refine AWo.pure (PureOp.idx tbok rfl rfl rfl rfl (by first | decide | omega)) rfl rfl ?_
        refine AWo.loadM tbok (f := Value.bool) false rfl rfl rfl hi rfl rfl ?_
        refine AWo.pure (PureOp.assign rfl) rfl rfl ?_
        refine AWo.nil trivial ?_
        refine AW.seqR ?_
        refine AWo.pure (PureOp.move rfl) rfl rfl ?_
        refine AWo.pure ((PureOp.shl rfl rfl (by decide)).mono (v' := vi .i64 (2 * bN (bs.take i))) (shl1 hlt)) rfl rfl ?_
        refine AWo.pure (PureOp.assign rfl) rfl rfl ?_
        refine AWo.nil trivial ?_
        refine AW.seqR ?_
        refine AWo.pure (PureOp.move rfl) rfl rfl ?_
        refine AWo.nil trivial ?_
        refine AW.cond rfl (fun hb2 => ?_) (fun hb2 => ?_)
        ·
          have hst : bN (bs.take (i + 1)) = 2 * bN (bs.take i) + 1 := by rw [bN_step hi, hb2]; rfl
          refine AW.region ?_
          refine AWo.pure (PureOp.move rfl) rfl rfl ?_
          refine AWo.pure ((PureOp.orN 9223372036854775808 rfl rfl (by decide) (by decide) (by omega) (by decide)).mono (v' := vi .i64 (2 * bN (bs.take i) + 1)) (congrArg (vi .i64) (or_one _))) rfl rfl ?_
          refine AWo.pure (PureOp.assign rfl) rfl rfl ?_
          refine AWo.nil trivial ?_
          refine inBlockA_normal ?_
          refine thenA_normal ?_
          refine AW.region ?_
          first | refine AWo.pure (PureOp.addI (b := 1) rfl rfl (by first | decide | omega)) rfl rfl ?_ | refine AWo.pure (PureOp.bin rfl rfl rfl) rfl rfl ?_
          refine AWo.pure (PureOp.move rfl) rfl rfl ?_
          refine AWo.nil trivial ?_
          refine thenA_normal ?_
          rw [← hst]
          refine ⟨bs.length - (i + 1), [], _, by omega, ?_, i + 1, by omega, rfl, rfl⟩
          refine Wk.of [0] ?_ ?_ ?_ (by decide) rfl
          ·
            refine WkE.upd rfl (by first | exact VR.flat _ rfl | exact VR.eqv (vp_succ _) rfl | exact VR.eqv (vp_succ _).symm rfl | exact VR.eqv (by first | rfl | (congr 1; omega) | (simp; done) | (simp; omega)) rfl) ?_
            refine WkE.upd rfl (by first | exact VR.flat _ rfl | exact VR.eqv (vp_succ _) rfl | exact VR.eqv (vp_succ _).symm rfl | exact VR.eqv (by first | rfl | (congr 1; omega) | (simp; done) | (simp; omega)) rfl) ?_
            refine WkE.upd rfl (.slice (0) 0 _ 0 ⟨_, rfl⟩ (by simp) (by simp)) ?_
            refine WkE.upd rfl (by first | exact VR.flat _ rfl | exact VR.eqv (vp_succ _) rfl | exact VR.eqv (vp_succ _).symm rfl | exact VR.eqv (by first | rfl | (congr 1; omega) | (simp; done) | (simp; omega)) rfl) ?_
            refine WkE.upd rfl (.slice (0) 0 _ 0 ⟨_, rfl⟩ (by simp) (by simp)) ?_
            exact WkE.emp
          ·
            refine WkM.flatM rfl (by first | rfl | assumption | simp) (fun _ => rfl) (fun h => h) ?_
            exact WkM.emp
          ·
            repeat (refine dom_upd_mem (by decide) ?_)
            exact dom_emp
        ·
          have hst : bN (bs.take (i + 1)) = 2 * bN (bs.take i) := by rw [bN_step hi, hb2]; rfl
          refine AW.skip ?_
          refine inBlockA_normal ?_
          refine thenA_normal ?_
          refine AW.region ?_
          first | refine AWo.pure (PureOp.addI (b := 1) rfl rfl (by first | decide | omega)) rfl rfl ?_ | refine AWo.pure (PureOp.bin rfl rfl rfl) rfl rfl ?_
          refine AWo.pure (PureOp.move rfl) rfl rfl ?_
          refine AWo.nil trivial ?_
          refine thenA_normal ?_
          rw [← hst]
          refine ⟨bs.length - (i + 1), [], _, by omega, ?_, i + 1, by omega, rfl, rfl⟩
          refine Wk.of [0] ?_ ?_ ?_ (by decide) rfl
          ·
            refine WkE.upd rfl (by first | exact VR.flat _ rfl | exact VR.eqv (vp_succ _) rfl | exact VR.eqv (vp_succ _).symm rfl | exact VR.eqv (by first | rfl | (congr 1; omega) | (simp; done) | (simp; omega)) rfl) ?_
            refine WkE.upd rfl (by first | exact VR.flat _ rfl | exact VR.eqv (vp_succ _) rfl | exact VR.eqv (vp_succ _).symm rfl | exact VR.eqv (by first | rfl | (congr 1; omega) | (simp; done) | (simp; omega)) rfl) ?_
            refine WkE.upd rfl (.slice (0) 0 _ 0 ⟨_, rfl⟩ (by simp) (by simp)) ?_
            refine WkE.upd rfl (by first | exact VR.flat _ rfl | exact VR.eqv (vp_succ _) rfl | exact VR.eqv (vp_succ _).symm rfl | exact VR.eqv (by first | rfl | (congr 1; omega) | (simp; done) | (simp; omega)) rfl) ?_
            refine WkE.upd rfl (.slice (0) 0 _ 0 ⟨_, rfl⟩ (by simp) (by simp)) ?_
            exact WkE.emp
          ·
            refine WkM.flatM rfl (by first | rfl | assumption | simp) (fun _ => rfl) (fun h => h) ?_
            exact WkM.emp
          ·
            repeat (refine dom_upd_mem (by decide) ?_)
            exact dom_emp
      ·
        obtain rfl : i = bs.length := by simp at hb1; omega
        rw [List.take_length]
        have hbn := bN_lt bs
        refine AW.exit ?_
        refine thenA_exit ?_
        refine thenA_exit ?_
        refine inBlockA_hit ?_
        refine thenA_normal ?_
        refine AW.seqR ?_
        refine AWo.pure (PureOp.move rfl) rfl rfl ?_
        first | refine AWo.pure (PureOp.lenS tbok rfl rfl) rfl rfl ?_ | refine AWo.pure (PureOp.lenD tbok rfl rfl) rfl rfl ?_
        refine AWo.pure ((PureOp.shl rfl rfl (by omega)).mono (v' := vi .i64 (2 ^ bs.length)) (shlL hl)) rfl rfl ?_
        refine AWo.makeSliceC tbok 27000 ((((List.replicate (2 ^ bs.length) (0 : Fp)).map fe).flatten).map (vi .u64)) rfl rfl (Nat.le_refl _) rfl rfl (by decide) rfl rfl rfl rfl (by omega) (by omega) (zeroFF _).symm rfl rfl rfl ?_
        refine AWo.pure (PureOp.assign rfl) rfl rfl ?_
        refine AWo.nil trivial ?_
        refine AW.seqR ?_
        refine AWo.pure (PureOp.move rfl) rfl rfl ?_
        refine AWo.pure (PureOp.move rfl) rfl rfl ?_
        refine AWo.callX (fromuF_ctr (v := 1) (by decide)) bd22 [] [] rfl (.cons rfl .nil) rfl (.cons rfl rfl .nil) .nil rfl .nil frN (by decide) (.pure (by first | rfl | exact pure_aggM flat_vi | exact pure_aggM flat_bool) .nil) rfl rfl rfl rfl ?_
        first | refine AWo.pure (PureOp.idx1 tbok rfl rfl rfl rfl (by first | decide | omega)) rfl rfl ?_ | refine AWo.pure (PureOp.idx tbok rfl rfl rfl rfl (by first | decide | omega)) rfl rfl ?_
        refine ySJ (xs := List.replicate (2 ^ bs.length) 0) (y := fp 1) (bN bs) ?_
        refine AWo.nil trivial ?_
        refine AW.seqR ?_
        refine AWo.pure (PureOp.move rfl) rfl rfl ?_
        refine AWo.pure (PureOp.assign rfl) rfl rfl ?_
        refine AWo.pure (PureOp.assign rfl) rfl rfl ?_
        refine AWo.nil trivial ?_
        refine AW.ret ?_
        rw [show sameT bs = unitV (2 ^ bs.length) (bN bs) from if_pos hl, show sameC bs = 0 from if_pos hl, unitV_len]
        rw [show (List.replicate (2 ^ bs.length) (0 : Fp)).set (bN bs) (fp 1) = unitV (2 ^ bs.length) (bN bs) by rw [unitV, fp_one]]
        refine RetQ.gc [_, _] [27000] [.tmp 2, .tmp 3] (.inl rfl) rfl (.tmp rfl (.tmp rfl .nil)) rfl (.cons rfl rfl (.pure rfl .nil)) (OutL.flat rfl (flatM flat_bool) (by intro h; exact h.elim id fun h => absurd h.1 (by simp)) (OutL.flat rfl (flatM flat_vi) (fun _ => rfl) trivial)) (by decide) rfl
end Go.Proofs.YteeifahhejangaaDoor
namespace Go.Proofs.YteeifahhejangaaDoor
open Go Sim
theorem isV_half {n : Nat} (hv : isV n = true) (h : ¬ vN n = 0) : ∃ k, n = 2 ^ (k + 1) ∧ k + 1 ≤ 12 ∧ vN n = k + 1 := by
  obtain ⟨h1, h2⟩ := isV_pow hv
  refine ⟨vN n - 1, ?_, by omega, by omega⟩
  rw [show vN n - 1 + 1 = vN n by omega]; exact h1
theorem fix_L {xs : List Fp} {x : Fp} (hv : isV xs.length = true) (h : ¬ vN xs.length = 0) : fixT xs x = fixL xs x := by
  obtain ⟨k, h1, h2, _⟩ := isV_half hv h
  exact (fix_eq h1 h2).1
theorem half_ring0 (a b : Fp) : a + 0 * (b - a) = a := by grind
theorem half_ring1 (a b : Fp) : a + 1 * (b - a) = b := by grind
theorem fix_at0 {xs : List Fp} {i : Nat} (hv : isV xs.length = true) (h : ¬ vN xs.length = 0) (hi : i < xs.length / 2) : (fixT xs 0).getD i 0 = xs.getD i 0 := by
  rw [fix_L hv h, fixL_at hi, half_ring0]
theorem fix_at1 {xs : List Fp} {i : Nat} (hv : isV xs.length = true) (h : ¬ vN xs.length = 0) (hi : i < xs.length / 2) : (fixT xs (fp 1)).getD i 0 = xs.getD (xs.length / 2 + i) 0 := by
  rw [fix_L hv h, fixL_at hi, fp_one, half_ring1]
theorem fsumL_take (xs : List Fp) : ∀ k, k ≤ xs.length → fsumL (xs.take k) = smN (fun i => xs.getD i 0) k
  | 0, _ => rfl
  | k + 1, h => by
    rw [List.take_succ_eq_append_getElem (by omega), fsumL_app, fsumL_take xs k (by omega), smN]
    congr 1
    rw [List.getD_eq_getElem?_getD, List.getElem?_eq_getElem (by omega)]
    exact Rg.zero_add _
theorem fsumL_smN (xs : List Fp) : fsumL xs = smN (fun i => xs.getD i 0) xs.length := by
  have := fsumL_take xs xs.length (Nat.le_refl _)
  rwa [List.take_length] at this
theorem FF_len4 : ∀ xs : List Fp, (((xs.map fe).flatten).map (vi .u64)).length = xs.length * 4
  | [] => rfl
  | x :: xs => by
    have h := FF_len4 xs
    simp only [List.length_map, List.map_cons, List.flatten_cons, List.length_append, List.length_cons, fe_len] at h ⊢
    omega
theorem evB_ok {n k : Nat} (hv : isV n = true) (h : vN n = k) : evB n k = true := by rw [evB, hv, decide_eq_true h]; rfl
theorem same_T {n : Nat} {bs : List Bool} (hl : bs.length = n) (h : n ≤ 12) : sameT bs = unitV (2 ^ n) (bN bs) := by rw [sameT, if_pos (by omega), hl]
theorem smN_unit (f : Nat → Fp) (j : Nat) : ∀ n m, n ≤ m → smN (fun i => (unitV m j).getD i 0 * f i) n = if j < n then f j else 0
  | 0, _, _ => rfl
  | n + 1, m, h => by
    rw [smN, smN_unit f j n m (by omega)]
    have e : (unitV m j).getD n 0 = if j = n then 1 else 0 := by
      rw [unitV, List.getD_eq_getElem?_getD, List.getElem?_set]
      by_cases hj : j = n
      · subst hj; rw [if_pos rfl, if_pos rfl, if_pos (by simp; omega)]; rfl
      · rw [if_neg hj, if_neg hj, List.getElem?_replicate, if_pos (by omega)]; rfl
    rw [e]
    by_cases hj : j = n
    · subst hj; rw [if_neg (Nat.lt_irrefl _), if_pos rfl, if_pos (Nat.lt_succ_self _)]; exact un1 _
    · rw [if_neg hj]
      by_cases h2 : j < n
      · rw [if_pos h2, if_pos (by omega)]; exact un2 _ _
      · rw [if_neg h2, if_neg (by omega)]; exact un3 _
where
  un1 (a : Fp) : 0 + 1 * a = a := by grind
  un2 (a b : Fp) : a + 0 * b = a := by grind
  un3 (b : Fp) : (0 : Fp) + 0 * b = 0 := by grind
end Go.Proofs.YteeifahhejangaaDoor
namespace Go.Proofs.YteeifahhejangaaDoor
open Go Sim
def dt (xs : List Fp) : Value := deep xs.length 4 (((xs.map fe).flatten).map (vi .u64))
theorem getT_mem {Ts : List (List Fp)} {j : Nat} (h : j < Ts.length) : Ts.getD j [] ∈ Ts := by
  rw [List.getD_eq_getElem?_getD, List.getElem?_eq_getElem h]; exact List.getElem_mem h
theorem of_getD {Ts : List (List Fp)} {Q : List Fp → Prop} (h : ∀ j, j < Ts.length → Q (Ts.getD j [])) : ∀ t ∈ Ts, Q t := by
  intro t ht
  obtain ⟨j, hj⟩ := List.mem_iff_getElem?.1 ht
  have hl := (List.getElem?_eq_some_iff.1 hj).1
  have := h j hl
  rwa [List.getD_eq_getElem?_getD, hj] at this
def chC (Ts : List (List Fp)) : Int := if Ts.length = 0 then 1 else if ∀ t ∈ Ts, isV t.length = true then (if ∀ t ∈ Ts, vN t.length = vN (Ts.getD 0 []).length then 0 else 1) else 7
def chV (Ts : List (List Fp)) : Nat := if chC Ts = 0 then vN (Ts.getD 0 []).length else 0
theorem ch_0 {Ts : List (List Fp)} (h : Ts.length = 0) : chC Ts = 1 ∧ chV Ts = 0 := by
  have e : chC Ts = 1 := if_pos h
  exact ⟨e, if_neg (by rw [e]; decide)⟩
theorem ch_bad {Ts : List (List Fp)} {i : Nat} (hi : i < Ts.length) (hb : isV (Ts.getD i []).length = false) : chC Ts = 7 ∧ chV Ts = 0 := by
  have e : chC Ts = 7 := by
    rw [chC, if_neg (by omega), if_neg (fun h => ?_)]
    have := h _ (getT_mem hi)
    rw [hb] at this; cases this
  exact ⟨e, if_neg (by rw [e]; decide)⟩
theorem ch_mis {Ts : List (List Fp)} {i : Nat} (hi : i < Ts.length) (ha : ∀ j, j < Ts.length → isV (Ts.getD j []).length = true) (hm : ¬ vN (Ts.getD i []).length = vN (Ts.getD 0 []).length) : chC Ts = 1 ∧ chV Ts = 0 := by
  have e : chC Ts = 1 := by
    rw [chC, if_neg (by omega), if_pos (of_getD (Q := fun t => isV t.length = true) ha), if_neg (fun h => hm (h _ (getT_mem hi)))]
  exact ⟨e, if_neg (by rw [e]; decide)⟩
theorem ch_ok {Ts : List (List Fp)} (h0 : ¬ Ts.length = 0) (ha : ∀ j, j < Ts.length → isV (Ts.getD j []).length = true) (hm : ∀ j, j < Ts.length → vN (Ts.getD j []).length = vN (Ts.getD 0 []).length) : chC Ts = 0 ∧ chV Ts = vN (Ts.getD 0 []).length := by
  have e : chC Ts = 0 := by
    rw [chC, if_neg h0, if_pos (of_getD (Q := fun t => isV t.length = true) ha), if_pos (of_getD (Q := fun t => vN t.length = vN (Ts.getD 0 []).length) hm)]
  exact ⟨e, if_pos e⟩
theorem ch_zero {Ts : List (List Fp)} (h : chC Ts = 0) : 0 < Ts.length ∧ ∀ t ∈ Ts, t.length = (Ts.getD 0 []).length := by
  unfold chC at h
  split at h
  · cases h
  · split at h
    · split at h
      · rename_i h0 h1 h2
        have hp : 0 < Ts.length := by omega
        refine ⟨hp, fun t ht => ?_⟩
        rw [(isV_pow (h1 t ht)).1, (isV_pow (h1 _ (getT_mem hp))).1, h2 t ht]
      · cases h
    · cases h
def cv (Ts : List (List Fp)) (i : Nat) : List Nat := (List.range Ts.length).map fun j => if j < i then vN (Ts.getD j []).length else 0
theorem cv_len (Ts : List (List Fp)) (i : Nat) : (cv Ts i).length = Ts.length := by simp [cv]
theorem cv_zero (Ts : List (List Fp)) : List.replicate Ts.length (0 : Nat) = cv Ts 0 := by
  refine List.ext_getElem (by simp [cv]) fun i h1 h2 => ?_
  simp [cv]
theorem cv_set {Ts : List (List Fp)} {i : Nat} (_hi : i < Ts.length) : (cv Ts i).set i (vN (Ts.getD i []).length) = cv Ts (i + 1) := by
  refine List.ext_getElem (by simp [cv]) fun j h1 h2 => ?_
  simp only [cv, List.getElem_set, List.getElem_map, List.getElem_range]
  by_cases h : i = j
  · subst h; rw [if_pos rfl, if_pos (Nat.lt_succ_self i)]
  · rw [if_neg h]
    by_cases hj : j < i
    · rw [if_pos hj, if_pos (by omega)]
    · rw [if_neg hj, if_neg (by omega)]
theorem cv_at {Ts : List (List Fp)} {i j : Nat} (hj : j < Ts.length) (h : j < i) : (cv Ts i).getD j 0 = vN (Ts.getD j []).length := by
  rw [cv, List.getD_eq_getElem?_getD, List.getElem?_map, List.getElem?_range hj, Option.map_some, if_pos h]; rfl
def prN (Ts : List (List Fp)) (i : Nat) : Nat → Fp
  | 0 => fp 1
  | j + 1 => prN Ts i j * (Ts.getD j []).getD i 0
def prT (Ts : List (List Fp)) (i : Nat) : Fp := prN Ts i Ts.length
def toT (Ts : List (List Fp)) : Fp := if chC Ts = 0 then smN (prT Ts) (Ts.getD 0 []).length else 0
theorem check_ctr {Ts : List (List Fp)} {k : Nat} (hk : Ts.length = k) (hk6 : k < 1000000) (hs : ∀ t ∈ Ts, t.length < 1000000) : GC Tryd.prog 55 [.slice (some ⟨0, 0, none⟩) k 0] [⟨Ts.map (dt), false, 1⟩] [vi .i64 (chV Ts), .int .i64 (chC Ts)] [⟨Ts.map (dt), false, 1⟩] := by
  refine GC.intro Tryd.func55 rfl (by show 1 ≤ 52; decide) (by first | exact Nat.le_refl _ | decide | simp) ?_
  subst hk
  refine AW.seqR ?_
  refine AWo.pure (PureOp.assign rfl) rfl rfl ?_
  refine AWo.pure (PureOp.assign rfl) rfl rfl ?_
  refine AWo.nil trivial ?_
  refine AW.seq ?_
  refine AW.seqR ?_
  refine AWo.pure (PureOp.move rfl) rfl rfl ?_
  first | refine AWo.pure (PureOp.lenS tbok rfl rfl) rfl rfl ?_ | refine AWo.pure (PureOp.lenD tbok rfl rfl) rfl rfl ?_
  first | refine AWo.pure (PureOp.eqN (b := 0) rfl rfl) rfl rfl ?_ | refine AWo.pure (PureOp.bin rfl rfl rfl) rfl rfl ?_
  refine AWo.nil trivial ?_
  refine AW.cond rfl (fun hb0 => ?_) (fun hb0 => ?_)
  ·
    have h0 : Ts.length = 0 := by simpa using hb0
    refine AW.seqR ?_
    refine AWo.pure (PureOp.assign rfl) rfl rfl ?_
    refine AWo.pure (PureOp.assign rfl) rfl rfl ?_
    refine AWo.nil trivial ?_
    refine AW.ret ?_
    refine thenA_ret ?_
    rw [(ch_0 h0).1, (ch_0 h0).2]
    refine RetQ.gc [_, _] [] [.tmp 2, .tmp 3] (.inl rfl) rfl (.tmp rfl (.tmp rfl .nil)) rfl (.pure rfl (.pure rfl .nil)) (OutL.clo rfl (cloM fun _ => rfl) (by intro h; exact h.elim id fun h => absurd h.1 (by simp)) trivial) (by decide) rfl
  ·
    have h0 : ¬ Ts.length = 0 := by simpa using hb0
    refine AW.skip ?_
    refine thenA_normal ?_
    refine AW.seqR ?_
    refine AWo.pure (PureOp.move rfl) rfl rfl ?_
    first | refine AWo.pure (PureOp.lenS tbok rfl rfl) rfl rfl ?_ | refine AWo.pure (PureOp.lenD tbok rfl rfl) rfl rfl ?_
    refine AWo.makeI tbok 17000 rfl rfl rfl rfl rfl rfl (by omega) (by omega) rfl rfl rfl ?_
    rw [show List.replicate Ts.length (0 : Nat) = cv Ts 0 from cv_zero Ts]
    refine AWo.pure (PureOp.assign rfl) rfl rfl ?_
    refine AWo.nil trivial ?_
    refine AW.seq ?_
    refine AW.seqR ?_
    refine AWo.pure (PureOp.move rfl) rfl rfl ?_
    first | refine AWo.pure (PureOp.lenS tbok rfl rfl) rfl rfl ?_ | refine AWo.pure (PureOp.lenD tbok rfl rfl) rfl rfl ?_
    refine AWo.pure (PureOp.move rfl) rfl rfl ?_
    refine AWo.nil trivial ?_
    refine AW.block ?_
    refine AW.loopw (fun mm σ => ∃ i, (i ≤ Ts.length ∧ ∀ j, j < i → isV (Ts.getD j []).length = true) ∧ mm = Ts.length - i ∧ σ = ⟨(upd (upd (upd (upd (upd emp 0 (.slice (some ⟨0, 0, none⟩) Ts.length 0)) 4 (.slice (some ⟨17000, 0, none⟩) Ts.length 0)) 17 (.slice (some ⟨0, 0, none⟩) Ts.length 0)) 18 (vi .i64 Ts.length)) 19 (vi .i64 i)), (upd (upd emp 0 ⟨Ts.map (dt), false, 1⟩) 17000 ⟨(cv Ts i).map (vi .i64), true, 1⟩)⟩) (fm := []) ?_ ⟨0, ⟨Nat.zero_le _, fun j hj => absurd hj (Nat.not_lt_zero j)⟩, rfl, rfl⟩ ?_
    ·
      refine Wk.of [0, 17000] ?_ ?_ ?_ (by decide) rfl
      ·
        refine WkE.upd rfl (by first | exact VR.flat _ rfl | exact VR.eqv (vp_succ _) rfl | exact VR.eqv (vp_succ _).symm rfl | exact VR.eqv (by first | rfl | (congr 1; omega) | (simp; done) | (simp; omega)) rfl) ?_
        refine WkE.upd rfl (by first | exact VR.flat _ rfl | exact VR.eqv (vp_succ _) rfl | exact VR.eqv (vp_succ _).symm rfl | exact VR.eqv (by first | rfl | (congr 1; omega) | (simp; done) | (simp; omega)) rfl) ?_
        refine WkE.upd rfl (.slice (0) 0 _ 0 ⟨_, rfl⟩ (by simp) (by simp)) ?_
        refine WkE.upd rfl (.slice (17000) 0 _ 0 ⟨_, rfl⟩ (by simp) (by simp)) ?_
        refine WkE.upd rfl (.slice (0) 0 _ 0 ⟨_, rfl⟩ (by simp) (by simp)) ?_
        exact WkE.emp
      ·
        refine WkM.flat rfl (flatM flat_vi) (fun h => h) ?_
        refine WkM.cloM rfl rfl (fun _ => rfl) (fun h => h) ?_
        exact WkM.emp
      ·
        repeat (refine dom_upd_mem (by decide) ?_)
        exact dom_emp
    ·
      rintro mm σ ⟨i, ⟨hinv, hall⟩, rfl, rfl⟩
      have hcl := cv_len Ts i
      refine AW.seqR ?_
      first | refine AWo.pure (PureOp.ltN rfl rfl) rfl rfl ?_ | refine AWo.pure (PureOp.bin rfl rfl rfl) rfl rfl ?_
      refine AWo.nil trivial ?_
      refine AW.seq ?_
      refine AW.cond rfl (fun hb1 => ?_) (fun hb1 => ?_)
      ·
        have hi : i < Ts.length := of_decide_eq_true hb1
        have hsi : (Ts.getD i []).length < 1000000 := hs _ (getT_mem hi)
        refine AW.skip ?_
        refine thenA_normal ?_
        refine AW.seq ?_
        refine AW.block ?_
        refine AW.seqR ?_
        refine AWo.pure (PureOp.move rfl) rfl rfl ?_
        first | refine AWo.pure (PureOp.idx1 tbok rfl rfl rfl rfl (by first | decide | omega)) rfl rfl ?_ | refine AWo.pure (PureOp.idx tbok rfl rfl rfl rfl (by first | decide | omega)) rfl rfl ?_
        refine AWo.loadM tbok (f := dt) [] rfl rfl rfl (by omega) rfl rfl ?_
        refine AWo.pure (PureOp.assign rfl) rfl rfl ?_
        refine AWo.pure (PureOp.assign rfl) rfl rfl ?_
        refine AWo.nil trivial ?_
        refine AW.seqR ?_
        refine AWo.pureX 26000 (n := (Ts.getD i []).length) (es := 4) (cells := (((Ts.getD i []).map fe).flatten).map (vi .u64)) (PureOp.move rfl) rfl rfl rfl ?_
        refine AWo.callX (vars_ctr (xs := (Ts.getD i [])) (n := (Ts.getD i []).length) rfl hsi) bd11 [(26000, 0)] [] rfl (.cons rfl .nil) rfl (.cons rfl rfl .nil) (.flat rfl (flatM flat_vi) (by intro h; first | exact h | rfl) .nil) rfl (.keep rfl .nil) frN (by decide) (.cons rfl rfl (.cons rfl rfl .nil)) rfl rfl rfl rfl ?_
        refine AWo.pure (PureOp.move rfl) rfl rfl ?_
        refine AWo.pure (PureOp.extract rfl rfl) rfl rfl ?_
        refine AWo.pure (PureOp.extract rfl rfl) rfl rfl ?_
        refine AWo.pure (PureOp.assign rfl) rfl rfl ?_
        refine AWo.pure (PureOp.assign rfl) rfl rfl ?_
        refine AWo.nil trivial ?_
        refine AW.seq ?_
        refine AW.seqR ?_
        refine AWo.pure (PureOp.move rfl) rfl rfl ?_
        first | refine AWo.pure (PureOp.neN (b := 0) rfl rfl) rfl rfl ?_ | refine AWo.pure (PureOp.bin rfl rfl rfl) rfl rfl ?_
        refine AWo.nil trivial ?_
        refine AW.cond rfl (fun hb2 => ?_) (fun hb2 => ?_)
        ·
          have hbad : isV (Ts.getD i []).length = false := Bool.eq_false_iff.2 fun h => (show ¬ vC (Ts.getD i []).length = 0 by simpa using hb2) (vC_iff.2 h)
          refine AW.seqR ?_
          refine AWo.pure (PureOp.move rfl) rfl rfl ?_
          refine AWo.pure (PureOp.assign rfl) rfl rfl ?_
          refine AWo.pure (PureOp.assign rfl) rfl rfl ?_
          refine AWo.nil trivial ?_
          refine AW.ret ?_
          refine thenA_ret ?_
          refine inBlockA_ret ?_
          refine thenA_ret ?_
          refine thenA_ret ?_
          refine inBlockA_ret ?_
          refine thenA_ret ?_
          rw [(ch_bad hi hbad).1, (ch_bad hi hbad).2, vC_no hbad]
          refine RetQ.gc [_, _] [] [.tmp 2, .tmp 3] (.inl rfl) rfl (.tmp rfl (.tmp rfl .nil)) rfl (.pure rfl (.pure rfl .nil)) (OutL.clo rfl (cloM fun _ => rfl) (by intro h; exact h.elim id fun h => absurd h.1 (by simp)) trivial) (by decide) rfl
        ·
          have hgood : isV (Ts.getD i []).length = true := vC_iff.1 (by simpa using hb2)
          refine AW.skip ?_
          refine thenA_normal ?_
          refine AW.region ?_
          refine AWo.pure (PureOp.move rfl) rfl rfl ?_
          refine AWo.pure (PureOp.move rfl) rfl rfl ?_
          refine AWo.pure (PureOp.move rfl) rfl rfl ?_
          first | refine AWo.pure (PureOp.idx1 tbok rfl rfl rfl rfl (by first | decide | omega)) rfl rfl ?_ | refine AWo.pure (PureOp.idx tbok rfl rfl rfl rfl (by first | decide | omega)) rfl rfl ?_
          refine AWo.storeM (f := (vi .i64)) tbok rfl rfl rfl rfl (by rw [cv_len]; omega) rfl rfl ?_
          rw [cv_set hi]
          refine AWo.nil trivial ?_
          refine inBlockA_normal ?_
          refine thenA_normal ?_
          refine AW.region ?_
          first | refine AWo.pure (PureOp.addI (b := 1) rfl rfl (by first | decide | omega)) rfl rfl ?_ | refine AWo.pure (PureOp.bin rfl rfl rfl) rfl rfl ?_
          refine AWo.pure (PureOp.move rfl) rfl rfl ?_
          refine AWo.nil trivial ?_
          refine thenA_normal ?_
          refine ⟨Ts.length - (i + 1), [], _, by omega, ?_, i + 1, ⟨by omega, fun j hj => (Nat.lt_succ_iff_lt_or_eq.1 hj).elim (hall j) (fun e => e ▸ hgood)⟩, rfl, rfl⟩
          refine Wk.of [0, 17000] ?_ ?_ ?_ (by decide) rfl
          ·
            refine WkE.upd rfl (by first | exact VR.flat _ rfl | exact VR.eqv (vp_succ _) rfl | exact VR.eqv (vp_succ _).symm rfl | exact VR.eqv (by first | rfl | (congr 1; omega) | (simp; done) | (simp; omega)) rfl) ?_
            refine WkE.upd rfl (by first | exact VR.flat _ rfl | exact VR.eqv (vp_succ _) rfl | exact VR.eqv (vp_succ _).symm rfl | exact VR.eqv (by first | rfl | (congr 1; omega) | (simp; done) | (simp; omega)) rfl) ?_
            refine WkE.upd rfl (.slice (0) 0 _ 0 ⟨_, rfl⟩ (by simp) (by simp)) ?_
            refine WkE.upd rfl (.slice (17000) 0 _ 0 ⟨_, rfl⟩ (by simp) (by simp)) ?_
            refine WkE.upd rfl (.slice (0) 0 _ 0 ⟨_, rfl⟩ (by simp) (by simp)) ?_
            exact WkE.emp
          ·
            refine WkM.flat rfl (flatM flat_vi) (fun h => h) ?_
            refine WkM.cloM rfl rfl (fun _ => rfl) (fun h => h) ?_
            exact WkM.emp
          ·
            repeat (refine dom_upd_mem (by decide) ?_)
            exact dom_emp
      ·
        obtain rfl : i = Ts.length := by have := of_decide_eq_false hb1; omega
        refine AW.exit ?_
        refine thenA_exit ?_
        refine thenA_exit ?_
        refine inBlockA_hit ?_
        refine thenA_normal ?_
        refine AW.seq ?_
        refine AW.seqR ?_
        refine AWo.pure (PureOp.move rfl) rfl rfl ?_
        first | refine AWo.pure (PureOp.lenS tbok rfl rfl) rfl rfl ?_ | refine AWo.pure (PureOp.lenD tbok rfl rfl) rfl rfl ?_
        refine AWo.pure (PureOp.move rfl) rfl rfl ?_
        refine AWo.nil trivial ?_
        refine AW.block ?_
        refine AW.loopw (fun mm σ => ∃ i, (i ≤ Ts.length ∧ ∀ j, j < i → vN (Ts.getD j []).length = vN (Ts.getD 0 []).length) ∧ mm = Ts.length - i ∧ σ = ⟨(upd (upd (upd (upd (upd emp 0 (.slice (some ⟨0, 0, none⟩) Ts.length 0)) 4 (.slice (some ⟨17000, 0, none⟩) Ts.length 0)) 37 (.slice (some ⟨17000, 0, none⟩) Ts.length 0)) 38 (vi .i64 Ts.length)) 39 (vi .i64 i)), (upd (upd emp 0 ⟨Ts.map (dt), false, 1⟩) 17000 ⟨(cv Ts Ts.length).map (vi .i64), true, 1⟩)⟩) (fm := []) ?_ ⟨0, ⟨Nat.zero_le _, fun j hj => absurd hj (Nat.not_lt_zero j)⟩, rfl, rfl⟩ ?_
        ·
          refine Wk.of [0, 17000] ?_ ?_ ?_ (by decide) rfl
          ·
            refine WkE.upd rfl (by first | exact VR.flat _ rfl | exact VR.eqv (vp_succ _) rfl | exact VR.eqv (vp_succ _).symm rfl | exact VR.eqv (by first | rfl | (congr 1; omega) | (simp; done) | (simp; omega)) rfl) ?_
            refine WkE.upd rfl (by first | exact VR.flat _ rfl | exact VR.eqv (vp_succ _) rfl | exact VR.eqv (vp_succ _).symm rfl | exact VR.eqv (by first | rfl | (congr 1; omega) | (simp; done) | (simp; omega)) rfl) ?_
            refine WkE.upd rfl (.slice (17000) 0 _ 0 ⟨_, rfl⟩ (by simp) (by simp)) ?_
            refine WkE.upd rfl (.slice (17000) 0 _ 0 ⟨_, rfl⟩ (by simp) (by simp)) ?_
            refine WkE.upd rfl (.slice (0) 0 _ 0 ⟨_, rfl⟩ (by simp) (by simp)) ?_
            exact WkE.emp
          ·
            refine WkM.flat rfl (flatM flat_vi) (fun h => h) ?_
            refine WkM.cloM rfl rfl (fun _ => rfl) (fun h => h) ?_
            exact WkM.emp
          ·
            repeat (refine dom_upd_mem (by decide) ?_)
            exact dom_emp
        ·
          rintro mm σ ⟨i, ⟨hinv, hsam⟩, rfl, rfl⟩
          have hcl := cv_len Ts Ts.length
          refine AW.seqR ?_
          first | refine AWo.pure (PureOp.ltN rfl rfl) rfl rfl ?_ | refine AWo.pure (PureOp.bin rfl rfl rfl) rfl rfl ?_
          refine AWo.nil trivial ?_
          refine AW.seq ?_
          refine AW.cond rfl (fun hb3 => ?_) (fun hb3 => ?_)
          ·
            have hi : i < Ts.length := of_decide_eq_true hb3
            refine AW.skip ?_
            refine thenA_normal ?_
            refine AW.seq ?_
            refine AW.block ?_
            refine AW.seqR ?_
            first | refine AWo.pure (PureOp.idx1 tbok rfl rfl rfl rfl (by first | decide | omega)) rfl rfl ?_ | refine AWo.pure (PureOp.idx tbok rfl rfl rfl rfl (by first | decide | omega)) rfl rfl ?_
            refine AWo.loadM tbok (f := vi .i64) 0 rfl rfl rfl (by rw [cv_len]; omega) rfl rfl ?_
            refine AWo.pure (PureOp.assign rfl) rfl rfl ?_
            refine AWo.nil trivial ?_
            refine AW.seqR ?_
            refine AWo.pure (PureOp.move rfl) rfl rfl ?_
            refine AWo.pure (PureOp.move rfl) rfl rfl ?_
            first | refine AWo.pure (PureOp.idx1 (j := 0) tbok rfl rfl rfl rfl (by first | decide | omega)) rfl rfl ?_ | refine AWo.pure (PureOp.idx (j := 0) tbok rfl rfl rfl rfl (by first | decide | omega)) rfl rfl ?_
            refine AWo.loadM tbok (f := vi .i64) 0 rfl rfl rfl (by rw [cv_len]; omega) rfl rfl ?_
            first | refine AWo.pure (PureOp.neN rfl rfl) rfl rfl ?_ | refine AWo.pure (PureOp.bin rfl rfl rfl) rfl rfl ?_
            refine AWo.nil trivial ?_
            refine AW.cond rfl (fun hb4 => ?_) (fun hb4 => ?_)
            ·
              have hmis : ¬ vN (Ts.getD i []).length = vN (Ts.getD 0 []).length := by rw [cv_at hi (by omega), cv_at (by omega) (by omega)] at hb4; simpa using hb4
              refine AW.seqR ?_
              refine AWo.pure (PureOp.assign rfl) rfl rfl ?_
              refine AWo.pure (PureOp.assign rfl) rfl rfl ?_
              refine AWo.nil trivial ?_
              refine AW.ret ?_
              refine inBlockA_ret ?_
              refine thenA_ret ?_
              refine thenA_ret ?_
              refine inBlockA_ret ?_
              refine thenA_ret ?_
              rw [(ch_mis hi hall hmis).1, (ch_mis hi hall hmis).2]
              refine RetQ.gc [_, _] [] [.tmp 2, .tmp 3] (.inl rfl) rfl (.tmp rfl (.tmp rfl .nil)) rfl (.pure rfl (.pure rfl .nil)) (OutL.clo rfl (cloM fun _ => rfl) (by intro h; exact h.elim id fun h => absurd h.1 (by simp)) trivial) (by decide) rfl
            ·
              have hsm : vN (Ts.getD i []).length = vN (Ts.getD 0 []).length := by rw [cv_at hi (by omega), cv_at (by omega) (by omega)] at hb4; simpa using hb4
              refine AW.skip ?_
              refine inBlockA_normal ?_
              refine thenA_normal ?_
              refine AW.region ?_
              first | refine AWo.pure (PureOp.addI (b := 1) rfl rfl (by first | decide | omega)) rfl rfl ?_ | refine AWo.pure (PureOp.bin rfl rfl rfl) rfl rfl ?_
              refine AWo.pure (PureOp.move rfl) rfl rfl ?_
              refine AWo.nil trivial ?_
              refine thenA_normal ?_
              refine ⟨Ts.length - (i + 1), [], _, by omega, ?_, i + 1, ⟨by omega, fun j hj => (Nat.lt_succ_iff_lt_or_eq.1 hj).elim (hsam j) (fun e => e ▸ hsm)⟩, rfl, rfl⟩
              refine Wk.of [0, 17000] ?_ ?_ ?_ (by decide) rfl
              ·
                refine WkE.upd rfl (by first | exact VR.flat _ rfl | exact VR.eqv (vp_succ _) rfl | exact VR.eqv (vp_succ _).symm rfl | exact VR.eqv (by first | rfl | (congr 1; omega) | (simp; done) | (simp; omega)) rfl) ?_
                refine WkE.upd rfl (by first | exact VR.flat _ rfl | exact VR.eqv (vp_succ _) rfl | exact VR.eqv (vp_succ _).symm rfl | exact VR.eqv (by first | rfl | (congr 1; omega) | (simp; done) | (simp; omega)) rfl) ?_
                refine WkE.upd rfl (.slice (17000) 0 _ 0 ⟨_, rfl⟩ (by simp) (by simp)) ?_
                refine WkE.upd rfl (.slice (17000) 0 _ 0 ⟨_, rfl⟩ (by simp) (by simp)) ?_
                refine WkE.upd rfl (.slice (0) 0 _ 0 ⟨_, rfl⟩ (by simp) (by simp)) ?_
                exact WkE.emp
              ·
                refine WkM.flat rfl (flatM flat_vi) (fun h => h) ?_
                refine WkM.cloM rfl rfl (fun _ => rfl) (fun h => h) ?_
                exact WkM.emp
              ·
                repeat (refine dom_upd_mem (by decide) ?_)
                exact dom_emp
          ·
            obtain rfl : i = Ts.length := by have := of_decide_eq_false hb3; omega
            refine AW.exit ?_
            refine thenA_exit ?_
            refine thenA_exit ?_
            refine inBlockA_hit ?_
            refine thenA_normal ?_
            refine AW.seqR ?_
            refine AWo.pure (PureOp.move rfl) rfl rfl ?_
            first | refine AWo.pure (PureOp.idx1 (j := 0) tbok rfl rfl rfl rfl (by first | decide | omega)) rfl rfl ?_ | refine AWo.pure (PureOp.idx (j := 0) tbok rfl rfl rfl rfl (by first | decide | omega)) rfl rfl ?_
            refine AWo.loadM tbok (f := vi .i64) 0 rfl rfl rfl (by rw [cv_len]; omega) rfl rfl ?_
            refine AWo.pure (PureOp.assign rfl) rfl rfl ?_
            refine AWo.pure (PureOp.assign rfl) rfl rfl ?_
            refine AWo.nil trivial ?_
            refine AW.ret ?_
            rw [(ch_ok h0 hall hsam).1, (ch_ok h0 hall hsam).2, cv_at (by omega) (by omega)]
            refine RetQ.gc [_, _] [] [.tmp 2, .tmp 3] (.inl rfl) rfl (.tmp rfl (.tmp rfl .nil)) rfl (.pure rfl (.pure rfl .nil)) (OutL.clo rfl (cloM fun _ => rfl) (by intro h; exact h.elim id fun h => absurd h.1 (by simp)) trivial) (by decide) rfl
theorem total_ctr {Ts : List (List Fp)} {k m : Nat} (hk : Ts.length = k) (h0 : 0 < k) (hm : ∀ t ∈ Ts, t.length = m) (hk6 : k < 1000000) (hmb : m < 1000000) : GC Tryd.prog 56 [.slice (some ⟨0, 0, none⟩) k 0] [⟨Ts.map (dt), false, 1⟩] [.agg ((fe ((smN (prT Ts) m))).map (vi .u64)).toArray] [⟨Ts.map (dt), false, 1⟩] := by
  refine GC.intro Tryd.func56 rfl (by show 1 ≤ 34; decide) (by first | exact Nat.le_refl _ | decide | simp) ?_
  subst hk
  have hm0 : (Ts.getD 0 []).length = m := hm _ (getT_mem h0)
  refine AW.seqR ?_
  refine yN 3000 1 ((fe 0).map (vi .u64)) ?_ (hc := by rw [fe_zero]; rfl)
  refine AWo.nil trivial ?_
  refine AW.seqR ?_
  refine yN 4000 1 ((fe 0).map (vi .u64)) ?_ (hc := by rw [fe_zero]; rfl)
  refine AWo.nil trivial ?_
  refine AW.seq ?_
  refine AW.seqR ?_
  refine AWo.pure (PureOp.move rfl) rfl rfl ?_
  first | refine AWo.pure (PureOp.idx1 (j := 0) tbok rfl rfl rfl rfl (by first | decide | omega)) rfl rfl ?_ | refine AWo.pure (PureOp.idx (j := 0) tbok rfl rfl rfl rfl (by first | decide | omega)) rfl rfl ?_
  refine AWo.loadM tbok (f := dt) [] rfl rfl rfl (by omega) rfl rfl ?_
  first | refine AWo.pure ((PureOp.lenS tbok rfl rfl).mono (v' := vi .i64 m) (congrArg (vi .i64) hm0)) rfl rfl ?_ | refine AWo.pure ((PureOp.lenD tbok rfl rfl).mono (v' := vi .i64 m) (congrArg (vi .i64) hm0)) rfl rfl ?_
  refine AWo.pure (PureOp.move rfl) rfl rfl ?_
  refine AWo.nil trivial ?_
  refine AW.block ?_
  refine AW.loopw (fun mm σ => ∃ i, (i ≤ m) ∧ mm = m - i ∧ σ = ⟨(upd (upd (upd (upd (upd emp 0 (.slice (some ⟨0, 0, none⟩) Ts.length 0)) 2 (.pointer (some ⟨3000, 0, none⟩))) 3 (.pointer (some ⟨4000, 0, none⟩))) 11 (vi .i64 m)) 12 (vi .i64 i)), (upd (upd (upd emp 0 ⟨Ts.map (dt), false, 1⟩) 3000 ⟨(fe 0).map (vi .u64), true, 1⟩) 4000 ⟨(fe (smN (prT Ts) i)).map (vi .u64), true, 1⟩)⟩) (fm := []) ?_ ⟨0, Nat.zero_le _, rfl, rfl⟩ ?_
  ·
    refine Wk.of [0, 3000, 4000] ?_ ?_ ?_ (by decide) rfl
    ·
      refine WkE.upd rfl (by first | exact VR.flat _ rfl | exact VR.eqv (vp_succ _) rfl | exact VR.eqv (vp_succ _).symm rfl | exact VR.eqv (by first | rfl | (congr 1; omega) | (simp; done) | (simp; omega)) rfl) ?_
      refine WkE.upd rfl (by first | exact VR.flat _ rfl | exact VR.eqv (vp_succ _) rfl | exact VR.eqv (vp_succ _).symm rfl | exact VR.eqv (by first | rfl | (congr 1; omega) | (simp; done) | (simp; omega)) rfl) ?_
      refine WkE.upd rfl (.ptr (4000) 0 ⟨_, rfl⟩) ?_
      refine WkE.upd rfl (.ptr (3000) 0 ⟨_, rfl⟩) ?_
      refine WkE.upd rfl (.slice (0) 0 _ 0 ⟨_, rfl⟩ (by simp) (by simp)) ?_
      exact WkE.emp
    ·
      refine WkM.flat rfl (flatM flat_vi) (fun h => h) ?_
      refine WkM.flat rfl (flatM flat_vi) (fun h => h) ?_
      refine WkM.cloM rfl rfl (fun _ => rfl) (fun h => h) ?_
      exact WkM.emp
    ·
      repeat (refine dom_upd_mem (by decide) ?_)
      exact dom_emp
  ·
    rintro mm σ ⟨i, hinv, rfl, rfl⟩
    refine AW.seqR ?_
    first | refine AWo.pure (PureOp.ltN rfl rfl) rfl rfl ?_ | refine AWo.pure (PureOp.bin rfl rfl rfl) rfl rfl ?_
    refine AWo.nil trivial ?_
    refine AW.seq ?_
    refine AW.cond rfl (fun hb0 => ?_) (fun hb0 => ?_)
    ·
      have hi : i < m := of_decide_eq_true hb0
      refine AW.skip ?_
      refine thenA_normal ?_
      refine AW.seq ?_
      refine AW.block ?_
      refine AW.seqR ?_
      refine AWo.pure (PureOp.move rfl) rfl rfl ?_
      refine AWo.pure (PureOp.assign rfl) rfl rfl ?_
      refine AWo.nil trivial ?_
      refine AW.seqR ?_
      refine AWo.callX (fromuF_ctr (v := 1) (by decide)) bd22 [] [] rfl (.cons rfl .nil) rfl (.cons rfl rfl .nil) .nil rfl .nil frN (by decide) (.pure (by first | rfl | exact pure_aggM flat_vi | exact pure_aggM flat_bool) .nil) rfl rfl rfl rfl ?_
      refine AWo.alloc tbok 6000 1 _ rfl rfl rfl rfl rfl rfl ?_
      refine AWo.storeAllN tbok rfl rfl rfl rfl (by first | (simp [*]; done) | rfl) (by first | (simp [*]; done) | rfl) (by first | exact oneM (fun _ => rfl) _ | rfl | (simp; done)) rfl ?_
      refine AWo.nil trivial ?_
      refine AW.seq ?_
      refine AW.seqR ?_
      refine AWo.pure (PureOp.move rfl) rfl rfl ?_
      first | refine AWo.pure (PureOp.lenS tbok rfl rfl) rfl rfl ?_ | refine AWo.pure (PureOp.lenD tbok rfl rfl) rfl rfl ?_
      refine AWo.pure (PureOp.move rfl) rfl rfl ?_
      refine AWo.nil trivial ?_
      refine AW.block ?_
      refine AW.loopw (fun mm σ => ∃ j, (j ≤ Ts.length) ∧ mm = Ts.length - j ∧ σ = ⟨(upd (upd (upd (upd (upd (upd (upd (upd (upd (upd emp 0 (.slice (some ⟨0, 0, none⟩) Ts.length 0)) 2 (.pointer (some ⟨3000, 0, none⟩))) 3 (.pointer (some ⟨4000, 0, none⟩))) 4 (vi .i64 i)) 5 (.pointer (some ⟨6000, 0, none⟩))) 11 (vi .i64 m)) 12 (vi .i64 i)) 16 (.slice (some ⟨0, 0, none⟩) Ts.length 0)) 17 (vi .i64 Ts.length)) 18 (vi .i64 j)), (upd (upd (upd (upd emp 0 ⟨Ts.map (dt), false, 1⟩) 3000 ⟨(fe 0).map (vi .u64), true, 1⟩) 4000 ⟨(fe (smN (prT Ts) i)).map (vi .u64), true, 1⟩) 6000 ⟨(fe (prN Ts i j)).map (vi .u64), true, 1⟩)⟩) (fm := []) ?_ ⟨0, Nat.zero_le _, rfl, rfl⟩ ?_
      ·
        refine Wk.of [0, 3000, 4000, 6000] ?_ ?_ ?_ (by decide) rfl
        ·
          refine WkE.upd rfl (by first | exact VR.flat _ rfl | exact VR.eqv (vp_succ _) rfl | exact VR.eqv (vp_succ _).symm rfl | exact VR.eqv (by first | rfl | (congr 1; omega) | (simp; done) | (simp; omega)) rfl) ?_
          refine WkE.upd rfl (by first | exact VR.flat _ rfl | exact VR.eqv (vp_succ _) rfl | exact VR.eqv (vp_succ _).symm rfl | exact VR.eqv (by first | rfl | (congr 1; omega) | (simp; done) | (simp; omega)) rfl) ?_
          refine WkE.upd rfl (.slice (0) 0 _ 0 ⟨_, rfl⟩ (by simp) (by simp)) ?_
          refine WkE.upd rfl (by first | exact VR.flat _ rfl | exact VR.eqv (vp_succ _) rfl | exact VR.eqv (vp_succ _).symm rfl | exact VR.eqv (by first | rfl | (congr 1; omega) | (simp; done) | (simp; omega)) rfl) ?_
          refine WkE.upd rfl (by first | exact VR.flat _ rfl | exact VR.eqv (vp_succ _) rfl | exact VR.eqv (vp_succ _).symm rfl | exact VR.eqv (by first | rfl | (congr 1; omega) | (simp; done) | (simp; omega)) rfl) ?_
          refine WkE.upd rfl (.ptr (6000) 0 ⟨_, rfl⟩) ?_
          refine WkE.upd rfl (by first | exact VR.flat _ rfl | exact VR.eqv (vp_succ _) rfl | exact VR.eqv (vp_succ _).symm rfl | exact VR.eqv (by first | rfl | (congr 1; omega) | (simp; done) | (simp; omega)) rfl) ?_
          refine WkE.upd rfl (.ptr (4000) 0 ⟨_, rfl⟩) ?_
          refine WkE.upd rfl (.ptr (3000) 0 ⟨_, rfl⟩) ?_
          refine WkE.upd rfl (.slice (0) 0 _ 0 ⟨_, rfl⟩ (by simp) (by simp)) ?_
          exact WkE.emp
        ·
          refine WkM.flat rfl (flatM flat_vi) (fun h => h) ?_
          refine WkM.flat rfl (flatM flat_vi) (fun h => h) ?_
          refine WkM.flat rfl (flatM flat_vi) (fun h => h) ?_
          refine WkM.cloM rfl rfl (fun _ => rfl) (fun h => h) ?_
          exact WkM.emp
        ·
          repeat (refine dom_upd_mem (by decide) ?_)
          exact dom_emp
      ·
        rintro mm σ ⟨j, hinv, rfl, rfl⟩
        refine AW.seqR ?_
        first | refine AWo.pure (PureOp.ltN rfl rfl) rfl rfl ?_ | refine AWo.pure (PureOp.bin rfl rfl rfl) rfl rfl ?_
        refine AWo.nil trivial ?_
        refine AW.seq ?_
        refine AW.cond rfl (fun hb1 => ?_) (fun hb1 => ?_)
        ·
          have hj : j < Ts.length := of_decide_eq_true hb1
          have hjm : (Ts.getD j []).length = m := hm _ (getT_mem hj)
          refine AW.skip ?_
          refine thenA_normal ?_
          refine AW.seq ?_
          refine AW.block ?_
          refine AW.seqR ?_
          first | refine AWo.pure (PureOp.idx1 tbok rfl rfl rfl rfl (by first | decide | omega)) rfl rfl ?_ | refine AWo.pure (PureOp.idx tbok rfl rfl rfl rfl (by first | decide | omega)) rfl rfl ?_
          refine AWo.loadM tbok (f := dt) [] rfl rfl rfl (by omega) rfl rfl ?_
          refine AWo.pure (PureOp.assign rfl) rfl rfl ?_
          refine AWo.nil trivial ?_
          refine AW.draw mixed ?_
          first | refine yLE ?_ | refine yLEi ?_
          refine AWo.pureX 24000 (n := (Ts.getD j []).length) (es := 4) (cells := (((Ts.getD j []).map fe).flatten).map (vi .u64)) (PureOp.move rfl) rfl rfl rfl ?_
          refine AWo.pure (PureOp.move rfl) rfl rfl ?_
          first | refine AWo.pure (PureOp.idx1 tbok rfl rfl rfl rfl (by first | decide | omega)) rfl rfl ?_ | refine AWo.pure (PureOp.idx tbok rfl rfl rfl rfl (by first | decide | omega)) rfl rfl ?_
          refine yLJ (xs := (Ts.getD j [])) i ?_
          refine AWo.callX (v := .agg ((fe (prN Ts i (j + 1))).map (vi .u64)).toArray) (mulF_ctr (x := prN Ts i j) (y := (Ts.getD j []).getD i 0)) bd25 [] [] rfl (.cons rfl (.cons rfl .nil)) rfl (.pure (by first | rfl | exact pure_aggM flat_vi | exact pure_aggM flat_bool) (.pure (by first | rfl | exact pure_aggM flat_vi | exact pure_aggM flat_bool) .nil)) .nil rfl .nil frN (by decide) (.pure (by first | rfl | exact pure_aggM flat_vi | exact pure_aggM flat_bool) .nil) rfl rfl rfl rfl ?_
          refine AWo.storeAllN tbok rfl rfl rfl rfl (by first | (simp [*]; done) | rfl) (by first | (simp [*]; done) | rfl) (by first | exact oneM (fun _ => rfl) _ | rfl | (simp; done)) rfl ?_
          refine AWo.nil (by kernel_rfl) ?_
          refine inBlockA_normal ?_
          refine thenA_normal ?_
          refine AW.region ?_
          first | refine AWo.pure (PureOp.addI (b := 1) rfl rfl (by first | decide | omega)) rfl rfl ?_ | refine AWo.pure (PureOp.bin rfl rfl rfl) rfl rfl ?_
          refine AWo.pure (PureOp.move rfl) rfl rfl ?_
          refine AWo.nil trivial ?_
          refine thenA_normal ?_
          refine ⟨Ts.length - (j + 1), [], _, by omega, ?_, j + 1, by omega, rfl, rfl⟩
          refine Wk.of [0, 3000, 4000, 6000] ?_ ?_ ?_ (by decide) rfl
          ·
            refine WkE.upd rfl (by first | exact VR.flat _ rfl | exact VR.eqv (vp_succ _) rfl | exact VR.eqv (vp_succ _).symm rfl | exact VR.eqv (by first | rfl | (congr 1; omega) | (simp; done) | (simp; omega)) rfl) ?_
            refine WkE.upd rfl (by first | exact VR.flat _ rfl | exact VR.eqv (vp_succ _) rfl | exact VR.eqv (vp_succ _).symm rfl | exact VR.eqv (by first | rfl | (congr 1; omega) | (simp; done) | (simp; omega)) rfl) ?_
            refine WkE.upd rfl (.slice (0) 0 _ 0 ⟨_, rfl⟩ (by simp) (by simp)) ?_
            refine WkE.upd rfl (by first | exact VR.flat _ rfl | exact VR.eqv (vp_succ _) rfl | exact VR.eqv (vp_succ _).symm rfl | exact VR.eqv (by first | rfl | (congr 1; omega) | (simp; done) | (simp; omega)) rfl) ?_
            refine WkE.upd rfl (by first | exact VR.flat _ rfl | exact VR.eqv (vp_succ _) rfl | exact VR.eqv (vp_succ _).symm rfl | exact VR.eqv (by first | rfl | (congr 1; omega) | (simp; done) | (simp; omega)) rfl) ?_
            refine WkE.upd rfl (.ptr (6000) 0 ⟨_, rfl⟩) ?_
            refine WkE.upd rfl (by first | exact VR.flat _ rfl | exact VR.eqv (vp_succ _) rfl | exact VR.eqv (vp_succ _).symm rfl | exact VR.eqv (by first | rfl | (congr 1; omega) | (simp; done) | (simp; omega)) rfl) ?_
            refine WkE.upd rfl (.ptr (4000) 0 ⟨_, rfl⟩) ?_
            refine WkE.upd rfl (.ptr (3000) 0 ⟨_, rfl⟩) ?_
            refine WkE.upd rfl (.slice (0) 0 _ 0 ⟨_, rfl⟩ (by simp) (by simp)) ?_
            exact WkE.emp
          ·
            refine WkM.flat rfl (flatM flat_vi) (fun h => h) ?_
            refine WkM.flat rfl (flatM flat_vi) (fun h => h) ?_
            refine WkM.flat rfl (flatM flat_vi) (fun h => h) ?_
            refine WkM.cloM rfl rfl (fun _ => rfl) (fun h => h) ?_
            exact WkM.emp
          ·
            repeat (refine dom_upd_mem (by decide) ?_)
            exact dom_emp
        ·
          obtain rfl : j = Ts.length := by have := of_decide_eq_false hb1; omega
          refine AW.exit ?_
          refine thenA_exit ?_
          refine thenA_exit ?_
          refine inBlockA_hit ?_
          refine thenA_normal ?_
          refine AW.region ?_
          first | refine yLE ?_ | refine yLEi ?_
          first | refine yLE ?_ | refine yLEi ?_
          refine AWo.callX (v := .agg ((fe (smN (prT Ts) (i + 1))).map (vi .u64)).toArray) (addF_ctr (x := (smN (prT Ts) i)) (y := prN Ts i Ts.length)) bd23 [] [] rfl (.cons rfl (.cons rfl .nil)) rfl (.pure (by first | rfl | exact pure_aggM flat_vi | exact pure_aggM flat_bool) (.pure (by first | rfl | exact pure_aggM flat_vi | exact pure_aggM flat_bool) .nil)) .nil rfl .nil frN (by decide) (.pure (by first | rfl | exact pure_aggM flat_vi | exact pure_aggM flat_bool) .nil) rfl rfl rfl rfl ?_
          refine AWo.storeAllN tbok rfl rfl rfl rfl (by first | (simp [*]; done) | rfl) (by first | (simp [*]; done) | rfl) (by first | exact oneM (fun _ => rfl) _ | rfl | (simp; done)) rfl ?_
          refine AWo.nil trivial ?_
          refine inBlockA_normal ?_
          refine thenA_normal ?_
          refine AW.region ?_
          first | refine AWo.pure (PureOp.addI (b := 1) rfl rfl (by first | decide | omega)) rfl rfl ?_ | refine AWo.pure (PureOp.bin rfl rfl rfl) rfl rfl ?_
          refine AWo.pure (PureOp.move rfl) rfl rfl ?_
          refine AWo.nil trivial ?_
          refine thenA_normal ?_
          refine ⟨m - (i + 1), [], _, by omega, ?_, i + 1, by omega, rfl, rfl⟩
          refine Wk.of [0, 3000, 4000] ?_ ?_ ?_ (by decide) rfl
          ·
            refine WkE.upd rfl (by first | exact VR.flat _ rfl | exact VR.eqv (vp_succ _) rfl | exact VR.eqv (vp_succ _).symm rfl | exact VR.eqv (by first | rfl | (congr 1; omega) | (simp; done) | (simp; omega)) rfl) ?_
            refine WkE.upd rfl (by first | exact VR.flat _ rfl | exact VR.eqv (vp_succ _) rfl | exact VR.eqv (vp_succ _).symm rfl | exact VR.eqv (by first | rfl | (congr 1; omega) | (simp; done) | (simp; omega)) rfl) ?_
            refine WkE.upd rfl (.ptr (4000) 0 ⟨_, rfl⟩) ?_
            refine WkE.upd rfl (.ptr (3000) 0 ⟨_, rfl⟩) ?_
            refine WkE.upd rfl (.slice (0) 0 _ 0 ⟨_, rfl⟩ (by simp) (by simp)) ?_
            exact WkE.emp
          ·
            refine WkM.flat rfl (flatM flat_vi) (fun h => h) ?_
            refine WkM.flat rfl (flatM flat_vi) (fun h => h) ?_
            refine WkM.cloM rfl rfl (fun _ => rfl) (fun h => h) ?_
            exact WkM.emp
          ·
            repeat (refine dom_upd_mem (by decide) ?_)
            exact dom_emp
    ·
      obtain rfl : i = m := by have := of_decide_eq_false hb0; omega
      refine AW.exit ?_
      refine thenA_exit ?_
      refine thenA_exit ?_
      refine inBlockA_hit ?_
      refine thenA_normal ?_
      refine AW.seqR ?_
      first | refine yLE ?_ | refine yLEi ?_
      refine AWo.storeAllN tbok rfl rfl rfl rfl (by first | (simp [*]; done) | rfl) (by first | (simp [*]; done) | rfl) (by first | exact oneM (fun _ => rfl) _ | rfl | (simp; done)) rfl ?_
      refine AWo.nil trivial ?_
      refine AW.ret ?_
      refine RetQ.gc [_] [] [.cell 2 43] (.inl rfl) rfl (.val (RVal.cellAll tbok rfl rfl rfl rfl (by first | (simp [*]; done) | rfl)) .nil) rfl (.pure (by first | rfl | exact pure_aggM flat_vi | exact pure_aggM flat_bool) .nil) (OutL.clo rfl (cloM fun _ => rfl) (by intro h; first | rfl | exact h.elim id fun h => absurd h.1 (by simp)) trivial) (by decide) rfl
theorem Total_ctr {Ts : List (List Fp)} {k : Nat} (hk : Ts.length = k) (hk6 : k < 1000000) (hs : ∀ t ∈ Ts, t.length < 1000000) : GC Tryd.prog 29 [.slice (some ⟨0, 0, none⟩) k 0] [⟨Ts.map (dt), false, 1⟩] [.agg ((fe ((toT Ts))).map (vi .u64)).toArray, .int .i64 (chC Ts)] [⟨Ts.map (dt), false, 1⟩] := by
  refine GC.intro Tryd.func29 rfl (by show 1 ≤ 17; decide) (by first | exact Nat.le_refl _ | decide | simp) ?_
  subst hk
  refine AW.seqR ?_
  refine yN 3000 1 ((fe 0).map (vi .u64)) ?_ (hc := by rw [fe_zero]; rfl)
  refine AWo.pure (PureOp.assign rfl) rfl rfl ?_
  refine AWo.nil trivial ?_
  refine AW.seq ?_
  refine AW.seqR ?_
  refine AWo.pure (PureOp.move rfl) rfl rfl ?_
  refine AWo.callX (check_ctr (Ts := Ts) (k := Ts.length) rfl hk6 hs) bd55 [(0, 0)] [] rfl (.cons rfl .nil) rfl (.cons rfl rfl .nil) (.clo rfl (cloM fun _ => rfl) (by intro h; first | exact h | rfl) .nil) rfl (.keep rfl .nil) frN (by decide) (.cons rfl rfl (.cons rfl rfl .nil)) rfl rfl rfl rfl ?_
  refine AWo.pure (PureOp.move rfl) rfl rfl ?_
  refine AWo.pure (PureOp.extract rfl rfl) rfl rfl ?_
  refine AWo.pure (PureOp.extract rfl rfl) rfl rfl ?_
  refine AWo.pure (PureOp.assign rfl) rfl rfl ?_
  refine AWo.pure (PureOp.assign rfl) rfl rfl ?_
  refine AWo.nil trivial ?_
  refine AW.seqR ?_
  refine AWo.pure (PureOp.move rfl) rfl rfl ?_
  first | refine AWo.pure (PureOp.neN (b := 0) rfl rfl) rfl rfl ?_ | refine AWo.pure (PureOp.bin rfl rfl rfl) rfl rfl ?_
  refine AWo.nil trivial ?_
  refine AW.cond rfl (fun hb0 => ?_) (fun hb0 => ?_)
  ·
    have hc : ¬ chC Ts = 0 := by simpa using hb0
    refine AW.seqR ?_
    refine AWo.pure ((PureOp.buildStruct [] pl43.choose_spec.1 zr43 (by decide) pl43.choose_spec.2 rfl rfl).mono (v' := .agg ((fe 0).map (vi .u64)).toArray) (by kernel_rfl)) rfl rfl ?_
    refine AWo.pure (PureOp.move rfl) rfl rfl ?_
    refine AWo.storeAllN tbok rfl rfl rfl rfl (by first | (simp [*]; done) | rfl) (by first | (simp [*]; done) | rfl) (by first | exact oneM (fun _ => rfl) _ | rfl | (simp; done)) rfl ?_
    refine AWo.pure (PureOp.assign rfl) rfl rfl ?_
    refine AWo.nil trivial ?_
    refine AW.ret ?_
    refine thenA_ret ?_
    rw [show toT Ts = 0 from if_neg hc]
    refine RetQ.gc [_, _] [] [.cell 2 43, .tmp 3] (.inl rfl) rfl (.val (RVal.cellAll tbok rfl rfl rfl rfl (by first | (simp [*]; done) | rfl)) (.tmp rfl .nil)) rfl (.pure (pure_aggM flat_vi) (.cons rfl rfl .nil)) (OutL.clo rfl (cloM fun _ => rfl) (by intro h; exact h.elim id fun h => absurd h.1 (by simp)) trivial) (by decide) rfl
  ·
    have hc : chC Ts = 0 := by simpa using hb0
    obtain ⟨hq0, hqm⟩ := ch_zero hc
    refine AW.skip ?_
    refine thenA_normal ?_
    refine AW.seqR ?_
    refine AWo.pure (PureOp.move rfl) rfl rfl ?_
    refine AWo.callX (total_ctr (Ts := Ts) (k := Ts.length) (m := (Ts.getD 0 []).length) rfl hq0 hqm hk6 (hs _ (getT_mem hq0))) bd56 [(0, 0)] [] rfl (.cons rfl .nil) rfl (.cons rfl rfl .nil) (.clo rfl (cloM fun _ => rfl) (by intro h; first | exact h | rfl) .nil) rfl (.keep rfl .nil) frN (by decide) (.pure (by first | rfl | exact pure_aggM flat_vi | exact pure_aggM flat_bool) .nil) rfl rfl rfl rfl ?_
    refine AWo.storeAllN tbok rfl rfl rfl rfl (by first | (simp [*]; done) | rfl) (by first | (simp [*]; done) | rfl) (by first | exact oneM (fun _ => rfl) _ | rfl | (simp; done)) rfl ?_
    refine AWo.pure (PureOp.assign rfl) rfl rfl ?_
    refine AWo.nil trivial ?_
    refine AW.ret ?_
    rw [hc, show toT Ts = smN (prT Ts) (Ts.getD 0 []).length from if_pos hc]
    refine RetQ.gc [_, _] [] [.cell 2 43, .tmp 3] (.inl rfl) rfl (.val (RVal.cellAll tbok rfl rfl rfl rfl (by first | (simp [*]; done) | rfl)) (.tmp rfl .nil)) rfl (.pure (pure_aggM flat_vi) (.pure rfl .nil)) (OutL.clo rfl (cloM fun _ => rfl) (by intro h; exact h.elim id fun h => absurd h.1 (by simp)) trivial) (by decide) rfl
end Go.Proofs.YteeifahhejangaaDoor
namespace Go.Proofs.YteeifahhejangaaDoor
open Go Sim
theorem same_one (bs : List Bool) (h : bs.length ≤ 12) : fsumL (sameT bs) = fp 1 := by
  rw [fsumL_smN, same_T rfl h, unitV_len, fp_one, ← smN_unit' _ (bN_lt bs)]
  exact smN_congr fun i _ => (Rg.mul_one _).symm
where
  smN_unit' {j : Nat} (n : Nat) (h : j < n) : smN (fun i => (unitV n j).getD i 0 * 1) n = 1 := by
    rw [smN_unit (fun _ => 1) j n n (Nat.le_refl _), if_pos h]
def bp (bs : List Bool) : List Fp := bs.map fun b => fp b.toNat
theorem bp_len (bs : List Bool) : (bp bs).length = bs.length := List.length_map ..
theorem bp_step {bs : List Bool} {i : Nat} (hi : i < bs.length) : bp (bs.take (i + 1)) = bp (bs.take i) ++ [fp (bs.getD i false).toNat] := by
  rw [List.take_succ_eq_append_getElem hi, bp, List.map_append, List.getD_eq_getElem?_getD, List.getElem?_eq_getElem hi]; rfl
theorem bp_FF {bs : List Bool} {i : Nat} (hi : i ≤ bs.length) : (((bp (bs.take i)).map fe).flatten.map (vi .u64)).length = i * 4 := by
  rw [FF_len4, bp_len, List.length_take, Nat.min_eq_left hi]
theorem bN_from : ∀ (bs : List Bool) (a : Nat), bs.foldl (fun a b => 2 * a + b.toNat) a = a * 2 ^ bs.length + bN bs
  | [], a => by simp [bN]
  | b :: bs, a => by
    rw [List.foldl_cons, bN_from bs, show bN (b :: bs) = bs.foldl (fun a b => 2 * a + b.toNat) (2 * 0 + b.toNat) from rfl, bN_from bs, List.length_cons, Nat.pow_succ]
    generalize 2 ^ bs.length = q
    rw [Nat.mul_zero, Nat.zero_add, Nat.add_mul, show 2 * a * q = a * (q * 2) by rw [Nat.mul_comm 2 a, Nat.mul_assoc, Nat.mul_comm 2 q]]; omega
theorem bN_cons (b : Bool) (bs : List Bool) : bN (b :: bs) = b.toNat * 2 ^ bs.length + bN bs := by
  rw [bN, List.foldl_cons, bN_from, Nat.mul_zero, Nat.zero_add]
theorem fp_nil : fp 0 = (0 : Fp) := by decide +kernel
theorem pow_ok {k : Nat} (h : k + 1 ≤ 12) {n : Nat} (hn : n = 2 ^ (k + 1)) : isV n = true ∧ ¬ vN n = 0 := by
  subst hn
  have := pow_isV h
  exact ⟨this.1, by omega⟩
theorem ev_corner : ∀ (bs : List Bool) (xs : List Fp), xs.length = 2 ^ bs.length → bs.length ≤ 12 → evV xs (bp bs) = xs.getD (bN bs) 0
  | [], _, _, _ => rfl
  | b :: bs, xs, h, hk => by
    simp only [List.length_cons] at h hk
    have h1 := fix_eq (x := fp b.toNat) h hk
    obtain ⟨hv, hn⟩ := pow_ok hk h
    have hh : xs.length / 2 = 2 ^ bs.length := by rw [h, pow_half]
    have hb := bN_lt bs
    rw [show evV xs (bp (b :: bs)) = evV (fixT xs (fp b.toNat)) (bp bs) from rfl, ev_corner bs _ h1.2 (by omega), bN_cons]
    cases b with
    | false => rw [show fp (false.toNat) = 0 from fp_nil, fix_at0 hv hn (by omega)]; simp
    | true => rw [show fp (true.toNat) = fp 1 from rfl, fix_at1 hv hn (by omega), hh]; simp
theorem eT_corner {xs : List Fp} {bs : List Bool} (h : xs.length = 2 ^ bs.length) (hk : bs.length ≤ 12) : eT xs (bp bs) = xs.getD (bN bs) 0 ∧ eC xs (bp bs) = 0 := by
  have hp := pow_isV hk
  have hb : evB xs.length (bp bs).length = true := by rw [h]; exact evB_ok hp.1 (hp.2.trans (bp_len bs).symm)
  exact ⟨by rw [eT, if_pos hb, ev_corner bs xs h hk], eC_B.2 hb⟩
theorem ch_two {xs ys : List Fp} {k : Nat} (hk : k ≤ 12) (hx : xs.length = 2 ^ k) (hy : ys.length = 2 ^ k) : chC [xs, ys] = 0 := by
  have hp := pow_isV hk
  rw [chC, if_neg (show ¬ [xs, ys].length = 0 by simp), if_pos (by intro t ht; simp at ht; rcases ht with rfl | rfl; rw [hx]; exact hp.1; rw [hy]; exact hp.1), if_pos (by
    intro t ht; simp at ht
    show _ = vN xs.length
    rcases ht with rfl | rfl
    · rfl
    · rw [hx, hy])]
theorem tot_ring (a b : Fp) : fp 1 * a * b = b * a := by rw [fp_one]; grind
theorem tot_corner {xs : List Fp} {bs : List Bool} (h : xs.length = 2 ^ bs.length) (hk : bs.length ≤ 12) : toT [xs, sameT bs] = xs.getD (bN bs) 0 := by
  have hs := same_T (bs := bs) rfl hk
  rw [toT, if_pos (ch_two hk h (by rw [hs, unitV_len]))]
  show smN (prT [xs, sameT bs]) xs.length = _
  have e : smN (prT [xs, sameT bs]) xs.length = smN (fun i => (unitV (2 ^ bs.length) (bN bs)).getD i 0 * xs.getD i 0) (2 ^ bs.length) := by
    rw [h]
    refine smN_congr fun i _ => ?_
    show fp 1 * xs.getD i 0 * (sameT bs).getD i 0 = _
    rw [hs, tot_ring]
  rw [e, smN_unit (fun i => xs.getD i 0) _ _ _ (Nat.le_refl _), if_pos (bN_lt bs)]
end Go.Proofs.YteeifahhejangaaDoor
namespace Go.Proofs.YteeifahhejangaaDoor
open Go Sim
theorem ccorn_ctr {Ls : List (List Nat)} {bs : List Bool} (hB : ∀ b ∈ Ls, bd 256 b) (hL : Ls.length ≤ 9223372036854775807) : GC Tryd.prog 5 [.slice (some ⟨0, 0, none⟩) Ls.length 0, .slice (some ⟨1, 0, none⟩) bs.length 0] [⟨Ls.map (db), false, 1⟩, ⟨bs.map (Value.bool), false, 1⟩] [.bool true] [⟨Ls.map (db), false, 1⟩, ⟨bs.map (Value.bool), false, 1⟩] := by
  refine GC.intro Tryd.func5 rfl (by show 2 ≤ 125; decide) (by first | exact Nat.le_refl _ | decide | simp) ?_
  refine AW.seqR ?_
  refine AWo.pure (PureOp.assign rfl) rfl rfl ?_
  refine AWo.nil trivial ?_
  refine AW.seq ?_
  refine AW.seqR ?_
  refine AWo.callX (speaks23_ctr) bd7 [] [] rfl .nil rfl .nil .nil rfl .nil frN (by decide) (.cons rfl rfl .nil) rfl rfl rfl rfl ?_
  refine AWo.pure (PureOp.not rfl) rfl rfl ?_
  refine AWo.pure (PureOp.move rfl) rfl rfl ?_
  refine AWo.pure (PureOp.move rfl) rfl rfl ?_
  refine AWo.callX (few22_ctr (Ls := Ls) (most := 32) hL (by decide)) bd8 [(0, 0)] [] rfl (.cons rfl (.cons rfl .nil)) rfl (.cons rfl rfl (.cons rfl rfl .nil)) (.clo rfl (cloM fun _ => rfl) (by intro h; first | exact h | rfl) .nil) rfl (.keep rfl .nil) frN (by decide) (.cons rfl rfl .nil) rfl rfl rfl rfl ?_
  first | refine AWo.pureB (PureOp.not rfl) rfl rfl (fun hb0 => ?_) (fun hb0 => ?_)
  ·
    refine AWo.pure (PureOp.pickF rfl rfl) rfl rfl ?_
    refine AWo.pure (PureOp.move rfl) rfl rfl ?_
    refine AWo.skipped rfl rfl ?_
    refine AWo.skipped rfl rfl ?_
    refine AWo.skipped rfl rfl ?_
    refine AWo.pure (PureOp.pickT rfl rfl) rfl rfl ?_
    refine AWo.nil trivial ?_
    refine AW.condT rfl ?_
    refine AW.seqR ?_
    refine AWo.callX (speaks23_ctr) bd7 [] [] rfl .nil rfl .nil .nil rfl .nil frN (by decide) (.cons rfl rfl .nil) rfl rfl rfl rfl ?_
    refine AWo.pure (PureOp.assign rfl) rfl rfl ?_
    refine AWo.nil trivial ?_
    refine AW.ret ?_
    refine thenA_ret ?_
    refine RetQ.gc [_] [] [.tmp 4] (.inl rfl) rfl (.tmp rfl .nil) rfl (.cons rfl rfl .nil) (OutL.clo rfl (cloM fun _ => rfl) (by intro h; exact h.elim id fun h => absurd h.1 (by simp)) (OutL.flat rfl (flatM flat_bool) (by intro h; exact h.elim id fun h => absurd h.1 (by simp)) trivial)) (by decide) rfl
  ·
    obtain ⟨hS, hLn⟩ := fewB_get (by simpa using hb0)
    refine AWo.pure (PureOp.pickF rfl rfl) rfl rfl ?_
    refine AWo.pure (PureOp.move rfl) rfl rfl ?_
    refine AWo.pure (PureOp.move rfl) rfl rfl ?_
    first | refine AWo.pure (PureOp.lenS tbok rfl rfl) rfl rfl ?_ | refine AWo.pure (PureOp.lenD tbok rfl rfl) rfl rfl ?_
    first | refine AWo.pureB (PureOp.gtN (b := 20) rfl rfl) rfl rfl (fun hb1 => ?_) (fun hb1 => ?_) | refine AWo.pureB (PureOp.bin rfl rfl rfl) rfl rfl (fun hb1 => ?_) (fun hb1 => ?_)
    ·
      refine AWo.pure (PureOp.pickF rfl rfl) rfl rfl ?_
      refine AWo.nil trivial ?_
      refine AW.condT rfl ?_
      refine AW.seqR ?_
      refine AWo.callX (speaks23_ctr) bd7 [] [] rfl .nil rfl .nil .nil rfl .nil frN (by decide) (.cons rfl rfl .nil) rfl rfl rfl rfl ?_
      refine AWo.pure (PureOp.assign rfl) rfl rfl ?_
      refine AWo.nil trivial ?_
      refine AW.ret ?_
      refine thenA_ret ?_
      refine RetQ.gc [_] [] [.tmp 4] (.inl rfl) rfl (.tmp rfl .nil) rfl (.cons rfl rfl .nil) (OutL.clo rfl (cloM fun _ => rfl) (by intro h; exact h.elim id fun h => absurd h.1 (by simp)) (OutL.flat rfl (flatM flat_bool) (by intro h; exact h.elim id fun h => absurd h.1 (by simp)) trivial)) (by decide) rfl
    ·
      have hb20 : bs.length ≤ 20 := by have := of_decide_eq_false hb1; omega
      refine AWo.pure (PureOp.pickF rfl rfl) rfl rfl ?_
      refine AWo.nil trivial ?_
      refine AW.condF rfl ?_
      refine AW.skip ?_
      refine thenA_normal ?_
      refine AW.seqR ?_
      refine AWo.pure (PureOp.move rfl) rfl rfl ?_
      refine AWo.callX (same_ctr (bs := bs) (n := bs.length) rfl (by omega)) bd28 [(1, 0)] [33000] rfl (.cons rfl .nil) rfl (.cons rfl rfl .nil) (.flat rfl (by first | exact flatM flat_vi | exact flatM flat_bool | (simp [flatV, flat_vi]; done)) (by intro h; first | exact h | rfl) .nil) rfl (.keep rfl (.new (flat_map_ren (flatM flat_vi)) (OkL.flat (flatM flat_vi)) .nil)) (frC rfl frN) (by decide) (.cons rfl rfl (.cons rfl rfl .nil)) rfl rfl rfl rfl ?_
      refine AWo.pure (PureOp.move rfl) rfl rfl ?_
      refine AWo.pure (PureOp.extract rfl rfl) rfl rfl ?_
      refine AWo.pure (PureOp.extract rfl rfl) rfl rfl ?_
      refine AWo.pure (PureOp.assign rfl) rfl rfl ?_
      refine AWo.pure (PureOp.assign rfl) rfl rfl ?_
      refine AWo.nil trivial ?_
      refine AW.seq ?_
      refine AW.seqR ?_
      refine AWo.pure (PureOp.move rfl) rfl rfl ?_
      first | refine AWo.pure (PureOp.lenS tbok rfl rfl) rfl rfl ?_ | refine AWo.pure (PureOp.lenD tbok rfl rfl) rfl rfl ?_
      first | refine AWo.pure (PureOp.gtN (b := 12) rfl rfl) rfl rfl ?_ | refine AWo.pure (PureOp.bin rfl rfl rfl) rfl rfl ?_
      refine AWo.nil trivial ?_
      refine AW.cond rfl (fun hb2 => ?_) (fun hb2 => ?_)
      ·
        have hl : ¬ bs.length ≤ 12 := by have := of_decide_eq_true hb2; omega
        have hsc : sameC bs = 7 := if_neg hl
        have hst : sameT bs = [] := if_neg hl
        refine AW.seqR ?_
        refine AWo.pure (PureOp.move rfl) rfl rfl ?_
        first | refine AWo.pure ((PureOp.eqN (b := 7) rfl rfl).mono (v' := .bool true) (congrArg Value.bool (by rw [hsc]; rfl))) rfl rfl ?_ | refine AWo.pure ((PureOp.bin rfl rfl rfl).mono (v' := .bool true) (congrArg Value.bool (by rw [hsc]; rfl))) rfl rfl ?_
        refine AWo.pure (PureOp.move rfl) rfl rfl ?_
        refine AWo.pure (PureOp.move rfl) rfl rfl ?_
        first | refine AWo.pure (PureOp.lenS tbok rfl rfl) rfl rfl ?_ | refine AWo.pure (PureOp.lenD tbok rfl rfl) rfl rfl ?_
        first | refine AWo.pure ((PureOp.eqN (b := 0) rfl rfl).mono (v' := .bool true) (congrArg Value.bool (by rw [hst]; rfl))) rfl rfl ?_ | refine AWo.pure ((PureOp.bin rfl rfl rfl).mono (v' := .bool true) (congrArg Value.bool (by rw [hst]; rfl))) rfl rfl ?_
        refine AWo.pure (PureOp.pickT rfl rfl) rfl rfl ?_
        refine AWo.pure (PureOp.assign rfl) rfl rfl ?_
        refine AWo.nil trivial ?_
        refine AW.ret ?_
        refine thenA_ret ?_
        refine RetQ.gc [_] [] [.tmp 4] (.inl rfl) rfl (.tmp rfl .nil) rfl (.cons rfl rfl .nil) (OutL.clo rfl (cloM fun _ => rfl) (by intro h; exact h.elim id fun h => absurd h.1 (by simp)) (OutL.flat rfl (flatM flat_bool) (by intro h; exact h.elim id fun h => absurd h.1 (by simp)) trivial)) (by decide) rfl
      ·
        have hl : bs.length ≤ 12 := by have := of_decide_eq_false hb2; omega
        have hsc : sameC bs = 0 := if_pos hl
        have hsl : (sameT bs).length = 2 ^ bs.length := by rw [same_T rfl hl, unitV_len]
        have h2l : 2 ^ bs.length ≤ 4096 := Nat.pow_le_pow_right (n := 2) (by decide) hl
        refine AW.skip ?_
        refine thenA_normal ?_
        refine AW.seq ?_
        refine AW.seqR ?_
        refine AWo.pure (PureOp.move rfl) rfl rfl ?_
        first | refine AWo.pure ((PureOp.neN (b := 0) rfl rfl).mono (v' := .bool false) (congrArg Value.bool (by rw [hsc]; rfl))) rfl rfl ?_ | refine AWo.pure ((PureOp.bin rfl rfl rfl).mono (v' := .bool false) (congrArg Value.bool (by rw [hsc]; rfl))) rfl rfl ?_
        refine AWo.pure (PureOp.move rfl) rfl rfl ?_
        refine AWo.pure (PureOp.move rfl) rfl rfl ?_
        first | refine AWo.pure (PureOp.lenS tbok rfl rfl) rfl rfl ?_ | refine AWo.pure (PureOp.lenD tbok rfl rfl) rfl rfl ?_
        refine AWo.pure (PureOp.move rfl) rfl rfl ?_
        first | refine AWo.pure (PureOp.lenS tbok rfl rfl) rfl rfl ?_ | refine AWo.pure (PureOp.lenD tbok rfl rfl) rfl rfl ?_
        refine AWo.pure ((PureOp.shl rfl rfl (by omega)).mono (v' := vi .i64 (2 ^ bs.length)) (shlL hl)) rfl rfl ?_
        first | refine AWo.pure ((PureOp.neN rfl rfl).mono (v' := .bool false) (congrArg Value.bool (by rw [hsl]; simp))) rfl rfl ?_ | refine AWo.pure ((PureOp.bin rfl rfl rfl).mono (v' := .bool false) (congrArg Value.bool (by rw [hsl]; simp))) rfl rfl ?_
        refine AWo.pure (PureOp.pickF rfl rfl) rfl rfl ?_
        refine AWo.pure (PureOp.move rfl) rfl rfl ?_
        refine AWo.pure (PureOp.move rfl) rfl rfl ?_
        refine AWo.callX (sumT_ctr (xs := sameT bs) (n := (sameT bs).length) rfl (by omega)) bd19 [(33000, 0)] [] rfl (.cons rfl .nil) rfl (.cons rfl rfl .nil) (.flat rfl (flatM flat_vi) (by intro h; first | exact h | rfl) .nil) rfl (.keep rfl .nil) frN (by decide) (.pure (by first | rfl | exact pure_aggM flat_vi | exact pure_aggM flat_bool) .nil) rfl rfl rfl rfl ?_
        refine AWo.callX (fromuF_ctr (v := 1) (by decide)) bd22 [] [] rfl (.cons rfl .nil) rfl (.cons rfl rfl .nil) .nil rfl .nil frN (by decide) (.pure (by first | rfl | exact pure_aggM flat_vi | exact pure_aggM flat_bool) .nil) rfl rfl rfl rfl ?_
        refine AWo.callX (v := .bool true) (equalF_ctr (x := (fsumL (sameT bs))) (y := (fp 1))) bd24 [] [] rfl (.cons rfl (.cons rfl .nil)) rfl (.pure (by first | rfl | exact pure_aggM flat_vi | exact pure_aggM flat_bool) (.pure (by first | rfl | exact pure_aggM flat_vi | exact pure_aggM flat_bool) .nil)) .nil rfl .nil frN (by decide) (.cons rfl rfl .nil) (congrArg Value.bool (decide_eq_true (same_one bs hl))) rfl rfl rfl ?_
        refine AWo.pure (PureOp.not rfl) rfl rfl ?_
        refine AWo.pure (PureOp.pickF rfl rfl) rfl rfl ?_
        refine AWo.nil trivial ?_
        refine AW.condF rfl ?_
        refine AW.skip ?_
        refine thenA_normal ?_
        refine AW.seqR ?_
        refine AWo.pure (PureOp.move rfl) rfl rfl ?_
        refine AWo.callX (of23_ctr (Ls := Ls) hB hS (by omega)) bd9 [(0, 0)] [65000, 65001] rfl (.cons rfl .nil) rfl (.cons rfl rfl .nil) (.clo rfl (cloM fun _ => rfl) (by intro h; first | exact h | rfl) .nil) rfl (.keep rfl (.new (flat_map_ren (flatM flat_vi)) (OkL.flat (flatM flat_vi)) (.new (clo_map_ren (cloM fun _ => rfl)) (OkL.clo (cloM fun _ => rfl)) .nil))) (frC rfl (frC rfl frN)) (by decide) (.cons rfl rfl (.cons rfl rfl .nil)) rfl rfl rfl rfl ?_
        refine AWo.pure (PureOp.move rfl) rfl rfl ?_
        refine AWo.pure (PureOp.extract rfl rfl) rfl rfl ?_
        refine AWo.pure (PureOp.extract rfl rfl) rfl rfl ?_
        refine AWo.pure (PureOp.assign rfl) rfl rfl ?_
        refine AWo.pure (PureOp.assign rfl) rfl rfl ?_
        refine AWo.nil trivial ?_
        refine AW.seq ?_
        have hxl : (Ls.map nb).length = Ls.length := List.length_map ..
        generalize Ls.map nb = xs at hxl ⊢
        refine AW.seqR ?_
        refine AWo.pure (PureOp.move rfl) rfl rfl ?_
        first | refine AWo.pure (PureOp.lenS tbok rfl rfl) rfl rfl ?_ | refine AWo.pure (PureOp.lenD tbok rfl rfl) rfl rfl ?_
        refine AWo.pure (PureOp.move rfl) rfl rfl ?_
        first | refine AWo.pure (PureOp.lenS tbok rfl rfl) rfl rfl ?_ | refine AWo.pure (PureOp.lenD tbok rfl rfl) rfl rfl ?_
        first | refine AWo.pure (PureOp.neN rfl rfl) rfl rfl ?_ | refine AWo.pure (PureOp.bin rfl rfl rfl) rfl rfl ?_
        refine AWo.nil trivial ?_
        refine AW.cond rfl (fun hb3 => ?_) (fun hb3 => ?_)
        ·
          refine AW.seqR ?_
          refine AWo.pure (PureOp.assign rfl) rfl rfl ?_
          refine AWo.nil trivial ?_
          refine AW.ret ?_
          refine thenA_ret ?_
          refine RetQ.gc [_] [] [.tmp 4] (.inl rfl) rfl (.tmp rfl .nil) rfl (.cons rfl rfl .nil) (OutL.clo rfl (cloM fun _ => rfl) (by intro h; exact h.elim id fun h => absurd h.1 (by simp)) (OutL.flat rfl (flatM flat_bool) (by intro h; exact h.elim id fun h => absurd h.1 (by simp)) trivial)) (by decide) rfl
        ·
          have hle : Ls.length = (sameT bs).length := by simpa using hb3
          refine AW.skip ?_
          refine thenA_normal ?_
          refine AW.seqR ?_
          refine AWo.pure (PureOp.assign rfl) rfl rfl ?_
          refine AWo.nil trivial ?_
          refine AW.seqR ?_
          refine AWo.pure (PureOp.assign rfl) rfl rfl ?_
          refine AWo.nil trivial ?_
          refine AW.seq ?_
          refine AW.ghost 77000 4 rfl ?_
          refine AW.seqR ?_
          refine AWo.pure (PureOp.move rfl) rfl rfl ?_
          first | refine AWo.pure (PureOp.lenS tbok rfl rfl) rfl rfl ?_ | refine AWo.pure (PureOp.lenD tbok rfl rfl) rfl rfl ?_
          refine AWo.pure (PureOp.move rfl) rfl rfl ?_
          refine AWo.nil trivial ?_
          refine AW.block ?_
          refine AW.loopw (fun mm σ => ∃ i, (i ≤ bs.length) ∧ mm = bs.length - i ∧ σ = ⟨(upd (upd (upd (upd (upd (upd (upd emp 5 (.slice (some ⟨33000, 0, none⟩) (sameT bs).length 0)) 7 (.slice (some ⟨65000, 0, none⟩) Ls.length 0)) 9 (vi .i64 (bN (bs.take i)))) 10 (.slice (some ⟨77000, 0, none⟩) i 0)) 72 (.slice (some ⟨1, 0, none⟩) bs.length 0)) 73 (vi .i64 bs.length)) 74 (vi .i64 i)), (upd (upd (upd (upd (upd emp 0 ⟨Ls.map (db), false, 1⟩) 1 ⟨bs.map Value.bool, false, 1⟩) 33000 ⟨(((sameT bs).map fe).flatten).map (vi .u64), true, 4⟩) 65000 ⟨((xs.map fe).flatten).map (vi .u64), true, 4⟩) 77000 ⟨(((bp (bs.take i)).map fe).flatten).map (vi .u64), true, 4⟩)⟩) (fm := []) ?_ ⟨0, Nat.zero_le _, rfl, rfl⟩ ?_
          ·
            refine Wk.of [0, 1, 33000, 65000, 77000] ?_ ?_ ?_ (by decide) rfl
            ·
              refine WkE.upd rfl (by first | exact VR.flat _ rfl | exact VR.eqv (vp_succ _) rfl | exact VR.eqv (vp_succ _).symm rfl | exact VR.eqv (by first | rfl | (congr 1; omega) | (simp; done) | (simp; omega)) rfl) ?_
              refine WkE.upd rfl (by first | exact VR.flat _ rfl | exact VR.eqv (vp_succ _) rfl | exact VR.eqv (vp_succ _).symm rfl | exact VR.eqv (by first | rfl | (congr 1; omega) | (simp; done) | (simp; omega)) rfl) ?_
              refine WkE.upd rfl (.slice (1) 0 _ 0 ⟨_, rfl⟩ (by simp) (by simp)) ?_
              refine WkE.upd rfl (by first | exact .nilS _ (by simp) | exact .slice (77000) 0 _ 0 ⟨_, rfl⟩ (by simp) (by simp)) ?_
              refine WkE.upd rfl (by first | exact VR.flat _ rfl | exact VR.eqv (vp_succ _) rfl | exact VR.eqv (vp_succ _).symm rfl | exact VR.eqv (by first | rfl | (congr 1; omega) | (simp; done) | (simp; omega)) rfl) ?_
              refine WkE.upd rfl (.slice (65000) 0 _ 0 ⟨_, rfl⟩ (by simp) (by simp)) ?_
              refine WkE.upd rfl (.slice (33000) 0 _ 0 ⟨_, rfl⟩ (by simp) (by simp)) ?_
              exact WkE.emp
            ·
              refine WkM.flat rfl (flatM flat_vi) (fun h => h) ?_
              refine WkM.flat rfl (flatM flat_vi) (fun h => h) ?_
              refine WkM.flat rfl (flatM flat_vi) (fun h => h) ?_
              refine WkM.flat rfl (flatM flat_bool) (fun h => h) ?_
              refine WkM.cloM rfl rfl (fun _ => rfl) (fun h => h) ?_
              exact WkM.emp
            ·
              repeat (refine dom_upd_mem (by decide) ?_)
              exact dom_emp
          ·
            rintro mm σ ⟨i, hinv, rfl, rfl⟩
            have hlt : bN (bs.take i) < 4096 := bN_le hl
            refine AW.seqR ?_
            first | refine AWo.pure (PureOp.ltN rfl rfl) rfl rfl ?_ | refine AWo.pure (PureOp.bin rfl rfl rfl) rfl rfl ?_
            refine AWo.nil trivial ?_
            refine AW.seq ?_
            refine AW.cond rfl (fun hb4 => ?_) (fun hb4 => ?_)
            ·
              have hi : i < bs.length := of_decide_eq_true hb4
              refine AW.skip ?_
              refine thenA_normal ?_
              refine AW.seq ?_
              refine AW.block ?_
              refine AW.seqR ?_
              first | refine AWo.pure (PureOp.idx1 tbok rfl rfl rfl rfl (by first | decide | omega)) rfl rfl ?_ | refine AWo.pure (PureOp.idx tbok rfl rfl rfl rfl (by first | decide | omega)) rfl rfl ?_
              refine AWo.loadM tbok (f := Value.bool) false rfl rfl rfl hi rfl rfl ?_
              refine AWo.pure (PureOp.assign rfl) rfl rfl ?_
              refine AWo.nil trivial ?_
              refine AW.seqR ?_
              refine AWo.pure (PureOp.assign rfl) rfl rfl ?_
              refine AWo.nil trivial ?_
              refine AW.seq ?_
              refine AW.seqR ?_
              refine AWo.pure (PureOp.move rfl) rfl rfl ?_
              refine AWo.nil trivial ?_
              refine AW.cond rfl (fun hb5 => ?_) (fun hb5 => ?_)
              ·
                have hbi : bs.getD i false = true := hb5
                have hst : bN (bs.take (i + 1)) = 2 * bN (bs.take i) + 1 := by rw [bN_step hi, hbi]; rfl
                refine AW.region ?_
                refine AWo.pure (PureOp.assign rfl) rfl rfl ?_
                refine AWo.nil trivial ?_
                refine thenA_normal ?_
                refine AW.seqR ?_
                refine AWo.pure (PureOp.move rfl) rfl rfl ?_
                first | refine AWo.pure (PureOp.mulI (a := 2) rfl rfl (by first | decide | omega)) rfl rfl ?_ | refine AWo.pure (PureOp.bin rfl rfl rfl) rfl rfl ?_
                refine AWo.pure (PureOp.move rfl) rfl rfl ?_
                first | refine AWo.pure (PureOp.cvtN tbok 9223372036854775808 rfl rfl rfl (by decide) (by decide) (by first | decide | omega)) rfl rfl ?_ | refine AWo.pure (PureOp.cvt tbok rfl rfl rfl) rfl rfl ?_
                first | refine AWo.pure ((PureOp.addI rfl rfl (by first | decide | omega)).mono (v' := vi .i64 (bN (bs.take (i + 1)))) (congrArg (vi .i64) hst.symm)) rfl rfl ?_ | refine AWo.pure ((PureOp.bin rfl rfl rfl).mono (v' := vi .i64 (bN (bs.take (i + 1)))) (congrArg (vi .i64) hst.symm)) rfl rfl ?_
                refine AWo.pure (PureOp.assign rfl) rfl rfl ?_
                refine AWo.nil trivial ?_
                refine AW.region ?_
                refine AWo.pure (PureOp.move rfl) rfl rfl ?_
                refine AWo.pure (PureOp.move rfl) rfl rfl ?_
                refine AWo.callX (v := .agg ((fe (fp (bs.getD i false).toNat)).map (vi .u64)).toArray) (fromuF_ctr (v := 1) (by decide)) bd22 [] [] rfl (.cons rfl .nil) rfl (.cons rfl rfl .nil) .nil rfl .nil frN (by decide) (.pure (by first | rfl | exact pure_aggM flat_vi | exact pure_aggM flat_bool) .nil) (by rw [hbi]; rfl) rfl rfl rfl ?_
                refine AWo.buildSlice tbok 88000 [(0, .agg ((fe (fp (bs.getD i false).toNat)).map (vi .u64)).toArray)] (out := [fe (fp (bs.getD i false).toNat)].flatten.map (vi .u64)) rfl rfl (by decide) rfl rfl rfl (by decide) rfl (fillB1 (fe_len _)) rfl rfl rfl ?_
                refine AWo.append tbok (all := (((bp (bs.take (i + 1))).map fe).flatten).map (vi .u64)) (news := [fe (fp (bs.getD i false).toNat)].flatten.map (vi .u64)) 89000 rfl rfl rfl rfl (bp_FF (by omega)) (by show List.take _ (List.drop 0 _) = _; rw [List.drop_zero]; exact List.take_of_length_le (by simp)) (by simp; done) (by decide) rfl rfl rfl (by first | decide | exact Nat.one_ne_zero) rfl rfl rfl (by first | decide | omega) (by first | decide | omega) (oneM (fun _ => rfl) _) (by rw [bp_step hi, List.map_append, List.flatten_append, List.map_append]; rfl) rfl rfl ?_
                refine AWo.pure (PureOp.assign rfl) rfl rfl ?_
                refine AWo.nil trivial ?_
                refine inBlockA_normal ?_
                refine thenA_normal ?_
                refine AW.region ?_
                first | refine AWo.pure (PureOp.addI (b := 1) rfl rfl (by first | decide | omega)) rfl rfl ?_ | refine AWo.pure (PureOp.bin rfl rfl rfl) rfl rfl ?_
                refine AWo.pure (PureOp.move rfl) rfl rfl ?_
                refine AWo.nil trivial ?_
                refine thenA_normal ?_
                refine ⟨bs.length - (i + 1), [(77000, 89000)], _, by omega, ?_, i + 1, by omega, rfl, rfl⟩
                refine Wk.of [0, 1, 33000, 65000, 77000] ?_ ?_ ?_ (by decide) rfl
                ·
                  refine WkE.upd rfl (by first | exact VR.flat _ rfl | exact VR.eqv (vp_succ _) rfl | exact VR.eqv (vp_succ _).symm rfl | exact VR.eqv (by first | rfl | (congr 1; omega) | (simp; done) | (simp; omega)) rfl) ?_
                  refine WkE.upd rfl (by first | exact VR.flat _ rfl | exact VR.eqv (vp_succ _) rfl | exact VR.eqv (vp_succ _).symm rfl | exact VR.eqv (by first | rfl | (congr 1; omega) | (simp; done) | (simp; omega)) rfl) ?_
                  refine WkE.upd rfl (.slice (1) 0 _ 0 ⟨_, rfl⟩ (by simp) (by simp)) ?_
                  refine WkE.upd rfl (by first | exact .nilS _ (by simp) | exact .slice (77000) 0 _ 0 ⟨_, rfl⟩ (by simp) (by simp)) ?_
                  refine WkE.upd rfl (by first | exact VR.flat _ rfl | exact VR.eqv (vp_succ _) rfl | exact VR.eqv (vp_succ _).symm rfl | exact VR.eqv (by first | rfl | (congr 1; omega) | (simp; done) | (simp; omega)) rfl) ?_
                  refine WkE.upd rfl (.slice (65000) 0 _ 0 ⟨_, rfl⟩ (by simp) (by simp)) ?_
                  refine WkE.upd rfl (.slice (33000) 0 _ 0 ⟨_, rfl⟩ (by simp) (by simp)) ?_
                  exact WkE.emp
                ·
                  refine WkM.flat rfl (flatM flat_vi) (fun h => h) ?_
                  refine WkM.flat rfl (flatM flat_vi) (fun h => h) ?_
                  refine WkM.flat rfl (flatM flat_vi) (fun h => h) ?_
                  refine WkM.flat rfl (flatM flat_bool) (fun h => h) ?_
                  refine WkM.cloM rfl rfl (fun _ => rfl) (fun h => h) ?_
                  exact WkM.emp
                ·
                  repeat (refine dom_upd_mem (by decide) ?_)
                  exact dom_emp
              ·
                have hbi : bs.getD i false = false := hb5
                have hst : bN (bs.take (i + 1)) = 2 * bN (bs.take i) + 0 := by rw [bN_step hi, hbi]; rfl
                refine AW.skip ?_
                refine thenA_normal ?_
                refine AW.seqR ?_
                refine AWo.pure (PureOp.move rfl) rfl rfl ?_
                first | refine AWo.pure (PureOp.mulI (a := 2) rfl rfl (by first | decide | omega)) rfl rfl ?_ | refine AWo.pure (PureOp.bin rfl rfl rfl) rfl rfl ?_
                refine AWo.pure (PureOp.move rfl) rfl rfl ?_
                first | refine AWo.pure (PureOp.cvtN tbok 9223372036854775808 rfl rfl rfl (by decide) (by decide) (by first | decide | omega)) rfl rfl ?_ | refine AWo.pure (PureOp.cvt tbok rfl rfl rfl) rfl rfl ?_
                first | refine AWo.pure ((PureOp.addI rfl rfl (by first | decide | omega)).mono (v' := vi .i64 (bN (bs.take (i + 1)))) (congrArg (vi .i64) hst.symm)) rfl rfl ?_ | refine AWo.pure ((PureOp.bin rfl rfl rfl).mono (v' := vi .i64 (bN (bs.take (i + 1)))) (congrArg (vi .i64) hst.symm)) rfl rfl ?_
                refine AWo.pure (PureOp.assign rfl) rfl rfl ?_
                refine AWo.nil trivial ?_
                refine AW.region ?_
                refine AWo.pure (PureOp.move rfl) rfl rfl ?_
                refine AWo.pure (PureOp.move rfl) rfl rfl ?_
                refine AWo.callX (v := .agg ((fe (fp (bs.getD i false).toNat)).map (vi .u64)).toArray) (fromuF_ctr (v := 0) (by decide)) bd22 [] [] rfl (.cons rfl .nil) rfl (.cons rfl rfl .nil) .nil rfl .nil frN (by decide) (.pure (by first | rfl | exact pure_aggM flat_vi | exact pure_aggM flat_bool) .nil) (by rw [hbi]; rfl) rfl rfl rfl ?_
                refine AWo.buildSlice tbok 88000 [(0, .agg ((fe (fp (bs.getD i false).toNat)).map (vi .u64)).toArray)] (out := [fe (fp (bs.getD i false).toNat)].flatten.map (vi .u64)) rfl rfl (by decide) rfl rfl rfl (by decide) rfl (fillB1 (fe_len _)) rfl rfl rfl ?_
                refine AWo.append tbok (all := (((bp (bs.take (i + 1))).map fe).flatten).map (vi .u64)) (news := [fe (fp (bs.getD i false).toNat)].flatten.map (vi .u64)) 89000 rfl rfl rfl rfl (bp_FF (by omega)) (by show List.take _ (List.drop 0 _) = _; rw [List.drop_zero]; exact List.take_of_length_le (by simp)) (by simp; done) (by decide) rfl rfl rfl (by first | decide | exact Nat.one_ne_zero) rfl rfl rfl (by first | decide | omega) (by first | decide | omega) (oneM (fun _ => rfl) _) (by rw [bp_step hi, List.map_append, List.flatten_append, List.map_append]; rfl) rfl rfl ?_
                refine AWo.pure (PureOp.assign rfl) rfl rfl ?_
                refine AWo.nil trivial ?_
                refine inBlockA_normal ?_
                refine thenA_normal ?_
                refine AW.region ?_
                first | refine AWo.pure (PureOp.addI (b := 1) rfl rfl (by first | decide | omega)) rfl rfl ?_ | refine AWo.pure (PureOp.bin rfl rfl rfl) rfl rfl ?_
                refine AWo.pure (PureOp.move rfl) rfl rfl ?_
                refine AWo.nil trivial ?_
                refine thenA_normal ?_
                refine ⟨bs.length - (i + 1), [(77000, 89000)], _, by omega, ?_, i + 1, by omega, rfl, rfl⟩
                refine Wk.of [0, 1, 33000, 65000, 77000] ?_ ?_ ?_ (by decide) rfl
                ·
                  refine WkE.upd rfl (by first | exact VR.flat _ rfl | exact VR.eqv (vp_succ _) rfl | exact VR.eqv (vp_succ _).symm rfl | exact VR.eqv (by first | rfl | (congr 1; omega) | (simp; done) | (simp; omega)) rfl) ?_
                  refine WkE.upd rfl (by first | exact VR.flat _ rfl | exact VR.eqv (vp_succ _) rfl | exact VR.eqv (vp_succ _).symm rfl | exact VR.eqv (by first | rfl | (congr 1; omega) | (simp; done) | (simp; omega)) rfl) ?_
                  refine WkE.upd rfl (.slice (1) 0 _ 0 ⟨_, rfl⟩ (by simp) (by simp)) ?_
                  refine WkE.upd rfl (by first | exact .nilS _ (by simp) | exact .slice (77000) 0 _ 0 ⟨_, rfl⟩ (by simp) (by simp)) ?_
                  refine WkE.upd rfl (by first | exact VR.flat _ rfl | exact VR.eqv (vp_succ _) rfl | exact VR.eqv (vp_succ _).symm rfl | exact VR.eqv (by first | rfl | (congr 1; omega) | (simp; done) | (simp; omega)) rfl) ?_
                  refine WkE.upd rfl (.slice (65000) 0 _ 0 ⟨_, rfl⟩ (by simp) (by simp)) ?_
                  refine WkE.upd rfl (.slice (33000) 0 _ 0 ⟨_, rfl⟩ (by simp) (by simp)) ?_
                  exact WkE.emp
                ·
                  refine WkM.flat rfl (flatM flat_vi) (fun h => h) ?_
                  refine WkM.flat rfl (flatM flat_vi) (fun h => h) ?_
                  refine WkM.flat rfl (flatM flat_vi) (fun h => h) ?_
                  refine WkM.flat rfl (flatM flat_bool) (fun h => h) ?_
                  refine WkM.cloM rfl rfl (fun _ => rfl) (fun h => h) ?_
                  exact WkM.emp
                ·
                  repeat (refine dom_upd_mem (by decide) ?_)
                  exact dom_emp
            ·
              obtain rfl : i = bs.length := by have := of_decide_eq_false hb4; omega
              rw [List.take_length]
              have hxs : xs.length = 2 ^ bs.length := by omega
              have hbn := bN_lt bs
              obtain ⟨hev, hec⟩ := eT_corner hxs hl
              have hcc : chC [xs, sameT bs] = 0 := ch_two hl hxs hsl
              have htt := tot_corner hxs hl
              have hs2 : ∀ t ∈ [xs, sameT bs], t.length < 1000000 := by intro t ht; simp at ht; rcases ht with rfl | rfl <;> omega
              refine AW.exit ?_
              refine thenA_exit ?_
              refine thenA_exit ?_
              refine inBlockA_hit ?_
              refine thenA_normal ?_
              refine AW.seqR ?_
              refine AWo.pure (PureOp.move rfl) rfl rfl ?_
              refine AWo.pure (PureOp.move rfl) rfl rfl ?_
              refine AWo.callX (evT_ctr (xs := xs) (ps := bp bs) (n := Ls.length) (k := bs.length) hxl (bp_len bs) (by omega) (by omega)) bd13 [(65000, 0), (77000, 0)] [] rfl (.cons rfl (.cons rfl .nil)) rfl (.cons rfl rfl (.cons rfl rfl .nil)) (.flat rfl (flatM flat_vi) (by intro h; first | exact h | rfl) (.flat rfl (flatM flat_vi) (by intro h; first | exact h | rfl) .nil)) rfl (.keep rfl (.keep rfl .nil)) frN (by decide) (.pure (by first | rfl | exact pure_aggM flat_vi | exact pure_aggM flat_bool) (.cons rfl rfl .nil)) rfl rfl rfl rfl ?_
              refine AWo.pure (PureOp.move rfl) rfl rfl ?_
              refine AWo.pure (PureOp.extract rfl rfl) rfl rfl ?_
              refine AWo.pure (PureOp.extract rfl rfl) rfl rfl ?_
              refine AWo.alloc tbok 15000 1 _ rfl rfl rfl rfl rfl rfl ?_
              refine AWo.storeAllN tbok rfl rfl rfl rfl (by first | (simp [*]; done) | rfl) (by first | (simp [*]; done) | rfl) (by first | exact oneM (fun _ => rfl) _ | rfl | (simp; done)) rfl ?_
              refine AWo.pure (PureOp.assign rfl) rfl rfl ?_
              refine AWo.nil trivial ?_
              refine AW.freeze 7 65000 (((xs.map fe).flatten).map (vi .u64)) ?_ rfl rfl (cloM fun _ => rfl) (by rw [FF_len4, hxl]; omega) (by rw [List.drop_zero]; exact List.take_of_length_le (by rw [FF_len4, hxl]; omega))
              rw [show deep Ls.length 4 (((xs.map fe).flatten).map (vi .u64)) = dt xs by rw [dt, hxl]]
              refine AW.freeze 5 33000 ((((sameT bs).map fe).flatten).map (vi .u64)) ?_ rfl rfl (cloM fun _ => rfl) (by rw [FF_len4]; omega) (by rw [List.drop_zero]; exact List.take_of_length_le (by rw [FF_len4]; omega))
              rw [show deep (sameT bs).length 4 ((((sameT bs).map fe).flatten).map (vi .u64)) = dt (sameT bs) from rfl]
              refine AW.seqR ?_
              refine AWo.pure (PureOp.move rfl) rfl rfl ?_
              refine AWo.pure (PureOp.move rfl) rfl rfl ?_
              refine AWo.buildSlice tbok 100000 [(0, dt xs), (1, dt (sameT bs))] (out := [dt xs, dt (sameT bs)]) rfl rfl (by decide) rfl rfl rfl (by decide) rfl rfl rfl rfl rfl ?_
              refine AWo.callX (Total_ctr (Ts := [xs, sameT bs]) (k := 2) rfl (by decide) hs2) bd29 [(100000, 0)] [] rfl (.cons rfl .nil) rfl (.cons rfl rfl .nil) (.clo rfl (cloM fun _ => rfl) (by intro h; first | exact h | rfl) .nil) rfl (.keep rfl .nil) frN (by decide) (.pure (by first | rfl | exact pure_aggM flat_vi | exact pure_aggM flat_bool) (.cons rfl rfl .nil)) rfl rfl rfl rfl ?_
              refine AWo.pure (PureOp.move rfl) rfl rfl ?_
              refine AWo.pure (PureOp.extract rfl rfl) rfl rfl ?_
              refine AWo.pure (PureOp.extract rfl rfl) rfl rfl ?_
              refine AWo.alloc tbok 16000 1 _ rfl rfl rfl rfl rfl rfl ?_
              refine AWo.storeAllN tbok rfl rfl rfl rfl (by first | (simp [*]; done) | rfl) (by first | (simp [*]; done) | rfl) (by first | exact oneM (fun _ => rfl) _ | rfl | (simp; done)) rfl ?_
              refine AWo.pure (PureOp.assign rfl) rfl rfl ?_
              refine AWo.nil trivial ?_
              refine AW.seqD mixed ?_
              refine AWo.pure (PureOp.move rfl) rfl rfl ?_
              first | refine AWo.pure ((PureOp.eqN (b := 0) rfl rfl).mono (v' := .bool true) (congrArg Value.bool (by rw [hec]; rfl))) rfl rfl ?_ | refine AWo.pure ((PureOp.bin rfl rfl rfl).mono (v' := .bool true) (congrArg Value.bool (by rw [hec]; rfl))) rfl rfl ?_
              refine AWo.pure (PureOp.move rfl) rfl rfl ?_
              refine AWo.pure (PureOp.move rfl) rfl rfl ?_
              first | refine AWo.pure ((PureOp.eqN (b := 0) rfl rfl).mono (v' := .bool true) (congrArg Value.bool (by rw [hcc]; rfl))) rfl rfl ?_ | refine AWo.pure ((PureOp.bin rfl rfl rfl).mono (v' := .bool true) (congrArg Value.bool (by rw [hcc]; rfl))) rfl rfl ?_
              refine AWo.pure (PureOp.pickT rfl rfl) rfl rfl ?_
              refine AWo.pure (PureOp.move rfl) rfl rfl ?_
              first | refine yLE ?_ | refine yLEi ?_
              refine AWo.pureX 112000 (n := xs.length) (es := 4) (cells := ((xs.map fe).flatten).map (vi .u64)) (PureOp.move rfl) rfl rfl rfl ?_
              refine AWo.pure (PureOp.move rfl) rfl rfl ?_
              first | refine AWo.pure (PureOp.idx1 tbok rfl rfl rfl rfl (by first | decide | omega)) rfl rfl ?_ | refine AWo.pure (PureOp.idx tbok rfl rfl rfl rfl (by first | decide | omega)) rfl rfl ?_
              refine yLJ (xs := xs) (bN bs) ?_
              refine AWo.callX (v := .bool true) (equalF_ctr (x := (eT xs (bp bs))) (y := (xs.getD (bN bs) 0))) bd24 [] [] rfl (.cons rfl (.cons rfl .nil)) rfl (.pure (by first | rfl | exact pure_aggM flat_vi | exact pure_aggM flat_bool) (.pure (by first | rfl | exact pure_aggM flat_vi | exact pure_aggM flat_bool) .nil)) .nil rfl .nil frN (by decide) (.cons rfl rfl .nil) (congrArg Value.bool (decide_eq_true (hev))) rfl rfl rfl ?_
              refine AWo.pure (PureOp.pickT rfl rfl) rfl rfl ?_
              refine AWo.pure (PureOp.move rfl) rfl rfl ?_
              first | refine yLE ?_ | refine yLEi ?_
              refine AWo.pureX 120000 (n := xs.length) (es := 4) (cells := ((xs.map fe).flatten).map (vi .u64)) (PureOp.move rfl) rfl rfl rfl ?_
              refine AWo.pure (PureOp.move rfl) rfl rfl ?_
              first | refine AWo.pure (PureOp.idx1 tbok rfl rfl rfl rfl (by first | decide | omega)) rfl rfl ?_ | refine AWo.pure (PureOp.idx tbok rfl rfl rfl rfl (by first | decide | omega)) rfl rfl ?_
              refine yLJ (xs := xs) (bN bs) ?_
              refine AWo.callX (v := .bool true) (equalF_ctr (x := (toT [xs, sameT bs])) (y := (xs.getD (bN bs) 0))) bd24 [] [] rfl (.cons rfl (.cons rfl .nil)) rfl (.pure (by first | rfl | exact pure_aggM flat_vi | exact pure_aggM flat_bool) (.pure (by first | rfl | exact pure_aggM flat_vi | exact pure_aggM flat_bool) .nil)) .nil rfl .nil frN (by decide) (.cons rfl rfl .nil) (congrArg Value.bool (decide_eq_true (htt))) rfl rfl rfl ?_
              refine AWo.pure (PureOp.pickT rfl rfl) rfl rfl ?_
              refine AWo.pure (PureOp.assign rfl) rfl rfl ?_
              refine AWo.nil (by kernel_rfl) ?_
              refine AW.ret ?_
              refine RetQ.gc [_] [] [.tmp 4] (.inl rfl) rfl (.tmp rfl .nil) rfl (.cons rfl rfl .nil) (OutL.clo rfl (cloM fun _ => rfl) (by intro h; exact h.elim id fun h => absurd h.1 (by simp)) (OutL.flat rfl (flatM flat_bool) (by intro h; exact h.elim id fun h => absurd h.1 (by simp)) trivial)) (by decide) rfl
end Go.Proofs.YteeifahhejangaaDoor
namespace Go.Proofs.YteeifahhejangaaDoor
open Go
namespace Head
set_option maxRecDepth 100000 in
theorem words : ∃ l, Tryd.prog.initOrder = String.ofList l ∧ (behindMainWord (wordsSigns l)).head? = some "cut".toList := ⟨_, rfl, by kernel_rfl⟩
theorem head_of {P : Program} (h : ∃ l, P.initOrder = String.ofList l ∧ (behindMainWord (wordsSigns l)).head? = some "cut".toList) :
    ∃ rest, behindMainWord (wordsSigns P.initOrder.toList) = "cut".toList :: rest := by
  obtain ⟨l, h, hh⟩ := h
  rw [h, String.toList_ofList]
  cases hb : behindMainWord (wordsSigns l) with
  | nil => rw [hb] at hh; cases hh
  | cons c r => rw [hb] at hh; simp only [List.head?_cons, Option.some.injEq] at hh; exact ⟨r, by rw [hh]⟩
theorem cut_words : (liftWords.all fun s => !("cut".toList == s.toList)) = true := by decide +kernel
theorem strip_cut (rest : List (List Char)) : stripLifts liftWords ("cut".toList :: rest) = ([], "cut".toList :: rest) := by
  have key : ∀ o : List String, (o.all fun s => !("cut".toList == s.toList)) = true → stripLifts o ("cut".toList :: rest) = ([], "cut".toList :: rest) := by
    intro o
    induction o with
    | nil => intro _; rfl
    | cons s o ih =>
      intro h
      simp only [List.all_cons, Bool.and_eq_true, Bool.not_eq_true'] at h
      rw [stripLifts, if_neg (by rw [h.1]; exact Bool.false_ne_true)]
      exact ih h.2
  exact key liftWords cut_words
theorem mayEnter_of {P : Program} {rest : List (List Char)} (hr : behindMainWord (wordsSigns P.initOrder.toList) = "cut".toList :: rest) (e1 : P.laysLater = false) (e2 : P.bearsReflect = false) (e3 : P.doorFits [] = true) : P.mayEnter = true := by
  unfold Program.mayEnter
  rw [hr]
  simp only [strip_cut, e1, e2, e3]
  simp
theorem headLifts_of {P : Program} {rest : List (List Char)} (hr : behindMainWord (wordsSigns P.initOrder.toList) = "cut".toList :: rest) : P.headLifts = [] := by
  unfold Program.headLifts
  rw [hr, strip_cut]
  simp
theorem cut_ne : ("cut".toList == "carried".toList) = false ∧ ("cut".toList == "gc".toList) = false ∧ ("cut".toList == "spec".toList) = false := by decide +kernel
theorem liftsFinal_of {P : Program} {rest : List (List Char)} (hr : behindMainWord (wordsSigns P.initOrder.toList) = "cut".toList :: rest) : P.liftsFinal = false := by
  unfold Program.liftsFinal
  rw [hr, headLifts_of hr]
  simp
theorem make_of {P : Program} {rest : List (List Char)} (hr : behindMainWord (wordsSigns P.initOrder.toList) = "cut".toList :: rest) : P.make = some .cut := by
  unfold Program.make
  rw [hr]
  simp only [cut_ne.2.1, cut_ne.2.2, beq_self_eq_true]
  simp
theorem laysLater : Tryd.prog.laysLater = false := by kernel_rfl
theorem bearsReflect : Tryd.prog.bearsReflect = false := by kernel_rfl
theorem doorFits : Tryd.prog.doorFits [] = true := by kernel_rfl
theorem mayEnter : Tryd.prog.mayEnter = true := let ⟨_, hr⟩ := head_of words; mayEnter_of hr laysLater bearsReflect doorFits
theorem liftsFinal : Tryd.prog.liftsFinal = false := let ⟨_, hr⟩ := head_of words; liftsFinal_of hr
theorem make_cut : Tryd.prog.make = some .cut := let ⟨_, hr⟩ := head_of words; make_of hr
theorem band {a b : Bool} (ha : a = true) (hb : b = true) : (a && b) = true := by rw [ha, hb]; rfl
end Head
end Go.Proofs.YteeifahhejangaaDoor
