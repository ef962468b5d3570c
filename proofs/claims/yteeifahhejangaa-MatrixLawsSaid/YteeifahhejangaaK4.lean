/- What the proof stands on, part 4: the walk of each function, and plain laws of numbers. -/
import Derived.Test.YteeifahhejangaaK3
import Derived.KernelRfl
namespace Go.Proofs.Yteeifahhejangaa
open Go Sim
def pw : List Nat := digs 18446744073709551616 4 21888242871839275222246405745257275088548364400416034343698204186575808495617
theorem pw_len : pw.length = 4 := digs_len _ _
theorem pw_num : num 18446744073709551616 pw = 21888242871839275222246405745257275088548364400416034343698204186575808495617 := num_digs_lt (by decide)
theorem pw_bd : bd 18446744073709551616 pw := digs_bd (by decide) _ _
theorem pwOk : MwOk pw := ⟨pw_bd, by rw [pw_len]; decide, by rw [pw_len]; decide, by rw [pw_num]; decide⟩
theorem pw_0 : pw.getD 0 0 = 4891460686036598785 := by kernel_rfl
theorem pw_3 : pw.getD (pw.length - 1) 0 = 3486998266802970665 := by rw [pw_len]; kernel_rfl
theorem newP_ctr : GC Try.prog 85 [.slice (some ⟨0, 0, none⟩) pw.length 0] [⟨pw.map (vi .u64), false, 1⟩] [.pointer (some ⟨1, 0, none⟩), .int .i64 0] [⟨pw.map (vi .u64), false, 1⟩, ⟨[.slice (some ⟨2, 0, none⟩) pw.length 0, vi .u64 (ninvR (pw.getD 0 0)), .slice (some ⟨3, 0, none⟩) pw.length 0], true, 1⟩, ⟨(pw).map (vi .u64), true, 1⟩, ⟨(digs 18446744073709551616 pw.length (18446744073709551616 ^ pw.length * 18446744073709551616 ^ pw.length % num 18446744073709551616 pw)).map (vi .u64), true, 1⟩] := lnew_ctr pw_bd (by rw [pw_len]; decide) (by rw [pw_len]; decide) (by rw [pw_0]) (by rw [pw_3]; decide) (by rw [pw_len]; decide)
theorem redP_ctr {a : List Nat} {sq : List Nat} {iv ns na xa : Nat} (hna : a.length = na) (hxa : num 18446744073709551616 a = xa) (ha : bd 18446744073709551616 a) (hla : na ≤ 1000) : GC Try.prog 87 [.pointer (some ⟨0, 0, none⟩), .slice (some ⟨3, 0, none⟩) na 0] [⟨[.slice (some ⟨1, 0, none⟩) pw.length 0, vi .u64 iv, .slice (some ⟨2, 0, none⟩) ns 0], false, 1⟩, ⟨(pw).map (vi .u64), false, 1⟩, ⟨(sq).map (vi .u64), false, 1⟩, ⟨a.map (vi .u64), false, 1⟩] [.slice (some ⟨4, 0, none⟩) 4 0] [⟨[.slice (some ⟨1, 0, none⟩) pw.length 0, vi .u64 iv, .slice (some ⟨2, 0, none⟩) ns 0], false, 1⟩, ⟨(pw).map (vi .u64), false, 1⟩, ⟨(sq).map (vi .u64), false, 1⟩, ⟨a.map (vi .u64), false, 1⟩, ⟨(digs 18446744073709551616 4 (xa % 21888242871839275222246405745257275088548364400416034343698204186575808495617)).map (vi .u64), true, 1⟩] := by
 have h := reduce_ctr (mw := pw) (iv := iv) (sq := sq) (ns := ns) pwOk ha (by omega)
 rw [pw_len, pw_num, hna, hxa] at h
 rw [pw_len]
 exact h
theorem rest4 {x : Nat} : num 18446744073709551616 (digs 18446744073709551616 4 (x % 21888242871839275222246405745257275088548364400416034343698204186575808495617)) = x % 21888242871839275222246405745257275088548364400416034343698204186575808495617 := num_digs_lt (Nat.lt_trans (Nat.mod_lt _ (by decide)) (by decide))
theorem inv_words {e : Nat} (he : e = 21888242871839275222246405745257275088548364400416034343698204186575808495617 - 2) : (digs 18446744073709551616 4 21888242871839275222246405745257275088548364400416034343698204186575808495617).set 0 4891460686036598783 = digs 18446744073709551616 4 e := by subst he; kernel_rfl
theorem fsum_room {vs : List Nat} {i : Nat} (hi : i < vs.length) : 0 + i * 4 + 4 ≤ (((vs.map fel).flatten).map (vi .u64)).length := by
 rw [List.length_map, flat_len (n := 4) (fun x hx => by obtain ⟨y, _, rfl⟩ := List.mem_map.1 hx; exact fel_len y), List.length_map]
 omega
theorem fsum_at {vs : List Nat} {i : Nat} (hi : i < vs.length) : ((((vs.map fel).flatten).map (vi .u64)).drop (0 + i * 4)).take 4 = (fel (vs.getD i 0)).map (vi .u64) := by
 rw [Nat.zero_add, flat_take_map (n := 4) (fun x hx => by obtain ⟨y, _, rfl⟩ := List.mem_map.1 hx; exact fel_len y) (by rw [List.length_map]; exact hi)]
 rw [List.getD_eq_getElem?_getD, List.getD_eq_getElem?_getD, List.getElem?_map, List.getElem?_eq_getElem hi]
 rfl
theorem fsum_next {vs : List Nat} {i : Nat} (hi : i < vs.length) : (vs.take (i + 1)).foldl (fun a b => (a + b) % 21888242871839275222246405745257275088548364400416034343698204186575808495617) 0 = ((vs.take i).foldl (fun a b => (a + b) % 21888242871839275222246405745257275088548364400416034343698204186575808495617) 0 + vs.getD i 0) % 21888242871839275222246405745257275088548364400416034343698204186575808495617 := by
 rw [List.take_succ_eq_append_getElem hi, List.foldl_append, List.getD_eq_getElem?_getD, List.getElem?_eq_getElem hi]
 rfl
theorem emulP_ctr {u v : Nat} : GC Try.prog 35 [.agg ((fel u).map (vi .u64)).toArray, .agg ((fel v).map (vi .u64)).toArray] [] [.agg ((fel (u * v % 21888242871839275222246405745257275088548364400416034343698204186575808495617)).map (vi .u64)).toArray] [] := by
 have h := emul_ctr (u := u) (v := v)
 rw [← fel_mod (u * v)] at h
 exact h
theorem add_fel {u v : Nat} : digs 18446744073709551616 4 (num 18446744073709551616 (digs 18446744073709551616 4 (num 18446744073709551616 (fel u) + num 18446744073709551616 (fel v))) % 21888242871839275222246405745257275088548364400416034343698204186575808495617) = fel ((u + v) % 21888242871839275222246405745257275088548364400416034343698204186575808495617) := by
 have h1 := fel_lt u
 have h2 := fel_lt v
 rw [num_digs_lt (by omega), num_fel, num_fel, fel_mod, fel, ← Nat.add_mod, Nat.add_mul]
theorem sub_fel {u v : Nat} (hv : v < 21888242871839275222246405745257275088548364400416034343698204186575808495617) : (u + (21888242871839275222246405745257275088548364400416034343698204186575808495617 - v)) * 18446744073709551616 ^ 4 % 21888242871839275222246405745257275088548364400416034343698204186575808495617 = (num 18446744073709551616 (fel u) + (21888242871839275222246405745257275088548364400416034343698204186575808495617 - num 18446744073709551616 (fel v))) % 21888242871839275222246405745257275088548364400416034343698204186575808495617 := by
 have h1 := fel_lt u
 have h2 := fel_lt v
 have h3 : ((u + (21888242871839275222246405745257275088548364400416034343698204186575808495617 - v)) * 18446744073709551616 ^ 4 % 21888242871839275222246405745257275088548364400416034343698204186575808495617 + num 18446744073709551616 (fel v)) % 21888242871839275222246405745257275088548364400416034343698204186575808495617 = num 18446744073709551616 (fel u) := by
  rw [num_fel, num_fel, ← Nat.add_mod, ← Nat.add_mul, show u + (21888242871839275222246405745257275088548364400416034343698204186575808495617 - v) + v = u + 21888242871839275222246405745257275088548364400416034343698204186575808495617 by omega, Nat.add_mul, Nat.add_mul_mod_self_left]
 have h4 := Nat.mod_lt ((u + (21888242871839275222246405745257275088548364400416034343698204186575808495617 - v)) * 18446744073709551616 ^ 4) (show 0 < 21888242871839275222246405745257275088548364400416034343698204186575808495617 by decide)
 omega
theorem sub_fel_ge {u v : Nat} (hv : v < 21888242871839275222246405745257275088548364400416034343698204186575808495617) (h : num 18446744073709551616 (fel v) ≤ num 18446744073709551616 (fel u)) : digs 18446744073709551616 4 (num 18446744073709551616 (fel u) + 18446744073709551616 ^ 4 - num 18446744073709551616 (fel v)) = fel ((u + (21888242871839275222246405745257275088548364400416034343698204186575808495617 - v)) % 21888242871839275222246405745257275088548364400416034343698204186575808495617) := by
 have h1 := fel_lt u
 refine num_inj (digs_bd (by decide) _ _) (bd_fel _) (by rw [digs_len, fel_len]) ?_
 rw [num_digs, num_fel ((u + (21888242871839275222246405745257275088548364400416034343698204186575808495617 - v)) % 21888242871839275222246405745257275088548364400416034343698204186575808495617), Nat.mod_mul_mod, sub_fel hv]
 omega
theorem sub_fel_lt {u v : Nat} (hv : v < 21888242871839275222246405745257275088548364400416034343698204186575808495617) (h : num 18446744073709551616 (fel u) < num 18446744073709551616 (fel v)) : digs 18446744073709551616 4 (num 18446744073709551616 (digs 18446744073709551616 4 (num 18446744073709551616 (fel u) + 18446744073709551616 ^ 4 - num 18446744073709551616 (fel v))) + num 18446744073709551616 (digs 18446744073709551616 4 21888242871839275222246405745257275088548364400416034343698204186575808495617)) = fel ((u + (21888242871839275222246405745257275088548364400416034343698204186575808495617 - v)) % 21888242871839275222246405745257275088548364400416034343698204186575808495617) := by
 have h1 := fel_lt u
 have h2 := fel_lt v
 refine num_inj (digs_bd (by decide) _ _) (bd_fel _) (by rw [digs_len, fel_len]) ?_
 rw [num_digs, num_fel ((u + (21888242871839275222246405745257275088548364400416034343698204186575808495617 - v)) % 21888242871839275222246405745257275088548364400416034343698204186575808495617), Nat.mod_mul_mod, sub_fel hv, num_digs, num_digs]
 omega
theorem one_word {x : Nat} (hx : x < 18446744073709551616) : digs 18446744073709551616 4 x = [x, 0, 0, 0] := by
 simp only [digs, Nat.mod_eq_of_lt hx, Nat.div_eq_of_lt hx]
set_option maxRecDepth 10000 in
theorem eaddP_ctr {u v : Nat} : GC Try.prog 33 [.agg ((fel u).map (vi .u64)).toArray, .agg ((fel v).map (vi .u64)).toArray] [] [.agg ((fel ((u + v) % 21888242871839275222246405745257275088548364400416034343698204186575808495617)).map (vi .u64)).toArray] [] := by
 refine gi Try.func33 ?_
 have hd1 := fel_len u
 have hd2 := fel_len v
 have hd3 := fel_len ((u + v) % 21888242871839275222246405745257275088548364400416034343698204186575808495617)
 have h1 := fel_lt u
 have h2 := fel_lt v
 have hds := digs_len (B := 18446744073709551616) 4 (num 18446744073709551616 (fel u) + num 18446744073709551616 (fel v))
 refine zS ?_
 refine yO 3000 1 ((fel u).map (vi .u64)) ?_
 refine yO 4000 1 ((fel v).map (vi .u64)) ?_
 refine yN 5000 1 _ ?_
 refine zN (zS ?_)
 refine yP pF ?_
 refine AWo.loadAgg tbok (vs := (fel u).map (vi .u64)) rfl rfl rfl rfl (by simp [fel_len]) (ld4 (fel_len _)) rfl rfl ?_
 refine yP pF ?_
 refine AWo.loadAgg tbok (vs := (fel v).map (vi .u64)) rfl rfl rfl rfl (by simp [fel_len]) (ld4 (fel_len _)) rfl rfl ?_
 refine yC (plus_ctr (bd_fel u) (bd_fel v) (fel_len u) (fel_len v)) bd92 [] [] ?_
 refine yC (below_ctr (a := digs 18446744073709551616 4 (num 18446744073709551616 (fel u) + num 18446744073709551616 (fel v))) (digs_bd (by decide) _ _) (digs_len _ _) (by rw [num_digs_lt (by omega)]; omega)) bd91 [] [] ?_
 rw [add_fel]
 refine yP (build50 (by exact digs_len _ _) rfl) ?_
 refine ySA ?_
 refine zN (zE ?_)
 exact rq [] [.cell 4 33]
set_option maxRecDepth 10000 in
theorem esubP_ctr {u v : Nat} (hv : v < 21888242871839275222246405745257275088548364400416034343698204186575808495617) : GC Try.prog 96 [.agg ((fel u).map (vi .u64)).toArray, .agg ((fel v).map (vi .u64)).toArray] [] [.agg ((fel ((u + (21888242871839275222246405745257275088548364400416034343698204186575808495617 - v)) % 21888242871839275222246405745257275088548364400416034343698204186575808495617)).map (vi .u64)).toArray] [] := by
 refine gi Try.func96 ?_
 have hd1 := fel_len u
 have hd2 := fel_len v
 have hd3 := fel_len ((u + (21888242871839275222246405745257275088548364400416034343698204186575808495617 - v)) % 21888242871839275222246405745257275088548364400416034343698204186575808495617)
 have hd4 := digs_len (B := 18446744073709551616) 4 (num 18446744073709551616 (fel u) + 18446744073709551616 ^ 4 - num 18446744073709551616 (fel v))
 have hd5 := digs_len (B := 18446744073709551616) 4 (num 18446744073709551616 (digs 18446744073709551616 4 (num 18446744073709551616 (fel u) + 18446744073709551616 ^ 4 - num 18446744073709551616 (fel v))) + num 18446744073709551616 (digs 18446744073709551616 4 21888242871839275222246405745257275088548364400416034343698204186575808495617))
 have hsub := sub_fel (u := u) hv
 refine zS ?_
 refine yO 3000 1 ((fel u).map (vi .u64)) ?_
 refine yO 4000 1 ((fel v).map (vi .u64)) ?_
 refine yN 5000 1 _ ?_
 refine zN (zS ?_)
 refine yP pF ?_
 refine AWo.loadAgg tbok (vs := (fel u).map (vi .u64)) rfl rfl rfl rfl (by simp [fel_len]) (ld4 (fel_len _)) rfl rfl ?_
 refine yP pF ?_
 refine AWo.loadAgg tbok (vs := (fel v).map (vi .u64)) rfl rfl rfl rfl (by simp [fel_len]) (ld4 (fel_len _)) rfl rfl ?_
 refine yC (borrow_ctr (bd_fel u) (bd_fel v) (fel_len u) (fel_len v)) bd120 [] [] ?_
 refine yM ?_
 refine yP pX ?_
 refine yP pX ?_
 refine yN 6000 1 ((List.replicate 4 0).map (vi .u64)) ?_
 refine ySA ?_
 refine yA ?_
 refine zN (zQ (zS ?_))
 refine yM ?_
 refine yP (pNe (b := 0)) ?_
 refine zN ?_
 refine zA (fun hb0 => ?_) (fun hb0 => ?_)
 ·
  have hlt : num 18446744073709551616 (fel u) < num 18446744073709551616 (fel v) := by
   rcases Nat.lt_or_ge (num 18446744073709551616 (fel u)) (num 18446744073709551616 (fel v)) with h | h
   · exact h
   · rw [if_neg (by omega)] at hb0; simp at hb0
  refine AW.draw mixed ?_
  refine AWo.loadAgg tbok (vs := (digs 18446744073709551616 4 (num 18446744073709551616 (fel u) + 18446744073709551616 ^ 4 - num 18446744073709551616 (fel v))).map (vi .u64)) rfl rfl rfl rfl (by simp [digs_len]) (ld4 (digs_len _ _)) rfl rfl ?_
  refine yC (prime_ctr) bd84 [] [] ?_
  refine yC (plus_ctr (a := digs 18446744073709551616 4 (num 18446744073709551616 (fel u) + 18446744073709551616 ^ 4 - num 18446744073709551616 (fel v))) (b := digs 18446744073709551616 4 21888242871839275222246405745257275088548364400416034343698204186575808495617) (digs_bd (by decide) _ _) (digs_bd (by decide) _ _) (digs_len _ _) (digs_len _ _)) bd92 [] [] ?_
  rw [sub_fel_lt hv hlt]
  refine ySA ?_
  refine zD (zT (zS ?_))
  refine AWo.loadAgg tbok (vs := (fel ((u + (21888242871839275222246405745257275088548364400416034343698204186575808495617 - v)) % 21888242871839275222246405745257275088548364400416034343698204186575808495617)).map (vi .u64)) rfl rfl rfl rfl (by simp [fel_len]) (ld4 (fel_len _)) rfl rfl ?_
  refine yP (build50 (by exact digs_len _ _) rfl) ?_
  refine ySA ?_
  refine zN (zE ?_)
  exact rq [] [.cell 4 33]
 ·
  have hge : num 18446744073709551616 (fel v) ≤ num 18446744073709551616 (fel u) := by
   rcases Nat.lt_or_ge (num 18446744073709551616 (fel u)) (num 18446744073709551616 (fel v)) with h | h
   · rw [if_pos h] at hb0; simp at hb0
   · exact h
  rw [sub_fel_ge hv hge]
  refine zK (zT (zS ?_))
  refine AWo.loadAgg tbok (vs := (fel ((u + (21888242871839275222246405745257275088548364400416034343698204186575808495617 - v)) % 21888242871839275222246405745257275088548364400416034343698204186575808495617)).map (vi .u64)) rfl rfl rfl rfl (by simp [fel_len]) (ld4 (fel_len _)) rfl rfl ?_
  refine yP (build50 (by exact digs_len _ _) rfl) ?_
  refine ySA ?_
  refine zN (zE ?_)
  exact rq [] [.cell 4 33]
set_option maxRecDepth 10000 in
theorem enegP_ctr {v : Nat} (hv : v < 21888242871839275222246405745257275088548364400416034343698204186575808495617) : GC Try.prog 45 [.agg ((fel v).map (vi .u64)).toArray] [] [.agg ((fel ((0 + (21888242871839275222246405745257275088548364400416034343698204186575808495617 - v)) % 21888242871839275222246405745257275088548364400416034343698204186575808495617)).map (vi .u64)).toArray] [] := by
 refine gi Try.func45 ?_
 have hd1 := fel_len v
 have hd2 := fel_len ((0 + (21888242871839275222246405745257275088548364400416034343698204186575808495617 - v)) % 21888242871839275222246405745257275088548364400416034343698204186575808495617)
 refine zS ?_
 refine yO 2000 1 ((fel v).map (vi .u64)) ?_
 refine yN 3000 1 _ ?_
 refine zN (zS ?_)
 refine yP ((PureOp.buildStruct [] pl33.choose_spec.1 zr33 (by decide) pl33.choose_spec.2 rfl rfl).mono (v' := .agg ((fel 0).map (vi .u64)).toArray) (by rw [fel_zero]; rfl)) ?_
 refine AWo.loadAgg tbok (vs := (fel v).map (vi .u64)) rfl rfl rfl rfl (by simp [fel_len]) (ld4 (fel_len _)) rfl rfl ?_
 refine yC (esubP_ctr (u := 0) (v := v) hv) bd96 [] [] ?_
 refine ySA ?_
 refine zN (zE ?_)
 exact rq [] [.cell 2 33]
set_option maxRecDepth 10000 in
theorem esqP_ctr {v : Nat} : GC Try.prog 147 [.agg ((fel v).map (vi .u64)).toArray] [] [.agg ((fel (v * v % 21888242871839275222246405745257275088548364400416034343698204186575808495617)).map (vi .u64)).toArray] [] := by
 refine gi Try.func147 ?_
 have hd1 := fel_len v
 have hd2 := fel_len (v * v % 21888242871839275222246405745257275088548364400416034343698204186575808495617)
 refine zS ?_
 refine yO 2000 1 ((fel v).map (vi .u64)) ?_
 refine yN 3000 1 _ ?_
 refine zN (zS ?_)
 refine AWo.loadAgg tbok (vs := (fel v).map (vi .u64)) rfl rfl rfl rfl (by simp [fel_len]) (ld4 (fel_len _)) rfl rfl ?_
 refine AWo.loadAgg tbok (vs := (fel v).map (vi .u64)) rfl rfl rfl rfl (by simp [fel_len]) (ld4 (fel_len _)) rfl rfl ?_
 refine yC (emulP_ctr (u := v) (v := v)) bd35 [] [] ?_
 refine ySA ?_
 refine zN (zE ?_)
 exact rq [] [.cell 2 33]
set_option maxRecDepth 10000 in
theorem fromuP_ctr {x : Nat} (hx : x < 18446744073709551616) : GC Try.prog 37 [vi .u64 (x)] [] [.agg ((fel x).map (vi .u64)).toArray] [] := by
 refine gi Try.func37 ?_
 have hd1 := fel_len (num 18446744073709551616 (digs 18446744073709551616 4 x))
 have hd2 := fel_len x
 have h4 : x < 18446744073709551616 ^ 4 := Nat.lt_of_lt_of_le hx (by decide)
 refine zS ?_
 refine yN 3000 1 _ ?_
 refine zN (zS ?_)
 refine yM ?_
 refine yP ((PureOp.buildArr tbok [(0, vi .u64 x)] rfl rfl rfl (by decide) rfl rfl).mono (v' := .agg ((digs 18446744073709551616 4 x).map (vi .u64)).toArray) (by rw [one_word hx]; rfl)) ?_
 refine yC (enter_ctr (a := digs 18446744073709551616 4 x) (digs_bd (by decide) _ _) (digs_len _ _) (by rw [num_digs_lt h4]; exact Nat.lt_trans hx (by decide))) bd86 [] [] ?_
 rw [num_digs_lt h4]
 refine ySA ?_
 refine zN (zE ?_)
 exact rq [] [.cell 2 33]
set_option maxRecDepth 10000 in
theorem fromwide_ctr {b : List Nat} (hb : bd 256 b) (hlb : b.length ≤ 1000) : GC Try.prog 30 [.slice (some ⟨0, 0, none⟩) b.length 0] [⟨b.map (vi .u8), false, 1⟩] [.agg ((fel (num 256 b % 21888242871839275222246405745257275088548364400416034343698204186575808495617)).map (vi .u64)).toArray] [⟨b.map (vi .u8), false, 1⟩] := by
 refine gi Try.func30 ?_
 have h8 := reads_num hb
 have hd4 := fel_len (num 18446744073709551616 (digs 18446744073709551616 4 (num 256 b % 21888242871839275222246405745257275088548364400416034343698204186575808495617)))
 have hl4 := digs_len (B := 18446744073709551616) 4 21888242871839275222246405745257275088548364400416034343698204186575808495617
 refine zS ?_
 refine yN 3000 1 _ ?_
 refine zN (zS ?_)
 refine yC (prime_ctr) bd84 [] [] ?_
 refine yN 4000 1 ((List.replicate 4 0).map (vi .u64)) ?_
 refine ySA ?_
 refine zN (zS ?_)
 refine AWo.sliceA tbok (h := 4) rfl .none .none rfl rfl rfl rfl (by decide) (by decide) (.inl rfl) (by simp [digs_len]) rfl rfl rfl ?_
 refine yC (newP_ctr) bd85 [(4000, 0)] [10000, 10001, 10002] ?_
 refine yM ?_
 refine yP pX ?_
 refine yP pX ?_
 refine yA ?_
 refine yA ?_
 refine zN (zS ?_)
 refine yM ?_
 refine yM ?_
 refine yC (lwords_ctr hb (by omega)) bd88 [(0, 0)] [15000] ?_
 refine yC (redP_ctr (a := digs 18446744073709551616 ((b.length + 7) / 8) (num 256 b)) (na := (b.length + 7) / 8) (xa := num 256 b) (digs_len _ _) h8 (digs_bd (by decide) _ _) (by omega)) bd87 [(10000, 0), (10001, 0), (10002, 0), (15000, 0)] [16000] ?_
 refine yP (PureOp.toArrT tbok rfl rfl (by decide) (by decide)) ?_
 refine AWo.loadAgg tbok (vs := (digs 18446744073709551616 4 (num 256 b % 21888242871839275222246405745257275088548364400416034343698204186575808495617)).map (vi .u64)) rfl rfl rfl rfl (by show 0 + 4 ≤ _; simp [digs_len]) (ld4 (digs_len _ _)) rfl rfl ?_
 refine yC (enter_ctr (a := digs 18446744073709551616 4 (num 256 b % 21888242871839275222246405745257275088548364400416034343698204186575808495617)) (digs_bd (by decide) _ _) (digs_len _ _) (by rw [rest4]; exact Nat.mod_lt _ (by decide))) bd86 [] [] ?_
 refine ySA ?_
 refine zN (zE ?_)
 rw [rest4]
 exact rq [] [.cell 2 33]
set_option maxRecDepth 10000 in
theorem eexp_ctr {v : Nat} {e : List Nat} (hv : v < 21888242871839275222246405745257275088548364400416034343698204186575808495617) (he : bd 18446744073709551616 e) (hle : e.length ≤ 1000) : GC Try.prog 132 [.agg ((fel v).map (vi .u64)).toArray, .slice (some ⟨0, 0, none⟩) e.length 0] [⟨e.map (vi .u64), false, 1⟩] [.agg ((fel (v ^ num 18446744073709551616 e % 21888242871839275222246405745257275088548364400416034343698204186575808495617)).map (vi .u64)).toArray] [⟨e.map (vi .u64), false, 1⟩] := by
 refine gi Try.func132 ?_
 have hbw := blen_words he
 have hle2 : e.length ≤ 1000 := hle
 have hd4 := fel_len v
 refine zS ?_
 refine yO 3000 1 ((fel v).map (vi .u64)) ?_
 refine yN 5000 1 _ ?_
 refine zN (zS ?_)
 refine yC (fromuP_ctr (x := 1) (by decide)) bd37 [] [] ?_
 refine yN 6000 1 _ ?_
 refine ySA ?_
 refine zN (zQ (zS ?_))
 refine yM ?_
 refine yC (lbits_ctr he (by omega)) bd127 [(0, 0)] [] ?_
 refine yP ((PureOp.subP rfl rfl (by omega)).mono (v' := vp (blen (num 18446744073709551616 e))) (by rfl)) ?_
 refine yA ?_
 refine zN (zB ?_)
 refine AW.loopw (fun mm σ => ∃ z, ∃ r, (r ≤ blen (num 18446744073709551616 e) ∧ z = v ^ (num 18446744073709551616 e / 2 ^ r) % 21888242871839275222246405745257275088548364400416034343698204186575808495617) ∧ mm = 1 * r ∧ σ = ⟨(upd (upd (upd (upd (upd emp 1 (.slice (some ⟨0, 0, none⟩) e.length 0)) 2 (.pointer (some ⟨3000, 0, none⟩))) 4 (.pointer (some ⟨5000, 0, none⟩))) 5 (.pointer (some ⟨6000, 0, none⟩))) 6 (vp r)), (upd (upd (upd (upd emp 0 ⟨(e).map (vi .u64), false, 1⟩) 3000 ⟨(fel v).map (vi .u64), true, 1⟩) 5000 ⟨(List.replicate 4 0).map (vi .u64), true, 1⟩) 6000 ⟨(fel z).map (vi .u64), true, 1⟩)⟩) (fm := []) (wk [0, 3000, 5000, 6000]) ⟨1, blen (num 18446744073709551616 e), ⟨Nat.le_refl _, by rw [num_lt_blen]; rfl⟩, rfl, rfl⟩ ?_
 rintro mm σ ⟨z, r, ⟨hr0, hz⟩, rfl, rfl⟩
 have hdz := fel_len z
 have hdz2 := fel_len (z * z % 21888242871839275222246405745257275088548364400416034343698204186575808495617)
 have hdz3 := fel_len (z * z % 21888242871839275222246405745257275088548364400416034343698204186575808495617 * v % 21888242871839275222246405745257275088548364400416034343698204186575808495617)
 refine zQ (zS ?_)
 refine yM ?_
 refine yP (PureOp.geP rfl rfl) ?_
 refine zN ?_
 refine zA (fun hb0 => ?_) (fun hb0 => ?_)
 ·
  have hp0 : 0 < r := by simpa using hb0
  obtain ⟨r, rfl⟩ : ∃ q, r = q + 1 := ⟨r - 1, by omega⟩
  rw [vp_succ]
  have hal := bit_len he (show r < blen (num 18446744073709551616 e) by omega)
  refine zK (zT (zQ (zB (zS ?_))))
  refine AWo.loadAgg tbok (vs := (fel z).map (vi .u64)) rfl rfl rfl rfl (by simp [fel_len]) (ld4 (fel_len _)) rfl rfl ?_
  refine yC (esqP_ctr (v := z)) bd147 [] [] ?_
  refine ySA ?_
  refine zN (zS ?_)
  refine yM ?_
  refine yM ?_
  refine yP ((PureOp.quoN (b := 64) 9223372036854775808 rfl rfl (by decide) (by decide) (by decide) (by omega)).mono (v' := vi .i64 (r / 64)) rfl) ?_
  refine yP pJ ?_
  refine yL 0 ?_
  refine yM ?_
  refine yP ((PureOp.remN (b := 64) rfl rfl (by decide)).mono (v' := vi .i64 (r % 64)) rfl) ?_
  refine yP (PureOp.shrN (b := r % 64) 64 rfl rfl rfl (by omega)) ?_
  refine yP ((PureOp.andN 18446744073709551616 rfl rfl (by decide) (by decide) (Nat.lt_of_le_of_lt (Nat.div_le_self _ _) (bd_getD he (by decide) _)) (by decide)).mono (v' := vi .u64 (num 18446744073709551616 e / 2 ^ r % 2)) (congrArg (vi .u64) ((Nat.and_one_is_mod _).trans (bit64_at he r)))) ?_
  refine yP (pEq (b := 1)) ?_
  refine zN ?_
  refine zA (fun hb1 => ?_) (fun hb1 => ?_)
  ·
   have hb2 : num 18446744073709551616 e / 2 ^ r % 2 = 1 := by simpa using hb1
   refine zR ?_
   refine AWo.loadAgg tbok (vs := (fel (z * z % 21888242871839275222246405745257275088548364400416034343698204186575808495617)).map (vi .u64)) rfl rfl rfl rfl (by simp [fel_len]) (ld4 (fel_len _)) rfl rfl ?_
   refine AWo.loadAgg tbok (vs := (fel v).map (vi .u64)) rfl rfl rfl rfl (by simp [fel_len]) (ld4 (fel_len _)) rfl rfl ?_
   refine yC (emulP_ctr (u := z * z % 21888242871839275222246405745257275088548364400416034343698204186575808495617) (v := v)) bd35 [] [] ?_
   refine ySA ?_
   refine zN (zL (zT (zR ?_)))
   refine yM ?_
   refine yP (PureOp.subP rfl rfl (by omega)) ?_
   refine yA ?_
   refine zN (zT ?_)
   exact ⟨1 * r, [], _, by omega, wk [0, 3000, 5000, 6000], z * z % 21888242871839275222246405745257275088548364400416034343698204186575808495617 * v % 21888242871839275222246405745257275088548364400416034343698204186575808495617, r, ⟨by omega, by rw [← exp_odd hz hb2, Nat.mod_eq_of_lt hv]⟩, rfl, rfl⟩
  ·
   have hb2 : ¬ num 18446744073709551616 e / 2 ^ r % 2 = 1 := by simpa using hb1
   refine zK (zL (zT (zR ?_)))
   refine yM ?_
   refine yP (PureOp.subP rfl rfl (by omega)) ?_
   refine yA ?_
   refine zN (zT ?_)
   exact ⟨1 * r, [], _, by omega, wk [0, 3000, 5000, 6000], z * z % 21888242871839275222246405745257275088548364400416034343698204186575808495617, r, ⟨by omega, exp_even hz hb2⟩, rfl, rfl⟩
 ·
  obtain rfl : r = 0 := by simpa using hb0
  rw [Nat.pow_zero, Nat.div_one] at hz
  rw [← hz]
  refine zX (zV (zV (zH (zT (zS ?_)))))
  refine AWo.loadAgg tbok (vs := (fel z).map (vi .u64)) rfl rfl rfl rfl (by simp [fel_len]) (ld4 (fel_len _)) rfl rfl ?_
  refine ySA ?_
  refine zN (zE ?_)
  exact rq [] [.cell 4 33]
theorem eexp_ctrN {e : List Nat} {ne xe : Nat} (hne : e.length = ne) (hxe : num 18446744073709551616 e = xe) {v : Nat} (hv : v < 21888242871839275222246405745257275088548364400416034343698204186575808495617) (he : bd 18446744073709551616 e) (hle : e.length ≤ 1000) : GC Try.prog 132 [.agg ((fel v).map (vi .u64)).toArray, .slice (some ⟨0, 0, none⟩) ne 0] [⟨e.map (vi .u64), false, 1⟩] [.agg ((fel (v ^ xe % 21888242871839275222246405745257275088548364400416034343698204186575808495617)).map (vi .u64)).toArray] [⟨e.map (vi .u64), false, 1⟩] := by
 subst hne hxe
 exact eexp_ctr hv he hle
set_option maxRecDepth 10000 in
theorem einv_ctr {v e : Nat} (he : e = 21888242871839275222246405745257275088548364400416034343698204186575808495617 - 2) (hv : v < 21888242871839275222246405745257275088548364400416034343698204186575808495617) : GC Try.prog 95 [.agg ((fel v).map (vi .u64)).toArray] [] [.agg ((fel (v ^ e % 21888242871839275222246405745257275088548364400416034343698204186575808495617)).map (vi .u64)).toArray] [] := by
 refine gi Try.func95 ?_
 have hd4 := fel_len v
 refine zS ?_
 refine yO 2000 1 ((fel v).map (vi .u64)) ?_
 refine yN 3000 1 _ ?_
 refine zN (zS ?_)
 refine yC (prime_ctr) bd84 [] [] ?_
 refine yN 4000 1 ((List.replicate 4 0).map (vi .u64)) ?_
 refine ySA ?_
 refine zN (zS ?_)
 refine yP (pA (j := 0)) ?_
 refine AWo.load tbok (v := vi .u64 4891460686036598785) rfl rfl rfl (by kernel_rfl) rfl rfl ?_
 refine yP ((PureOp.subU (b := 2) 18446744073709551616 rfl rfl rfl rfl (by decide)).mono (v' := vi .u64 4891460686036598783) (congrArg (vi .u64) (by decide))) ?_
 refine yP (pA (j := 0)) ?_
 refine AWo.storeM (f := (vi .u64)) (y := 4891460686036598783) tbok rfl rfl rfl rfl (by rw [digs_len]; decide) rfl rfl ?_
 rw [inv_words he]
 refine zN ?_
 refine AW.seqD mixed ?_
 refine AWo.loadAgg tbok (vs := (fel v).map (vi .u64)) rfl rfl rfl rfl (by simp [fel_len]) (ld4 (fel_len _)) rfl rfl ?_
 refine AWo.sliceA tbok (h := 4) rfl .none .none rfl rfl rfl rfl (by decide) (by decide) (.inl rfl) (by simp [digs_len]) rfl rfl rfl ?_
 refine yC (eexp_ctrN (v := v) (e := digs 18446744073709551616 4 e) (ne := 4) (xe := e) (digs_len _ _) (num_digs_lt (by rw [he]; decide)) hv (digs_bd (by decide) _ _) (by rw [digs_len]; decide)) bd132 [(4000, 0)] [] ?_
 refine ySA ?_
 refine zD (zE ?_)
 exact rq [] [.cell 2 33]
set_option maxRecDepth 10000 in
theorem fsum_ctr {vs : List Nat} (hvl : vs.length < 1000000000) : GC Try.prog 113 [.slice (some ⟨0, 0, none⟩) vs.length 0] [⟨((vs.map fel).flatten).map (vi .u64), false, 4⟩] [.agg ((fel (vs.foldl (fun a b => (a + b) % 21888242871839275222246405745257275088548364400416034343698204186575808495617) 0)).map (vi .u64)).toArray] [⟨((vs.map fel).flatten).map (vi .u64), false, 4⟩] := by
 refine gi Try.func113 ?_
 refine zS ?_
 refine yN 3000 1 _ ?_
 refine zN (zS ?_)
 refine yN 4000 1 _ ?_
 refine zN (zQ (zS ?_))
 refine yM ?_
 refine yP pL ?_
 refine yM ?_
 refine zN (zB ?_)
 refine AW.loopw (fun mm σ => ∃ i, ∃ z, ∃ (y : List Nat), (i ≤ vs.length ∧ z = (vs.take i).foldl (fun a b => (a + b) % 21888242871839275222246405745257275088548364400416034343698204186575808495617) 0) ∧ mm = vs.length - i ∧ σ = ⟨(upd (upd (upd (upd (upd emp 2 (.pointer (some ⟨3000, 0, none⟩))) 3 (.pointer (some ⟨4000, 0, none⟩))) 6 (.slice (some ⟨0, 0, none⟩) vs.length 0)) 7 (vi .i64 vs.length)) 8 (vi .i64 i)), (upd (upd (upd emp 0 ⟨((vs.map fel).flatten).map (vi .u64), false, 4⟩) 3000 ⟨(List.replicate 4 0).map (vi .u64), true, 1⟩) 4000 ⟨(fel z).map (vi .u64), true, 1⟩)⟩) (fm := []) (wk [0, 3000, 4000]) ⟨0, 0, [], ⟨Nat.zero_le _, rfl⟩, rfl, rfl⟩ ?_
 rintro mm σ ⟨i, z, y, ⟨hi0, hz⟩, rfl, rfl⟩
 have hdz := fel_len z
 have hdv := fel_len (vs.getD i 0)
 have hdz2 := fel_len ((z + vs.getD i 0) % 21888242871839275222246405745257275088548364400416034343698204186575808495617)
 refine zS ?_
 refine yP pLt ?_
 refine zN (zQ ?_)
 refine zA (fun hb0 => ?_) (fun hb0 => ?_)
 ·
  have hi : i < vs.length := by simpa using hb0
  refine zK (zT (zQ (zB (zS ?_))))
  refine yP (PureOp.idxN tbok (j := i) rfl rfl rfl rfl hi) ?_
  refine AWo.loadAgg tbok (vs := (fel (vs.getD i 0)).map (vi .u64)) rfl rfl rfl rfl (fsum_room hi) (fsum_at hi) rfl rfl ?_
  refine yN 6000 1 _ ?_
  refine ySA ?_
  refine zN (zR ?_)
  refine AWo.loadAgg tbok (vs := (fel z).map (vi .u64)) rfl rfl rfl rfl (by simp [fel_len]) (ld4 (fel_len _)) rfl rfl ?_
  refine AWo.loadAgg tbok (vs := (fel (vs.getD i 0)).map (vi .u64)) rfl rfl rfl rfl (by simp [fel_len]) (ld4 (fel_len _)) rfl rfl ?_
  refine yC (eaddP_ctr (u := z) (v := vs.getD i 0)) bd33 [] [] ?_
  refine ySA ?_
  refine zN (zL (zT (zR ?_)))
  refine yP (pAdd (b := 1)) ?_
  refine yM ?_
  refine zN (zT ?_)
  exact ⟨vs.length - (i + 1), [], _, by omega, wk [0, 3000, 4000], i + 1, (z + vs.getD i 0) % 21888242871839275222246405745257275088548364400416034343698204186575808495617, [], ⟨by omega, by rw [fsum_next hi, ← hz]⟩, rfl, rfl⟩
 ·
  have hi : i = vs.length := by simp at hb0; omega
  rw [hi, List.take_length] at hz
  rw [← hz]
  refine zX (zV (zV (zH (zT (zS ?_)))))
  refine AWo.loadAgg tbok (vs := (fel z).map (vi .u64)) rfl rfl rfl rfl (by simp [fel_len]) (ld4 (fel_len _)) rfl rfl ?_
  refine ySA ?_
  refine zN (zE ?_)
  exact rq [] [.cell 2 33]
end Go.Proofs.Yteeifahhejangaa
namespace Go.Proofs.Yteeifahhejangaa
open Go Sim
theorem bytes_room {b : List Nat} (hb : bd 256 b) (hl : b.length ≤ 1000) : (D 4294967296 (num 256 b)).length < 1000000 := by
 have h : num 256 b < 4294967296 ^ b.length := Nat.lt_of_lt_of_le (num_lt hb) (Nat.pow_le_pow_left (by decide) _)
 have := (D_len_le (B := 4294967296) (by decide) _ _).2 h
 omega
end Go.Proofs.Yteeifahhejangaa
namespace Go.Proofs.Yteeifahhejangaa
def Irr (p : Nat) : Prop := 2 ≤ p ∧ ∀ d, d ∣ p → d = 1 ∨ d = p
theorem Irr.pos {p : Nat} (h : Irr p) : 0 < p := by have := h.1; omega
theorem Irr.coprime {p a : Nat} (h : Irr p) (ha : ¬ p ∣ a) : Nat.Coprime p a := by
  rcases h.2 (Nat.gcd p a) (Nat.gcd_dvd_left p a) with h1 | h1
  · exact h1
  · exact absurd (h1 ▸ Nat.gcd_dvd_right p a) ha
theorem Irr.euclid {p a b : Nat} (h : Irr p) (hd : p ∣ a * b) : p ∣ a ∨ p ∣ b := by
  by_cases ha : p ∣ a
  · exact .inl ha
  · exact .inr ((h.coprime ha).dvd_of_dvd_mul_left hd)
theorem exists_irr : ∀ {n : Nat}, 2 ≤ n → ∃ p, Irr p ∧ p ∣ n := by
  intro n
  induction n using Nat.strongRecOn with
  | _ n ih =>
    intro hn
    by_cases h : ∃ d, d ∣ n ∧ d ≠ 1 ∧ d ≠ n
    · obtain ⟨d, hd, h1, h2⟩ := h
      have hle := Nat.le_of_dvd (by omega) hd
      have h0 : d ≠ 0 := fun e => by subst e; have := Nat.eq_zero_of_zero_dvd hd; omega
      obtain ⟨p, hp, hpd⟩ := ih d (by omega) (by omega)
      exact ⟨p, hp, Nat.dvd_trans hpd hd⟩
    · refine ⟨n, ⟨hn, fun d hd => ?_⟩, Nat.dvd_refl n⟩
      by_cases h1 : d = 1
      · exact .inl h1
      · by_cases h2 : d = n
        · exact .inr h2
        · exact absurd ⟨d, hd, h1, h2⟩ h
theorem irr_of_small {n : Nat} (hn : 2 ≤ n) (h : ∀ p, Irr p → p ∣ n → n < p * p) : Irr n := by
  refine ⟨hn, fun d hd => ?_⟩
  obtain ⟨e, he⟩ := hd
  by_cases h1 : d = 1
  · exact .inl h1
  by_cases h2 : e = 1
  · subst h2; exact .inr (by omega)
  have hd0 : d ≠ 0 := fun e' => by subst e'; omega
  have he0 : e ≠ 0 := fun e' => by subst e'; omega
  obtain ⟨p, hp, a, rfl⟩ := exists_irr (n := d) (by omega)
  obtain ⟨q, hq, b, rfl⟩ := exists_irr (n := e) (by omega)
  exfalso
  have g1 := h p hp ⟨a * (q * b), by rw [he, Nat.mul_assoc]⟩
  have g2 := h q hq ⟨p * a * b, by rw [he]; simp [Nat.mul_comm, Nat.mul_left_comm]⟩
  have ha : a ≠ 0 := fun e' => by subst e'; simp at hd0
  have hb : b ≠ 0 := fun e' => by subst e'; simp at he0
  have g3 : p * q ≤ n := by
    rw [he]
    have : p * q * 1 ≤ p * q * (a * b) := Nat.mul_le_mul_left _ (Nat.mul_pos (by omega) (by omega))
    calc p * q = p * q * 1 := (Nat.mul_one _).symm
      _ ≤ p * q * (a * b) := this
      _ = p * a * (q * b) := by simp [Nat.mul_comm, Nat.mul_left_comm]
  rcases Nat.le_total p q with hle | hle
  · have := Nat.mul_le_mul_left p hle
    omega
  · have := Nat.mul_le_mul_right q hle
    omega
theorem pow_one_mod {a n k : Nat} (h : a % n = 1 % n) : a ^ k % n = 1 % n := by
  rw [Nat.pow_mod, h, ← Nat.pow_mod, Nat.one_pow]
theorem mul_mod_one {a b n : Nat} (ha : a % n = 1 % n) : a * b % n = b % n := by
  rw [Nat.mul_mod, ha, ← Nat.mul_mod, Nat.one_mul]
theorem pow_sub_mod {a n m k : Nat} (hk : a ^ k % n = 1 % n) (hm : a ^ m % n = 1 % n) : a ^ (m % k) % n = 1 % n := by
  have h : a ^ m = (a ^ k) ^ (m / k) * a ^ (m % k) := by
    rw [← Nat.pow_mul, ← Nat.pow_add, Nat.div_add_mod]
  rw [h, mul_mod_one (pow_one_mod hk)] at hm
  exact hm
theorem pow_gcd_mod {a n : Nat} : ∀ (k m : Nat), a ^ k % n = 1 % n → a ^ m % n = 1 % n → a ^ Nat.gcd k m % n = 1 % n := by
  intro k
  induction k using Nat.strongRecOn with
  | _ k ih =>
    intro m hk hm
    by_cases h0 : k = 0
    · subst h0; simpa using hm
    · rw [Nat.gcd_rec]
      exact ih (m % k) (Nat.mod_lt _ (by omega)) k (pow_sub_mod hk hm) hk
theorem dvd_pow_irr {q : Nat} (hq : Irr q) : ∀ {e d : Nat}, d ∣ q ^ e → ∃ j, j ≤ e ∧ d = q ^ j
  | 0, d, h => ⟨0, Nat.le_refl _, by simpa using h⟩
  | e + 1, d, h => by
    by_cases hd : q ∣ d
    · obtain ⟨c, rfl⟩ := hd
      rw [Nat.pow_succ, Nat.mul_comm (q ^ e) q] at h
      obtain ⟨j, hj, rfl⟩ := dvd_pow_irr hq (Nat.dvd_of_mul_dvd_mul_left hq.pos h)
      exact ⟨j + 1, by omega, by rw [Nat.pow_succ, Nat.mul_comm]⟩
    · have hc : Nat.Coprime d q := (hq.coprime hd).symm
      rw [Nat.pow_succ] at h
      obtain ⟨j, hj, rfl⟩ := dvd_pow_irr hq (hc.dvd_of_dvd_mul_right h)
      exact ⟨j, by omega, rfl⟩
def prodL : List Nat → Nat
  | [] => 1
  | x :: l => x * prodL l
theorem prodL_perm {l m : List Nat} (h : l.Perm m) : prodL l = prodL m := by
  induction h with
  | nil => rfl
  | cons x _ ih => simp [prodL, ih]
  | swap x y l => simp [prodL, Nat.mul_left_comm]
  | trans _ _ ih1 ih2 => exact ih1.trans ih2
theorem prodL_map_mod (a p : Nat) : ∀ l : List Nat, prodL (l.map fun i => a * i % p) % p = a ^ l.length * prodL l % p
  | [] => by simp [prodL]
  | x :: l => by
    simp only [List.map_cons, prodL, List.length_cons]
    rw [Nat.mul_mod, prodL_map_mod a p l, Nat.mod_mod, ← Nat.mul_mod, Nat.pow_succ]
    rw [Nat.mul_comm (a ^ l.length) a, Nat.mul_assoc, Nat.mul_assoc, Nat.mul_left_comm x]
theorem nodup_sub_perm {l m : List Nat} (hl : l.Nodup) (hs : ∀ x ∈ l, x ∈ m) (hlen : m.length ≤ l.length) : l.Perm m := by
  induction l generalizing m with
  | nil =>
    have : m = [] := List.length_eq_zero_iff.1 (by simpa using hlen)
    subst this; exact .nil
  | cons x l ih =>
    have hx := hs x (List.mem_cons_self ..)
    have hp := List.perm_cons_erase hx
    refine List.Perm.trans (.cons x (ih (List.nodup_cons.1 hl).2 (fun y hy => ?_) ?_)) hp.symm
    · have hne : y ≠ x := fun e => (List.nodup_cons.1 hl).1 (e ▸ hy)
      exact (List.mem_erase_of_ne hne).2 (hs y (List.mem_cons_of_mem _ hy))
    · rw [List.length_erase_of_mem hx]
      simp only [List.length_cons] at hlen
      omega
theorem prodL_not_dvd {p : Nat} (hp : Irr p) : ∀ {l : List Nat}, (∀ x ∈ l, ¬ p ∣ x) → ¬ p ∣ prodL l
  | [], _ => fun h => by have := Nat.le_of_dvd (by decide) h; have := hp.1; simp [prodL] at *; omega
  | x :: l, h => fun hd => by
    rcases hp.euclid hd with h1 | h1
    · exact h x (List.mem_cons_self ..) h1
    · exact prodL_not_dvd hp (fun y hy => h y (List.mem_cons_of_mem _ hy)) h1
theorem dvd_sub_of_mod {p a b : Nat} (h : a % p = b % p) : p ∣ b - a :=
  Nat.dvd_of_mod_eq_zero (Nat.sub_mod_eq_zero_of_mod_eq h.symm)
theorem mod_of_dvd_sub {p a b : Nat} (hle : a ≤ b) (h : p ∣ b - a) : a % p = b % p := by
  obtain ⟨c, hc⟩ := h
  rw [show b = a + p * c by omega, Nat.add_mul_mod_self_left]
theorem mod_cancel_le {p a b c : Nat} (hc : Nat.Coprime p c) (hab : a ≤ b) (h : c * a % p = c * b % p) : a % p = b % p := by
  have h1 := dvd_sub_of_mod h
  rw [← Nat.mul_sub] at h1
  exact mod_of_dvd_sub hab (hc.dvd_of_dvd_mul_left h1)
theorem mod_cancel {p a b c : Nat} (hc : Nat.Coprime p c) (h : c * a % p = c * b % p) : a % p = b % p := by
  rcases Nat.le_total a b with hab | hab
  · exact mod_cancel_le hc hab h
  · exact (mod_cancel_le hc hab h.symm).symm
theorem fermat {p a : Nat} (hp : Irr p) (ha : ¬ p ∣ a) : a ^ (p - 1) % p = 1 % p := by
  have h2 := hp.1
  let l := List.range' 1 (p - 1)
  have hl : ∀ x ∈ l, 1 ≤ x ∧ x < p := fun x hx => by
    have := List.mem_range'_1.1 hx
    omega
  have hnd : ∀ x ∈ l, ¬ p ∣ x := fun x hx hd => by
    have := Nat.le_of_dvd (by have := hl x hx; omega) hd
    have := hl x hx
    omega
  have hinj : (l.map fun i => a * i % p).Nodup := by
    rw [List.nodup_iff_pairwise_ne, List.pairwise_map]
    refine List.Pairwise.imp_of_mem (fun {x y} hx hy hne he => hne ?_) (List.nodup_iff_pairwise_ne.1 List.nodup_range')
    have := mod_cancel (hp.coprime ha) he
    rwa [Nat.mod_eq_of_lt (hl x hx).2, Nat.mod_eq_of_lt (hl y hy).2] at this
  have hperm : (l.map fun i => a * i % p).Perm l := by
    refine nodup_sub_perm hinj (fun x hx => ?_) (by simp)
    obtain ⟨i, hi, rfl⟩ := List.mem_map.1 hx
    refine List.mem_range'_1.2 ⟨?_, ?_⟩
    · rcases Nat.eq_zero_or_pos (a * i % p) with h0 | h0
      · rcases hp.euclid (Nat.dvd_of_mod_eq_zero h0) with h1 | h1
        · exact absurd h1 ha
        · exact absurd h1 (hnd i hi)
      · omega
    · have := Nat.mod_lt (a * i) hp.pos
      omega
  have h1 := prodL_map_mod a p l
  rw [prodL_perm hperm, List.length_range'] at h1
  have h3 : prodL l * 1 % p = prodL l * a ^ (p - 1) % p := by rw [Nat.mul_one, h1, Nat.mul_comm]
  exact (mod_cancel (hp.coprime (prodL_not_dvd hp hnd)) h3).symm
theorem pock_step {N p q e a : Nat} (hN : 2 ≤ N) (hp : Irr p) (hpN : p ∣ N) (hq : Irr q) (he : 0 < e) (hF : q ^ e ∣ N - 1) (h1 : a ^ (N - 1) % N = 1 % N)
    (h2 : Nat.gcd (a ^ ((N - 1) / q) % N + (N - 1)) N = 1) : q ^ e ∣ p - 1 := by
  have down : ∀ {x : Nat}, x % N = 1 % N → x % p = 1 % p := fun {x} h => by
    rw [← Nat.mod_mod_of_dvd x hpN, h, Nat.mod_mod_of_dvd _ hpN]
  obtain ⟨m, hm⟩ := hF
  have hqe : q ^ e = q * q ^ (e - 1) := by rw [← Nat.pow_succ', Nat.succ_eq_add_one, Nat.sub_add_cancel he]
  have ha : ¬ p ∣ a := fun hd => by
    have h3 := down h1
    have h4 : p ∣ a ^ (N - 1) := Nat.dvd_trans hd ⟨a ^ (N - 2), by rw [← Nat.pow_succ', show (N - 2).succ = N - 1 by omega]⟩
    rw [Nat.mod_eq_zero_of_dvd h4, Nat.mod_eq_of_lt hp.1] at h3
    cases h3
  have hb1 : (a ^ m) ^ (q ^ e) % p = 1 % p := by
    rw [← Nat.pow_mul, Nat.mul_comm, ← hm]
    exact down h1
  have hb2 : (a ^ m) ^ (p - 1) % p = 1 % p := by
    rw [← Nat.pow_mul, Nat.mul_comm, Nat.pow_mul]
    exact pow_one_mod (fermat hp ha)
  have hg := pow_gcd_mod _ _ hb1 hb2
  obtain ⟨j, hj, hgj⟩ := dvd_pow_irr hq (Nat.gcd_dvd_left (q ^ e) (p - 1))
  by_cases hje : j = e
  · subst hje
    exact hgj ▸ Nat.gcd_dvd_right _ _
  · exfalso
    have hdv : q ^ j ∣ q ^ (e - 1) := Nat.pow_dvd_pow q (by omega)
    obtain ⟨c, hc⟩ := hdv
    have h5 : (a ^ m) ^ (q ^ (e - 1)) % p = 1 % p := by
      rw [hc, Nat.pow_mul, ← hgj]
      exact pow_one_mod hg
    have h6 : (N - 1) / q = m * q ^ (e - 1) := by
      rw [hm, hqe, Nat.mul_assoc, Nat.mul_div_cancel_left _ hq.pos, Nat.mul_comm]
    rw [← Nat.pow_mul, ← h6] at h5
    have h7 : p ∣ a ^ ((N - 1) / q) % N + (N - 1) := by
      apply Nat.dvd_of_mod_eq_zero
      rw [Nat.add_mod, Nat.mod_mod_of_dvd _ hpN, h5]
      have : (N - 1) % p = p - 1 := by
        obtain ⟨c', rfl⟩ := hpN
        have hp1 := hp.1
        cases c' with
        | zero => omega
        | succ c' =>
          rw [Nat.mul_succ, Nat.add_sub_assoc (by omega), Nat.mul_add_mod, Nat.mod_eq_of_lt (by omega)]
      rw [this, Nat.mod_eq_of_lt hp.1, Nat.add_sub_cancel' (by have := hp.1; omega), Nat.mod_self]
    have h8 := Nat.dvd_gcd h7 hpN
    rw [h2] at h8
    have := Nat.le_of_dvd (by decide) h8
    have := hp.1
    omega
theorem coprime_pow_irr {p q : Nat} (hp : Irr p) (hq : Irr q) (h : p ≠ q) (e f : Nat) : Nat.Coprime (p ^ e) (q ^ f) := by
  apply Nat.Coprime.pow
  apply hp.coprime
  intro hd
  rcases hq.2 p hd with h1 | h1
  · have := hp.1; omega
  · exact h h1
def powm (n : Nat) : Nat → Nat → Nat → Nat
  | 0, _, _ => 1 % n
  | f + 1, a, e => if e = 0 then 1 % n else
      if e % 2 = 1 then a * powm n f (a * a % n) (e / 2) % n else powm n f (a * a % n) (e / 2)
theorem powm_eq (n : Nat) : ∀ (f a e : Nat), e < 2 ^ f → powm n f a e = a ^ e % n
  | 0, a, e, h => by
    have : e = 0 := by simpa using h
    subst this; simp [powm]
  | f + 1, a, e, h => by
    simp only [powm]
    split
    · rename_i h0; subst h0; simp
    · have h1 := powm_eq n f (a * a % n) (e / 2) (by rw [Nat.pow_succ] at h; omega)
      have h2 : (a * a % n) ^ (e / 2) % n = a ^ (2 * (e / 2)) % n := by
        rw [← Nat.pow_mod, Nat.pow_mul, Nat.pow_two]
      split
      · rename_i ho
        rw [h1, h2, Nat.mul_mod, Nat.mod_mod, ← Nat.mul_mod, ← Nat.pow_succ']
        rw [show (2 * (e / 2)).succ = e by omega]
      · rw [h1, h2, show 2 * (e / 2) = e by omega]
def noDiv (n : Nat) : Nat → Nat → Bool
  | 0, _ => true
  | f + 1, d => n % d != 0 && noDiv n f (d + 1)
theorem noDiv_spec {n : Nat} : ∀ {f d : Nat}, noDiv n f d = true → ∀ k, d ≤ k → k < d + f → ¬ k ∣ n
  | 0, d, _, k, h1, h2 => by omega
  | f + 1, d, h, k, h1, h2 => by
    simp only [noDiv, Bool.and_eq_true, bne_iff_ne, ne_eq] at h
    by_cases hk : k = d
    · subst hk; exact fun hd => h.1 (Nat.mod_eq_zero_of_dvd hd)
    · exact noDiv_spec h.2 k (by omega) (by omega)
theorem irr_trial {n f : Nat} (hn : 2 ≤ n) (hf : n < (f + 2) * (f + 2)) (h : noDiv n f 2 = true) : Irr n :=
  irr_of_small hn fun p hp hpd => by
    rcases Nat.lt_or_ge p (2 + f) with h1 | h1
    · exact absurd hpd (noDiv_spec h p hp.1 h1)
    · exact Nat.lt_of_lt_of_le hf (Nat.mul_le_mul (by omega) (by omega))
def pockB (N : Nat) (c : Nat × Nat × Nat) : Bool :=
  Nat.blt 0 c.2.1 && (N - 1) % c.1 ^ c.2.1 == 0 && powm N 800 c.2.2 (N - 1) == 1 % N && Nat.gcd (powm N 800 c.2.2 ((N - 1) / c.1) + (N - 1)) N == 1
def factL : List (Nat × Nat × Nat) → Nat
  | [] => 1
  | c :: l => c.1 ^ c.2.1 * factL l
theorem factL_coprime {q f : Nat} (hq : Irr q) : ∀ {l : List (Nat × Nat × Nat)}, (∀ c ∈ l, Irr c.1 ∧ q ≠ c.1) → Nat.Coprime (q ^ f) (factL l)
  | [], _ => Nat.coprime_one_right _
  | c :: l, h => by
    have h1 := h c (List.mem_cons_self ..)
    exact Nat.Coprime.mul_right (coprime_pow_irr hq h1.1 h1.2 f c.2.1) (factL_coprime hq fun d hd => h d (List.mem_cons_of_mem _ hd))
theorem factL_dvd {m : Nat} : ∀ {l : List (Nat × Nat × Nat)}, (∀ c ∈ l, Irr c.1 ∧ c.1 ^ c.2.1 ∣ m) → (l.map (·.1)).Nodup → factL l ∣ m
  | [], _, _ => Nat.one_dvd _
  | c :: l, h, hn => by
    have h1 := h c (List.mem_cons_self ..)
    rw [List.map_cons, List.nodup_cons] at hn
    refine Nat.Coprime.mul_dvd_of_dvd_of_dvd (factL_coprime h1.1 fun d hd => ⟨(h d (List.mem_cons_of_mem _ hd)).1, fun e => hn.1 ?_⟩) h1.2 (factL_dvd (fun d hd => h d (List.mem_cons_of_mem _ hd)) hn.2)
    rw [e]
    exact List.mem_map.2 ⟨d, hd, rfl⟩
theorem pock {N : Nat} (l : List (Nat × Nat × Nat)) (hN : Nat.ble 2 N = true) (hb : Nat.blt N (2 ^ 800) = true) (hc : l.all (pockB N) = true) (hF : Nat.blt N ((factL l + 1) * (factL l + 1)) = true)
    (hn : (l.map (·.1)).Nodup) (hq : ∀ c ∈ l, Irr c.1) : Irr N := by
  have hN' := Nat.le_of_ble_eq_true hN
  have hb' : N < 2 ^ 800 := Nat.le_of_ble_eq_true hb
  refine irr_of_small hN' fun p hp hpd => ?_
  have hd : factL l ∣ p - 1 := factL_dvd (fun c hm => ⟨hq c hm, ?_⟩) hn
  · have h1 := Nat.le_of_dvd (by have := hp.1; omega) hd
    have h2 : N < (factL l + 1) * (factL l + 1) := Nat.le_of_ble_eq_true hF
    exact Nat.lt_of_lt_of_le h2 (Nat.mul_le_mul (by have := hp.1; omega) (by have := hp.1; omega))
  · have h3 := List.all_eq_true.1 hc c hm
    simp only [pockB, Bool.and_eq_true, beq_iff_eq] at h3
    obtain ⟨⟨⟨g1, g2⟩, g3⟩, g4⟩ := h3
    rw [powm_eq N 800 _ _ (by omega)] at g3
    rw [powm_eq N 800 _ _ (Nat.lt_of_le_of_lt (Nat.div_le_self _ _) (by omega))] at g4
    exact pock_step hN' hp hpd (hq c hm) (Nat.le_of_ble_eq_true g1) (Nat.dvd_of_mod_eq_zero g2) g3 g4
end Go.Proofs.Yteeifahhejangaa
namespace Go.Proofs.Yteeifahhejangaa
theorem irr_2 : Irr 2 := irr_trial (f := 0) (by decide) (by decide) (by kernel_rfl)
theorem irr_3 : Irr 3 := irr_trial (f := 0) (by decide) (by decide) (by kernel_rfl)
theorem irr_13 : Irr 13 := irr_trial (f := 2) (by decide) (by decide) (by kernel_rfl)
theorem irr_29 : Irr 29 := irr_trial (f := 4) (by decide) (by decide) (by kernel_rfl)
theorem irr_983 : Irr 983 := irr_trial (f := 30) (by decide) (by decide) (by kernel_rfl)
theorem irr_11003 : Irr 11003 := irr_trial (f := 103) (by decide) (by decide) (by kernel_rfl)
theorem irr_237073 : Irr 237073 := irr_trial (f := 485) (by decide) (by decide) (by kernel_rfl)
theorem irr_11 : Irr 11 := irr_trial (f := 2) (by decide) (by decide) (by kernel_rfl)
theorem irr_3691 : Irr 3691 := irr_trial (f := 59) (by decide) (by decide) (by kernel_rfl)
theorem irr_405928799 : Irr 405928799 := pock [(2, 1, 11), (11, 1, 2), (3691, 1, 2)] (by kernel_rfl) (by kernel_rfl) (by kernel_rfl) (by kernel_rfl) (by decide) (List.forall_mem_cons.2 ⟨irr_2, List.forall_mem_cons.2 ⟨irr_11, List.forall_mem_cons.2 ⟨irr_3691, fun _ h => absurd h List.not_mem_nil⟩⟩⟩)
theorem irr_107 : Irr 107 := irr_trial (f := 9) (by decide) (by decide) (by kernel_rfl)
theorem irr_7 : Irr 7 := irr_trial (f := 1) (by decide) (by decide) (by kernel_rfl)
theorem irr_661 : Irr 661 := irr_trial (f := 24) (by decide) (by decide) (by kernel_rfl)
theorem irr_12048837557 : Irr 12048837557 := pock [(2, 2, 2), (7, 2, 2), (661, 1, 2)] (by kernel_rfl) (by kernel_rfl) (by kernel_rfl) (by kernel_rfl) (by decide) (List.forall_mem_cons.2 ⟨irr_2, List.forall_mem_cons.2 ⟨irr_7, List.forall_mem_cons.2 ⟨irr_661, fun _ h => absurd h List.not_mem_nil⟩⟩⟩)
theorem irr_5156902474397 : Irr 5156902474397 := pock [(2, 2, 2), (107, 1, 2), (12048837557, 1, 2)] (by kernel_rfl) (by kernel_rfl) (by kernel_rfl) (by kernel_rfl) (by decide) (List.forall_mem_cons.2 ⟨irr_2, List.forall_mem_cons.2 ⟨irr_107, List.forall_mem_cons.2 ⟨irr_12048837557, fun _ h => absurd h List.not_mem_nil⟩⟩⟩)
theorem irr_1670836401704629 : Irr 1670836401704629 := pock [(2, 2, 2), (3, 4, 2), (5156902474397, 1, 2)] (by kernel_rfl) (by kernel_rfl) (by kernel_rfl) (by kernel_rfl) (by decide) (List.forall_mem_cons.2 ⟨irr_2, List.forall_mem_cons.2 ⟨irr_3, List.forall_mem_cons.2 ⟨irr_5156902474397, fun _ h => absurd h List.not_mem_nil⟩⟩⟩)
theorem irr_p : Irr 21888242871839275222246405745257275088548364400416034343698204186575808495617 := pock [(2, 28, 5), (3, 2, 3), (13, 1, 5), (29, 1, 2), (983, 1, 2), (11003, 1, 2), (237073, 1, 2), (405928799, 1, 2), (1670836401704629, 1, 2)] (by kernel_rfl) (by kernel_rfl) (by kernel_rfl) (by kernel_rfl) (by decide) (List.forall_mem_cons.2 ⟨irr_2, List.forall_mem_cons.2 ⟨irr_3, List.forall_mem_cons.2 ⟨irr_13, List.forall_mem_cons.2 ⟨irr_29, List.forall_mem_cons.2 ⟨irr_983, List.forall_mem_cons.2 ⟨irr_11003, List.forall_mem_cons.2 ⟨irr_237073, List.forall_mem_cons.2 ⟨irr_405928799, List.forall_mem_cons.2 ⟨irr_1670836401704629, fun _ h => absurd h List.not_mem_nil⟩⟩⟩⟩⟩⟩⟩⟩⟩)
end Go.Proofs.Yteeifahhejangaa
namespace Go.Proofs.Yteeifahhejangaa.Rg
variable {n : Nat} [NeZero n] {x y z u v w : Fin n}
theorem add_comm (x y : Fin n) : x + y = y + x := by grind
theorem mul_comm (x y : Fin n) : x * y = y * x := by grind
theorem mul_assoc (x y z : Fin n) : x * (y * z) = x * y * z := by grind
theorem mul_add (x y z : Fin n) : x * (y + z) = x * y + x * z := by grind
theorem mul_one (x : Fin n) : x * 1 = x := by grind
theorem one_mul (x : Fin n) : 1 * x = x := by grind
theorem sub_self (x : Fin n) : x - x = 0 := by grind
theorem zero_mul (x : Fin n) : 0 * x = 0 := by grind
theorem mul_zero (x : Fin n) : x * 0 = 0 := by grind
theorem add_zero (x : Fin n) : x + 0 = x := by grind
theorem zero_add (x : Fin n) : 0 + x = x := by grind
theorem add_assoc (x y z : Fin n) : x + y + z = x + (y + z) := by grind
theorem unit_cancel (h : x * w = 1) (h2 : x * y = x * z) : y = z := by grind
end Go.Proofs.Yteeifahhejangaa.Rg
namespace Go.Proofs.Yteeifahhejangaa
open Go Sim
abbrev Fp := Fin 21888242871839275222246405745257275088548364400416034343698204186575808495617
def fe (x : Fp) : List Nat := fel x.val
def fp (v : Nat) : Fp := ⟨v % 21888242871839275222246405745257275088548364400416034343698204186575808495617, Nat.mod_lt _ (by decide)⟩
@[irreducible] def fpw (x : Fp) (k : Nat) : Fp := ⟨x.val ^ k % 21888242871839275222246405745257275088548364400416034343698204186575808495617, Nat.mod_lt _ (by decide)⟩
@[irreducible] def finv (x : Fp) : Fp := fpw x (21888242871839275222246405745257275088548364400416034343698204186575808495617 - 2)
def fsumL (xs : List Fp) : Fp := xs.foldl (· + ·) 0
@[simp] theorem fe_len (x : Fp) : (fe x).length = 4 := fel_len _
theorem fe_inj {x y : Fp} (h : fe x = fe y) : x = y := Fin.ext (fel_inj x.isLt y.isLt h)
theorem fe_eq {x y : Fp} : fe x = fe y ↔ x = y := ⟨fe_inj, fun h => by rw [h]⟩
theorem fe_zero : fe 0 = List.replicate 4 0 := fel_zero
theorem fpw_val (x : Fp) (k : Nat) : (fpw x k).val = x.val ^ k % 21888242871839275222246405745257275088548364400416034343698204186575808495617 := by unfold fpw; rfl
theorem subF_ctr {x y : Fp} : GC Try.prog 96 [.agg ((fe x).map (vi .u64)).toArray, .agg ((fe y).map (vi .u64)).toArray] [] [.agg ((fe (x - y)).map (vi .u64)).toArray] [] := by
  have h := esubP_ctr (u := x.val) (v := y.val) y.isLt
  rwa [Nat.add_comm x.val] at h
theorem negF_ctr {x : Fp} : GC Try.prog 45 [.agg ((fe x).map (vi .u64)).toArray] [] [.agg ((fe (-x)).map (vi .u64)).toArray] [] := by
  have h := enegP_ctr (v := x.val) x.isLt
  rwa [Nat.zero_add] at h
theorem mulF_ctr {x y : Fp} : GC Try.prog 35 [.agg ((fe x).map (vi .u64)).toArray, .agg ((fe y).map (vi .u64)).toArray] [] [.agg ((fe (x * y)).map (vi .u64)).toArray] [] := emulP_ctr (u := x.val) (v := y.val)
theorem invF_ctr {x : Fp} : GC Try.prog 95 [.agg ((fe x).map (vi .u64)).toArray] [] [.agg ((fe (finv x)).map (vi .u64)).toArray] [] := by
  obtain ⟨e, he⟩ : ∃ e, e = 21888242871839275222246405745257275088548364400416034343698204186575808495617 - 2 := ⟨_, rfl⟩
  have h := einv_ctr (v := x.val) (e := e) he x.isLt
  have h2 : x.val ^ e % 21888242871839275222246405745257275088548364400416034343698204186575808495617 = (finv x).val := by unfold finv; rw [fpw_val, he]
  rwa [h2] at h
theorem equalF_ctr {x y : Fp} : GC Try.prog 19 [.agg ((fe x).map (vi .u64)).toArray, .agg ((fe y).map (vi .u64)).toArray] [] [.bool (decide (x = y))] [] := by
  have h := equal_ctr (a := fe x) (b := fe y) (fe_len x) (fe_len y)
  rwa [show decide (fe x = fe y) = decide (x = y) from decide_eq_decide.2 fe_eq] at h
theorem iszeroF_ctr {x : Fp} : GC Try.prog 46 [.agg ((fe x).map (vi .u64)).toArray] [] [.bool (decide (x = 0))] [] := by
  have h := iszero_ctr (a := fe x) (fe_len x)
  rwa [show decide (fe x = List.replicate 4 0) = decide (x = 0) from decide_eq_decide.2 (by rw [← fe_zero, fe_eq])] at h
theorem fromuF_ctr {v : Nat} (hv : v < 18446744073709551616) : GC Try.prog 37 [vi .u64 (v)] [] [.agg ((fe (fp v)).map (vi .u64)).toArray] [] := by
  have h := fromuP_ctr hv
  rwa [← fel_mod] at h
theorem fromwideF_ctr {b : List Nat} (hb : bd 256 b) (hlb : b.length ≤ 1000) : GC Try.prog 30 [.slice (some ⟨0, 0, none⟩) b.length 0] [⟨b.map (vi .u8), false, 1⟩] [.agg ((fe (fp (num 256 b))).map (vi .u64)).toArray] [⟨b.map (vi .u8), false, 1⟩] := fromwide_ctr hb hlb
theorem fsum_val : ∀ (xs : List Fp) (a : Fp), (xs.foldl (· + ·) a).val = (xs.map (·.val)).foldl (fun a b => (a + b) % 21888242871839275222246405745257275088548364400416034343698204186575808495617) a.val
  | [], _ => rfl
  | x :: xs, a => fsum_val xs (a + x)
theorem sumF_ctr {xs : List Fp} (hl : xs.length < 1000000000) : GC Try.prog 113 [.slice (some ⟨0, 0, none⟩) xs.length 0] [⟨((xs.map fe).flatten).map (vi .u64), false, 4⟩] [.agg ((fe (fsumL xs)).map (vi .u64)).toArray] [⟨((xs.map fe).flatten).map (vi .u64), false, 4⟩] := by
  have h := fsum_ctr (vs := xs.map (·.val)) (by simpa using hl)
  rw [List.map_map, List.length_map] at h
  have e := fsum_val xs 0
  rw [show ((0 : Fp)).val = 0 from rfl] at e
  rw [← e] at h
  exact h
theorem modR_ctr {v : Nat} (hl : (D 4294967296 v).length < 1000000) : GC Try.prog 51 [.slice (some ⟨0, 0, none⟩) (D 4294967296 v).length 0] [⟨(D 4294967296 v).map (vi .u64), false, 1⟩] [.slice (some ⟨1, 0, none⟩) (D 4294967296 ((fp v).val)).length 0] [⟨(D 4294967296 v).map (vi .u64), false, 1⟩, ⟨(D 4294967296 ((fp v).val)).map (vi .u64), true, 1⟩] := mod02_ctr hl
theorem mul_finv {x : Fp} (hx : x ≠ 0) : x * finv x = 1 := by
  apply Fin.ext
  obtain ⟨k, hk⟩ : ∃ k, k = 21888242871839275222246405745257275088548364400416034343698204186575808495617 - 2 := ⟨_, rfl⟩
  have h0 : ¬ 21888242871839275222246405745257275088548364400416034343698204186575808495617 ∣ x.val := fun hd => hx (Fin.ext (Nat.eq_zero_of_dvd_of_lt hd x.isLt))
  have h := fermat irr_p h0
  have hf : finv x = fpw x k := by unfold finv; rw [hk]
  rw [hf, Fin.val_mul, fpw_val, Nat.mul_mod_mod, ← Nat.pow_succ']
  rw [show k.succ = 21888242871839275222246405745257275088548364400416034343698204186575808495617 - 1 by omega, h]
  rfl
theorem one_ne : (0 : Fp) ≠ 1 := by decide
theorem mul_left_cancel {x y z : Fp} (hx : x ≠ 0) (h : x * y = x * z) : y = z := Rg.unit_cancel (mul_finv hx) h
section
variable {ops : Array Oper} {n i : Nat} {os : List Oper} {E : Env} {M : Mem} {D : List Eff → Prop} {K : ASt → Prop}
  {d : Tmp} {ty : TypeId} {ps : String} {af : Array Edge} {g : Option (Nat × Bool)} {t : TypeId} {a : Operand}
theorem yLE {x : Fp} {id sz : Nat} {rw : Bool} {es : Nat} (hr : AWo Try.prog ops n (i + 1) os ⟨upd E d (.agg ((fe x).map (vi .u64)).toArray), M⟩ (fun es => D (⟨[id], []⟩ :: es)) K)
    (ha : aev E a = some (.pointer (some ⟨id, 0, none⟩)) := by exact rfl) (hb : M id = some ⟨(fe x).map (vi .u64), rw, es⟩ := by exact rfl)
    (ht : Tb.agg.lookup t = some true := by exact rfl) (hs : Tb.sz.lookup t = some sz := by exact rfl) (hl : 4 = sz := by exact rfl) (hw : wantA ops E ⟨some d, .load t a, ty, ps, af, g⟩ = some true := by exact rfl) (hd : Nat.blt d n = true := by exact rfl) :
    AWo Try.prog ops n i (⟨some d, .load t a, ty, ps, af, g⟩ :: os) ⟨E, M⟩ D K := AWo.loadAll tbok ha hb ht hs (by simpa using hl) hw hd hr
theorem yLEi {xs : List Fp} {id j sz : Nat} {rw : Bool} {es : Nat} (hr : AWo Try.prog ops n (i + 1) os ⟨upd E d (.agg ((fe (xs.getD j 0)).map (vi .u64)).toArray), M⟩ (fun es => D (⟨[id], []⟩ :: es)) K)
    (ha : aev E a = some (.pointer (some ⟨id, 0 + j * 4, none⟩)) := by exact rfl) (hb : M id = some ⟨((xs.map fe).flatten).map (vi .u64), rw, es⟩ := by exact rfl) (hj : j < xs.length := by first | decide | omega)
    (ht : Tb.agg.lookup t = some true := by exact rfl) (hs : Tb.sz.lookup t = some sz := by exact rfl) (hl : 4 = sz := by exact rfl) (hw : wantA ops E ⟨some d, .load t a, ty, ps, af, g⟩ = some true := by exact rfl) (hd : Nat.blt d n = true := by exact rfl) :
    AWo Try.prog ops n i (⟨some d, .load t a, ty, ps, af, g⟩ :: os) ⟨E, M⟩ D K := by
  subst hl
  have hlen : ∀ x ∈ xs.map fe, x.length = 4 := fun x hx => by obtain ⟨y, _, rfl⟩ := List.mem_map.1 hx; exact fe_len y
  refine AWo.loadAgg tbok (vs := (fe (xs.getD j 0)).map (vi .u64)) ha hb ht hs ?_ ?_ hw hd hr
  · rw [List.length_map, flat_len hlen, List.length_map]; omega
  · rw [Nat.zero_add, flat_take_map hlen (by rw [List.length_map]; exact hj)]
    congr 1
    rw [List.getD_eq_getElem?_getD, List.getElem?_map, List.getElem?_eq_getElem hj, List.getD_eq_getElem?_getD, List.getElem?_eq_getElem hj]
    rfl
end
end Go.Proofs.Yteeifahhejangaa
namespace Go.Proofs.Yteeifahhejangaa
open Go Sim
abbrev dd (v : Nat) : Value := deep (D 4294967296 v).length 1 ((D 4294967296 v).map (vi .u64))
abbrev dv (x : Fp) : Value := dd x.val
abbrev db (b : List Nat) : Value := deep b.length 1 (b.map (vi .u8))
theorem cloA {α : Type} {f : α → Value} {l : List α} (hf : ∀ x, flatV (f x) = true) : cloV (.agg (l.map f).toArray) = true := by
  simp only [cloV, List.all_eq_true]
  intro x hx
  obtain ⟨y, _, rfl⟩ := List.mem_map.1 (by simpa using hx)
  simp [clo1, hf y]
theorem modRd {v : Nat} (hl : (D 4294967296 v).length < 1000000) : GC Try.prog 51 [dd v] [] [dv (fp v)] [] := GC.deepen (modR_ctr hl) (.deep .nil) (.new (Nat.le_refl _) rfl (by simp) (cloM fun _ => rfl) .nil)
theorem fromwideFd {b : List Nat} (hb : bd 256 b) (hlb : b.length ≤ 1000) : GC Try.prog 30 [db b] [] [.agg ((fe (fp (num 256 b))).map (vi .u64)).toArray] [] := GC.deepen (fromwideF_ctr hb hlb) (.deep .nil) (.pure (cloA flat_vi) .nil)
theorem ofbd {a : List Nat} (ha : bd 256 a) (hl : a.length < 100000000) : GC Try.prog 52 [db a] [] [dd (num 256 a)] [] := GC.deepen (ofb_ctr ha hl) (.deep .nil) (.new (Nat.le_refl _) rfl (by simp) (cloM fun _ => rfl) .nil)
end Go.Proofs.Yteeifahhejangaa
namespace Go.Proofs.Yteeifahhejangaa
open Go Sim
def blk (L : List (List Nat)) (c : Nat) : List Nat := L.getD (c % L.length) []
end Go.Proofs.Yteeifahhejangaa
namespace Go.Proofs.Yteeifahhejangaa
open Go Sim
theorem setL_eq : ∀ (vs cells : List Value) (o : Nat), o + vs.length ≤ cells.length → setL cells o vs = cells.take o ++ vs ++ cells.drop (o + vs.length) := by
 intro vs
 induction vs with
 | nil => intro cells o _; simp [setL]
 | cons v vs ih =>
  intro cells o h
  simp only [List.length_cons] at h
  simp only [setL]
  rw [ih (cells.set o v) (o + 1) (by simp; omega), List.drop_set_of_lt (by omega)]
  have h1 : (cells.set o v).take (o + 1) = cells.take o ++ [v] := by
   rw [List.take_add_one, List.take_set_of_le (by omega), List.getElem?_set_self (by omega)]
   rfl
  rw [h1]
  simp [Nat.add_assoc, Nat.add_comm 1]
theorem fillB1 {b : List Nat} {c : Value} {k : IntKind} {n : Nat} (h : b.length = n) : fillL (fun i => some (i * n, n)) (List.replicate (1 * n) c) [(0, .agg (b.map (vi k)).toArray)] = some ([b].flatten.map (vi k)) := by
 simp only [fillL]
 rw [if_neg (by simp [Value.cells, h])]
 simp only [Value.cells]
 rw [setL_eq _ _ _ (by simp [h])]
 simp [h]
end Go.Proofs.Yteeifahhejangaa
namespace Go.Proofs.Yteeifahhejangaa
open Go Sim
attribute [local simp] digs_len
def bstr (xs : List Fp) (i : Nat) : Nat := (digs 256 32 (xs.getD (i / 31 % xs.length) 0).val).getD (i % 31) 0
def bts (xs : List Fp) (n : Nat) : List Nat := (List.range n).map (bstr xs)
@[simp] theorem bts_len (xs : List Fp) (n : Nat) : (bts xs n).length = n := by simp [bts]
theorem bts_step {xs : List Fp} {k n : Nat} (h : 31 * k < n) : bts xs (min (31 * k) n) ++ (digs 256 32 (xs.getD (k % xs.length) 0).val).take (min 31 (n - min (31 * k) n)) = bts xs (min (31 * (k + 1)) n) := by
  have h1 : min (31 * k) n = 31 * k := by omega
  rw [h1]
  obtain ⟨m, hm⟩ : ∃ m, m = min 31 (n - 31 * k) := ⟨_, rfl⟩
  rw [← hm, show min (31 * (k + 1)) n = 31 * k + m by omega]
  apply List.ext_getElem?
  intro i
  have hl : ((digs 256 32 (xs.getD (k % xs.length) 0).val).take m).length = m := by rw [List.length_take, digs_len]; omega
  rcases Nat.lt_or_ge i (31 * k) with hi | hi
  · rw [List.getElem?_append_left (by simpa using hi)]
    simp only [bts, List.getElem?_map, List.getElem?_range hi, List.getElem?_range (show i < 31 * k + m by omega)]
  · rw [List.getElem?_append_right (by simpa using hi), bts_len]
    rcases Nat.lt_or_ge i (31 * k + m) with hj | hj
    · simp only [bts, List.getElem?_map, List.getElem?_range hj, Option.map_some, bstr]
      rw [List.getElem?_take, if_pos (by omega), List.getElem?_eq_getElem (by rw [digs_len]; omega), show i / 31 = k by omega, show i % 31 = i - 31 * k by omega, List.getD_eq_getElem?_getD (i := i - 31 * k), List.getElem?_eq_getElem (by rw [digs_len]; omega)]
      rfl
    · rw [List.getElem?_eq_none (by omega), List.getElem?_eq_none (by simpa using hj)]
end Go.Proofs.Yteeifahhejangaa
namespace Go.Proofs.Yteeifahhejangaa
open Go Sim
theorem fe_flat (xs : List Fp) : ((xs.map fe).flatten).length = xs.length * 4 := by
 have := flat_len (L := xs.map fe) (n := 4) (fun x hx => by obtain ⟨y, _, rfl⟩ := List.mem_map.1 hx; exact fe_len y)
 rwa [List.length_map] at this
end Go.Proofs.Yteeifahhejangaa
namespace Go.Proofs.Yteeifahhejangaa
open Go Sim
theorem sumN_ctr {xs : List Fp} {n : Nat} {s : Fp} (hn : xs.length = n) (hl : n < 1000000000) (hs : fsumL xs = s) : GC Try.prog 113 [.slice (some ⟨0, 0, none⟩) n 0] [⟨((xs.map fe).flatten).map (vi .u64), false, 4⟩] [.agg ((fe s).map (vi .u64)).toArray] [⟨((xs.map fe).flatten).map (vi .u64), false, 4⟩] := by
 subst hn hs; exact sumF_ctr hl
end Go.Proofs.Yteeifahhejangaa
namespace Go.Proofs.Yteeifahhejangaa
open Go Sim
abbrev FF (xs : List Fp) : List Value := ((xs.map fe).flatten).map (vi .u64)
theorem FF_len (xs : List Fp) : (FF xs).length = xs.length * 4 := by rw [List.length_map, fe_flat]
theorem FF_app (xs ys : List Fp) : FF (xs ++ ys) = FF xs ++ FF ys := by simp
theorem FF_cons (x : Fp) (xs : List Fp) : FF (x :: xs) = (fe x).map (vi .u64) ++ FF xs := by simp
theorem FF_drop (xs : List Fp) (j : Nat) : (FF xs).drop (j * 4) = FF (xs.drop j) := by
  by_cases h : j ≤ xs.length
  · have e : FF xs = FF (xs.take j) ++ FF (xs.drop j) := by rw [← FF_app, List.take_append_drop]
    have hl : (FF (xs.take j)).length = j * 4 := by rw [FF_len, List.length_take, Nat.min_eq_left h]
    rw [e, ← hl, List.drop_left]
  · rw [List.drop_eq_nil_of_le (by rw [FF_len]; omega), List.drop_eq_nil_of_le (by omega)]; rfl
theorem FF_take (xs : List Fp) (j : Nat) : (FF xs).take (j * 4) = FF (xs.take j) := by
  by_cases h : j ≤ xs.length
  · have e : FF xs = FF (xs.take j) ++ FF (xs.drop j) := by rw [← FF_app, List.take_append_drop]
    have hl : (FF (xs.take j)).length = j * 4 := by rw [FF_len, List.length_take, Nat.min_eq_left h]
    rw [e, ← hl, List.take_left]
  · rw [List.take_of_length_le (by rw [FF_len]; omega), List.take_of_length_le (by omega)]
theorem setL_app : ∀ (a b c : List Value) (o : Nat), setL c o (a ++ b) = setL (setL c o a) (o + a.length) b
  | [], b, c, o => rfl
  | v :: a, b, c, o => by
    show setL (c.set o v) (o + 1) (a ++ b) = setL (setL (c.set o v) (o + 1) a) (o + (a.length + 1)) b
    rw [setL_app a b, show o + 1 + a.length = o + (a.length + 1) by omega]
theorem setL_FF {xs : List Fp} {j : Nat} {x : Fp} (h : j < xs.length) : setL (FF xs) (j * 4) ((fe x).map (vi .u64)) = FF (xs.set j x) := by
  rw [setL_eq _ _ _ (by rw [List.length_map, fe_len, FF_len]; omega), List.length_map, fe_len, show j * 4 + 4 = (j + 1) * 4 by omega, FF_drop, FF_take, List.set_eq_take_append_cons_drop, if_pos h, FF_app, FF_cons, List.append_assoc]
def setE (xs : List Fp) (j : Nat) : List Fp → List Fp
  | [] => xs
  | v :: vs => setE (xs.set j v) (j + 1) vs
theorem setE_len : ∀ (vs xs : List Fp) (j : Nat), (setE xs j vs).length = xs.length
  | [], _, _ => rfl
  | v :: vs, xs, j => by rw [setE, setE_len vs, List.length_set]
theorem setL_FFs : ∀ (vs xs : List Fp) (j : Nat), j + vs.length ≤ xs.length → setL (FF xs) (j * 4) (FF vs) = FF (setE xs j vs)
  | [], _, _, _ => rfl
  | v :: vs, xs, j, h => by
    simp only [List.length_cons] at h
    rw [FF_cons, setL_app, setL_FF (by omega), List.length_map, fe_len, show j * 4 + 4 = (j + 1) * 4 by omega, setL_FFs vs _ _ (by rw [List.length_set]; omega)]
    rfl
theorem setL_at {A vs : List Value} {c : Value} {k : Nat} : setL (A ++ List.replicate (vs.length + k) c) A.length vs = (A ++ vs) ++ List.replicate k c := by
  rw [setL_eq _ _ _ (by simp), List.take_left, List.drop_append, List.drop_of_length_le (by omega), List.nil_append, List.drop_replicate, show vs.length + k - (A.length + vs.length - A.length) = k by omega]
theorem fill4 {c : Value} {x : Fp} {A : List Value} {i k n : Nat} {vals : List (Nat × Value)} {out : List Value} (hA : A.length = i * 4) (hk : n = 4 + k) (h : fillL (fun i => some (i * 4, 4)) ((A ++ (fe x).map (vi .u64)) ++ List.replicate k c) vals = some out) :
    fillL (fun i => some (i * 4, 4)) (A ++ List.replicate n c) ((i, .agg ((fe x).map (vi .u64)).toArray) :: vals) = some out := by
  subst hk
  simp only [fillL]
  have hl : ((fe x).map (vi .u64)).length = 4 := by rw [List.length_map, fe_len]
  rw [if_neg (by
    simp only [Value.cells, List.size_toArray, hl, List.length_append, List.length_replicate, hA]
    intro hh
    rcases hh with hh | hh <;> omega)]
  have := setL_at (A := A) (vs := (fe x).map (vi .u64)) (c := c) (k := k)
  rw [hl, hA] at this
  simp only [Value.cells]
  rw [this]; exact h
theorem fill3 {c : Value} {x y z : Fp} : fillL (fun i => some (i * 4, 4)) (List.replicate 12 c) [(0, .agg ((fe x).map (vi .u64)).toArray), (1, .agg ((fe y).map (vi .u64)).toArray), (2, .agg ((fe z).map (vi .u64)).toArray)] = some (FF [x, y, z]) := by
  have hl : ∀ x : Fp, ((fe x).map (vi .u64)).length = 4 := fun x => by rw [List.length_map, fe_len]
  refine fill4 (A := []) (k := 8) rfl rfl (fill4 (k := 4) (by simp [hl]) rfl (fill4 (k := 0) (by simp [hl]) rfl ?_))
  simp [fillL]
theorem zeroFF (n : Nat) : FF (List.replicate n 0) = List.replicate (n * 4) (vi .u64 0) := by
  induction n with
  | zero => rfl
  | succ n ih => rw [List.replicate_succ, FF_cons, ih, fe_zero, List.map_replicate, List.replicate_append_replicate, show 4 + n * 4 = (n + 1) * 4 by omega]
theorem take3 {xs : List Fp} {k : Nat} (h : k + 3 ≤ xs.length) : (xs.drop k).take 3 = [xs.getD k 0, xs.getD (k + 1) 0, xs.getD (k + 2) 0] := by
  have e : ∀ i (h : i < xs.length), xs.getD i 0 = xs[i] := fun i h => by rw [List.getD_eq_getElem?_getD, List.getElem?_eq_getElem h]; rfl
  rw [e k (by omega), e (k + 1) (by omega), e (k + 2) (by omega), List.drop_eq_getElem_cons (i := k) (by omega), List.drop_eq_getElem_cons (i := k + 1) (by omega), List.drop_eq_getElem_cons (i := k + 1 + 1) (by omega)]
  rfl
theorem ptr_off {E : Env} {a : Operand} {id o o' : Nat} (h : aev E a = some (.pointer (some ⟨id, o, none⟩))) (e : o = o') : aev E a = some (.pointer (some ⟨id, o', none⟩)) := e ▸ h
theorem cloAggM {α : Type} {f : α → Value} {l : List α} (hf : ∀ x, clo1 (f x) = true) : cloV (.agg (l.map f).toArray) = true := by
  show (l.map f).all clo1 = true
  rw [List.all_eq_true]
  intro x hx
  obtain ⟨y, _, rfl⟩ := List.mem_map.1 hx
  exact hf y
section
variable {ops : Array Oper} {n i : Nat} {os : List Oper} {E : Env} {M : Mem} {D : List Eff → Prop} {K : ASt → Prop}
  {d : Tmp} {ty : TypeId} {ps : String} {af : Array Edge} {g : Option (Nat × Bool)} {t : TypeId} {a x : Operand}
theorem yLJ {xs : List Fp} {id sz o : Nat} {rw : Bool} {es : Nat} (j : Nat) (hr : AWo Try.prog ops n (i + 1) os ⟨upd E d (.agg ((fe (xs.getD j 0)).map (vi .u64)).toArray), M⟩ (fun es => D (⟨[id], []⟩ :: es)) K)
        (ha : aev E a = some (.pointer (some ⟨id, o, none⟩)) := by exact rfl) (hb : M id = some ⟨((xs.map fe).flatten).map (vi .u64), rw, es⟩ := by exact rfl)
    (ht : Tb.agg.lookup t = some true := by exact rfl) (hs : Tb.sz.lookup t = some sz := by exact rfl) (hl : 4 = sz := by exact rfl) (hw : wantA ops E ⟨some d, .load t a, ty, ps, af, g⟩ = some true := by exact rfl) (hd : Nat.blt d n = true := by exact rfl) (hj : j < xs.length := by first | decide | omega | (simp only [List.length_cons, List.length_nil]; omega)) (ho : o = j * 4 := by omega) :
    AWo Try.prog ops n i (⟨some d, .load t a, ty, ps, af, g⟩ :: os) ⟨E, M⟩ D K :=
  yLEi (xs := xs) (j := j) hr (ptr_off ha (by omega)) hb hj ht hs hl hw hd
theorem yLV {xs : List Fp} {id sz o : Nat} {rw : Bool} {es : Nat} (j : Nat) (hr : AWo Try.prog ops n (i + 1) os ⟨upd E d (.agg ((([xs.getD j 0, xs.getD (j + 1) 0, xs.getD (j + 2) 0].map fe).flatten).map (vi .u64)).toArray), M⟩ (fun es => D (⟨[id], []⟩ :: es)) K)
        (ha : aev E a = some (.pointer (some ⟨id, o, none⟩)) := by exact rfl) (hb : M id = some ⟨((xs.map fe).flatten).map (vi .u64), rw, es⟩ := by exact rfl)
    (ht : Tb.agg.lookup t = some true := by exact rfl) (hs : Tb.sz.lookup t = some sz := by exact rfl) (hl : 12 = sz := by exact rfl) (hw : wantA ops E ⟨some d, .load t a, ty, ps, af, g⟩ = some true := by exact rfl) (hd : Nat.blt d n = true := by exact rfl) (hj : j + 3 ≤ xs.length := by first | decide | omega | (simp only [List.length_cons, List.length_nil]; omega)) (ho : o = j * 4 := by omega) :
    AWo Try.prog ops n i (⟨some d, .load t a, ty, ps, af, g⟩ :: os) ⟨E, M⟩ D K := by
  subst hl; subst ho
  refine AWo.loadAgg tbok (vs := FF [xs.getD j 0, xs.getD (j + 1) 0, xs.getD (j + 2) 0]) ha hb ht hs ?_ ?_ hw hd hr
  · show j * 4 + 12 ≤ (FF xs).length; rw [FF_len]; omega
  · show ((FF xs).drop (j * 4)).take (3 * 4) = _; rw [FF_drop, FF_take, take3 hj]
theorem yLM {xs : List Fp} {id sz : Nat} {rw : Bool} {es : Nat} (m : Nat) (hr : AWo Try.prog ops n (i + 1) os ⟨upd E d (.agg (((xs.map fe).flatten).map (vi .u64)).toArray), M⟩ (fun es => D (⟨[id], []⟩ :: es)) K)
    (hm : xs.length = m := by first | assumption | rfl | simp) (hl : m * 4 = sz := by exact rfl) (ha : aev E a = some (.pointer (some ⟨id, 0, none⟩)) := by exact rfl) (hb : M id = some ⟨((xs.map fe).flatten).map (vi .u64), rw, es⟩ := by exact rfl)
    (ht : Tb.agg.lookup t = some true := by exact rfl) (hs : Tb.sz.lookup t = some sz := by exact rfl) (hw : wantA ops E ⟨some d, .load t a, ty, ps, af, g⟩ = some true := by exact rfl) (hd : Nat.blt d n = true := by exact rfl) :
    AWo Try.prog ops n i (⟨some d, .load t a, ty, ps, af, g⟩ :: os) ⟨E, M⟩ D K :=
  AWo.loadAll tbok ha hb ht hs (by show (FF xs).length = sz; rw [FF_len, hm, hl]) hw hd hr
theorem ySE {xs vs : List Fp} {id o sz es : Nat} (j : Nat) (hr' : AWo Try.prog ops n (i + 1) os ⟨E, upd M id ⟨(((setE xs j vs).map fe).flatten).map (vi .u64), true, es⟩⟩ (fun es' => D (⟨[id], [(id, ⟨(((setE xs j vs).map fe).flatten).map (vi .u64), true, es⟩)]⟩ :: es')) K)
        (ha : aev E a = some (.pointer (some ⟨id, o, none⟩)) := by exact rfl) (hx : aev E x = some (.agg (((vs.map fe).flatten).map (vi .u64)).toArray) := by exact rfl) (hb : M id = some ⟨((xs.map fe).flatten).map (vi .u64), true, es⟩ := by exact rfl)
    (hs : Tb.sz.lookup t = some sz := by exact rfl) (hl : vs.length * 4 = sz := by exact rfl) (hw : wantA ops E ⟨none, .store t a x, ty, ps, af, g⟩ = some true := by exact rfl) (hj : j + vs.length ≤ xs.length := by first | decide | omega | (simp only [List.length_cons, List.length_nil, List.length_replicate, List.length_set, setE_len]; omega)) (ho : o = j * 4 := by omega) :
    AWo Try.prog ops n i (⟨none, .store t a x, ty, ps, af, g⟩ :: os) ⟨E, M⟩ D K := by
  subst ho
  have hl2 : (FF vs).length = sz := by rw [FF_len]; exact hl
  refine AWo.store tbok ha hx hb rfl (by show Tb.sz.lookup t = some (FF vs).toArray.size; rw [List.size_toArray, hl2]; exact hs) ?_ (by show (FF vs).all _ = true; exact oneM (fun _ => rfl) _) (setL_FFs vs xs j hj) hw hr'
  show j * 4 + (FF vs).toArray.size ≤ (FF xs).length
  rw [List.size_toArray, FF_len, FF_len]; omega
theorem ySJ {xs : List Fp} {y : Fp} {id o sz es : Nat} (j : Nat) (hr' : AWo Try.prog ops n (i + 1) os ⟨E, upd M id ⟨(((xs.set j y).map fe).flatten).map (vi .u64), true, es⟩⟩ (fun es' => D (⟨[id], [(id, ⟨(((xs.set j y).map fe).flatten).map (vi .u64), true, es⟩)]⟩ :: es')) K)
        (ha : aev E a = some (.pointer (some ⟨id, o, none⟩)) := by exact rfl) (hx : aev E x = some (.agg ((fe y).map (vi .u64)).toArray) := by exact rfl) (hb : M id = some ⟨((xs.map fe).flatten).map (vi .u64), true, es⟩ := by exact rfl)
    (hs : Tb.sz.lookup t = some sz := by exact rfl) (hl : 4 = sz := by exact rfl) (hw : wantA ops E ⟨none, .store t a x, ty, ps, af, g⟩ = some true := by exact rfl) (hj : j < xs.length := by first | decide | omega | (simp only [List.length_cons, List.length_nil, List.length_replicate, List.length_set, setE_len]; omega)) (ho : o = j * 4 := by omega) :
    AWo Try.prog ops n i (⟨none, .store t a x, ty, ps, af, g⟩ :: os) ⟨E, M⟩ D K :=
  ySE (vs := [y]) j hr' ha (by rw [hx]; simp) hb hs hl hw (by simp only [List.length_cons, List.length_nil]; omega) ho
end
end Go.Proofs.Yteeifahhejangaa
namespace Go.Proofs.Yteeifahhejangaa
open Go Sim
def mnr (M : List Fp) (i j : Nat) : Fp :=
  M.getD ((if i = 0 then 1 else 0) * 3 + (if j = 0 then 1 else 0)) 0 * M.getD ((if i = 2 then 1 else 2) * 3 + (if j = 2 then 1 else 2)) 0 - M.getD ((if i = 0 then 1 else 0) * 3 + (if j = 2 then 1 else 2)) 0 * M.getD ((if i = 2 then 1 else 2) * 3 + (if j = 0 then 1 else 0)) 0
theorem mnr_eq {M : List Fp} {i j a b c d : Nat} (ha : a = if i = 0 then 1 else 0) (hb : b = if i = 2 then 1 else 2) (hc : c = if j = 0 then 1 else 0) (hd : d = if j = 2 then 1 else 2) :
    mnr M i j = M.getD (a * 3 + c) 0 * M.getD (b * 3 + d) 0 - M.getD (a * 3 + d) 0 * M.getD (b * 3 + c) 0 := by subst ha hb hc hd; rfl
def dtm (M : List Fp) : Fp := fsumL [M.getD 0 0 * mnr M 0 0, M.getD 1 0 * -mnr M 0 1, M.getD 2 0 * mnr M 0 2]
def mmF (M N : List Fp) (i j : Nat) : Fp := fsumL [M.getD (i * 3) 0 * N.getD j 0, M.getD (i * 3 + 1) 0 * N.getD (3 + j) 0, M.getD (i * 3 + 2) 0 * N.getD (6 + j) 0]
def tab (g : Nat → Nat → Fp) : List Fp := (List.range 9).map fun p => g (p / 3) (p % 3)
def apl (M : List Fp) (p q r : Fp) : List Fp := [fsumL [M.getD 0 0 * p, M.getD 1 0 * q, M.getD 2 0 * r], fsumL [M.getD 3 0 * p, M.getD 4 0 * q, M.getD 5 0 * r], fsumL [M.getD 6 0 * p, M.getD 7 0 * q, M.getD 8 0 * r]]
theorem column_ctr {M : List Fp} {j : Nat} (hM : M.length = 9) (hj : j < 3) : GC Try.prog 105 [.agg (((M.map fe).flatten).map (vi .u64)).toArray, vi .i64 (j)] [] [.agg ((([M.getD j 0, M.getD (3 + j) 0, M.getD (6 + j) 0].map fe).flatten).map (vi .u64)).toArray] [] := by
  refine GC.intro Try.func105 rfl (by show 2 ≤ 18; decide) (by first | exact Nat.le_refl _ | decide | simp) ?_
  refine AW.seqR ?_
  refine AWo.box 3000 1 _ rfl rfl rfl rfl rfl ?_
  refine yN 5000 1 ((((List.replicate 3 (0 : Fp)).map fe).flatten).map (vi .u64)) ?_ (hc := by exact (zeroFF 3).symm)
  refine AWo.nil trivial ?_
  refine AW.seqD mixed ?_
  refine yM ?_
  first | refine AWo.pure (PureOp.arr1 (j := 0) tbok rfl rfl rfl rfl (by first | decide | omega)) rfl rfl ?_ | refine AWo.pure (PureOp.arr (j := 0) tbok rfl rfl rfl rfl (by first | decide | omega)) rfl rfl ?_
  first | refine AWo.pure (PureOp.arr1 tbok rfl rfl rfl rfl (by first | decide | omega)) rfl rfl ?_ | refine AWo.pure (PureOp.arr tbok rfl rfl rfl rfl (by first | decide | omega)) rfl rfl ?_
  refine yLJ (xs := M) (j) ?_
  refine AWo.pure (PureOp.move rfl) rfl rfl ?_
  first | refine AWo.pure (PureOp.arr1 (j := 1) tbok rfl rfl rfl rfl (by first | decide | omega)) rfl rfl ?_ | refine AWo.pure (PureOp.arr (j := 1) tbok rfl rfl rfl rfl (by first | decide | omega)) rfl rfl ?_
  first | refine AWo.pure (PureOp.arr1 tbok rfl rfl rfl rfl (by first | decide | omega)) rfl rfl ?_ | refine AWo.pure (PureOp.arr tbok rfl rfl rfl rfl (by first | decide | omega)) rfl rfl ?_
  refine yLJ (xs := M) (3 + j) ?_
  refine AWo.pure (PureOp.move rfl) rfl rfl ?_
  first | refine AWo.pure (PureOp.arr1 (j := 2) tbok rfl rfl rfl rfl (by first | decide | omega)) rfl rfl ?_ | refine AWo.pure (PureOp.arr (j := 2) tbok rfl rfl rfl rfl (by first | decide | omega)) rfl rfl ?_
  first | refine AWo.pure (PureOp.arr1 tbok rfl rfl rfl rfl (by first | decide | omega)) rfl rfl ?_ | refine AWo.pure (PureOp.arr tbok rfl rfl rfl rfl (by first | decide | omega)) rfl rfl ?_
  refine yLJ (xs := M) (6 + j) ?_
  refine AWo.pure (PureOp.buildArr tbok [(0, .agg ((fe (M.getD j 0)).map (vi .u64)).toArray), (1, .agg ((fe (M.getD (3 + j) 0)).map (vi .u64)).toArray), (2, .agg ((fe (M.getD (6 + j) 0)).map (vi .u64)).toArray)] rfl rfl rfl (by decide) rfl fill3) rfl rfl ?_
  refine ySE (vs := [M.getD j 0, M.getD (3 + j) 0, M.getD (6 + j) 0]) 0 ?_
  refine AWo.nil (by kernel_rfl) ?_
  refine AW.ret ?_
  refine RetQ.gc [_] [] [.cell 4 74] (.inl rfl) rfl (.val (RVal.cellAll tbok rfl rfl rfl rfl (by first | (simp [*]; done) | rfl)) .nil) rfl (.pure (by first | rfl | exact pure_aggM flat_vi | exact pure_aggM flat_bool) .nil) trivial (by decide) rfl
theorem dot_ctr {a b c p q r : Fp} : GC Try.prog 99 [.agg ((([a, b, c].map fe).flatten).map (vi .u64)).toArray, .agg ((([p, q, r].map fe).flatten).map (vi .u64)).toArray] [] [.agg ((fe (fsumL [a * p, b * q, c * r])).map (vi .u64)).toArray] [] := by
  refine GC.intro Try.func99 rfl (by show 2 ≤ 22; decide) (by first | exact Nat.le_refl _ | decide | simp) ?_
  refine AW.seqR ?_
  refine AWo.box 3000 1 _ rfl rfl rfl rfl rfl ?_
  refine AWo.box 4000 1 _ rfl rfl rfl rfl rfl ?_
  refine AWo.alloc tbok 5000 1 _ rfl rfl rfl rfl rfl rfl ?_
  refine AWo.nil trivial ?_
  refine AW.seqD mixed ?_
  first | refine AWo.pure (PureOp.arr1 (j := 0) tbok rfl rfl rfl rfl (by first | decide | omega)) rfl rfl ?_ | refine AWo.pure (PureOp.arr (j := 0) tbok rfl rfl rfl rfl (by first | decide | omega)) rfl rfl ?_
  refine yLJ (xs := [a, b, c]) (0) ?_
  first | refine AWo.pure (PureOp.arr1 (j := 0) tbok rfl rfl rfl rfl (by first | decide | omega)) rfl rfl ?_ | refine AWo.pure (PureOp.arr (j := 0) tbok rfl rfl rfl rfl (by first | decide | omega)) rfl rfl ?_
  refine yLJ (xs := [p, q, r]) (0) ?_
  refine AWo.callX (mulF_ctr (x := a) (y := p)) bd35 [] [] rfl (.cons rfl (.cons rfl .nil)) rfl (.pure (by first | rfl | exact pure_aggM flat_vi | exact pure_aggM flat_bool) (.pure (by first | rfl | exact pure_aggM flat_vi | exact pure_aggM flat_bool) .nil)) .nil rfl .nil frN (by decide) (.pure (by first | rfl | exact pure_aggM flat_vi | exact pure_aggM flat_bool) .nil) rfl rfl rfl rfl ?_
  first | refine AWo.pure (PureOp.arr1 (j := 1) tbok rfl rfl rfl rfl (by first | decide | omega)) rfl rfl ?_ | refine AWo.pure (PureOp.arr (j := 1) tbok rfl rfl rfl rfl (by first | decide | omega)) rfl rfl ?_
  refine yLJ (xs := [a, b, c]) (1) ?_
  first | refine AWo.pure (PureOp.arr1 (j := 1) tbok rfl rfl rfl rfl (by first | decide | omega)) rfl rfl ?_ | refine AWo.pure (PureOp.arr (j := 1) tbok rfl rfl rfl rfl (by first | decide | omega)) rfl rfl ?_
  refine yLJ (xs := [p, q, r]) (1) ?_
  refine AWo.callX (mulF_ctr (x := b) (y := q)) bd35 [] [] rfl (.cons rfl (.cons rfl .nil)) rfl (.pure (by first | rfl | exact pure_aggM flat_vi | exact pure_aggM flat_bool) (.pure (by first | rfl | exact pure_aggM flat_vi | exact pure_aggM flat_bool) .nil)) .nil rfl .nil frN (by decide) (.pure (by first | rfl | exact pure_aggM flat_vi | exact pure_aggM flat_bool) .nil) rfl rfl rfl rfl ?_
  first | refine AWo.pure (PureOp.arr1 (j := 2) tbok rfl rfl rfl rfl (by first | decide | omega)) rfl rfl ?_ | refine AWo.pure (PureOp.arr (j := 2) tbok rfl rfl rfl rfl (by first | decide | omega)) rfl rfl ?_
  refine yLJ (xs := [a, b, c]) (2) ?_
  first | refine AWo.pure (PureOp.arr1 (j := 2) tbok rfl rfl rfl rfl (by first | decide | omega)) rfl rfl ?_ | refine AWo.pure (PureOp.arr (j := 2) tbok rfl rfl rfl rfl (by first | decide | omega)) rfl rfl ?_
  refine yLJ (xs := [p, q, r]) (2) ?_
  refine AWo.callX (mulF_ctr (x := c) (y := r)) bd35 [] [] rfl (.cons rfl (.cons rfl .nil)) rfl (.pure (by first | rfl | exact pure_aggM flat_vi | exact pure_aggM flat_bool) (.pure (by first | rfl | exact pure_aggM flat_vi | exact pure_aggM flat_bool) .nil)) .nil rfl .nil frN (by decide) (.pure (by first | rfl | exact pure_aggM flat_vi | exact pure_aggM flat_bool) .nil) rfl rfl rfl rfl ?_
  refine AWo.buildSlice tbok 21000 [(0, .agg ((fe (a * p)).map (vi .u64)).toArray), (1, .agg ((fe (b * q)).map (vi .u64)).toArray), (2, .agg ((fe (c * r)).map (vi .u64)).toArray)] (out := (([a * p, b * q, c * r].map fe).flatten).map (vi .u64)) rfl rfl (by decide) rfl rfl rfl (by decide) rfl fill3 rfl rfl rfl ?_
  refine AWo.callX (sumN_ctr (xs := [a * p, b * q, c * r]) (n := 3) rfl (by decide) rfl) bd113 [(21000, 0)] [] rfl (.cons rfl .nil) rfl (.cons rfl rfl .nil) (.flat rfl (by first | exact flatM flat_vi | exact flatM flat_bool | (simp [flatV, flat_vi]; done)) (by intro h; first | exact h | rfl) .nil) rfl (.keep rfl .nil) frN (by decide) (.pure (by first | rfl | exact pure_aggM flat_vi | exact pure_aggM flat_bool) .nil) rfl rfl rfl rfl ?_
  refine AWo.storeAllN tbok rfl rfl rfl rfl (by first | (simp [*]; done) | rfl) (by first | (simp [*]; done) | rfl) (by first | exact oneM (fun _ => rfl) _ | rfl | (simp; done)) rfl ?_
  refine AWo.nil (by kernel_rfl) ?_
  refine AW.ret ?_
  refine RetQ.gc [_] [] [.cell 4 33] (.inl rfl) rfl (.val (RVal.cellAll tbok rfl rfl rfl rfl (by first | (simp [*]; done) | rfl)) .nil) rfl (.pure (by first | rfl | exact pure_aggM flat_vi | exact pure_aggM flat_bool) .nil) trivial (by decide) rfl
set_option maxRecDepth 10000 in
theorem minor_ctr {M : List Fp} {i j : Nat} (hM : M.length = 9) (_hi : i < 3) (_hj : j < 3) : GC Try.prog 100 [.agg (((M.map fe).flatten).map (vi .u64)).toArray, vi .i64 (i), vi .i64 (j)] [] [.agg ((fe (mnr M i j)).map (vi .u64)).toArray] [] := by
  refine GC.intro Try.func100 rfl (by show 3 ≤ 42; decide) (by first | exact Nat.le_refl _ | decide | simp) ?_
  refine AW.seqR ?_
  refine AWo.box 4000 1 _ rfl rfl rfl rfl rfl ?_
  refine AWo.alloc tbok 7000 1 _ rfl rfl rfl rfl rfl rfl ?_
  refine AWo.nil trivial ?_
  refine AW.seqR ?_
  refine AWo.pure (PureOp.assign rfl) rfl rfl ?_
  refine AWo.pure (PureOp.assign rfl) rfl rfl ?_
  refine AWo.nil trivial ?_
  refine AW.seq ?_
  refine AW.seqR ?_
  refine AWo.pure (PureOp.move rfl) rfl rfl ?_
  first | refine AWo.pure (PureOp.eqN (b := 0) rfl rfl) rfl rfl ?_ | refine AWo.pure (PureOp.bin rfl rfl rfl) rfl rfl ?_
  refine AWo.nil trivial ?_
  refine AW.joinT (fun σ => ∃ a, (a = if i = 0 then 1 else 0) ∧ σ = ⟨(upd (upd (upd (upd (upd (upd (upd emp 0 (.agg (((M.map fe).flatten).map (vi .u64)).toArray)) 1 (vi .i64 i)) 2 (vi .i64 j)) 3 (.pointer (some ⟨4000, 0, none⟩))) 6 (.pointer (some ⟨7000, 0, none⟩))) 7 (vi .i64 a)) 8 (vi .i64 2)), (upd (upd emp 4000 ⟨((M.map fe).flatten).map (vi .u64), true, 1⟩) 7000 ⟨(List.replicate 4 0).map (vi .u64), true, 1⟩)⟩) ?_ ?_
  ·
    refine AW.cond rfl (fun hb0 => ?_) (fun hb0 => ?_)
    ·
      refine AW.region ?_
      refine AWo.pure (PureOp.assign rfl) rfl rfl ?_
      refine AWo.nil trivial ?_
      refine thenA_normal ?_
      refine ⟨[], _, ?_, ⟨1, by simp_all, rfl⟩⟩
      refine Wk.of [4000, 7000] ?_ ?_ ?_ (by decide) rfl
      ·
        refine WkE.upd rfl (by first | exact VR.flat _ rfl | exact VR.eqv (vp_succ _) rfl | exact VR.eqv (vp_succ _).symm rfl | exact VR.eqv (by first | rfl | (congr 1; omega) | (simp; done) | (simp; omega)) rfl) ?_
        refine WkE.upd rfl (by first | exact VR.flat _ rfl | exact VR.eqv (vp_succ _) rfl | exact VR.eqv (vp_succ _).symm rfl | exact VR.eqv (by first | rfl | (congr 1; omega) | (simp; done) | (simp; omega)) rfl) ?_
        refine WkE.upd rfl (.ptr (7000) 0 ⟨_, rfl⟩) ?_
        refine WkE.upd rfl (.ptr (4000) 0 ⟨_, rfl⟩) ?_
        refine WkE.upd rfl (by first | exact VR.flat _ rfl | exact VR.eqv (vp_succ _) rfl | exact VR.eqv (vp_succ _).symm rfl | exact VR.eqv (by first | rfl | (congr 1; omega) | (simp; done) | (simp; omega)) rfl) ?_
        refine WkE.upd rfl (by first | exact VR.flat _ rfl | exact VR.eqv (vp_succ _) rfl | exact VR.eqv (vp_succ _).symm rfl | exact VR.eqv (by first | rfl | (congr 1; omega) | (simp; done) | (simp; omega)) rfl) ?_
        refine WkE.upd rfl (VR.pure (pure_aggM flat_vi)) ?_
        exact WkE.emp
      ·
        refine WkM.flat rfl (flatM flat_vi) (fun h => h) ?_
        refine WkM.flat rfl (flatM flat_vi) (fun h => h) ?_
        exact WkM.emp
      ·
        repeat (refine dom_upd_mem (by decide) ?_)
        exact dom_emp
    ·
      refine AW.skip ?_
      refine thenA_normal ?_
      refine ⟨[], _, ?_, ⟨0, by simp_all, rfl⟩⟩
      refine Wk.of [4000, 7000] ?_ ?_ ?_ (by decide) rfl
      ·
        refine WkE.upd rfl (by first | exact VR.flat _ rfl | exact VR.eqv (vp_succ _) rfl | exact VR.eqv (vp_succ _).symm rfl | exact VR.eqv (by first | rfl | (congr 1; omega) | (simp; done) | (simp; omega)) rfl) ?_
        refine WkE.upd rfl (by first | exact VR.flat _ rfl | exact VR.eqv (vp_succ _) rfl | exact VR.eqv (vp_succ _).symm rfl | exact VR.eqv (by first | rfl | (congr 1; omega) | (simp; done) | (simp; omega)) rfl) ?_
        refine WkE.upd rfl (.ptr (7000) 0 ⟨_, rfl⟩) ?_
        refine WkE.upd rfl (.ptr (4000) 0 ⟨_, rfl⟩) ?_
        refine WkE.upd rfl (by first | exact VR.flat _ rfl | exact VR.eqv (vp_succ _) rfl | exact VR.eqv (vp_succ _).symm rfl | exact VR.eqv (by first | rfl | (congr 1; omega) | (simp; done) | (simp; omega)) rfl) ?_
        refine WkE.upd rfl (by first | exact VR.flat _ rfl | exact VR.eqv (vp_succ _) rfl | exact VR.eqv (vp_succ _).symm rfl | exact VR.eqv (by first | rfl | (congr 1; omega) | (simp; done) | (simp; omega)) rfl) ?_
        refine WkE.upd rfl (VR.pure (pure_aggM flat_vi)) ?_
        exact WkE.emp
      ·
        refine WkM.flat rfl (flatM flat_vi) (fun h => h) ?_
        refine WkM.flat rfl (flatM flat_vi) (fun h => h) ?_
        exact WkM.emp
      ·
        repeat (refine dom_upd_mem (by decide) ?_)
        exact dom_emp
  ·
    rintro σ ⟨a, ha, rfl⟩
    refine AW.seq ?_
    refine AW.seqR ?_
    refine AWo.pure (PureOp.move rfl) rfl rfl ?_
    first | refine AWo.pure (PureOp.eqN (b := 2) rfl rfl) rfl rfl ?_ | refine AWo.pure (PureOp.bin rfl rfl rfl) rfl rfl ?_
    refine AWo.nil trivial ?_
    refine AW.joinT (fun σ => ∃ b, (b = if i = 2 then 1 else 2) ∧ σ = ⟨(upd (upd (upd (upd (upd (upd (upd emp 0 (.agg (((M.map fe).flatten).map (vi .u64)).toArray)) 1 (vi .i64 i)) 2 (vi .i64 j)) 3 (.pointer (some ⟨4000, 0, none⟩))) 6 (.pointer (some ⟨7000, 0, none⟩))) 7 (vi .i64 a)) 8 (vi .i64 b)), (upd (upd emp 4000 ⟨((M.map fe).flatten).map (vi .u64), true, 1⟩) 7000 ⟨(List.replicate 4 0).map (vi .u64), true, 1⟩)⟩) ?_ ?_
    ·
      refine AW.cond rfl (fun hb1 => ?_) (fun hb1 => ?_)
      ·
        refine AW.region ?_
        refine AWo.pure (PureOp.assign rfl) rfl rfl ?_
        refine AWo.nil trivial ?_
        refine thenA_normal ?_
        refine ⟨[], _, ?_, ⟨1, by simp_all, rfl⟩⟩
        refine Wk.of [4000, 7000] ?_ ?_ ?_ (by decide) rfl
        ·
          refine WkE.upd rfl (by first | exact VR.flat _ rfl | exact VR.eqv (vp_succ _) rfl | exact VR.eqv (vp_succ _).symm rfl | exact VR.eqv (by first | rfl | (congr 1; omega) | (simp; done) | (simp; omega)) rfl) ?_
          refine WkE.upd rfl (by first | exact VR.flat _ rfl | exact VR.eqv (vp_succ _) rfl | exact VR.eqv (vp_succ _).symm rfl | exact VR.eqv (by first | rfl | (congr 1; omega) | (simp; done) | (simp; omega)) rfl) ?_
          refine WkE.upd rfl (.ptr (7000) 0 ⟨_, rfl⟩) ?_
          refine WkE.upd rfl (.ptr (4000) 0 ⟨_, rfl⟩) ?_
          refine WkE.upd rfl (by first | exact VR.flat _ rfl | exact VR.eqv (vp_succ _) rfl | exact VR.eqv (vp_succ _).symm rfl | exact VR.eqv (by first | rfl | (congr 1; omega) | (simp; done) | (simp; omega)) rfl) ?_
          refine WkE.upd rfl (by first | exact VR.flat _ rfl | exact VR.eqv (vp_succ _) rfl | exact VR.eqv (vp_succ _).symm rfl | exact VR.eqv (by first | rfl | (congr 1; omega) | (simp; done) | (simp; omega)) rfl) ?_
          refine WkE.upd rfl (VR.pure (pure_aggM flat_vi)) ?_
          exact WkE.emp
        ·
          refine WkM.flat rfl (flatM flat_vi) (fun h => h) ?_
          refine WkM.flat rfl (flatM flat_vi) (fun h => h) ?_
          exact WkM.emp
        ·
          repeat (refine dom_upd_mem (by decide) ?_)
          exact dom_emp
      ·
        refine AW.skip ?_
        refine thenA_normal ?_
        refine ⟨[], _, ?_, ⟨2, by simp_all, rfl⟩⟩
        refine Wk.of [4000, 7000] ?_ ?_ ?_ (by decide) rfl
        ·
          refine WkE.upd rfl (by first | exact VR.flat _ rfl | exact VR.eqv (vp_succ _) rfl | exact VR.eqv (vp_succ _).symm rfl | exact VR.eqv (by first | rfl | (congr 1; omega) | (simp; done) | (simp; omega)) rfl) ?_
          refine WkE.upd rfl (by first | exact VR.flat _ rfl | exact VR.eqv (vp_succ _) rfl | exact VR.eqv (vp_succ _).symm rfl | exact VR.eqv (by first | rfl | (congr 1; omega) | (simp; done) | (simp; omega)) rfl) ?_
          refine WkE.upd rfl (.ptr (7000) 0 ⟨_, rfl⟩) ?_
          refine WkE.upd rfl (.ptr (4000) 0 ⟨_, rfl⟩) ?_
          refine WkE.upd rfl (by first | exact VR.flat _ rfl | exact VR.eqv (vp_succ _) rfl | exact VR.eqv (vp_succ _).symm rfl | exact VR.eqv (by first | rfl | (congr 1; omega) | (simp; done) | (simp; omega)) rfl) ?_
          refine WkE.upd rfl (by first | exact VR.flat _ rfl | exact VR.eqv (vp_succ _) rfl | exact VR.eqv (vp_succ _).symm rfl | exact VR.eqv (by first | rfl | (congr 1; omega) | (simp; done) | (simp; omega)) rfl) ?_
          refine WkE.upd rfl (VR.pure (pure_aggM flat_vi)) ?_
          exact WkE.emp
        ·
          refine WkM.flat rfl (flatM flat_vi) (fun h => h) ?_
          refine WkM.flat rfl (flatM flat_vi) (fun h => h) ?_
          exact WkM.emp
        ·
          repeat (refine dom_upd_mem (by decide) ?_)
          exact dom_emp
    ·
      rintro σ ⟨b, hb, rfl⟩
      refine AW.seqR ?_
      refine AWo.pure (PureOp.assign rfl) rfl rfl ?_
      refine AWo.pure (PureOp.assign rfl) rfl rfl ?_
      refine AWo.nil trivial ?_
      refine AW.seq ?_
      refine AW.seqR ?_
      refine AWo.pure (PureOp.move rfl) rfl rfl ?_
      first | refine AWo.pure (PureOp.eqN (b := 0) rfl rfl) rfl rfl ?_ | refine AWo.pure (PureOp.bin rfl rfl rfl) rfl rfl ?_
      refine AWo.nil trivial ?_
      refine AW.joinT (fun σ => ∃ c, (c = if j = 0 then 1 else 0) ∧ σ = ⟨(upd (upd (upd (upd (upd (upd (upd (upd (upd emp 0 (.agg (((M.map fe).flatten).map (vi .u64)).toArray)) 1 (vi .i64 i)) 2 (vi .i64 j)) 3 (.pointer (some ⟨4000, 0, none⟩))) 6 (.pointer (some ⟨7000, 0, none⟩))) 7 (vi .i64 a)) 8 (vi .i64 b)) 9 (vi .i64 c)) 10 (vi .i64 2)), (upd (upd emp 4000 ⟨((M.map fe).flatten).map (vi .u64), true, 1⟩) 7000 ⟨(List.replicate 4 0).map (vi .u64), true, 1⟩)⟩) ?_ ?_
      ·
        refine AW.cond rfl (fun hb2 => ?_) (fun hb2 => ?_)
        ·
          refine AW.region ?_
          refine AWo.pure (PureOp.assign rfl) rfl rfl ?_
          refine AWo.nil trivial ?_
          refine thenA_normal ?_
          refine ⟨[], _, ?_, ⟨1, by simp_all, rfl⟩⟩
          refine Wk.of [4000, 7000] ?_ ?_ ?_ (by decide) rfl
          ·
            refine WkE.upd rfl (by first | exact VR.flat _ rfl | exact VR.eqv (vp_succ _) rfl | exact VR.eqv (vp_succ _).symm rfl | exact VR.eqv (by first | rfl | (congr 1; omega) | (simp; done) | (simp; omega)) rfl) ?_
            refine WkE.upd rfl (by first | exact VR.flat _ rfl | exact VR.eqv (vp_succ _) rfl | exact VR.eqv (vp_succ _).symm rfl | exact VR.eqv (by first | rfl | (congr 1; omega) | (simp; done) | (simp; omega)) rfl) ?_
            refine WkE.upd rfl (by first | exact VR.flat _ rfl | exact VR.eqv (vp_succ _) rfl | exact VR.eqv (vp_succ _).symm rfl | exact VR.eqv (by first | rfl | (congr 1; omega) | (simp; done) | (simp; omega)) rfl) ?_
            refine WkE.upd rfl (by first | exact VR.flat _ rfl | exact VR.eqv (vp_succ _) rfl | exact VR.eqv (vp_succ _).symm rfl | exact VR.eqv (by first | rfl | (congr 1; omega) | (simp; done) | (simp; omega)) rfl) ?_
            refine WkE.upd rfl (.ptr (7000) 0 ⟨_, rfl⟩) ?_
            refine WkE.upd rfl (.ptr (4000) 0 ⟨_, rfl⟩) ?_
            refine WkE.upd rfl (by first | exact VR.flat _ rfl | exact VR.eqv (vp_succ _) rfl | exact VR.eqv (vp_succ _).symm rfl | exact VR.eqv (by first | rfl | (congr 1; omega) | (simp; done) | (simp; omega)) rfl) ?_
            refine WkE.upd rfl (by first | exact VR.flat _ rfl | exact VR.eqv (vp_succ _) rfl | exact VR.eqv (vp_succ _).symm rfl | exact VR.eqv (by first | rfl | (congr 1; omega) | (simp; done) | (simp; omega)) rfl) ?_
            refine WkE.upd rfl (VR.pure (pure_aggM flat_vi)) ?_
            exact WkE.emp
          ·
            refine WkM.flat rfl (flatM flat_vi) (fun h => h) ?_
            refine WkM.flat rfl (flatM flat_vi) (fun h => h) ?_
            exact WkM.emp
          ·
            repeat (refine dom_upd_mem (by decide) ?_)
            exact dom_emp
        ·
          refine AW.skip ?_
          refine thenA_normal ?_
          refine ⟨[], _, ?_, ⟨0, by simp_all, rfl⟩⟩
          refine Wk.of [4000, 7000] ?_ ?_ ?_ (by decide) rfl
          ·
            refine WkE.upd rfl (by first | exact VR.flat _ rfl | exact VR.eqv (vp_succ _) rfl | exact VR.eqv (vp_succ _).symm rfl | exact VR.eqv (by first | rfl | (congr 1; omega) | (simp; done) | (simp; omega)) rfl) ?_
            refine WkE.upd rfl (by first | exact VR.flat _ rfl | exact VR.eqv (vp_succ _) rfl | exact VR.eqv (vp_succ _).symm rfl | exact VR.eqv (by first | rfl | (congr 1; omega) | (simp; done) | (simp; omega)) rfl) ?_
            refine WkE.upd rfl (by first | exact VR.flat _ rfl | exact VR.eqv (vp_succ _) rfl | exact VR.eqv (vp_succ _).symm rfl | exact VR.eqv (by first | rfl | (congr 1; omega) | (simp; done) | (simp; omega)) rfl) ?_
            refine WkE.upd rfl (by first | exact VR.flat _ rfl | exact VR.eqv (vp_succ _) rfl | exact VR.eqv (vp_succ _).symm rfl | exact VR.eqv (by first | rfl | (congr 1; omega) | (simp; done) | (simp; omega)) rfl) ?_
            refine WkE.upd rfl (.ptr (7000) 0 ⟨_, rfl⟩) ?_
            refine WkE.upd rfl (.ptr (4000) 0 ⟨_, rfl⟩) ?_
            refine WkE.upd rfl (by first | exact VR.flat _ rfl | exact VR.eqv (vp_succ _) rfl | exact VR.eqv (vp_succ _).symm rfl | exact VR.eqv (by first | rfl | (congr 1; omega) | (simp; done) | (simp; omega)) rfl) ?_
            refine WkE.upd rfl (by first | exact VR.flat _ rfl | exact VR.eqv (vp_succ _) rfl | exact VR.eqv (vp_succ _).symm rfl | exact VR.eqv (by first | rfl | (congr 1; omega) | (simp; done) | (simp; omega)) rfl) ?_
            refine WkE.upd rfl (VR.pure (pure_aggM flat_vi)) ?_
            exact WkE.emp
          ·
            refine WkM.flat rfl (flatM flat_vi) (fun h => h) ?_
            refine WkM.flat rfl (flatM flat_vi) (fun h => h) ?_
            exact WkM.emp
          ·
            repeat (refine dom_upd_mem (by decide) ?_)
            exact dom_emp
      ·
        rintro σ ⟨c, hc, rfl⟩
        refine AW.seq ?_
        refine AW.seqR ?_
        refine AWo.pure (PureOp.move rfl) rfl rfl ?_
        first | refine AWo.pure (PureOp.eqN (b := 2) rfl rfl) rfl rfl ?_ | refine AWo.pure (PureOp.bin rfl rfl rfl) rfl rfl ?_
        refine AWo.nil trivial ?_
        refine AW.joinT (fun σ => ∃ d, (d = if j = 2 then 1 else 2) ∧ σ = ⟨(upd (upd (upd (upd (upd (upd (upd (upd (upd emp 0 (.agg (((M.map fe).flatten).map (vi .u64)).toArray)) 1 (vi .i64 i)) 2 (vi .i64 j)) 3 (.pointer (some ⟨4000, 0, none⟩))) 6 (.pointer (some ⟨7000, 0, none⟩))) 7 (vi .i64 a)) 8 (vi .i64 b)) 9 (vi .i64 c)) 10 (vi .i64 d)), (upd (upd emp 4000 ⟨((M.map fe).flatten).map (vi .u64), true, 1⟩) 7000 ⟨(List.replicate 4 0).map (vi .u64), true, 1⟩)⟩) ?_ ?_
        ·
          refine AW.cond rfl (fun hb3 => ?_) (fun hb3 => ?_)
          ·
            refine AW.region ?_
            refine AWo.pure (PureOp.assign rfl) rfl rfl ?_
            refine AWo.nil trivial ?_
            refine thenA_normal ?_
            refine ⟨[], _, ?_, ⟨1, by simp_all, rfl⟩⟩
            refine Wk.of [4000, 7000] ?_ ?_ ?_ (by decide) rfl
            ·
              refine WkE.upd rfl (by first | exact VR.flat _ rfl | exact VR.eqv (vp_succ _) rfl | exact VR.eqv (vp_succ _).symm rfl | exact VR.eqv (by first | rfl | (congr 1; omega) | (simp; done) | (simp; omega)) rfl) ?_
              refine WkE.upd rfl (by first | exact VR.flat _ rfl | exact VR.eqv (vp_succ _) rfl | exact VR.eqv (vp_succ _).symm rfl | exact VR.eqv (by first | rfl | (congr 1; omega) | (simp; done) | (simp; omega)) rfl) ?_
              refine WkE.upd rfl (by first | exact VR.flat _ rfl | exact VR.eqv (vp_succ _) rfl | exact VR.eqv (vp_succ _).symm rfl | exact VR.eqv (by first | rfl | (congr 1; omega) | (simp; done) | (simp; omega)) rfl) ?_
              refine WkE.upd rfl (by first | exact VR.flat _ rfl | exact VR.eqv (vp_succ _) rfl | exact VR.eqv (vp_succ _).symm rfl | exact VR.eqv (by first | rfl | (congr 1; omega) | (simp; done) | (simp; omega)) rfl) ?_
              refine WkE.upd rfl (.ptr (7000) 0 ⟨_, rfl⟩) ?_
              refine WkE.upd rfl (.ptr (4000) 0 ⟨_, rfl⟩) ?_
              refine WkE.upd rfl (by first | exact VR.flat _ rfl | exact VR.eqv (vp_succ _) rfl | exact VR.eqv (vp_succ _).symm rfl | exact VR.eqv (by first | rfl | (congr 1; omega) | (simp; done) | (simp; omega)) rfl) ?_
              refine WkE.upd rfl (by first | exact VR.flat _ rfl | exact VR.eqv (vp_succ _) rfl | exact VR.eqv (vp_succ _).symm rfl | exact VR.eqv (by first | rfl | (congr 1; omega) | (simp; done) | (simp; omega)) rfl) ?_
              refine WkE.upd rfl (VR.pure (pure_aggM flat_vi)) ?_
              exact WkE.emp
            ·
              refine WkM.flat rfl (flatM flat_vi) (fun h => h) ?_
              refine WkM.flat rfl (flatM flat_vi) (fun h => h) ?_
              exact WkM.emp
            ·
              repeat (refine dom_upd_mem (by decide) ?_)
              exact dom_emp
          ·
            refine AW.skip ?_
            refine thenA_normal ?_
            refine ⟨[], _, ?_, ⟨2, by simp_all, rfl⟩⟩
            refine Wk.of [4000, 7000] ?_ ?_ ?_ (by decide) rfl
            ·
              refine WkE.upd rfl (by first | exact VR.flat _ rfl | exact VR.eqv (vp_succ _) rfl | exact VR.eqv (vp_succ _).symm rfl | exact VR.eqv (by first | rfl | (congr 1; omega) | (simp; done) | (simp; omega)) rfl) ?_
              refine WkE.upd rfl (by first | exact VR.flat _ rfl | exact VR.eqv (vp_succ _) rfl | exact VR.eqv (vp_succ _).symm rfl | exact VR.eqv (by first | rfl | (congr 1; omega) | (simp; done) | (simp; omega)) rfl) ?_
              refine WkE.upd rfl (by first | exact VR.flat _ rfl | exact VR.eqv (vp_succ _) rfl | exact VR.eqv (vp_succ _).symm rfl | exact VR.eqv (by first | rfl | (congr 1; omega) | (simp; done) | (simp; omega)) rfl) ?_
              refine WkE.upd rfl (by first | exact VR.flat _ rfl | exact VR.eqv (vp_succ _) rfl | exact VR.eqv (vp_succ _).symm rfl | exact VR.eqv (by first | rfl | (congr 1; omega) | (simp; done) | (simp; omega)) rfl) ?_
              refine WkE.upd rfl (.ptr (7000) 0 ⟨_, rfl⟩) ?_
              refine WkE.upd rfl (.ptr (4000) 0 ⟨_, rfl⟩) ?_
              refine WkE.upd rfl (by first | exact VR.flat _ rfl | exact VR.eqv (vp_succ _) rfl | exact VR.eqv (vp_succ _).symm rfl | exact VR.eqv (by first | rfl | (congr 1; omega) | (simp; done) | (simp; omega)) rfl) ?_
              refine WkE.upd rfl (by first | exact VR.flat _ rfl | exact VR.eqv (vp_succ _) rfl | exact VR.eqv (vp_succ _).symm rfl | exact VR.eqv (by first | rfl | (congr 1; omega) | (simp; done) | (simp; omega)) rfl) ?_
              refine WkE.upd rfl (VR.pure (pure_aggM flat_vi)) ?_
              exact WkE.emp
            ·
              refine WkM.flat rfl (flatM flat_vi) (fun h => h) ?_
              refine WkM.flat rfl (flatM flat_vi) (fun h => h) ?_
              exact WkM.emp
            ·
              repeat (refine dom_upd_mem (by decide) ?_)
              exact dom_emp
        ·
          rintro σ ⟨d, hd, rfl⟩
          have ha3 : a < 3 := by rw [ha]; split <;> decide
          have hb3 : b < 3 := by rw [hb]; split <;> decide
          have hc3 : c < 3 := by rw [hc]; split <;> decide
          have hd3 : d < 3 := by rw [hd]; split <;> decide
          refine AW.seqD mixed ?_
          refine AWo.pure (PureOp.move rfl) rfl rfl ?_
          refine AWo.pure (PureOp.move rfl) rfl rfl ?_
          first | refine AWo.pure (PureOp.arr1 tbok rfl rfl rfl rfl (by first | decide | omega)) rfl rfl ?_ | refine AWo.pure (PureOp.arr tbok rfl rfl rfl rfl (by first | decide | omega)) rfl rfl ?_
          first | refine AWo.pure (PureOp.arr1 tbok rfl rfl rfl rfl (by first | decide | omega)) rfl rfl ?_ | refine AWo.pure (PureOp.arr tbok rfl rfl rfl rfl (by first | decide | omega)) rfl rfl ?_
          refine yLJ (xs := M) (a * 3 + c) ?_
          refine AWo.pure (PureOp.move rfl) rfl rfl ?_
          refine AWo.pure (PureOp.move rfl) rfl rfl ?_
          first | refine AWo.pure (PureOp.arr1 tbok rfl rfl rfl rfl (by first | decide | omega)) rfl rfl ?_ | refine AWo.pure (PureOp.arr tbok rfl rfl rfl rfl (by first | decide | omega)) rfl rfl ?_
          first | refine AWo.pure (PureOp.arr1 tbok rfl rfl rfl rfl (by first | decide | omega)) rfl rfl ?_ | refine AWo.pure (PureOp.arr tbok rfl rfl rfl rfl (by first | decide | omega)) rfl rfl ?_
          refine yLJ (xs := M) (b * 3 + d) ?_
          refine AWo.callX (mulF_ctr) bd35 [] [] rfl (.cons rfl (.cons rfl .nil)) rfl (.pure (by first | rfl | exact pure_aggM flat_vi | exact pure_aggM flat_bool) (.pure (by first | rfl | exact pure_aggM flat_vi | exact pure_aggM flat_bool) .nil)) .nil rfl .nil frN (by decide) (.pure (by first | rfl | exact pure_aggM flat_vi | exact pure_aggM flat_bool) .nil) rfl rfl rfl rfl ?_
          refine AWo.pure (PureOp.move rfl) rfl rfl ?_
          refine AWo.pure (PureOp.move rfl) rfl rfl ?_
          first | refine AWo.pure (PureOp.arr1 tbok rfl rfl rfl rfl (by first | decide | omega)) rfl rfl ?_ | refine AWo.pure (PureOp.arr tbok rfl rfl rfl rfl (by first | decide | omega)) rfl rfl ?_
          first | refine AWo.pure (PureOp.arr1 tbok rfl rfl rfl rfl (by first | decide | omega)) rfl rfl ?_ | refine AWo.pure (PureOp.arr tbok rfl rfl rfl rfl (by first | decide | omega)) rfl rfl ?_
          refine yLJ (xs := M) (a * 3 + d) ?_
          refine AWo.pure (PureOp.move rfl) rfl rfl ?_
          refine AWo.pure (PureOp.move rfl) rfl rfl ?_
          first | refine AWo.pure (PureOp.arr1 tbok rfl rfl rfl rfl (by first | decide | omega)) rfl rfl ?_ | refine AWo.pure (PureOp.arr tbok rfl rfl rfl rfl (by first | decide | omega)) rfl rfl ?_
          first | refine AWo.pure (PureOp.arr1 tbok rfl rfl rfl rfl (by first | decide | omega)) rfl rfl ?_ | refine AWo.pure (PureOp.arr tbok rfl rfl rfl rfl (by first | decide | omega)) rfl rfl ?_
          refine yLJ (xs := M) (b * 3 + c) ?_
          refine AWo.callX (mulF_ctr) bd35 [] [] rfl (.cons rfl (.cons rfl .nil)) rfl (.pure (by first | rfl | exact pure_aggM flat_vi | exact pure_aggM flat_bool) (.pure (by first | rfl | exact pure_aggM flat_vi | exact pure_aggM flat_bool) .nil)) .nil rfl .nil frN (by decide) (.pure (by first | rfl | exact pure_aggM flat_vi | exact pure_aggM flat_bool) .nil) rfl rfl rfl rfl ?_
          refine AWo.callX (subF_ctr) bd96 [] [] rfl (.cons rfl (.cons rfl .nil)) rfl (.pure (by first | rfl | exact pure_aggM flat_vi | exact pure_aggM flat_bool) (.pure (by first | rfl | exact pure_aggM flat_vi | exact pure_aggM flat_bool) .nil)) .nil rfl .nil frN (by decide) (.pure (by first | rfl | exact pure_aggM flat_vi | exact pure_aggM flat_bool) .nil) rfl rfl rfl rfl ?_
          refine ySA ?_
          rw [← mnr_eq ha hb hc hd]
          refine AWo.nil (by kernel_rfl) ?_
          refine AW.ret ?_
          refine RetQ.gc [_] [] [.cell 6 33] (.inl rfl) rfl (.val (RVal.cellAll tbok rfl rfl rfl rfl (by first | (simp [*]; done) | rfl)) .nil) rfl (.pure (by first | rfl | exact pure_aggM flat_vi | exact pure_aggM flat_bool) .nil) trivial (by decide) rfl
end Go.Proofs.Yteeifahhejangaa
namespace Go.Proofs.Yteeifahhejangaa
open Go Sim
def pb (g : Nat → Nat → Fp) (k : Nat) : List Fp := (List.range 9).map fun p => if p < k then g (p / 3) (p % 3) else 0
theorem pb_len (g : Nat → Nat → Fp) (k : Nat) : (pb g k).length = 9 := by simp [pb]
theorem pb_zero {g : Nat → Nat → Fp} : (Value.agg (List.replicate 36 (Value.int .u64 0)).toArray).cells.toList = FF (pb g (0 * 3)) := by
  have h : pb g (0 * 3) = List.replicate 9 0 := by simp [pb]; rfl
  rw [h, zeroFF]; rfl
theorem pb_set (g : Nat → Nat → Fp) {i j : Nat} (hi : i < 3) (hj : j < 3) : (pb g (i * 3 + j)).set (i * 3 + j) (g i j) = pb g (i * 3 + j + 1) := by
  refine List.ext_getElem (by simp [pb]) fun k h1 h2 => ?_
  rw [pb_len] at h2
  simp only [pb, List.getElem_set, List.getElem_map, List.getElem_range]
  by_cases h : i * 3 + j = k
  · subst h
    rw [if_pos rfl, if_pos (by omega), show (i * 3 + j) / 3 = i by omega, show (i * 3 + j) % 3 = j by omega]
  · rw [if_neg h]
    by_cases hk : k < i * 3 + j
    · rw [if_pos hk, if_pos (by omega)]
    · rw [if_neg hk, if_neg (by omega)]
theorem pb_all {g : Nat → Nat → Fp} : pb g (3 * 3) = tab g := List.map_congr_left fun p hp => if_pos (List.mem_range.1 hp)
theorem mul1_ctr {M N : List Fp} {i j : Nat} (hM : M.length = 9) (hN : N.length = 9) (hi : i < 3) (hj : j < 3) : GC Try.prog 104 [vi .i64 (i), vi .i64 (j), .pointer (some ⟨0, 0, none⟩), .pointer (some ⟨1, 0, none⟩)] [⟨((M.map fe).flatten).map (vi .u64), false, 1⟩, ⟨((N.map fe).flatten).map (vi .u64), false, 1⟩] [.agg ((fe (mmF M N i j)).map (vi .u64)).toArray] [⟨((M.map fe).flatten).map (vi .u64), false, 1⟩, ⟨((N.map fe).flatten).map (vi .u64), false, 1⟩] := by
  refine GC.intro Try.func104 rfl (by show 4 ≤ 14; decide) (by first | exact Nat.le_refl _ | decide | simp) ?_
  refine AW.seqR ?_
  refine AWo.alloc tbok 7000 1 _ rfl rfl rfl rfl rfl rfl ?_
  refine AWo.nil trivial ?_
  refine AW.seqD mixed ?_
  refine AWo.pure (PureOp.move rfl) rfl rfl ?_
  first | refine AWo.pure (PureOp.arr1 tbok rfl rfl rfl rfl (by first | decide | omega)) rfl rfl ?_ | refine AWo.pure (PureOp.arr tbok rfl rfl rfl rfl (by first | decide | omega)) rfl rfl ?_
  refine yLV (xs := M) (i * 3) ?_
  refine yLM (xs := N) 9 ?_
  refine AWo.pure (PureOp.move rfl) rfl rfl ?_
  refine AWo.callX (column_ctr (by first | assumption | omega) (by first | assumption | omega)) bd105 [] [] rfl (.cons rfl (.cons rfl .nil)) rfl (.pure (by first | rfl | exact pure_aggM flat_vi | exact pure_aggM flat_bool) (.cons rfl rfl .nil)) .nil rfl .nil frN (by decide) (.pure (by first | rfl | exact pure_aggM flat_vi | exact pure_aggM flat_bool) .nil) rfl rfl rfl rfl ?_
  refine AWo.callX (dot_ctr) bd99 [] [] rfl (.cons rfl (.cons rfl .nil)) rfl (.pure (by first | rfl | exact pure_aggM flat_vi | exact pure_aggM flat_bool) (.pure (by first | rfl | exact pure_aggM flat_vi | exact pure_aggM flat_bool) .nil)) .nil rfl .nil frN (by decide) (.pure (by first | rfl | exact pure_aggM flat_vi | exact pure_aggM flat_bool) .nil) rfl rfl rfl rfl ?_
  refine AWo.storeAllN tbok rfl rfl rfl rfl (by first | (simp [*]; done) | rfl) (by first | (simp [*]; done) | rfl) (by first | exact oneM (fun _ => rfl) _ | rfl | (simp; done)) rfl ?_
  refine AWo.nil (by kernel_rfl) ?_
  refine AW.ret ?_
  refine RetQ.gc [_] [] [.cell 6 33] (.inl rfl) rfl (.val (RVal.cellAll tbok rfl rfl rfl rfl (by first | (simp [*]; done) | rfl)) .nil) rfl (.pure (by first | rfl | exact pure_aggM flat_vi | exact pure_aggM flat_bool) .nil) (OutL.flat rfl (flatM flat_vi) (by intro h; first | rfl | exact h.elim id fun h => absurd h.1 (by simp)) (OutL.flat rfl (flatM flat_vi) (by intro h; first | rfl | exact h.elim id fun h => absurd h.1 (by simp)) trivial)) (by decide) rfl
theorem unit1_ctr {i j : Nat} : GC Try.prog 106 [vi .i64 (i), vi .i64 (j)] [] [.agg ((fe (if i = j then fp 1 else 0)).map (vi .u64)).toArray] [] := by
  refine GC.intro Try.func106 rfl (by show 2 ≤ 10; decide) (by first | exact Nat.le_refl _ | decide | simp) ?_
  refine AW.seqR ?_
  refine AWo.alloc tbok 5000 1 _ rfl rfl rfl rfl rfl rfl ?_
  refine AWo.nil trivial ?_
  refine AW.seq ?_
  refine AW.seqR ?_
  refine AWo.pure (PureOp.move rfl) rfl rfl ?_
  refine AWo.pure (PureOp.move rfl) rfl rfl ?_
  first | refine AWo.pure (PureOp.eqN rfl rfl) rfl rfl ?_ | refine AWo.pure (PureOp.bin rfl rfl rfl) rfl rfl ?_
  refine AWo.nil trivial ?_
  refine AW.cond rfl (fun hb0 => ?_) (fun hb0 => ?_)
  ·
    have hij : i = j := by simpa using hb0
    rw [if_pos hij]
    refine AW.seqR ?_
    refine AWo.callX (fromuF_ctr (v := 1) (by decide)) bd37 [] [] rfl (.cons rfl .nil) rfl (.cons rfl rfl .nil) .nil rfl .nil frN (by decide) (.pure (by first | rfl | exact pure_aggM flat_vi | exact pure_aggM flat_bool) .nil) rfl rfl rfl rfl ?_
    refine AWo.storeAllN tbok rfl rfl rfl rfl (by first | (simp [*]; done) | rfl) (by first | (simp [*]; done) | rfl) (by first | exact oneM (fun _ => rfl) _ | rfl | (simp; done)) rfl ?_
    refine AWo.nil trivial ?_
    refine AW.ret ?_
    refine thenA_ret ?_
    refine RetQ.gc [_] [] [.cell 4 33] (.inl rfl) rfl (.val (RVal.cellAll tbok rfl rfl rfl rfl (by first | (simp [*]; done) | rfl)) .nil) rfl (.pure (by first | rfl | exact pure_aggM flat_vi | exact pure_aggM flat_bool) .nil) trivial (by decide) rfl
  ·
    have hij : i ≠ j := by simpa using hb0
    rw [if_neg hij]
    refine AW.skip ?_
    refine thenA_normal ?_
    refine AW.seqR ?_
    refine yP ((PureOp.buildStruct [] pl33.choose_spec.1 zr33 (by decide) pl33.choose_spec.2 rfl rfl).mono (v' := .agg ((fe 0).map (vi .u64)).toArray) (by rw [fe_zero]; rfl)) ?_
    refine AWo.storeAllN tbok rfl rfl rfl rfl (by first | (simp [*]; done) | rfl) (by first | (simp [*]; done) | rfl) (by first | exact oneM (fun _ => rfl) _ | rfl | (simp; done)) rfl ?_
    refine AWo.nil trivial ?_
    refine AW.ret ?_
    refine RetQ.gc [_] [] [.cell 4 33] (.inl rfl) rfl (.val (RVal.cellAll tbok rfl rfl rfl rfl (by first | (simp [*]; done) | rfl)) .nil) rfl (.pure (by first | rfl | exact pure_aggM flat_vi | exact pure_aggM flat_bool) .nil) trivial (by decide) rfl
theorem cau1_ctr {i j : Nat} (hi : i < 3) (hj : j < 3) : GC Try.prog 115 [vi .i64 (i), vi .i64 (j)] [] [.agg ((fe (finv (fp (i + j + 3)))).map (vi .u64)).toArray] [] := by
  refine GC.intro Try.func115 rfl (by show 2 ≤ 12; decide) (by first | exact Nat.le_refl _ | decide | simp) ?_
  refine AW.seqR ?_
  refine AWo.alloc tbok 5000 1 _ rfl rfl rfl rfl rfl rfl ?_
  refine AWo.nil trivial ?_
  refine AW.seqR ?_
  refine AWo.pure (PureOp.move rfl) rfl rfl ?_
  refine AWo.pure (PureOp.move rfl) rfl rfl ?_
  first | refine AWo.pure (PureOp.addI rfl rfl (by first | decide | omega)) rfl rfl ?_ | refine AWo.pure (PureOp.bin rfl rfl rfl) rfl rfl ?_
  first | refine AWo.pure (PureOp.addI (b := 3) rfl rfl (by first | decide | omega)) rfl rfl ?_ | refine AWo.pure (PureOp.bin rfl rfl rfl) rfl rfl ?_
  first | refine AWo.pure (PureOp.cvtN tbok 18446744073709551616 rfl rfl rfl (by decide) (by decide) (by first | decide | omega)) rfl rfl ?_ | refine AWo.pure (PureOp.cvtU tbok 18446744073709551616 rfl rfl rfl rfl rfl) rfl rfl ?_ | refine AWo.pure (PureOp.cvt tbok rfl rfl rfl) rfl rfl ?_
  refine AWo.callX (fromuF_ctr (v := i + j + 3) (by omega)) bd37 [] [] rfl (.cons rfl .nil) rfl (.cons rfl rfl .nil) .nil rfl .nil frN (by decide) (.pure (by first | rfl | exact pure_aggM flat_vi | exact pure_aggM flat_bool) .nil) rfl rfl rfl rfl ?_
  refine AWo.callX (invF_ctr) bd95 [] [] rfl (.cons rfl .nil) rfl (.pure (by first | rfl | exact pure_aggM flat_vi | exact pure_aggM flat_bool) .nil) .nil rfl .nil frN (by decide) (.pure (by first | rfl | exact pure_aggM flat_vi | exact pure_aggM flat_bool) .nil) rfl rfl rfl rfl ?_
  refine AWo.storeAllN tbok rfl rfl rfl rfl (by first | (simp [*]; done) | rfl) (by first | (simp [*]; done) | rfl) (by first | exact oneM (fun _ => rfl) _ | rfl | (simp; done)) rfl ?_
  refine AWo.nil trivial ?_
  refine AW.ret ?_
  refine RetQ.gc [_] [] [.cell 4 33] (.inl rfl) rfl (.val (RVal.cellAll tbok rfl rfl rfl rfl (by first | (simp [*]; done) | rfl)) .nil) rfl (.pure (by first | rfl | exact pure_aggM flat_vi | exact pure_aggM flat_bool) .nil) trivial (by decide) rfl
theorem min1_ctr {M : List Fp} {i j : Nat} (hM : M.length = 9) (hi : i < 3) (hj : j < 3) : GC Try.prog 101 [vi .i64 (i), vi .i64 (j), .pointer (some ⟨0, 0, none⟩)] [⟨((M.map fe).flatten).map (vi .u64), false, 1⟩] [.agg ((fe (M.getD (i * 3 + j) 0)).map (vi .u64)).toArray] [⟨((M.map fe).flatten).map (vi .u64), false, 1⟩] := by
  refine GC.intro Try.func101 rfl (by show 3 ≤ 11; decide) (by first | exact Nat.le_refl _ | decide | simp) ?_
  refine AW.seqR ?_
  refine AWo.alloc tbok 6000 1 _ rfl rfl rfl rfl rfl rfl ?_
  refine AWo.nil trivial ?_
  refine AW.seqR ?_
  refine AWo.pure (PureOp.move rfl) rfl rfl ?_
  refine AWo.pure (PureOp.move rfl) rfl rfl ?_
  first | refine AWo.pure (PureOp.arr1 tbok rfl rfl rfl rfl (by first | decide | omega)) rfl rfl ?_ | refine AWo.pure (PureOp.arr tbok rfl rfl rfl rfl (by first | decide | omega)) rfl rfl ?_
  first | refine AWo.pure (PureOp.arr1 tbok rfl rfl rfl rfl (by first | decide | omega)) rfl rfl ?_ | refine AWo.pure (PureOp.arr tbok rfl rfl rfl rfl (by first | decide | omega)) rfl rfl ?_
  refine yLJ (xs := M) (i * 3 + j) ?_
  refine AWo.storeAllN tbok rfl rfl rfl rfl (by first | (simp [*]; done) | rfl) (by first | (simp [*]; done) | rfl) (by first | exact oneM (fun _ => rfl) _ | rfl | (simp; done)) rfl ?_
  refine AWo.nil trivial ?_
  refine AW.ret ?_
  refine RetQ.gc [_] [] [.cell 5 33] (.inl rfl) rfl (.val (RVal.cellAll tbok rfl rfl rfl rfl (by first | (simp [*]; done) | rfl)) .nil) rfl (.pure (by first | rfl | exact pure_aggM flat_vi | exact pure_aggM flat_bool) .nil) (OutL.flat rfl (flatM flat_vi) (by intro h; first | rfl | exact h.elim id fun h => absurd h.1 (by simp)) trivial) (by decide) rfl
theorem det_ctr {M : List Fp} (hM : M.length = 9) : GC Try.prog 43 [.agg (((M.map fe).flatten).map (vi .u64)).toArray] [] [.agg ((fe (dtm M)).map (vi .u64)).toArray] [] := by
  refine GC.intro Try.func43 rfl (by show 1 ≤ 14; decide) (by first | exact Nat.le_refl _ | decide | simp) ?_
  refine AW.seqR ?_
  refine AWo.box 2000 1 _ rfl rfl rfl rfl rfl ?_
  refine AWo.alloc tbok 3000 1 _ rfl rfl rfl rfl rfl rfl ?_
  refine AWo.nil trivial ?_
  refine AW.seqD mixed ?_
  first | refine AWo.pure (PureOp.arr1 (j := 0) tbok rfl rfl rfl rfl (by first | decide | omega)) rfl rfl ?_ | refine AWo.pure (PureOp.arr (j := 0) tbok rfl rfl rfl rfl (by first | decide | omega)) rfl rfl ?_
  refine yLV (xs := M) (0) ?_
  refine yLM (xs := M) 9 ?_
  refine AWo.callX (minor_ctr (i := 0) (j := 0) hM (by decide) (by decide)) bd100 [] [] rfl (.cons rfl (.cons rfl (.cons rfl .nil))) rfl (.pure (by first | rfl | exact pure_aggM flat_vi | exact pure_aggM flat_bool) (.cons rfl rfl (.cons rfl rfl .nil))) .nil rfl .nil frN (by decide) (.pure (by first | rfl | exact pure_aggM flat_vi | exact pure_aggM flat_bool) .nil) rfl rfl rfl rfl ?_
  refine yLM (xs := M) 9 ?_
  refine AWo.callX (minor_ctr (i := 0) (j := 1) hM (by decide) (by decide)) bd100 [] [] rfl (.cons rfl (.cons rfl (.cons rfl .nil))) rfl (.pure (by first | rfl | exact pure_aggM flat_vi | exact pure_aggM flat_bool) (.cons rfl rfl (.cons rfl rfl .nil))) .nil rfl .nil frN (by decide) (.pure (by first | rfl | exact pure_aggM flat_vi | exact pure_aggM flat_bool) .nil) rfl rfl rfl rfl ?_
  refine AWo.callX (negF_ctr) bd45 [] [] rfl (.cons rfl .nil) rfl (.pure (by first | rfl | exact pure_aggM flat_vi | exact pure_aggM flat_bool) .nil) .nil rfl .nil frN (by decide) (.pure (by first | rfl | exact pure_aggM flat_vi | exact pure_aggM flat_bool) .nil) rfl rfl rfl rfl ?_
  refine yLM (xs := M) 9 ?_
  refine AWo.callX (minor_ctr (i := 0) (j := 2) hM (by decide) (by decide)) bd100 [] [] rfl (.cons rfl (.cons rfl (.cons rfl .nil))) rfl (.pure (by first | rfl | exact pure_aggM flat_vi | exact pure_aggM flat_bool) (.cons rfl rfl (.cons rfl rfl .nil))) .nil rfl .nil frN (by decide) (.pure (by first | rfl | exact pure_aggM flat_vi | exact pure_aggM flat_bool) .nil) rfl rfl rfl rfl ?_
  refine AWo.pure (PureOp.buildArr tbok [(0, .agg ((fe (mnr M 0 0)).map (vi .u64)).toArray), (1, .agg ((fe (-mnr M 0 1)).map (vi .u64)).toArray), (2, .agg ((fe (mnr M 0 2)).map (vi .u64)).toArray)] rfl rfl rfl (by decide) rfl fill3) rfl rfl ?_
  refine AWo.callX (dot_ctr) bd99 [] [] rfl (.cons rfl (.cons rfl .nil)) rfl (.pure (by first | rfl | exact pure_aggM flat_vi | exact pure_aggM flat_bool) (.pure (by first | rfl | exact pure_aggM flat_vi | exact pure_aggM flat_bool) .nil)) .nil rfl .nil frN (by decide) (.pure (by first | rfl | exact pure_aggM flat_vi | exact pure_aggM flat_bool) .nil) rfl rfl rfl rfl ?_
  refine AWo.storeAllN tbok rfl rfl rfl rfl (by first | (simp [*]; done) | rfl) (by first | (simp [*]; done) | rfl) (by first | exact oneM (fun _ => rfl) _ | rfl | (simp; done)) rfl ?_
  refine AWo.nil (by kernel_rfl) ?_
  refine AW.ret ?_
  refine RetQ.gc [_] [] [.cell 2 33] (.inl rfl) rfl (.val (RVal.cellAll tbok rfl rfl rfl rfl (by first | (simp [*]; done) | rfl)) .nil) rfl (.pure (by first | rfl | exact pure_aggM flat_vi | exact pure_aggM flat_bool) .nil) trivial (by decide) rfl
theorem bmul_ctr {M N : List Fp} (hM : M.length = 9) (hN : N.length = 9) : GC Try.prog 103 [.func (.func 104) #[] #[.pointer (some ⟨0, 0, none⟩), .pointer (some ⟨1, 0, none⟩)]] [⟨((M.map fe).flatten).map (vi .u64), false, 1⟩, ⟨((N.map fe).flatten).map (vi .u64), false, 1⟩] [.agg ((((tab (mmF M N)).map fe).flatten).map (vi .u64)).toArray] [⟨((M.map fe).flatten).map (vi .u64), false, 1⟩, ⟨((N.map fe).flatten).map (vi .u64), false, 1⟩] := by
  refine GC.intro Try.func103 rfl (by show 1 ≤ 22; decide) (by first | exact Nat.le_refl _ | decide | simp) ?_
  refine AW.seqR ?_
  refine yN 3000 1 ((((pb (mmF M N) (0 * 3)).map fe).flatten).map (vi .u64)) ?_ (hc := by exact pb_zero)
  refine AWo.nil trivial ?_
  refine AW.seq ?_
  refine AW.seqR ?_
  refine AWo.pure (PureOp.move rfl) rfl rfl ?_
  refine AWo.nil trivial ?_
  refine AW.block ?_
  refine AW.loopw (fun mm σ => ∃ i, (i ≤ 3) ∧ mm = 3 - i ∧ σ = ⟨(upd (upd (upd emp 0 (.func (.func 104) #[] #[.pointer (some ⟨0, 0, none⟩), .pointer (some ⟨1, 0, none⟩)])) 2 (.pointer (some ⟨3000, 0, none⟩))) 5 (vi .i64 i)), (upd (upd (upd emp 0 ⟨((M.map fe).flatten).map (vi .u64), false, 1⟩) 1 ⟨((N.map fe).flatten).map (vi .u64), false, 1⟩) 3000 ⟨(((pb (mmF M N) (i * 3)).map fe).flatten).map (vi .u64), true, 1⟩)⟩) (fm := []) ?_ ⟨0, by omega, rfl, rfl⟩ ?_
  ·
    refine Wk.of [0, 1, 3000] ?_ ?_ ?_ (by decide) rfl
    ·
      refine WkE.upd rfl (by first | exact VR.flat _ rfl | exact VR.eqv (vp_succ _) rfl | exact VR.eqv (vp_succ _).symm rfl | exact VR.eqv (by first | rfl | (congr 1; omega) | (simp; done) | (simp; omega)) rfl) ?_
      refine WkE.upd rfl (.ptr (3000) 0 ⟨_, rfl⟩) ?_
      refine WkE.upd rfl (okVI_rel (ids := [0, 1]) (by simp) rfl (dom_all rfl) rfl) ?_
      exact WkE.emp
    ·
      refine WkM.flat rfl (flatM flat_vi) (fun h => h) ?_
      refine WkM.flat rfl (flatM flat_vi) (fun h => h) ?_
      refine WkM.flat rfl (flatM flat_vi) (fun h => h) ?_
      exact WkM.emp
    ·
      repeat (refine dom_upd_mem (by decide) ?_)
      exact dom_emp
  ·
    rintro mm σ ⟨i, hinv, rfl, rfl⟩
    refine AW.seqR ?_
    first | refine AWo.pure (PureOp.ltN (b := 3) rfl rfl) rfl rfl ?_ | refine AWo.pure (PureOp.bin rfl rfl rfl) rfl rfl ?_
    refine AWo.nil trivial ?_
    refine AW.seq ?_
    refine AW.cond rfl (fun hb0 => ?_) (fun hb0 => ?_)
    ·
      have hi : i < 3 := by simpa using hb0
      refine AW.skip ?_
      refine thenA_normal ?_
      refine AW.seq ?_
      refine AW.block ?_
      refine AW.seqR ?_
      refine AWo.pure (PureOp.move rfl) rfl rfl ?_
      refine AWo.pure (PureOp.assign rfl) rfl rfl ?_
      refine AWo.nil trivial ?_
      refine AW.seqR ?_
      refine AWo.pure (PureOp.move rfl) rfl rfl ?_
      refine AWo.nil trivial ?_
      refine AW.block ?_
      refine AW.loopw (fun mm σ => ∃ j, (j ≤ 3) ∧ mm = 3 - j ∧ σ = ⟨(upd (upd (upd (upd (upd emp 0 (.func (.func 104) #[] #[.pointer (some ⟨0, 0, none⟩), .pointer (some ⟨1, 0, none⟩)])) 2 (.pointer (some ⟨3000, 0, none⟩))) 3 (vi .i64 i)) 5 (vi .i64 i)) 8 (vi .i64 j)), (upd (upd (upd emp 0 ⟨((M.map fe).flatten).map (vi .u64), false, 1⟩) 1 ⟨((N.map fe).flatten).map (vi .u64), false, 1⟩) 3000 ⟨(((pb (mmF M N) (i * 3 + j)).map fe).flatten).map (vi .u64), true, 1⟩)⟩) (fm := []) ?_ ⟨0, by omega, rfl, rfl⟩ ?_
      ·
        refine Wk.of [0, 1, 3000] ?_ ?_ ?_ (by decide) rfl
        ·
          refine WkE.upd rfl (by first | exact VR.flat _ rfl | exact VR.eqv (vp_succ _) rfl | exact VR.eqv (vp_succ _).symm rfl | exact VR.eqv (by first | rfl | (congr 1; omega) | (simp; done) | (simp; omega)) rfl) ?_
          refine WkE.upd rfl (by first | exact VR.flat _ rfl | exact VR.eqv (vp_succ _) rfl | exact VR.eqv (vp_succ _).symm rfl | exact VR.eqv (by first | rfl | (congr 1; omega) | (simp; done) | (simp; omega)) rfl) ?_
          refine WkE.upd rfl (by first | exact VR.flat _ rfl | exact VR.eqv (vp_succ _) rfl | exact VR.eqv (vp_succ _).symm rfl | exact VR.eqv (by first | rfl | (congr 1; omega) | (simp; done) | (simp; omega)) rfl) ?_
          refine WkE.upd rfl (.ptr (3000) 0 ⟨_, rfl⟩) ?_
          refine WkE.upd rfl (okVI_rel (ids := [0, 1]) (by simp) rfl (dom_all rfl) rfl) ?_
          exact WkE.emp
        ·
          refine WkM.flat rfl (flatM flat_vi) (fun h => h) ?_
          refine WkM.flat rfl (flatM flat_vi) (fun h => h) ?_
          refine WkM.flat rfl (flatM flat_vi) (fun h => h) ?_
          exact WkM.emp
        ·
          repeat (refine dom_upd_mem (by decide) ?_)
          exact dom_emp
      ·
        rintro mm σ ⟨j, hinv, rfl, rfl⟩
        refine AW.seqR ?_
        first | refine AWo.pure (PureOp.ltN (b := 3) rfl rfl) rfl rfl ?_ | refine AWo.pure (PureOp.bin rfl rfl rfl) rfl rfl ?_
        refine AWo.nil trivial ?_
        refine AW.seq ?_
        refine AW.cond rfl (fun hb1 => ?_) (fun hb1 => ?_)
        ·
          have hj : j < 3 := by simpa using hb1
          refine AW.skip ?_
          refine thenA_normal ?_
          refine AW.seq ?_
          refine AW.block ?_
          refine AW.seqR ?_
          refine AWo.pure (PureOp.move rfl) rfl rfl ?_
          refine AWo.pure (PureOp.assign rfl) rfl rfl ?_
          refine AWo.nil trivial ?_
          refine AW.draw mixed ?_
          refine AWo.pure (PureOp.move rfl) rfl rfl ?_
          refine AWo.pure (PureOp.move rfl) rfl rfl ?_
          refine AWo.pure (PureOp.move rfl) rfl rfl ?_
          refine AWo.pure (PureOp.move rfl) rfl rfl ?_
          refine AWo.pure (PureOp.move rfl) rfl rfl ?_
          refine AWo.callX (mul1_ctr (by first | assumption | omega) (by first | assumption | omega) (by first | assumption | omega) (by first | assumption | omega)) bd104 [(0, 0), (1, 0)] [] rfl (.cons rfl (.cons rfl .nil)) rfl (.cons rfl rfl (.cons rfl rfl (.cons rfl rfl (.cons rfl rfl .nil)))) (.flat rfl (flatM flat_vi) (by intro h; first | exact h | rfl) (.flat rfl (flatM flat_vi) (by intro h; first | exact h | rfl) .nil)) rfl (.keep rfl (.keep rfl .nil)) frN (by decide) (.pure (by first | rfl | exact pure_aggM flat_vi | exact pure_aggM flat_bool) .nil) rfl rfl rfl rfl ?_
          first | refine AWo.pure (PureOp.arr1 tbok rfl rfl rfl rfl (by first | decide | omega)) rfl rfl ?_ | refine AWo.pure (PureOp.arr tbok rfl rfl rfl rfl (by first | decide | omega)) rfl rfl ?_
          first | refine AWo.pure (PureOp.arr1 tbok rfl rfl rfl rfl (by first | decide | omega)) rfl rfl ?_ | refine AWo.pure (PureOp.arr tbok rfl rfl rfl rfl (by first | decide | omega)) rfl rfl ?_
          refine ySJ (i * 3 + j) ?_ (hj := by rw [pb_len]; omega)
          rw [pb_set (mmF M N) hi hj]
          refine AWo.nil (by kernel_rfl) ?_
          refine inBlockA_normal ?_
          refine thenA_normal ?_
          refine AW.region ?_
          first | refine AWo.pure (PureOp.addI (b := 1) rfl rfl (by first | decide | omega)) rfl rfl ?_ | refine AWo.pure (PureOp.bin rfl rfl rfl) rfl rfl ?_
          refine AWo.pure (PureOp.move rfl) rfl rfl ?_
          refine AWo.nil trivial ?_
          refine thenA_normal ?_
          refine ⟨3 - (j + 1), [], _, by omega, ?_, j + 1, by omega, rfl, rfl⟩
          refine Wk.of [0, 1, 3000] ?_ ?_ ?_ (by decide) rfl
          ·
            refine WkE.upd rfl (by first | exact VR.flat _ rfl | exact VR.eqv (vp_succ _) rfl | exact VR.eqv (vp_succ _).symm rfl | exact VR.eqv (by first | rfl | (congr 1; omega) | (simp; done) | (simp; omega)) rfl) ?_
            refine WkE.upd rfl (by first | exact VR.flat _ rfl | exact VR.eqv (vp_succ _) rfl | exact VR.eqv (vp_succ _).symm rfl | exact VR.eqv (by first | rfl | (congr 1; omega) | (simp; done) | (simp; omega)) rfl) ?_
            refine WkE.upd rfl (by first | exact VR.flat _ rfl | exact VR.eqv (vp_succ _) rfl | exact VR.eqv (vp_succ _).symm rfl | exact VR.eqv (by first | rfl | (congr 1; omega) | (simp; done) | (simp; omega)) rfl) ?_
            refine WkE.upd rfl (.ptr (3000) 0 ⟨_, rfl⟩) ?_
            refine WkE.upd rfl (okVI_rel (ids := [0, 1]) (by simp) rfl (dom_all rfl) rfl) ?_
            exact WkE.emp
          ·
            refine WkM.flat rfl (flatM flat_vi) (fun h => h) ?_
            refine WkM.flat rfl (flatM flat_vi) (fun h => h) ?_
            refine WkM.flat rfl (flatM flat_vi) (fun h => h) ?_
            exact WkM.emp
          ·
            repeat (refine dom_upd_mem (by decide) ?_)
            exact dom_emp
        ·
          obtain rfl : j = 3 := by simp at hb1; omega
          refine AW.exit ?_
          refine thenA_exit ?_
          refine thenA_exit ?_
          refine inBlockA_hit ?_
          refine inBlockA_normal ?_
          refine thenA_normal ?_
          refine AW.region ?_
          first | refine AWo.pure (PureOp.addI (b := 1) rfl rfl (by first | decide | omega)) rfl rfl ?_ | refine AWo.pure (PureOp.bin rfl rfl rfl) rfl rfl ?_
          refine AWo.pure (PureOp.move rfl) rfl rfl ?_
          refine AWo.nil trivial ?_
          refine thenA_normal ?_
          rw [show i * 3 + 3 = (i + 1) * 3 by omega]
          refine ⟨3 - (i + 1), [], _, by omega, ?_, i + 1, by omega, rfl, rfl⟩
          refine Wk.of [0, 1, 3000] ?_ ?_ ?_ (by decide) rfl
          ·
            refine WkE.upd rfl (by first | exact VR.flat _ rfl | exact VR.eqv (vp_succ _) rfl | exact VR.eqv (vp_succ _).symm rfl | exact VR.eqv (by first | rfl | (congr 1; omega) | (simp; done) | (simp; omega)) rfl) ?_
            refine WkE.upd rfl (.ptr (3000) 0 ⟨_, rfl⟩) ?_
            refine WkE.upd rfl (okVI_rel (ids := [0, 1]) (by simp) rfl (dom_all rfl) rfl) ?_
            exact WkE.emp
          ·
            refine WkM.flat rfl (flatM flat_vi) (fun h => h) ?_
            refine WkM.flat rfl (flatM flat_vi) (fun h => h) ?_
            refine WkM.flat rfl (flatM flat_vi) (fun h => h) ?_
            exact WkM.emp
          ·
            repeat (refine dom_upd_mem (by decide) ?_)
            exact dom_emp
    ·
      obtain rfl : i = 3 := by simp at hb0; omega
      rw [pb_all]
      refine AW.exit ?_
      refine thenA_exit ?_
      refine thenA_exit ?_
      refine inBlockA_hit ?_
      refine thenA_normal ?_
      refine AW.seqR ?_
      refine yLM (xs := tab (mmF M N)) 9 ?_
      refine AWo.storeAllN tbok rfl rfl rfl rfl (by first | (simp [*]; done) | rfl) (by first | (simp [*]; done) | rfl) (by first | exact oneM (fun _ => rfl) _ | rfl | (simp; done)) rfl ?_
      refine AWo.nil trivial ?_
      refine AW.ret ?_
      refine RetQ.gc [_] [] [.cell 2 76] (.inl rfl) rfl (.val (RVal.cellAll tbok rfl rfl rfl rfl (by first | (simp [*]; done) | rfl)) .nil) rfl (.pure (by first | rfl | exact pure_aggM flat_vi | exact pure_aggM flat_bool) .nil) (OutL.flat rfl (by first | exact flatM flat_vi | exact flatM flat_bool | (simp [flatV, flat_vi]; done)) (by intro h; first | rfl | exact h.elim id fun h => absurd h.1 (by simp)) (OutL.flat rfl (by first | exact flatM flat_vi | exact flatM flat_bool | (simp [flatV, flat_vi]; done)) (by intro h; first | rfl | exact h.elim id fun h => absurd h.1 (by simp)) trivial)) (by decide) rfl
theorem bunit_ctr : GC Try.prog 103 [.func (.func 106) #[] #[]] [] [.agg ((((tab (fun i j => if i = j then fp 1 else 0)).map fe).flatten).map (vi .u64)).toArray] [] := by
  refine GC.intro Try.func103 rfl (by show 1 ≤ 22; decide) (by first | exact Nat.le_refl _ | decide | simp) ?_
  refine AW.seqR ?_
  refine yN 3000 1 ((((pb (fun i j => if i = j then fp 1 else 0) (0 * 3)).map fe).flatten).map (vi .u64)) ?_ (hc := by exact pb_zero)
  refine AWo.nil trivial ?_
  refine AW.seq ?_
  refine AW.seqR ?_
  refine AWo.pure (PureOp.move rfl) rfl rfl ?_
  refine AWo.nil trivial ?_
  refine AW.block ?_
  refine AW.loopw (fun mm σ => ∃ i, (i ≤ 3) ∧ mm = 3 - i ∧ σ = ⟨(upd (upd (upd emp 0 (.func (.func 106) #[] #[])) 2 (.pointer (some ⟨3000, 0, none⟩))) 5 (vi .i64 i)), (upd emp 3000 ⟨(((pb (fun i j => if i = j then fp 1 else 0) (i * 3)).map fe).flatten).map (vi .u64), true, 1⟩)⟩) (fm := []) ?_ ⟨0, by omega, rfl, rfl⟩ ?_
  ·
    refine Wk.of [3000] ?_ ?_ ?_ (by decide) rfl
    ·
      refine WkE.upd rfl (by first | exact VR.flat _ rfl | exact VR.eqv (vp_succ _) rfl | exact VR.eqv (vp_succ _).symm rfl | exact VR.eqv (by first | rfl | (congr 1; omega) | (simp; done) | (simp; omega)) rfl) ?_
      refine WkE.upd rfl (.ptr (3000) 0 ⟨_, rfl⟩) ?_
      refine WkE.upd rfl (VR.flat _ rfl) ?_
      exact WkE.emp
    ·
      refine WkM.flat rfl (flatM flat_vi) (fun h => h) ?_
      exact WkM.emp
    ·
      repeat (refine dom_upd_mem (by decide) ?_)
      exact dom_emp
  ·
    rintro mm σ ⟨i, hinv, rfl, rfl⟩
    refine AW.seqR ?_
    first | refine AWo.pure (PureOp.ltN (b := 3) rfl rfl) rfl rfl ?_ | refine AWo.pure (PureOp.bin rfl rfl rfl) rfl rfl ?_
    refine AWo.nil trivial ?_
    refine AW.seq ?_
    refine AW.cond rfl (fun hb0 => ?_) (fun hb0 => ?_)
    ·
      have hi : i < 3 := by simpa using hb0
      refine AW.skip ?_
      refine thenA_normal ?_
      refine AW.seq ?_
      refine AW.block ?_
      refine AW.seqR ?_
      refine AWo.pure (PureOp.move rfl) rfl rfl ?_
      refine AWo.pure (PureOp.assign rfl) rfl rfl ?_
      refine AWo.nil trivial ?_
      refine AW.seqR ?_
      refine AWo.pure (PureOp.move rfl) rfl rfl ?_
      refine AWo.nil trivial ?_
      refine AW.block ?_
      refine AW.loopw (fun mm σ => ∃ j, (j ≤ 3) ∧ mm = 3 - j ∧ σ = ⟨(upd (upd (upd (upd (upd emp 0 (.func (.func 106) #[] #[])) 2 (.pointer (some ⟨3000, 0, none⟩))) 3 (vi .i64 i)) 5 (vi .i64 i)) 8 (vi .i64 j)), (upd emp 3000 ⟨(((pb (fun i j => if i = j then fp 1 else 0) (i * 3 + j)).map fe).flatten).map (vi .u64), true, 1⟩)⟩) (fm := []) ?_ ⟨0, by omega, rfl, rfl⟩ ?_
      ·
        refine Wk.of [3000] ?_ ?_ ?_ (by decide) rfl
        ·
          refine WkE.upd rfl (by first | exact VR.flat _ rfl | exact VR.eqv (vp_succ _) rfl | exact VR.eqv (vp_succ _).symm rfl | exact VR.eqv (by first | rfl | (congr 1; omega) | (simp; done) | (simp; omega)) rfl) ?_
          refine WkE.upd rfl (by first | exact VR.flat _ rfl | exact VR.eqv (vp_succ _) rfl | exact VR.eqv (vp_succ _).symm rfl | exact VR.eqv (by first | rfl | (congr 1; omega) | (simp; done) | (simp; omega)) rfl) ?_
          refine WkE.upd rfl (by first | exact VR.flat _ rfl | exact VR.eqv (vp_succ _) rfl | exact VR.eqv (vp_succ _).symm rfl | exact VR.eqv (by first | rfl | (congr 1; omega) | (simp; done) | (simp; omega)) rfl) ?_
          refine WkE.upd rfl (.ptr (3000) 0 ⟨_, rfl⟩) ?_
          refine WkE.upd rfl (VR.flat _ rfl) ?_
          exact WkE.emp
        ·
          refine WkM.flat rfl (flatM flat_vi) (fun h => h) ?_
          exact WkM.emp
        ·
          repeat (refine dom_upd_mem (by decide) ?_)
          exact dom_emp
      ·
        rintro mm σ ⟨j, hinv, rfl, rfl⟩
        refine AW.seqR ?_
        first | refine AWo.pure (PureOp.ltN (b := 3) rfl rfl) rfl rfl ?_ | refine AWo.pure (PureOp.bin rfl rfl rfl) rfl rfl ?_
        refine AWo.nil trivial ?_
        refine AW.seq ?_
        refine AW.cond rfl (fun hb1 => ?_) (fun hb1 => ?_)
        ·
          have hj : j < 3 := by simpa using hb1
          refine AW.skip ?_
          refine thenA_normal ?_
          refine AW.seq ?_
          refine AW.block ?_
          refine AW.seqR ?_
          refine AWo.pure (PureOp.move rfl) rfl rfl ?_
          refine AWo.pure (PureOp.assign rfl) rfl rfl ?_
          refine AWo.nil trivial ?_
          refine AW.draw mixed ?_
          refine AWo.pure (PureOp.move rfl) rfl rfl ?_
          refine AWo.pure (PureOp.move rfl) rfl rfl ?_
          refine AWo.pure (PureOp.move rfl) rfl rfl ?_
          refine AWo.pure (PureOp.move rfl) rfl rfl ?_
          refine AWo.pure (PureOp.move rfl) rfl rfl ?_
          refine AWo.callX (unit1_ctr) bd106 [] [] rfl (.cons rfl (.cons rfl .nil)) rfl (.cons rfl rfl (.cons rfl rfl .nil)) .nil rfl .nil frN (by decide) (.pure (by first | rfl | exact pure_aggM flat_vi | exact pure_aggM flat_bool) .nil) rfl rfl rfl rfl ?_
          first | refine AWo.pure (PureOp.arr1 tbok rfl rfl rfl rfl (by first | decide | omega)) rfl rfl ?_ | refine AWo.pure (PureOp.arr tbok rfl rfl rfl rfl (by first | decide | omega)) rfl rfl ?_
          first | refine AWo.pure (PureOp.arr1 tbok rfl rfl rfl rfl (by first | decide | omega)) rfl rfl ?_ | refine AWo.pure (PureOp.arr tbok rfl rfl rfl rfl (by first | decide | omega)) rfl rfl ?_
          refine ySJ (i * 3 + j) ?_ (hj := by rw [pb_len]; omega)
          rw [pb_set (fun i j => if i = j then fp 1 else 0) hi hj]
          refine AWo.nil (by kernel_rfl) ?_
          refine inBlockA_normal ?_
          refine thenA_normal ?_
          refine AW.region ?_
          first | refine AWo.pure (PureOp.addI (b := 1) rfl rfl (by first | decide | omega)) rfl rfl ?_ | refine AWo.pure (PureOp.bin rfl rfl rfl) rfl rfl ?_
          refine AWo.pure (PureOp.move rfl) rfl rfl ?_
          refine AWo.nil trivial ?_
          refine thenA_normal ?_
          refine ⟨3 - (j + 1), [], _, by omega, ?_, j + 1, by omega, rfl, rfl⟩
          refine Wk.of [3000] ?_ ?_ ?_ (by decide) rfl
          ·
            refine WkE.upd rfl (by first | exact VR.flat _ rfl | exact VR.eqv (vp_succ _) rfl | exact VR.eqv (vp_succ _).symm rfl | exact VR.eqv (by first | rfl | (congr 1; omega) | (simp; done) | (simp; omega)) rfl) ?_
            refine WkE.upd rfl (by first | exact VR.flat _ rfl | exact VR.eqv (vp_succ _) rfl | exact VR.eqv (vp_succ _).symm rfl | exact VR.eqv (by first | rfl | (congr 1; omega) | (simp; done) | (simp; omega)) rfl) ?_
            refine WkE.upd rfl (by first | exact VR.flat _ rfl | exact VR.eqv (vp_succ _) rfl | exact VR.eqv (vp_succ _).symm rfl | exact VR.eqv (by first | rfl | (congr 1; omega) | (simp; done) | (simp; omega)) rfl) ?_
            refine WkE.upd rfl (.ptr (3000) 0 ⟨_, rfl⟩) ?_
            refine WkE.upd rfl (VR.flat _ rfl) ?_
            exact WkE.emp
          ·
            refine WkM.flat rfl (flatM flat_vi) (fun h => h) ?_
            exact WkM.emp
          ·
            repeat (refine dom_upd_mem (by decide) ?_)
            exact dom_emp
        ·
          obtain rfl : j = 3 := by simp at hb1; omega
          refine AW.exit ?_
          refine thenA_exit ?_
          refine thenA_exit ?_
          refine inBlockA_hit ?_
          refine inBlockA_normal ?_
          refine thenA_normal ?_
          refine AW.region ?_
          first | refine AWo.pure (PureOp.addI (b := 1) rfl rfl (by first | decide | omega)) rfl rfl ?_ | refine AWo.pure (PureOp.bin rfl rfl rfl) rfl rfl ?_
          refine AWo.pure (PureOp.move rfl) rfl rfl ?_
          refine AWo.nil trivial ?_
          refine thenA_normal ?_
          rw [show i * 3 + 3 = (i + 1) * 3 by omega]
          refine ⟨3 - (i + 1), [], _, by omega, ?_, i + 1, by omega, rfl, rfl⟩
          refine Wk.of [3000] ?_ ?_ ?_ (by decide) rfl
          ·
            refine WkE.upd rfl (by first | exact VR.flat _ rfl | exact VR.eqv (vp_succ _) rfl | exact VR.eqv (vp_succ _).symm rfl | exact VR.eqv (by first | rfl | (congr 1; omega) | (simp; done) | (simp; omega)) rfl) ?_
            refine WkE.upd rfl (.ptr (3000) 0 ⟨_, rfl⟩) ?_
            refine WkE.upd rfl (VR.flat _ rfl) ?_
            exact WkE.emp
          ·
            refine WkM.flat rfl (flatM flat_vi) (fun h => h) ?_
            exact WkM.emp
          ·
            repeat (refine dom_upd_mem (by decide) ?_)
            exact dom_emp
    ·
      obtain rfl : i = 3 := by simp at hb0; omega
      rw [pb_all]
      refine AW.exit ?_
      refine thenA_exit ?_
      refine thenA_exit ?_
      refine inBlockA_hit ?_
      refine thenA_normal ?_
      refine AW.seqR ?_
      refine yLM (xs := tab (fun i j => if i = j then fp 1 else 0)) 9 ?_
      refine AWo.storeAllN tbok rfl rfl rfl rfl (by first | (simp [*]; done) | rfl) (by first | (simp [*]; done) | rfl) (by first | exact oneM (fun _ => rfl) _ | rfl | (simp; done)) rfl ?_
      refine AWo.nil trivial ?_
      refine AW.ret ?_
      refine RetQ.gc [_] [] [.cell 2 76] (.inl rfl) rfl (.val (RVal.cellAll tbok rfl rfl rfl rfl (by first | (simp [*]; done) | rfl)) .nil) rfl (.pure (by first | rfl | exact pure_aggM flat_vi | exact pure_aggM flat_bool) .nil) trivial (by decide) rfl
theorem bcau_ctr : GC Try.prog 103 [.func (.func 115) #[] #[]] [] [.agg ((((tab (fun i j => finv (fp (i + j + 3)))).map fe).flatten).map (vi .u64)).toArray] [] := by
  refine GC.intro Try.func103 rfl (by show 1 ≤ 22; decide) (by first | exact Nat.le_refl _ | decide | simp) ?_
  refine AW.seqR ?_
  refine yN 3000 1 ((((pb (fun i j => finv (fp (i + j + 3))) (0 * 3)).map fe).flatten).map (vi .u64)) ?_ (hc := by exact pb_zero)
  refine AWo.nil trivial ?_
  refine AW.seq ?_
  refine AW.seqR ?_
  refine AWo.pure (PureOp.move rfl) rfl rfl ?_
  refine AWo.nil trivial ?_
  refine AW.block ?_
  refine AW.loopw (fun mm σ => ∃ i, (i ≤ 3) ∧ mm = 3 - i ∧ σ = ⟨(upd (upd (upd emp 0 (.func (.func 115) #[] #[])) 2 (.pointer (some ⟨3000, 0, none⟩))) 5 (vi .i64 i)), (upd emp 3000 ⟨(((pb (fun i j => finv (fp (i + j + 3))) (i * 3)).map fe).flatten).map (vi .u64), true, 1⟩)⟩) (fm := []) ?_ ⟨0, by omega, rfl, rfl⟩ ?_
  ·
    refine Wk.of [3000] ?_ ?_ ?_ (by decide) rfl
    ·
      refine WkE.upd rfl (by first | exact VR.flat _ rfl | exact VR.eqv (vp_succ _) rfl | exact VR.eqv (vp_succ _).symm rfl | exact VR.eqv (by first | rfl | (congr 1; omega) | (simp; done) | (simp; omega)) rfl) ?_
      refine WkE.upd rfl (.ptr (3000) 0 ⟨_, rfl⟩) ?_
      refine WkE.upd rfl (VR.flat _ rfl) ?_
      exact WkE.emp
    ·
      refine WkM.flat rfl (flatM flat_vi) (fun h => h) ?_
      exact WkM.emp
    ·
      repeat (refine dom_upd_mem (by decide) ?_)
      exact dom_emp
  ·
    rintro mm σ ⟨i, hinv, rfl, rfl⟩
    refine AW.seqR ?_
    first | refine AWo.pure (PureOp.ltN (b := 3) rfl rfl) rfl rfl ?_ | refine AWo.pure (PureOp.bin rfl rfl rfl) rfl rfl ?_
    refine AWo.nil trivial ?_
    refine AW.seq ?_
    refine AW.cond rfl (fun hb0 => ?_) (fun hb0 => ?_)
    ·
      have hi : i < 3 := by simpa using hb0
      refine AW.skip ?_
      refine thenA_normal ?_
      refine AW.seq ?_
      refine AW.block ?_
      refine AW.seqR ?_
      refine AWo.pure (PureOp.move rfl) rfl rfl ?_
      refine AWo.pure (PureOp.assign rfl) rfl rfl ?_
      refine AWo.nil trivial ?_
      refine AW.seqR ?_
      refine AWo.pure (PureOp.move rfl) rfl rfl ?_
      refine AWo.nil trivial ?_
      refine AW.block ?_
      refine AW.loopw (fun mm σ => ∃ j, (j ≤ 3) ∧ mm = 3 - j ∧ σ = ⟨(upd (upd (upd (upd (upd emp 0 (.func (.func 115) #[] #[])) 2 (.pointer (some ⟨3000, 0, none⟩))) 3 (vi .i64 i)) 5 (vi .i64 i)) 8 (vi .i64 j)), (upd emp 3000 ⟨(((pb (fun i j => finv (fp (i + j + 3))) (i * 3 + j)).map fe).flatten).map (vi .u64), true, 1⟩)⟩) (fm := []) ?_ ⟨0, by omega, rfl, rfl⟩ ?_
      ·
        refine Wk.of [3000] ?_ ?_ ?_ (by decide) rfl
        ·
          refine WkE.upd rfl (by first | exact VR.flat _ rfl | exact VR.eqv (vp_succ _) rfl | exact VR.eqv (vp_succ _).symm rfl | exact VR.eqv (by first | rfl | (congr 1; omega) | (simp; done) | (simp; omega)) rfl) ?_
          refine WkE.upd rfl (by first | exact VR.flat _ rfl | exact VR.eqv (vp_succ _) rfl | exact VR.eqv (vp_succ _).symm rfl | exact VR.eqv (by first | rfl | (congr 1; omega) | (simp; done) | (simp; omega)) rfl) ?_
          refine WkE.upd rfl (by first | exact VR.flat _ rfl | exact VR.eqv (vp_succ _) rfl | exact VR.eqv (vp_succ _).symm rfl | exact VR.eqv (by first | rfl | (congr 1; omega) | (simp; done) | (simp; omega)) rfl) ?_
          refine WkE.upd rfl (.ptr (3000) 0 ⟨_, rfl⟩) ?_
          refine WkE.upd rfl (VR.flat _ rfl) ?_
          exact WkE.emp
        ·
          refine WkM.flat rfl (flatM flat_vi) (fun h => h) ?_
          exact WkM.emp
        ·
          repeat (refine dom_upd_mem (by decide) ?_)
          exact dom_emp
      ·
        rintro mm σ ⟨j, hinv, rfl, rfl⟩
        refine AW.seqR ?_
        first | refine AWo.pure (PureOp.ltN (b := 3) rfl rfl) rfl rfl ?_ | refine AWo.pure (PureOp.bin rfl rfl rfl) rfl rfl ?_
        refine AWo.nil trivial ?_
        refine AW.seq ?_
        refine AW.cond rfl (fun hb1 => ?_) (fun hb1 => ?_)
        ·
          have hj : j < 3 := by simpa using hb1
          refine AW.skip ?_
          refine thenA_normal ?_
          refine AW.seq ?_
          refine AW.block ?_
          refine AW.seqR ?_
          refine AWo.pure (PureOp.move rfl) rfl rfl ?_
          refine AWo.pure (PureOp.assign rfl) rfl rfl ?_
          refine AWo.nil trivial ?_
          refine AW.draw mixed ?_
          refine AWo.pure (PureOp.move rfl) rfl rfl ?_
          refine AWo.pure (PureOp.move rfl) rfl rfl ?_
          refine AWo.pure (PureOp.move rfl) rfl rfl ?_
          refine AWo.pure (PureOp.move rfl) rfl rfl ?_
          refine AWo.pure (PureOp.move rfl) rfl rfl ?_
          refine AWo.callX (cau1_ctr (by first | assumption | omega) (by first | assumption | omega)) bd115 [] [] rfl (.cons rfl (.cons rfl .nil)) rfl (.cons rfl rfl (.cons rfl rfl .nil)) .nil rfl .nil frN (by decide) (.pure (by first | rfl | exact pure_aggM flat_vi | exact pure_aggM flat_bool) .nil) rfl rfl rfl rfl ?_
          first | refine AWo.pure (PureOp.arr1 tbok rfl rfl rfl rfl (by first | decide | omega)) rfl rfl ?_ | refine AWo.pure (PureOp.arr tbok rfl rfl rfl rfl (by first | decide | omega)) rfl rfl ?_
          first | refine AWo.pure (PureOp.arr1 tbok rfl rfl rfl rfl (by first | decide | omega)) rfl rfl ?_ | refine AWo.pure (PureOp.arr tbok rfl rfl rfl rfl (by first | decide | omega)) rfl rfl ?_
          refine ySJ (i * 3 + j) ?_ (hj := by rw [pb_len]; omega)
          rw [pb_set (fun i j => finv (fp (i + j + 3))) hi hj]
          refine AWo.nil (by kernel_rfl) ?_
          refine inBlockA_normal ?_
          refine thenA_normal ?_
          refine AW.region ?_
          first | refine AWo.pure (PureOp.addI (b := 1) rfl rfl (by first | decide | omega)) rfl rfl ?_ | refine AWo.pure (PureOp.bin rfl rfl rfl) rfl rfl ?_
          refine AWo.pure (PureOp.move rfl) rfl rfl ?_
          refine AWo.nil trivial ?_
          refine thenA_normal ?_
          refine ⟨3 - (j + 1), [], _, by omega, ?_, j + 1, by omega, rfl, rfl⟩
          refine Wk.of [3000] ?_ ?_ ?_ (by decide) rfl
          ·
            refine WkE.upd rfl (by first | exact VR.flat _ rfl | exact VR.eqv (vp_succ _) rfl | exact VR.eqv (vp_succ _).symm rfl | exact VR.eqv (by first | rfl | (congr 1; omega) | (simp; done) | (simp; omega)) rfl) ?_
            refine WkE.upd rfl (by first | exact VR.flat _ rfl | exact VR.eqv (vp_succ _) rfl | exact VR.eqv (vp_succ _).symm rfl | exact VR.eqv (by first | rfl | (congr 1; omega) | (simp; done) | (simp; omega)) rfl) ?_
            refine WkE.upd rfl (by first | exact VR.flat _ rfl | exact VR.eqv (vp_succ _) rfl | exact VR.eqv (vp_succ _).symm rfl | exact VR.eqv (by first | rfl | (congr 1; omega) | (simp; done) | (simp; omega)) rfl) ?_
            refine WkE.upd rfl (.ptr (3000) 0 ⟨_, rfl⟩) ?_
            refine WkE.upd rfl (VR.flat _ rfl) ?_
            exact WkE.emp
          ·
            refine WkM.flat rfl (flatM flat_vi) (fun h => h) ?_
            exact WkM.emp
          ·
            repeat (refine dom_upd_mem (by decide) ?_)
            exact dom_emp
        ·
          obtain rfl : j = 3 := by simp at hb1; omega
          refine AW.exit ?_
          refine thenA_exit ?_
          refine thenA_exit ?_
          refine inBlockA_hit ?_
          refine inBlockA_normal ?_
          refine thenA_normal ?_
          refine AW.region ?_
          first | refine AWo.pure (PureOp.addI (b := 1) rfl rfl (by first | decide | omega)) rfl rfl ?_ | refine AWo.pure (PureOp.bin rfl rfl rfl) rfl rfl ?_
          refine AWo.pure (PureOp.move rfl) rfl rfl ?_
          refine AWo.nil trivial ?_
          refine thenA_normal ?_
          rw [show i * 3 + 3 = (i + 1) * 3 by omega]
          refine ⟨3 - (i + 1), [], _, by omega, ?_, i + 1, by omega, rfl, rfl⟩
          refine Wk.of [3000] ?_ ?_ ?_ (by decide) rfl
          ·
            refine WkE.upd rfl (by first | exact VR.flat _ rfl | exact VR.eqv (vp_succ _) rfl | exact VR.eqv (vp_succ _).symm rfl | exact VR.eqv (by first | rfl | (congr 1; omega) | (simp; done) | (simp; omega)) rfl) ?_
            refine WkE.upd rfl (.ptr (3000) 0 ⟨_, rfl⟩) ?_
            refine WkE.upd rfl (VR.flat _ rfl) ?_
            exact WkE.emp
          ·
            refine WkM.flat rfl (flatM flat_vi) (fun h => h) ?_
            exact WkM.emp
          ·
            repeat (refine dom_upd_mem (by decide) ?_)
            exact dom_emp
    ·
      obtain rfl : i = 3 := by simp at hb0; omega
      rw [pb_all]
      refine AW.exit ?_
      refine thenA_exit ?_
      refine thenA_exit ?_
      refine inBlockA_hit ?_
      refine thenA_normal ?_
      refine AW.seqR ?_
      refine yLM (xs := tab (fun i j => finv (fp (i + j + 3)))) 9 ?_
      refine AWo.storeAllN tbok rfl rfl rfl rfl (by first | (simp [*]; done) | rfl) (by first | (simp [*]; done) | rfl) (by first | exact oneM (fun _ => rfl) _ | rfl | (simp; done)) rfl ?_
      refine AWo.nil trivial ?_
      refine AW.ret ?_
      refine RetQ.gc [_] [] [.cell 2 76] (.inl rfl) rfl (.val (RVal.cellAll tbok rfl rfl rfl rfl (by first | (simp [*]; done) | rfl)) .nil) rfl (.pure (by first | rfl | exact pure_aggM flat_vi | exact pure_aggM flat_bool) .nil) trivial (by decide) rfl
theorem mulM_ctr {M N : List Fp} (hM : M.length = 9) (hN : N.length = 9) : GC Try.prog 48 [.agg (((M.map fe).flatten).map (vi .u64)).toArray, .agg (((N.map fe).flatten).map (vi .u64)).toArray] [] [.agg ((((tab (mmF M N)).map fe).flatten).map (vi .u64)).toArray] [] := by
  refine GC.intro Try.func48 rfl (by show 2 ≤ 7; decide) (by first | exact Nat.le_refl _ | decide | simp) ?_
  refine AW.seqR ?_
  refine AWo.box 3000 1 _ rfl rfl rfl rfl rfl ?_
  refine AWo.box 4000 1 _ rfl rfl rfl rfl rfl ?_
  refine yN 5000 1 ((((List.replicate 9 (0 : Fp)).map fe).flatten).map (vi .u64)) ?_ (hc := by exact (zeroFF 9).symm)
  refine AWo.nil trivial ?_
  refine AW.seqR ?_
  refine AWo.pure (PureOp.fn (.cons rfl (.cons rfl .nil))) rfl rfl ?_
  refine AWo.callX (bmul_ctr (by first | assumption | omega) (by first | assumption | omega)) bd103 [(3000, 0), (4000, 0)] [] rfl (.cons rfl .nil) rfl (.cons rfl rfl .nil) (.flat rfl (by first | exact flatM flat_vi | exact flatM flat_bool | (simp [flatV, flat_vi]; done)) (by intro h; first | exact h | rfl) (.flat rfl (by first | exact flatM flat_vi | exact flatM flat_bool | (simp [flatV, flat_vi]; done)) (by intro h; first | exact h | rfl) .nil)) rfl (.keep rfl (.keep rfl .nil)) frN (by decide) (.pure (by first | rfl | exact pure_aggM flat_vi | exact pure_aggM flat_bool) .nil) rfl rfl rfl rfl ?_
  refine AWo.storeAllN tbok rfl rfl rfl rfl (by first | (simp [*]; done) | rfl) (by first | (simp [*]; done) | rfl) (by first | exact oneM (fun _ => rfl) _ | rfl | (simp; done)) rfl ?_
  refine AWo.nil trivial ?_
  refine AW.ret ?_
  refine RetQ.gc [_] [] [.cell 4 76] (.inl rfl) rfl (.val (RVal.cellAll tbok rfl rfl rfl rfl (by first | (simp [*]; done) | rfl)) .nil) rfl (.pure (by first | rfl | exact pure_aggM flat_vi | exact pure_aggM flat_bool) .nil) trivial (by decide) rfl
theorem unitM_ctr : GC Try.prog 50 [] [] [.agg ((((tab (fun i j => if i = j then fp 1 else 0)).map fe).flatten).map (vi .u64)).toArray] [] := by
  refine GC.intro Try.func50 rfl (by show 0 ≤ 2; decide) (by first | exact Nat.le_refl _ | decide | simp) ?_
  refine AW.seqR ?_
  refine yN 1000 1 ((((List.replicate 9 (0 : Fp)).map fe).flatten).map (vi .u64)) ?_ (hc := by exact (zeroFF 9).symm)
  refine AWo.nil trivial ?_
  refine AW.seqR ?_
  refine AWo.callX (bunit_ctr) bd103 [] [] rfl (.cons rfl .nil) rfl (.cons rfl rfl .nil) .nil rfl .nil frN (by decide) (.pure (by first | rfl | exact pure_aggM flat_vi | exact pure_aggM flat_bool) .nil) rfl rfl rfl rfl ?_
  refine AWo.storeAllN tbok rfl rfl rfl rfl (by first | (simp [*]; done) | rfl) (by first | (simp [*]; done) | rfl) (by first | exact oneM (fun _ => rfl) _ | rfl | (simp; done)) rfl ?_
  refine AWo.nil trivial ?_
  refine AW.ret ?_
  refine RetQ.gc [_] [] [.cell 0 76] (.inl rfl) rfl (.val (RVal.cellAll tbok rfl rfl rfl rfl (by first | (simp [*]; done) | rfl)) .nil) rfl (.pure (by first | rfl | exact pure_aggM flat_vi | exact pure_aggM flat_bool) .nil) trivial (by decide) rfl
theorem cauM_ctr : GC Try.prog 63 [] [] [.agg ((((tab (fun i j => finv (fp (i + j + 3)))).map fe).flatten).map (vi .u64)).toArray] [] := by
  refine GC.intro Try.func63 rfl (by show 0 ≤ 2; decide) (by first | exact Nat.le_refl _ | decide | simp) ?_
  refine AW.seqR ?_
  refine yN 1000 1 ((((List.replicate 9 (0 : Fp)).map fe).flatten).map (vi .u64)) ?_ (hc := by exact (zeroFF 9).symm)
  refine AWo.nil trivial ?_
  refine AW.seqR ?_
  refine AWo.callX (bcau_ctr) bd103 [] [] rfl (.cons rfl .nil) rfl (.cons rfl rfl .nil) .nil rfl .nil frN (by decide) (.pure (by first | rfl | exact pure_aggM flat_vi | exact pure_aggM flat_bool) .nil) rfl rfl rfl rfl ?_
  refine AWo.storeAllN tbok rfl rfl rfl rfl (by first | (simp [*]; done) | rfl) (by first | (simp [*]; done) | rfl) (by first | exact oneM (fun _ => rfl) _ | rfl | (simp; done)) rfl ?_
  refine AWo.nil trivial ?_
  refine AW.ret ?_
  refine RetQ.gc [_] [] [.cell 0 76] (.inl rfl) rfl (.val (RVal.cellAll tbok rfl rfl rfl rfl (by first | (simp [*]; done) | rfl)) .nil) rfl (.pure (by first | rfl | exact pure_aggM flat_vi | exact pure_aggM flat_bool) .nil) trivial (by decide) rfl
theorem apply_ctr {M : List Fp} {p q r : Fp} (hM : M.length = 9) : GC Try.prog 49 [.agg (((M.map fe).flatten).map (vi .u64)).toArray, .agg ((([p, q, r].map fe).flatten).map (vi .u64)).toArray] [] [.agg ((((apl M p q r).map fe).flatten).map (vi .u64)).toArray] [] := by
  refine GC.intro Try.func49 rfl (by show 2 ≤ 18; decide) (by first | exact Nat.le_refl _ | decide | simp) ?_
  refine AW.seqR ?_
  refine AWo.box 3000 1 _ rfl rfl rfl rfl rfl ?_
  refine AWo.box 4000 1 _ rfl rfl rfl rfl rfl ?_
  refine yN 5000 1 ((((List.replicate 3 (0 : Fp)).map fe).flatten).map (vi .u64)) ?_ (hc := by exact (zeroFF 3).symm)
  refine AWo.nil trivial ?_
  refine AW.seqD mixed ?_
  first | refine AWo.pure (PureOp.arr1 (j := 0) tbok rfl rfl rfl rfl (by first | decide | omega)) rfl rfl ?_ | refine AWo.pure (PureOp.arr (j := 0) tbok rfl rfl rfl rfl (by first | decide | omega)) rfl rfl ?_
  refine yLV (xs := M) (0) ?_
  refine yLM (xs := [p, q, r]) 3 ?_
  refine AWo.callX (dot_ctr) bd99 [] [] rfl (.cons rfl (.cons rfl .nil)) rfl (.pure (by first | rfl | exact pure_aggM flat_vi | exact pure_aggM flat_bool) (.pure (by first | rfl | exact pure_aggM flat_vi | exact pure_aggM flat_bool) .nil)) .nil rfl .nil frN (by decide) (.pure (by first | rfl | exact pure_aggM flat_vi | exact pure_aggM flat_bool) .nil) rfl rfl rfl rfl ?_
  first | refine AWo.pure (PureOp.arr1 (j := 1) tbok rfl rfl rfl rfl (by first | decide | omega)) rfl rfl ?_ | refine AWo.pure (PureOp.arr (j := 1) tbok rfl rfl rfl rfl (by first | decide | omega)) rfl rfl ?_
  refine yLV (xs := M) (3) ?_
  refine yLM (xs := [p, q, r]) 3 ?_
  refine AWo.callX (dot_ctr) bd99 [] [] rfl (.cons rfl (.cons rfl .nil)) rfl (.pure (by first | rfl | exact pure_aggM flat_vi | exact pure_aggM flat_bool) (.pure (by first | rfl | exact pure_aggM flat_vi | exact pure_aggM flat_bool) .nil)) .nil rfl .nil frN (by decide) (.pure (by first | rfl | exact pure_aggM flat_vi | exact pure_aggM flat_bool) .nil) rfl rfl rfl rfl ?_
  first | refine AWo.pure (PureOp.arr1 (j := 2) tbok rfl rfl rfl rfl (by first | decide | omega)) rfl rfl ?_ | refine AWo.pure (PureOp.arr (j := 2) tbok rfl rfl rfl rfl (by first | decide | omega)) rfl rfl ?_
  refine yLV (xs := M) (6) ?_
  refine yLM (xs := [p, q, r]) 3 ?_
  refine AWo.callX (dot_ctr) bd99 [] [] rfl (.cons rfl (.cons rfl .nil)) rfl (.pure (by first | rfl | exact pure_aggM flat_vi | exact pure_aggM flat_bool) (.pure (by first | rfl | exact pure_aggM flat_vi | exact pure_aggM flat_bool) .nil)) .nil rfl .nil frN (by decide) (.pure (by first | rfl | exact pure_aggM flat_vi | exact pure_aggM flat_bool) .nil) rfl rfl rfl rfl ?_
  refine AWo.pure (PureOp.buildArr tbok [(0, .agg ((fe (fsumL [M.getD 0 0 * p, M.getD 1 0 * q, M.getD 2 0 * r])).map (vi .u64)).toArray), (1, .agg ((fe (fsumL [M.getD 3 0 * p, M.getD 4 0 * q, M.getD 5 0 * r])).map (vi .u64)).toArray), (2, .agg ((fe (fsumL [M.getD 6 0 * p, M.getD 7 0 * q, M.getD 8 0 * r])).map (vi .u64)).toArray)] rfl rfl rfl (by decide) rfl fill3) rfl rfl ?_
  refine ySE (vs := apl M p q r) 0 ?_ (hj := by exact Nat.le_refl 3)
  refine AWo.nil (by kernel_rfl) ?_
  refine AW.ret ?_
  refine RetQ.gc [_] [] [.cell 4 74] (.inl rfl) rfl (.val (RVal.cellAll tbok rfl rfl rfl rfl (by first | (simp [*]; done) | rfl)) .nil) rfl (.pure (by first | rfl | exact pure_aggM flat_vi | exact pure_aggM flat_bool) .nil) trivial (by decide) rfl
end Go.Proofs.Yteeifahhejangaa
namespace Go.Proofs.Yteeifahhejangaa
open Go Sim
def mins (M : List Fp) : List Fp := [M.getD (0 * 3 + 0) 0, M.getD (0 * 3 + 1) 0, M.getD (0 * 3 + 2) 0, M.getD (1 * 3 + 0) 0, M.getD (1 * 3 + 1) 0, M.getD (1 * 3 + 2) 0, M.getD (2 * 3 + 0) 0, M.getD (2 * 3 + 1) 0, M.getD (2 * 3 + 2) 0, mnr M 0 0, mnr M 0 1, mnr M 0 2, mnr M 1 0, mnr M 1 1, mnr M 1 2, mnr M 2 0, mnr M 2 1, mnr M 2 2, dtm M]
def firstz (xs : List Fp) : Int := if xs.any (fun x => decide (x = 0)) then xs.findIdx (fun x => decide (x = 0)) else -1
theorem firstz_none {xs : List Fp} (h : ∀ j, j < xs.length → xs.getD j 0 ≠ 0) : firstz xs = -1 := by
  rw [firstz, if_neg]
  rw [List.any_eq_true]
  rintro ⟨x, hx, he⟩
  obtain ⟨j, hj, rfl⟩ := List.mem_iff_getElem.1 hx
  have := h j hj
  rw [List.getD_eq_getElem?_getD, List.getElem?_eq_getElem hj] at this
  exact this (of_decide_eq_true he)
theorem firstz_some {xs : List Fp} {i : Nat} (hi : i < xs.length) (h0 : xs.getD i 0 = 0) (h : ∀ j, j < i → xs.getD j 0 ≠ 0) : firstz xs = (i : Nat) := by
  have e : ∀ j (hj : j < xs.length), xs.getD j 0 = xs[j] := fun j hj => by rw [List.getD_eq_getElem?_getD, List.getElem?_eq_getElem hj]; rfl
  rw [firstz, if_pos (List.any_eq_true.2 ⟨xs[i], List.getElem_mem hi, decide_eq_true (by rw [← e]; exact h0)⟩)]
  congr 1
  rw [List.findIdx_eq hi]
  exact ⟨decide_eq_true (by rw [← e]; exact h0), fun j hj => decide_eq_false (by rw [← e]; exact h j hj)⟩
theorem firstz_ge (xs : List Fp) : Value.bool (decide (firstz xs ≥ 0)) = Value.bool (xs.any (fun x => decide (x = 0))) := by
  congr 1
  rw [firstz]
  split
  · rename_i h; rw [h]; exact decide_eq_true (by omega)
  · rename_i h; rw [Bool.not_eq_true] at h; rw [h]; exact decide_eq_false (by omega)
theorem getD_mem {Ls : List (List Nat)} {k : Nat} (h : k < Ls.length) : Ls.getD k [] ∈ Ls := by
  rw [List.getD_eq_getElem?_getD, List.getElem?_eq_getElem h]; exact List.getElem_mem h
theorem few_step {Ls : List (List Nat)} {i : Nat} (hi : i < Ls.length) (hs : ∀ b ∈ Ls.take i, b.length ≤ 40) (hle : (Ls.getD i []).length ≤ 40) : ∀ b ∈ Ls.take (i + 1), b.length ≤ 40 := by
  intro b hb
  rw [List.take_add_one, List.mem_append] at hb
  rcases hb with hb | hb
  · exact hs b hb
  · rw [List.getElem?_eq_getElem hi] at hb
    rw [List.getD_eq_getElem?_getD, List.getElem?_eq_getElem hi] at hle
    obtain rfl : b = Ls[i] := by simpa using hb
    exact hle
theorem few_bad {Ls : List (List Nat)} {i : Nat} (hi : i < Ls.length) (hgt : 40 < (Ls.getD i []).length) (h : ∀ b ∈ Ls, b.length ≤ 40) : False := by
  have := h _ (getD_mem hi); omega
def nbF (Ls : List (List Nat)) (i j : Nat) : Fp := fp (num 256 (Ls.getD (3 * i + j) []))
abbrev rowD (g : Nat → Fp) : Value := deep 3 1 ((List.range 3).map fun j => dv (g j))
abbrev matD (g : Nat → Nat → Fp) : Value := deep 3 1 ((List.range 3).map fun i => rowD (g i))
set_option maxRecDepth 10000 in
theorem minors_ctr {M : List Fp} (hM : M.length = 9) : GC Try.prog 44 [.agg (((M.map fe).flatten).map (vi .u64)).toArray] [] [.slice (some ⟨0, 0, none⟩) 19 0] [⟨(((mins M).map fe).flatten).map (vi .u64), true, 4⟩] := by
  refine GC.intro Try.func44 rfl (by show 1 ≤ 38; decide) (by first | exact Nat.le_refl _ | decide | simp) ?_
  refine AW.seqR ?_
  refine AWo.box 2000 1 _ rfl rfl rfl rfl rfl ?_
  refine AWo.pure (PureOp.assign rfl) rfl rfl ?_
  refine AWo.nil trivial ?_
  refine AW.seqR ?_
  refine AWo.pure (PureOp.assign rfl) rfl rfl ?_
  refine AWo.nil trivial ?_
  refine AW.seq ?_
  refine AW.ghost 77000 4 rfl ?_
  refine AW.weaken (τ := ⟨(upd (upd emp 1 (.pointer (some ⟨2000, 0, none⟩))) 3 (.slice (some ⟨77000, 0, none⟩) 0 0)), (upd (upd emp 2000 ⟨((M.map fe).flatten).map (vi .u64), true, 1⟩) 77000 ⟨((((mins M).take 0).map fe).flatten).map (vi .u64), true, 4⟩)⟩) (fm := []) ?_ ?_
  ·
    refine Wk.of [2000, 77000] ?_ ?_ ?_ (by decide) rfl
    ·
      refine WkE.upd rfl (by first | exact .nilS _ (by simp) | exact .slice (77000) 0 _ 0 ⟨_, rfl⟩ (by simp) (by simp)) ?_
      refine WkE.upd rfl (.ptr (2000) 0 ⟨_, rfl⟩) ?_
      exact WkE.emp
    ·
      refine WkM.flat rfl (flatM flat_vi) (fun h => h) ?_
      refine WkM.flat rfl (flatM flat_vi) (fun h => h) ?_
      exact WkM.emp
    ·
      repeat (refine dom_upd_mem (by decide) ?_)
      exact dom_emp
  ·
    refine AW.seqR ?_
    refine AWo.pure (PureOp.fn (.cons rfl .nil)) rfl rfl ?_
    refine yLM (xs := M) 9 ?_
    refine yP (PureOp.makeFunc (xs := #[.agg (FF M).toArray]) (ys := #[]) rfl (by apply Array.ext'; rw [Array.toList_map, Array.toList_map]; rfl) (by apply Array.ext'; rw [Array.toList_map, Array.toList_map]; rfl)) ?_
    refine AWo.buildSlice tbok 12000 [(0, .func (.func 101) #[] #[.pointer (some ⟨2000, 0, none⟩)]), (1, .func (.func 100) #[.agg (FF M).toArray] #[])] (out := [.func (.func 101) #[] #[.pointer (some ⟨2000, 0, none⟩)], .func (.func 100) #[.agg (FF M).toArray] #[]]) rfl rfl (by decide) rfl rfl rfl (by decide) rfl rfl rfl rfl rfl ?_
    first | refine AWo.pure (PureOp.lenS tbok rfl rfl) rfl rfl ?_ | refine AWo.pure (PureOp.lenD tbok rfl rfl) rfl rfl ?_
    refine AWo.pure (PureOp.move rfl) rfl rfl ?_
    refine AWo.nil trivial ?_
    refine AW.block ?_
    refine AW.rounds 3 ?_
    refine roundsA_succ ?_
    refine AW.seqR ?_
    first | refine AWo.pure (PureOp.ltN rfl rfl) rfl rfl ?_ | refine AWo.pure (PureOp.bin rfl rfl rfl) rfl rfl ?_
    refine AWo.nil trivial ?_
    refine AW.seq ?_
    refine AW.condT rfl ?_
    refine AW.skip ?_
    refine thenA_normal ?_
    refine AW.seq ?_
    refine AW.block ?_
    refine AW.seqR ?_
    first | refine AWo.pure (PureOp.idx1 tbok rfl rfl rfl rfl (by first | decide | omega)) rfl rfl ?_ | refine AWo.pure (PureOp.idx tbok rfl rfl rfl rfl (by first | decide | omega)) rfl rfl ?_
    refine AWo.load tbok rfl rfl rfl rfl rfl rfl ?_
    refine AWo.pure (PureOp.assign rfl) rfl rfl ?_
    refine AWo.nil trivial ?_
    refine AW.seqR ?_
    refine AWo.pure (PureOp.move rfl) rfl rfl ?_
    refine AWo.nil trivial ?_
    refine AW.block ?_
    refine AW.rounds 4 ?_
    refine roundsA_succ ?_
    refine AW.seqR ?_
    first | refine AWo.pure (PureOp.ltN (b := 3) rfl rfl) rfl rfl ?_ | refine AWo.pure (PureOp.bin rfl rfl rfl) rfl rfl ?_
    refine AWo.nil trivial ?_
    refine AW.seq ?_
    refine AW.condT rfl ?_
    refine AW.skip ?_
    refine thenA_normal ?_
    refine AW.seq ?_
    refine AW.block ?_
    refine AW.seqR ?_
    refine AWo.pure (PureOp.move rfl) rfl rfl ?_
    refine AWo.pure (PureOp.assign rfl) rfl rfl ?_
    refine AWo.nil trivial ?_
    refine AW.seqR ?_
    refine AWo.pure (PureOp.move rfl) rfl rfl ?_
    refine AWo.nil trivial ?_
    refine AW.block ?_
    refine AW.rounds 4 ?_
    refine roundsA_succ ?_
    refine AW.seqR ?_
    first | refine AWo.pure (PureOp.ltN (b := 3) rfl rfl) rfl rfl ?_ | refine AWo.pure (PureOp.bin rfl rfl rfl) rfl rfl ?_
    refine AWo.nil trivial ?_
    refine AW.seq ?_
    refine AW.condT rfl ?_
    refine AW.skip ?_
    refine thenA_normal ?_
    refine AW.seq ?_
    refine AW.block ?_
    refine AW.seqR ?_
    refine AWo.pure (PureOp.move rfl) rfl rfl ?_
    refine AWo.pure (PureOp.assign rfl) rfl rfl ?_
    refine AWo.nil trivial ?_
    refine AW.region ?_
    refine AWo.pure (PureOp.move rfl) rfl rfl ?_
    refine AWo.pure (PureOp.move rfl) rfl rfl ?_
    refine AWo.pure (PureOp.move rfl) rfl rfl ?_
    refine AWo.pure (PureOp.move rfl) rfl rfl ?_
    refine AWo.callX (min1_ctr (M := M) (i := 0) (j := 0) hM (by decide) (by decide)) bd101 [(2000, 0)] [] rfl (.cons rfl (.cons rfl .nil)) rfl (.cons rfl rfl (.cons rfl rfl (.cons rfl rfl .nil))) (.flat rfl (flatM flat_vi) (by intro h; first | exact h | rfl) .nil) rfl (.keep rfl .nil) frN (by decide) (.pure (by first | rfl | exact pure_aggM flat_vi | exact pure_aggM flat_bool) .nil) rfl rfl rfl rfl ?_
    refine AWo.buildSlice tbok 3029000 [(0, .agg ((fe (M.getD (0 * 3 + 0) 0)).map (vi .u64)).toArray)] (out := [fe (M.getD (0 * 3 + 0) 0)].flatten.map (vi .u64)) rfl rfl (by decide) rfl rfl rfl (by decide) rfl (fillB1 (fe_len _)) rfl rfl rfl ?_
    refine AWo.append tbok (all := ((((mins M).take 1).map fe).flatten).map (vi .u64)) (news := [fe (M.getD (0 * 3 + 0) 0)].flatten.map (vi .u64)) 3030000 rfl rfl rfl rfl (by show (FF _).length = _; rw [FF_len]; rfl) (by show List.take _ (List.drop 0 _) = _; rw [List.drop_zero]; exact List.take_of_length_le (by simp)) (by simp; done) (by decide) rfl rfl rfl (by first | decide | exact Nat.one_ne_zero) rfl rfl rfl (by first | decide | omega) (by first | decide | omega) (by first | exact oneM (fun _ => rfl) _ | (simp; done)) (by show FF _ ++ FF [_] = FF _; rw [← FF_app]; rfl) rfl rfl ?_
    refine AWo.pure (PureOp.assign rfl) rfl rfl ?_
    refine AWo.nil trivial ?_
    refine inBlockA_normal ?_
    refine thenA_normal ?_
    refine AW.region ?_
    first | refine AWo.pure (PureOp.addI (b := 1) rfl rfl (by first | decide | omega)) rfl rfl ?_ | refine AWo.pure (PureOp.bin rfl rfl rfl) rfl rfl ?_
    refine AWo.pure (PureOp.move rfl) rfl rfl ?_
    refine AWo.nil trivial ?_
    refine thenA_normal ?_
    refine roundsA_succ ?_
    refine AW.seqR ?_
    first | refine AWo.pure (PureOp.ltN (b := 3) rfl rfl) rfl rfl ?_ | refine AWo.pure (PureOp.bin rfl rfl rfl) rfl rfl ?_
    refine AWo.nil trivial ?_
    refine AW.seq ?_
    refine AW.condT rfl ?_
    refine AW.skip ?_
    refine thenA_normal ?_
    refine AW.seq ?_
    refine AW.block ?_
    refine AW.seqR ?_
    refine AWo.pure (PureOp.move rfl) rfl rfl ?_
    refine AWo.pure (PureOp.assign rfl) rfl rfl ?_
    refine AWo.nil trivial ?_
    refine AW.region ?_
    refine AWo.pure (PureOp.move rfl) rfl rfl ?_
    refine AWo.pure (PureOp.move rfl) rfl rfl ?_
    refine AWo.pure (PureOp.move rfl) rfl rfl ?_
    refine AWo.pure (PureOp.move rfl) rfl rfl ?_
    refine AWo.callX (min1_ctr (M := M) (i := 0) (j := 1) hM (by decide) (by decide)) bd101 [(2000, 0)] [] rfl (.cons rfl (.cons rfl .nil)) rfl (.cons rfl rfl (.cons rfl rfl (.cons rfl rfl .nil))) (.flat rfl (flatM flat_vi) (by intro h; first | exact h | rfl) .nil) rfl (.keep rfl .nil) frN (by decide) (.pure (by first | rfl | exact pure_aggM flat_vi | exact pure_aggM flat_bool) .nil) rfl rfl rfl rfl ?_
    refine AWo.buildSlice tbok 4029000 [(0, .agg ((fe (M.getD (0 * 3 + 1) 0)).map (vi .u64)).toArray)] (out := [fe (M.getD (0 * 3 + 1) 0)].flatten.map (vi .u64)) rfl rfl (by decide) rfl rfl rfl (by decide) rfl (fillB1 (fe_len _)) rfl rfl rfl ?_
    refine AWo.append tbok (all := ((((mins M).take 2).map fe).flatten).map (vi .u64)) (news := [fe (M.getD (0 * 3 + 1) 0)].flatten.map (vi .u64)) 4030000 rfl rfl rfl rfl (by show (FF _).length = _; rw [FF_len]; rfl) (by show List.take _ (List.drop 0 _) = _; rw [List.drop_zero]; exact List.take_of_length_le (by simp)) (by simp; done) (by decide) rfl rfl rfl (by first | decide | exact Nat.one_ne_zero) rfl rfl rfl (by first | decide | omega) (by first | decide | omega) (by first | exact oneM (fun _ => rfl) _ | (simp; done)) (by show FF _ ++ FF [_] = FF _; rw [← FF_app]; rfl) rfl rfl ?_
    refine AWo.pure (PureOp.assign rfl) rfl rfl ?_
    refine AWo.nil trivial ?_
    refine inBlockA_normal ?_
    refine thenA_normal ?_
    refine AW.region ?_
    first | refine AWo.pure (PureOp.addI (b := 1) rfl rfl (by first | decide | omega)) rfl rfl ?_ | refine AWo.pure (PureOp.bin rfl rfl rfl) rfl rfl ?_
    refine AWo.pure (PureOp.move rfl) rfl rfl ?_
    refine AWo.nil trivial ?_
    refine thenA_normal ?_
    refine roundsA_succ ?_
    refine AW.seqR ?_
    first | refine AWo.pure (PureOp.ltN (b := 3) rfl rfl) rfl rfl ?_ | refine AWo.pure (PureOp.bin rfl rfl rfl) rfl rfl ?_
    refine AWo.nil trivial ?_
    refine AW.seq ?_
    refine AW.condT rfl ?_
    refine AW.skip ?_
    refine thenA_normal ?_
    refine AW.seq ?_
    refine AW.block ?_
    refine AW.seqR ?_
    refine AWo.pure (PureOp.move rfl) rfl rfl ?_
    refine AWo.pure (PureOp.assign rfl) rfl rfl ?_
    refine AWo.nil trivial ?_
    refine AW.region ?_
    refine AWo.pure (PureOp.move rfl) rfl rfl ?_
    refine AWo.pure (PureOp.move rfl) rfl rfl ?_
    refine AWo.pure (PureOp.move rfl) rfl rfl ?_
    refine AWo.pure (PureOp.move rfl) rfl rfl ?_
    refine AWo.callX (min1_ctr (M := M) (i := 0) (j := 2) hM (by decide) (by decide)) bd101 [(2000, 0)] [] rfl (.cons rfl (.cons rfl .nil)) rfl (.cons rfl rfl (.cons rfl rfl (.cons rfl rfl .nil))) (.flat rfl (flatM flat_vi) (by intro h; first | exact h | rfl) .nil) rfl (.keep rfl .nil) frN (by decide) (.pure (by first | rfl | exact pure_aggM flat_vi | exact pure_aggM flat_bool) .nil) rfl rfl rfl rfl ?_
    refine AWo.buildSlice tbok 5029000 [(0, .agg ((fe (M.getD (0 * 3 + 2) 0)).map (vi .u64)).toArray)] (out := [fe (M.getD (0 * 3 + 2) 0)].flatten.map (vi .u64)) rfl rfl (by decide) rfl rfl rfl (by decide) rfl (fillB1 (fe_len _)) rfl rfl rfl ?_
    refine AWo.append tbok (all := ((((mins M).take 3).map fe).flatten).map (vi .u64)) (news := [fe (M.getD (0 * 3 + 2) 0)].flatten.map (vi .u64)) 5030000 rfl rfl rfl rfl (by show (FF _).length = _; rw [FF_len]; rfl) (by show List.take _ (List.drop 0 _) = _; rw [List.drop_zero]; exact List.take_of_length_le (by simp)) (by simp; done) (by decide) rfl rfl rfl (by first | decide | exact Nat.one_ne_zero) rfl rfl rfl (by first | decide | omega) (by first | decide | omega) (by first | exact oneM (fun _ => rfl) _ | (simp; done)) (by show FF _ ++ FF [_] = FF _; rw [← FF_app]; rfl) rfl rfl ?_
    refine AWo.pure (PureOp.assign rfl) rfl rfl ?_
    refine AWo.nil trivial ?_
    refine inBlockA_normal ?_
    refine thenA_normal ?_
    refine AW.region ?_
    first | refine AWo.pure (PureOp.addI (b := 1) rfl rfl (by first | decide | omega)) rfl rfl ?_ | refine AWo.pure (PureOp.bin rfl rfl rfl) rfl rfl ?_
    refine AWo.pure (PureOp.move rfl) rfl rfl ?_
    refine AWo.nil trivial ?_
    refine thenA_normal ?_
    refine roundsA_succ ?_
    refine AW.seqR ?_
    first | refine AWo.pure (PureOp.ltN (b := 3) rfl rfl) rfl rfl ?_ | refine AWo.pure (PureOp.bin rfl rfl rfl) rfl rfl ?_
    refine AWo.nil trivial ?_
    refine AW.seq ?_
    refine AW.condF rfl ?_
    refine AW.exit ?_
    refine thenA_exit ?_
    refine thenA_exit ?_
    refine inBlockA_hit ?_
    refine inBlockA_normal ?_
    refine thenA_normal ?_
    refine AW.region ?_
    first | refine AWo.pure (PureOp.addI (b := 1) rfl rfl (by first | decide | omega)) rfl rfl ?_ | refine AWo.pure (PureOp.bin rfl rfl rfl) rfl rfl ?_
    refine AWo.pure (PureOp.move rfl) rfl rfl ?_
    refine AWo.nil trivial ?_
    refine thenA_normal ?_
    refine roundsA_succ ?_
    refine AW.seqR ?_
    first | refine AWo.pure (PureOp.ltN (b := 3) rfl rfl) rfl rfl ?_ | refine AWo.pure (PureOp.bin rfl rfl rfl) rfl rfl ?_
    refine AWo.nil trivial ?_
    refine AW.seq ?_
    refine AW.condT rfl ?_
    refine AW.skip ?_
    refine thenA_normal ?_
    refine AW.seq ?_
    refine AW.block ?_
    refine AW.seqR ?_
    refine AWo.pure (PureOp.move rfl) rfl rfl ?_
    refine AWo.pure (PureOp.assign rfl) rfl rfl ?_
    refine AWo.nil trivial ?_
    refine AW.seqR ?_
    refine AWo.pure (PureOp.move rfl) rfl rfl ?_
    refine AWo.nil trivial ?_
    refine AW.block ?_
    refine AW.rounds 4 ?_
    refine roundsA_succ ?_
    refine AW.seqR ?_
    first | refine AWo.pure (PureOp.ltN (b := 3) rfl rfl) rfl rfl ?_ | refine AWo.pure (PureOp.bin rfl rfl rfl) rfl rfl ?_
    refine AWo.nil trivial ?_
    refine AW.seq ?_
    refine AW.condT rfl ?_
    refine AW.skip ?_
    refine thenA_normal ?_
    refine AW.seq ?_
    refine AW.block ?_
    refine AW.seqR ?_
    refine AWo.pure (PureOp.move rfl) rfl rfl ?_
    refine AWo.pure (PureOp.assign rfl) rfl rfl ?_
    refine AWo.nil trivial ?_
    refine AW.region ?_
    refine AWo.pure (PureOp.move rfl) rfl rfl ?_
    refine AWo.pure (PureOp.move rfl) rfl rfl ?_
    refine AWo.pure (PureOp.move rfl) rfl rfl ?_
    refine AWo.pure (PureOp.move rfl) rfl rfl ?_
    refine AWo.callX (min1_ctr (M := M) (i := 1) (j := 0) hM (by decide) (by decide)) bd101 [(2000, 0)] [] rfl (.cons rfl (.cons rfl .nil)) rfl (.cons rfl rfl (.cons rfl rfl (.cons rfl rfl .nil))) (.flat rfl (flatM flat_vi) (by intro h; first | exact h | rfl) .nil) rfl (.keep rfl .nil) frN (by decide) (.pure (by first | rfl | exact pure_aggM flat_vi | exact pure_aggM flat_bool) .nil) rfl rfl rfl rfl ?_
    refine AWo.buildSlice tbok 8029000 [(0, .agg ((fe (M.getD (1 * 3 + 0) 0)).map (vi .u64)).toArray)] (out := [fe (M.getD (1 * 3 + 0) 0)].flatten.map (vi .u64)) rfl rfl (by decide) rfl rfl rfl (by decide) rfl (fillB1 (fe_len _)) rfl rfl rfl ?_
    refine AWo.append tbok (all := ((((mins M).take 4).map fe).flatten).map (vi .u64)) (news := [fe (M.getD (1 * 3 + 0) 0)].flatten.map (vi .u64)) 8030000 rfl rfl rfl rfl (by show (FF _).length = _; rw [FF_len]; rfl) (by show List.take _ (List.drop 0 _) = _; rw [List.drop_zero]; exact List.take_of_length_le (by simp)) (by simp; done) (by decide) rfl rfl rfl (by first | decide | exact Nat.one_ne_zero) rfl rfl rfl (by first | decide | omega) (by first | decide | omega) (by first | exact oneM (fun _ => rfl) _ | (simp; done)) (by show FF _ ++ FF [_] = FF _; rw [← FF_app]; rfl) rfl rfl ?_
    refine AWo.pure (PureOp.assign rfl) rfl rfl ?_
    refine AWo.nil trivial ?_
    refine inBlockA_normal ?_
    refine thenA_normal ?_
    refine AW.region ?_
    first | refine AWo.pure (PureOp.addI (b := 1) rfl rfl (by first | decide | omega)) rfl rfl ?_ | refine AWo.pure (PureOp.bin rfl rfl rfl) rfl rfl ?_
    refine AWo.pure (PureOp.move rfl) rfl rfl ?_
    refine AWo.nil trivial ?_
    refine thenA_normal ?_
    refine roundsA_succ ?_
    refine AW.seqR ?_
    first | refine AWo.pure (PureOp.ltN (b := 3) rfl rfl) rfl rfl ?_ | refine AWo.pure (PureOp.bin rfl rfl rfl) rfl rfl ?_
    refine AWo.nil trivial ?_
    refine AW.seq ?_
    refine AW.condT rfl ?_
    refine AW.skip ?_
    refine thenA_normal ?_
    refine AW.seq ?_
    refine AW.block ?_
    refine AW.seqR ?_
    refine AWo.pure (PureOp.move rfl) rfl rfl ?_
    refine AWo.pure (PureOp.assign rfl) rfl rfl ?_
    refine AWo.nil trivial ?_
    refine AW.region ?_
    refine AWo.pure (PureOp.move rfl) rfl rfl ?_
    refine AWo.pure (PureOp.move rfl) rfl rfl ?_
    refine AWo.pure (PureOp.move rfl) rfl rfl ?_
    refine AWo.pure (PureOp.move rfl) rfl rfl ?_
    refine AWo.callX (min1_ctr (M := M) (i := 1) (j := 1) hM (by decide) (by decide)) bd101 [(2000, 0)] [] rfl (.cons rfl (.cons rfl .nil)) rfl (.cons rfl rfl (.cons rfl rfl (.cons rfl rfl .nil))) (.flat rfl (flatM flat_vi) (by intro h; first | exact h | rfl) .nil) rfl (.keep rfl .nil) frN (by decide) (.pure (by first | rfl | exact pure_aggM flat_vi | exact pure_aggM flat_bool) .nil) rfl rfl rfl rfl ?_
    refine AWo.buildSlice tbok 9029000 [(0, .agg ((fe (M.getD (1 * 3 + 1) 0)).map (vi .u64)).toArray)] (out := [fe (M.getD (1 * 3 + 1) 0)].flatten.map (vi .u64)) rfl rfl (by decide) rfl rfl rfl (by decide) rfl (fillB1 (fe_len _)) rfl rfl rfl ?_
    refine AWo.append tbok (all := ((((mins M).take 5).map fe).flatten).map (vi .u64)) (news := [fe (M.getD (1 * 3 + 1) 0)].flatten.map (vi .u64)) 9030000 rfl rfl rfl rfl (by show (FF _).length = _; rw [FF_len]; rfl) (by show List.take _ (List.drop 0 _) = _; rw [List.drop_zero]; exact List.take_of_length_le (by simp)) (by simp; done) (by decide) rfl rfl rfl (by first | decide | exact Nat.one_ne_zero) rfl rfl rfl (by first | decide | omega) (by first | decide | omega) (by first | exact oneM (fun _ => rfl) _ | (simp; done)) (by show FF _ ++ FF [_] = FF _; rw [← FF_app]; rfl) rfl rfl ?_
    refine AWo.pure (PureOp.assign rfl) rfl rfl ?_
    refine AWo.nil trivial ?_
    refine inBlockA_normal ?_
    refine thenA_normal ?_
    refine AW.region ?_
    first | refine AWo.pure (PureOp.addI (b := 1) rfl rfl (by first | decide | omega)) rfl rfl ?_ | refine AWo.pure (PureOp.bin rfl rfl rfl) rfl rfl ?_
    refine AWo.pure (PureOp.move rfl) rfl rfl ?_
    refine AWo.nil trivial ?_
    refine thenA_normal ?_
    refine roundsA_succ ?_
    refine AW.seqR ?_
    first | refine AWo.pure (PureOp.ltN (b := 3) rfl rfl) rfl rfl ?_ | refine AWo.pure (PureOp.bin rfl rfl rfl) rfl rfl ?_
    refine AWo.nil trivial ?_
    refine AW.seq ?_
    refine AW.condT rfl ?_
    refine AW.skip ?_
    refine thenA_normal ?_
    refine AW.seq ?_
    refine AW.block ?_
    refine AW.seqR ?_
    refine AWo.pure (PureOp.move rfl) rfl rfl ?_
    refine AWo.pure (PureOp.assign rfl) rfl rfl ?_
    refine AWo.nil trivial ?_
    refine AW.region ?_
    refine AWo.pure (PureOp.move rfl) rfl rfl ?_
    refine AWo.pure (PureOp.move rfl) rfl rfl ?_
    refine AWo.pure (PureOp.move rfl) rfl rfl ?_
    refine AWo.pure (PureOp.move rfl) rfl rfl ?_
    refine AWo.callX (min1_ctr (M := M) (i := 1) (j := 2) hM (by decide) (by decide)) bd101 [(2000, 0)] [] rfl (.cons rfl (.cons rfl .nil)) rfl (.cons rfl rfl (.cons rfl rfl (.cons rfl rfl .nil))) (.flat rfl (flatM flat_vi) (by intro h; first | exact h | rfl) .nil) rfl (.keep rfl .nil) frN (by decide) (.pure (by first | rfl | exact pure_aggM flat_vi | exact pure_aggM flat_bool) .nil) rfl rfl rfl rfl ?_
    refine AWo.buildSlice tbok 10029000 [(0, .agg ((fe (M.getD (1 * 3 + 2) 0)).map (vi .u64)).toArray)] (out := [fe (M.getD (1 * 3 + 2) 0)].flatten.map (vi .u64)) rfl rfl (by decide) rfl rfl rfl (by decide) rfl (fillB1 (fe_len _)) rfl rfl rfl ?_
    refine AWo.append tbok (all := ((((mins M).take 6).map fe).flatten).map (vi .u64)) (news := [fe (M.getD (1 * 3 + 2) 0)].flatten.map (vi .u64)) 10030000 rfl rfl rfl rfl (by show (FF _).length = _; rw [FF_len]; rfl) (by show List.take _ (List.drop 0 _) = _; rw [List.drop_zero]; exact List.take_of_length_le (by simp)) (by simp; done) (by decide) rfl rfl rfl (by first | decide | exact Nat.one_ne_zero) rfl rfl rfl (by first | decide | omega) (by first | decide | omega) (by first | exact oneM (fun _ => rfl) _ | (simp; done)) (by show FF _ ++ FF [_] = FF _; rw [← FF_app]; rfl) rfl rfl ?_
    refine AWo.pure (PureOp.assign rfl) rfl rfl ?_
    refine AWo.nil trivial ?_
    refine inBlockA_normal ?_
    refine thenA_normal ?_
    refine AW.region ?_
    first | refine AWo.pure (PureOp.addI (b := 1) rfl rfl (by first | decide | omega)) rfl rfl ?_ | refine AWo.pure (PureOp.bin rfl rfl rfl) rfl rfl ?_
    refine AWo.pure (PureOp.move rfl) rfl rfl ?_
    refine AWo.nil trivial ?_
    refine thenA_normal ?_
    refine roundsA_succ ?_
    refine AW.seqR ?_
    first | refine AWo.pure (PureOp.ltN (b := 3) rfl rfl) rfl rfl ?_ | refine AWo.pure (PureOp.bin rfl rfl rfl) rfl rfl ?_
    refine AWo.nil trivial ?_
    refine AW.seq ?_
    refine AW.condF rfl ?_
    refine AW.exit ?_
    refine thenA_exit ?_
    refine thenA_exit ?_
    refine inBlockA_hit ?_
    refine inBlockA_normal ?_
    refine thenA_normal ?_
    refine AW.region ?_
    first | refine AWo.pure (PureOp.addI (b := 1) rfl rfl (by first | decide | omega)) rfl rfl ?_ | refine AWo.pure (PureOp.bin rfl rfl rfl) rfl rfl ?_
    refine AWo.pure (PureOp.move rfl) rfl rfl ?_
    refine AWo.nil trivial ?_
    refine thenA_normal ?_
    refine roundsA_succ ?_
    refine AW.seqR ?_
    first | refine AWo.pure (PureOp.ltN (b := 3) rfl rfl) rfl rfl ?_ | refine AWo.pure (PureOp.bin rfl rfl rfl) rfl rfl ?_
    refine AWo.nil trivial ?_
    refine AW.seq ?_
    refine AW.condT rfl ?_
    refine AW.skip ?_
    refine thenA_normal ?_
    refine AW.seq ?_
    refine AW.block ?_
    refine AW.seqR ?_
    refine AWo.pure (PureOp.move rfl) rfl rfl ?_
    refine AWo.pure (PureOp.assign rfl) rfl rfl ?_
    refine AWo.nil trivial ?_
    refine AW.seqR ?_
    refine AWo.pure (PureOp.move rfl) rfl rfl ?_
    refine AWo.nil trivial ?_
    refine AW.block ?_
    refine AW.rounds 4 ?_
    refine roundsA_succ ?_
    refine AW.seqR ?_
    first | refine AWo.pure (PureOp.ltN (b := 3) rfl rfl) rfl rfl ?_ | refine AWo.pure (PureOp.bin rfl rfl rfl) rfl rfl ?_
    refine AWo.nil trivial ?_
    refine AW.seq ?_
    refine AW.condT rfl ?_
    refine AW.skip ?_
    refine thenA_normal ?_
    refine AW.seq ?_
    refine AW.block ?_
    refine AW.seqR ?_
    refine AWo.pure (PureOp.move rfl) rfl rfl ?_
    refine AWo.pure (PureOp.assign rfl) rfl rfl ?_
    refine AWo.nil trivial ?_
    refine AW.region ?_
    refine AWo.pure (PureOp.move rfl) rfl rfl ?_
    refine AWo.pure (PureOp.move rfl) rfl rfl ?_
    refine AWo.pure (PureOp.move rfl) rfl rfl ?_
    refine AWo.pure (PureOp.move rfl) rfl rfl ?_
    refine AWo.callX (min1_ctr (M := M) (i := 2) (j := 0) hM (by decide) (by decide)) bd101 [(2000, 0)] [] rfl (.cons rfl (.cons rfl .nil)) rfl (.cons rfl rfl (.cons rfl rfl (.cons rfl rfl .nil))) (.flat rfl (flatM flat_vi) (by intro h; first | exact h | rfl) .nil) rfl (.keep rfl .nil) frN (by decide) (.pure (by first | rfl | exact pure_aggM flat_vi | exact pure_aggM flat_bool) .nil) rfl rfl rfl rfl ?_
    refine AWo.buildSlice tbok 13029000 [(0, .agg ((fe (M.getD (2 * 3 + 0) 0)).map (vi .u64)).toArray)] (out := [fe (M.getD (2 * 3 + 0) 0)].flatten.map (vi .u64)) rfl rfl (by decide) rfl rfl rfl (by decide) rfl (fillB1 (fe_len _)) rfl rfl rfl ?_
    refine AWo.append tbok (all := ((((mins M).take 7).map fe).flatten).map (vi .u64)) (news := [fe (M.getD (2 * 3 + 0) 0)].flatten.map (vi .u64)) 13030000 rfl rfl rfl rfl (by show (FF _).length = _; rw [FF_len]; rfl) (by show List.take _ (List.drop 0 _) = _; rw [List.drop_zero]; exact List.take_of_length_le (by simp)) (by simp; done) (by decide) rfl rfl rfl (by first | decide | exact Nat.one_ne_zero) rfl rfl rfl (by first | decide | omega) (by first | decide | omega) (by first | exact oneM (fun _ => rfl) _ | (simp; done)) (by show FF _ ++ FF [_] = FF _; rw [← FF_app]; rfl) rfl rfl ?_
    refine AWo.pure (PureOp.assign rfl) rfl rfl ?_
    refine AWo.nil trivial ?_
    refine inBlockA_normal ?_
    refine thenA_normal ?_
    refine AW.region ?_
    first | refine AWo.pure (PureOp.addI (b := 1) rfl rfl (by first | decide | omega)) rfl rfl ?_ | refine AWo.pure (PureOp.bin rfl rfl rfl) rfl rfl ?_
    refine AWo.pure (PureOp.move rfl) rfl rfl ?_
    refine AWo.nil trivial ?_
    refine thenA_normal ?_
    refine roundsA_succ ?_
    refine AW.seqR ?_
    first | refine AWo.pure (PureOp.ltN (b := 3) rfl rfl) rfl rfl ?_ | refine AWo.pure (PureOp.bin rfl rfl rfl) rfl rfl ?_
    refine AWo.nil trivial ?_
    refine AW.seq ?_
    refine AW.condT rfl ?_
    refine AW.skip ?_
    refine thenA_normal ?_
    refine AW.seq ?_
    refine AW.block ?_
    refine AW.seqR ?_
    refine AWo.pure (PureOp.move rfl) rfl rfl ?_
    refine AWo.pure (PureOp.assign rfl) rfl rfl ?_
    refine AWo.nil trivial ?_
    refine AW.region ?_
    refine AWo.pure (PureOp.move rfl) rfl rfl ?_
    refine AWo.pure (PureOp.move rfl) rfl rfl ?_
    refine AWo.pure (PureOp.move rfl) rfl rfl ?_
    refine AWo.pure (PureOp.move rfl) rfl rfl ?_
    refine AWo.callX (min1_ctr (M := M) (i := 2) (j := 1) hM (by decide) (by decide)) bd101 [(2000, 0)] [] rfl (.cons rfl (.cons rfl .nil)) rfl (.cons rfl rfl (.cons rfl rfl (.cons rfl rfl .nil))) (.flat rfl (flatM flat_vi) (by intro h; first | exact h | rfl) .nil) rfl (.keep rfl .nil) frN (by decide) (.pure (by first | rfl | exact pure_aggM flat_vi | exact pure_aggM flat_bool) .nil) rfl rfl rfl rfl ?_
    refine AWo.buildSlice tbok 14029000 [(0, .agg ((fe (M.getD (2 * 3 + 1) 0)).map (vi .u64)).toArray)] (out := [fe (M.getD (2 * 3 + 1) 0)].flatten.map (vi .u64)) rfl rfl (by decide) rfl rfl rfl (by decide) rfl (fillB1 (fe_len _)) rfl rfl rfl ?_
    refine AWo.append tbok (all := ((((mins M).take 8).map fe).flatten).map (vi .u64)) (news := [fe (M.getD (2 * 3 + 1) 0)].flatten.map (vi .u64)) 14030000 rfl rfl rfl rfl (by show (FF _).length = _; rw [FF_len]; rfl) (by show List.take _ (List.drop 0 _) = _; rw [List.drop_zero]; exact List.take_of_length_le (by simp)) (by simp; done) (by decide) rfl rfl rfl (by first | decide | exact Nat.one_ne_zero) rfl rfl rfl (by first | decide | omega) (by first | decide | omega) (by first | exact oneM (fun _ => rfl) _ | (simp; done)) (by show FF _ ++ FF [_] = FF _; rw [← FF_app]; rfl) rfl rfl ?_
    refine AWo.pure (PureOp.assign rfl) rfl rfl ?_
    refine AWo.nil trivial ?_
    refine inBlockA_normal ?_
    refine thenA_normal ?_
    refine AW.region ?_
    first | refine AWo.pure (PureOp.addI (b := 1) rfl rfl (by first | decide | omega)) rfl rfl ?_ | refine AWo.pure (PureOp.bin rfl rfl rfl) rfl rfl ?_
    refine AWo.pure (PureOp.move rfl) rfl rfl ?_
    refine AWo.nil trivial ?_
    refine thenA_normal ?_
    refine roundsA_succ ?_
    refine AW.seqR ?_
    first | refine AWo.pure (PureOp.ltN (b := 3) rfl rfl) rfl rfl ?_ | refine AWo.pure (PureOp.bin rfl rfl rfl) rfl rfl ?_
    refine AWo.nil trivial ?_
    refine AW.seq ?_
    refine AW.condT rfl ?_
    refine AW.skip ?_
    refine thenA_normal ?_
    refine AW.seq ?_
    refine AW.block ?_
    refine AW.seqR ?_
    refine AWo.pure (PureOp.move rfl) rfl rfl ?_
    refine AWo.pure (PureOp.assign rfl) rfl rfl ?_
    refine AWo.nil trivial ?_
    refine AW.region ?_
    refine AWo.pure (PureOp.move rfl) rfl rfl ?_
    refine AWo.pure (PureOp.move rfl) rfl rfl ?_
    refine AWo.pure (PureOp.move rfl) rfl rfl ?_
    refine AWo.pure (PureOp.move rfl) rfl rfl ?_
    refine AWo.callX (min1_ctr (M := M) (i := 2) (j := 2) hM (by decide) (by decide)) bd101 [(2000, 0)] [] rfl (.cons rfl (.cons rfl .nil)) rfl (.cons rfl rfl (.cons rfl rfl (.cons rfl rfl .nil))) (.flat rfl (flatM flat_vi) (by intro h; first | exact h | rfl) .nil) rfl (.keep rfl .nil) frN (by decide) (.pure (by first | rfl | exact pure_aggM flat_vi | exact pure_aggM flat_bool) .nil) rfl rfl rfl rfl ?_
    refine AWo.buildSlice tbok 15029000 [(0, .agg ((fe (M.getD (2 * 3 + 2) 0)).map (vi .u64)).toArray)] (out := [fe (M.getD (2 * 3 + 2) 0)].flatten.map (vi .u64)) rfl rfl (by decide) rfl rfl rfl (by decide) rfl (fillB1 (fe_len _)) rfl rfl rfl ?_
    refine AWo.append tbok (all := ((((mins M).take 9).map fe).flatten).map (vi .u64)) (news := [fe (M.getD (2 * 3 + 2) 0)].flatten.map (vi .u64)) 15030000 rfl rfl rfl rfl (by show (FF _).length = _; rw [FF_len]; rfl) (by show List.take _ (List.drop 0 _) = _; rw [List.drop_zero]; exact List.take_of_length_le (by simp)) (by simp; done) (by decide) rfl rfl rfl (by first | decide | exact Nat.one_ne_zero) rfl rfl rfl (by first | decide | omega) (by first | decide | omega) (by first | exact oneM (fun _ => rfl) _ | (simp; done)) (by show FF _ ++ FF [_] = FF _; rw [← FF_app]; rfl) rfl rfl ?_
    refine AWo.pure (PureOp.assign rfl) rfl rfl ?_
    refine AWo.nil trivial ?_
    refine inBlockA_normal ?_
    refine thenA_normal ?_
    refine AW.region ?_
    first | refine AWo.pure (PureOp.addI (b := 1) rfl rfl (by first | decide | omega)) rfl rfl ?_ | refine AWo.pure (PureOp.bin rfl rfl rfl) rfl rfl ?_
    refine AWo.pure (PureOp.move rfl) rfl rfl ?_
    refine AWo.nil trivial ?_
    refine thenA_normal ?_
    refine roundsA_succ ?_
    refine AW.seqR ?_
    first | refine AWo.pure (PureOp.ltN (b := 3) rfl rfl) rfl rfl ?_ | refine AWo.pure (PureOp.bin rfl rfl rfl) rfl rfl ?_
    refine AWo.nil trivial ?_
    refine AW.seq ?_
    refine AW.condF rfl ?_
    refine AW.exit ?_
    refine thenA_exit ?_
    refine thenA_exit ?_
    refine inBlockA_hit ?_
    refine inBlockA_normal ?_
    refine thenA_normal ?_
    refine AW.region ?_
    first | refine AWo.pure (PureOp.addI (b := 1) rfl rfl (by first | decide | omega)) rfl rfl ?_ | refine AWo.pure (PureOp.bin rfl rfl rfl) rfl rfl ?_
    refine AWo.pure (PureOp.move rfl) rfl rfl ?_
    refine AWo.nil trivial ?_
    refine thenA_normal ?_
    refine roundsA_succ ?_
    refine AW.seqR ?_
    first | refine AWo.pure (PureOp.ltN (b := 3) rfl rfl) rfl rfl ?_ | refine AWo.pure (PureOp.bin rfl rfl rfl) rfl rfl ?_
    refine AWo.nil trivial ?_
    refine AW.seq ?_
    refine AW.condF rfl ?_
    refine AW.exit ?_
    refine thenA_exit ?_
    refine thenA_exit ?_
    refine inBlockA_hit ?_
    refine inBlockA_normal ?_
    refine thenA_normal ?_
    refine AW.region ?_
    first | refine AWo.pure (PureOp.addI (b := 1) rfl rfl (by first | decide | omega)) rfl rfl ?_ | refine AWo.pure (PureOp.bin rfl rfl rfl) rfl rfl ?_
    refine AWo.pure (PureOp.move rfl) rfl rfl ?_
    refine AWo.nil trivial ?_
    refine thenA_normal ?_
    refine roundsA_succ ?_
    refine AW.seqR ?_
    first | refine AWo.pure (PureOp.ltN rfl rfl) rfl rfl ?_ | refine AWo.pure (PureOp.bin rfl rfl rfl) rfl rfl ?_
    refine AWo.nil trivial ?_
    refine AW.seq ?_
    refine AW.condT rfl ?_
    refine AW.skip ?_
    refine thenA_normal ?_
    refine AW.seq ?_
    refine AW.block ?_
    refine AW.seqR ?_
    first | refine AWo.pure (PureOp.idx1 tbok rfl rfl rfl rfl (by first | decide | omega)) rfl rfl ?_ | refine AWo.pure (PureOp.idx tbok rfl rfl rfl rfl (by first | decide | omega)) rfl rfl ?_
    refine AWo.load tbok rfl rfl rfl rfl rfl rfl ?_
    refine AWo.pure (PureOp.assign rfl) rfl rfl ?_
    refine AWo.nil trivial ?_
    refine AW.seqR ?_
    refine AWo.pure (PureOp.move rfl) rfl rfl ?_
    refine AWo.nil trivial ?_
    refine AW.block ?_
    refine AW.rounds 4 ?_
    refine roundsA_succ ?_
    refine AW.seqR ?_
    first | refine AWo.pure (PureOp.ltN (b := 3) rfl rfl) rfl rfl ?_ | refine AWo.pure (PureOp.bin rfl rfl rfl) rfl rfl ?_
    refine AWo.nil trivial ?_
    refine AW.seq ?_
    refine AW.condT rfl ?_
    refine AW.skip ?_
    refine thenA_normal ?_
    refine AW.seq ?_
    refine AW.block ?_
    refine AW.seqR ?_
    refine AWo.pure (PureOp.move rfl) rfl rfl ?_
    refine AWo.pure (PureOp.assign rfl) rfl rfl ?_
    refine AWo.nil trivial ?_
    refine AW.seqR ?_
    refine AWo.pure (PureOp.move rfl) rfl rfl ?_
    refine AWo.nil trivial ?_
    refine AW.block ?_
    refine AW.rounds 4 ?_
    refine roundsA_succ ?_
    refine AW.seqR ?_
    first | refine AWo.pure (PureOp.ltN (b := 3) rfl rfl) rfl rfl ?_ | refine AWo.pure (PureOp.bin rfl rfl rfl) rfl rfl ?_
    refine AWo.nil trivial ?_
    refine AW.seq ?_
    refine AW.condT rfl ?_
    refine AW.skip ?_
    refine thenA_normal ?_
    refine AW.seq ?_
    refine AW.block ?_
    refine AW.seqR ?_
    refine AWo.pure (PureOp.move rfl) rfl rfl ?_
    refine AWo.pure (PureOp.assign rfl) rfl rfl ?_
    refine AWo.nil trivial ?_
    refine AW.region ?_
    refine AWo.pure (PureOp.move rfl) rfl rfl ?_
    refine AWo.pure (PureOp.move rfl) rfl rfl ?_
    refine AWo.pure (PureOp.move rfl) rfl rfl ?_
    refine AWo.pure (PureOp.move rfl) rfl rfl ?_
    refine AWo.callX (minor_ctr (M := M) (i := 0) (j := 0) hM (by decide) (by decide)) bd100 [] [] rfl (.cons rfl (.cons rfl .nil)) rfl (.pure (by first | rfl | exact pure_aggM flat_vi | exact pure_aggM flat_bool) (.cons rfl rfl (.cons rfl rfl .nil))) .nil rfl .nil frN (by decide) (.pure (by first | rfl | exact pure_aggM flat_vi | exact pure_aggM flat_bool) .nil) rfl rfl rfl rfl ?_
    refine AWo.buildSlice tbok 20029000 [(0, .agg ((fe (mnr M 0 0)).map (vi .u64)).toArray)] (out := [fe (mnr M 0 0)].flatten.map (vi .u64)) rfl rfl (by decide) rfl rfl rfl (by decide) rfl (fillB1 (fe_len _)) rfl rfl rfl ?_
    refine AWo.append tbok (all := ((((mins M).take 10).map fe).flatten).map (vi .u64)) (news := [fe (mnr M 0 0)].flatten.map (vi .u64)) 20030000 rfl rfl rfl rfl (by show (FF _).length = _; rw [FF_len]; rfl) (by show List.take _ (List.drop 0 _) = _; rw [List.drop_zero]; exact List.take_of_length_le (by simp)) (by simp; done) (by decide) rfl rfl rfl (by first | decide | exact Nat.one_ne_zero) rfl rfl rfl (by first | decide | omega) (by first | decide | omega) (by first | exact oneM (fun _ => rfl) _ | (simp; done)) (by show FF _ ++ FF [_] = FF _; rw [← FF_app]; rfl) rfl rfl ?_
    refine AWo.pure (PureOp.assign rfl) rfl rfl ?_
    refine AWo.nil trivial ?_
    refine inBlockA_normal ?_
    refine thenA_normal ?_
    refine AW.region ?_
    first | refine AWo.pure (PureOp.addI (b := 1) rfl rfl (by first | decide | omega)) rfl rfl ?_ | refine AWo.pure (PureOp.bin rfl rfl rfl) rfl rfl ?_
    refine AWo.pure (PureOp.move rfl) rfl rfl ?_
    refine AWo.nil trivial ?_
    refine thenA_normal ?_
    refine roundsA_succ ?_
    refine AW.seqR ?_
    first | refine AWo.pure (PureOp.ltN (b := 3) rfl rfl) rfl rfl ?_ | refine AWo.pure (PureOp.bin rfl rfl rfl) rfl rfl ?_
    refine AWo.nil trivial ?_
    refine AW.seq ?_
    refine AW.condT rfl ?_
    refine AW.skip ?_
    refine thenA_normal ?_
    refine AW.seq ?_
    refine AW.block ?_
    refine AW.seqR ?_
    refine AWo.pure (PureOp.move rfl) rfl rfl ?_
    refine AWo.pure (PureOp.assign rfl) rfl rfl ?_
    refine AWo.nil trivial ?_
    refine AW.region ?_
    refine AWo.pure (PureOp.move rfl) rfl rfl ?_
    refine AWo.pure (PureOp.move rfl) rfl rfl ?_
    refine AWo.pure (PureOp.move rfl) rfl rfl ?_
    refine AWo.pure (PureOp.move rfl) rfl rfl ?_
    refine AWo.callX (minor_ctr (M := M) (i := 0) (j := 1) hM (by decide) (by decide)) bd100 [] [] rfl (.cons rfl (.cons rfl .nil)) rfl (.pure (by first | rfl | exact pure_aggM flat_vi | exact pure_aggM flat_bool) (.cons rfl rfl (.cons rfl rfl .nil))) .nil rfl .nil frN (by decide) (.pure (by first | rfl | exact pure_aggM flat_vi | exact pure_aggM flat_bool) .nil) rfl rfl rfl rfl ?_
    refine AWo.buildSlice tbok 21029000 [(0, .agg ((fe (mnr M 0 1)).map (vi .u64)).toArray)] (out := [fe (mnr M 0 1)].flatten.map (vi .u64)) rfl rfl (by decide) rfl rfl rfl (by decide) rfl (fillB1 (fe_len _)) rfl rfl rfl ?_
    refine AWo.append tbok (all := ((((mins M).take 11).map fe).flatten).map (vi .u64)) (news := [fe (mnr M 0 1)].flatten.map (vi .u64)) 21030000 rfl rfl rfl rfl (by show (FF _).length = _; rw [FF_len]; rfl) (by show List.take _ (List.drop 0 _) = _; rw [List.drop_zero]; exact List.take_of_length_le (by simp)) (by simp; done) (by decide) rfl rfl rfl (by first | decide | exact Nat.one_ne_zero) rfl rfl rfl (by first | decide | omega) (by first | decide | omega) (by first | exact oneM (fun _ => rfl) _ | (simp; done)) (by show FF _ ++ FF [_] = FF _; rw [← FF_app]; rfl) rfl rfl ?_
    refine AWo.pure (PureOp.assign rfl) rfl rfl ?_
    refine AWo.nil trivial ?_
    refine inBlockA_normal ?_
    refine thenA_normal ?_
    refine AW.region ?_
    first | refine AWo.pure (PureOp.addI (b := 1) rfl rfl (by first | decide | omega)) rfl rfl ?_ | refine AWo.pure (PureOp.bin rfl rfl rfl) rfl rfl ?_
    refine AWo.pure (PureOp.move rfl) rfl rfl ?_
    refine AWo.nil trivial ?_
    refine thenA_normal ?_
    refine roundsA_succ ?_
    refine AW.seqR ?_
    first | refine AWo.pure (PureOp.ltN (b := 3) rfl rfl) rfl rfl ?_ | refine AWo.pure (PureOp.bin rfl rfl rfl) rfl rfl ?_
    refine AWo.nil trivial ?_
    refine AW.seq ?_
    refine AW.condT rfl ?_
    refine AW.skip ?_
    refine thenA_normal ?_
    refine AW.seq ?_
    refine AW.block ?_
    refine AW.seqR ?_
    refine AWo.pure (PureOp.move rfl) rfl rfl ?_
    refine AWo.pure (PureOp.assign rfl) rfl rfl ?_
    refine AWo.nil trivial ?_
    refine AW.region ?_
    refine AWo.pure (PureOp.move rfl) rfl rfl ?_
    refine AWo.pure (PureOp.move rfl) rfl rfl ?_
    refine AWo.pure (PureOp.move rfl) rfl rfl ?_
    refine AWo.pure (PureOp.move rfl) rfl rfl ?_
    refine AWo.callX (minor_ctr (M := M) (i := 0) (j := 2) hM (by decide) (by decide)) bd100 [] [] rfl (.cons rfl (.cons rfl .nil)) rfl (.pure (by first | rfl | exact pure_aggM flat_vi | exact pure_aggM flat_bool) (.cons rfl rfl (.cons rfl rfl .nil))) .nil rfl .nil frN (by decide) (.pure (by first | rfl | exact pure_aggM flat_vi | exact pure_aggM flat_bool) .nil) rfl rfl rfl rfl ?_
    refine AWo.buildSlice tbok 22029000 [(0, .agg ((fe (mnr M 0 2)).map (vi .u64)).toArray)] (out := [fe (mnr M 0 2)].flatten.map (vi .u64)) rfl rfl (by decide) rfl rfl rfl (by decide) rfl (fillB1 (fe_len _)) rfl rfl rfl ?_
    refine AWo.append tbok (all := ((((mins M).take 12).map fe).flatten).map (vi .u64)) (news := [fe (mnr M 0 2)].flatten.map (vi .u64)) 22030000 rfl rfl rfl rfl (by show (FF _).length = _; rw [FF_len]; rfl) (by show List.take _ (List.drop 0 _) = _; rw [List.drop_zero]; exact List.take_of_length_le (by simp)) (by simp; done) (by decide) rfl rfl rfl (by first | decide | exact Nat.one_ne_zero) rfl rfl rfl (by first | decide | omega) (by first | decide | omega) (by first | exact oneM (fun _ => rfl) _ | (simp; done)) (by show FF _ ++ FF [_] = FF _; rw [← FF_app]; rfl) rfl rfl ?_
    refine AWo.pure (PureOp.assign rfl) rfl rfl ?_
    refine AWo.nil trivial ?_
    refine inBlockA_normal ?_
    refine thenA_normal ?_
    refine AW.region ?_
    first | refine AWo.pure (PureOp.addI (b := 1) rfl rfl (by first | decide | omega)) rfl rfl ?_ | refine AWo.pure (PureOp.bin rfl rfl rfl) rfl rfl ?_
    refine AWo.pure (PureOp.move rfl) rfl rfl ?_
    refine AWo.nil trivial ?_
    refine thenA_normal ?_
    refine roundsA_succ ?_
    refine AW.seqR ?_
    first | refine AWo.pure (PureOp.ltN (b := 3) rfl rfl) rfl rfl ?_ | refine AWo.pure (PureOp.bin rfl rfl rfl) rfl rfl ?_
    refine AWo.nil trivial ?_
    refine AW.seq ?_
    refine AW.condF rfl ?_
    refine AW.exit ?_
    refine thenA_exit ?_
    refine thenA_exit ?_
    refine inBlockA_hit ?_
    refine inBlockA_normal ?_
    refine thenA_normal ?_
    refine AW.region ?_
    first | refine AWo.pure (PureOp.addI (b := 1) rfl rfl (by first | decide | omega)) rfl rfl ?_ | refine AWo.pure (PureOp.bin rfl rfl rfl) rfl rfl ?_
    refine AWo.pure (PureOp.move rfl) rfl rfl ?_
    refine AWo.nil trivial ?_
    refine thenA_normal ?_
    refine roundsA_succ ?_
    refine AW.seqR ?_
    first | refine AWo.pure (PureOp.ltN (b := 3) rfl rfl) rfl rfl ?_ | refine AWo.pure (PureOp.bin rfl rfl rfl) rfl rfl ?_
    refine AWo.nil trivial ?_
    refine AW.seq ?_
    refine AW.condT rfl ?_
    refine AW.skip ?_
    refine thenA_normal ?_
    refine AW.seq ?_
    refine AW.block ?_
    refine AW.seqR ?_
    refine AWo.pure (PureOp.move rfl) rfl rfl ?_
    refine AWo.pure (PureOp.assign rfl) rfl rfl ?_
    refine AWo.nil trivial ?_
    refine AW.seqR ?_
    refine AWo.pure (PureOp.move rfl) rfl rfl ?_
    refine AWo.nil trivial ?_
    refine AW.block ?_
    refine AW.rounds 4 ?_
    refine roundsA_succ ?_
    refine AW.seqR ?_
    first | refine AWo.pure (PureOp.ltN (b := 3) rfl rfl) rfl rfl ?_ | refine AWo.pure (PureOp.bin rfl rfl rfl) rfl rfl ?_
    refine AWo.nil trivial ?_
    refine AW.seq ?_
    refine AW.condT rfl ?_
    refine AW.skip ?_
    refine thenA_normal ?_
    refine AW.seq ?_
    refine AW.block ?_
    refine AW.seqR ?_
    refine AWo.pure (PureOp.move rfl) rfl rfl ?_
    refine AWo.pure (PureOp.assign rfl) rfl rfl ?_
    refine AWo.nil trivial ?_
    refine AW.region ?_
    refine AWo.pure (PureOp.move rfl) rfl rfl ?_
    refine AWo.pure (PureOp.move rfl) rfl rfl ?_
    refine AWo.pure (PureOp.move rfl) rfl rfl ?_
    refine AWo.pure (PureOp.move rfl) rfl rfl ?_
    refine AWo.callX (minor_ctr (M := M) (i := 1) (j := 0) hM (by decide) (by decide)) bd100 [] [] rfl (.cons rfl (.cons rfl .nil)) rfl (.pure (by first | rfl | exact pure_aggM flat_vi | exact pure_aggM flat_bool) (.cons rfl rfl (.cons rfl rfl .nil))) .nil rfl .nil frN (by decide) (.pure (by first | rfl | exact pure_aggM flat_vi | exact pure_aggM flat_bool) .nil) rfl rfl rfl rfl ?_
    refine AWo.buildSlice tbok 25029000 [(0, .agg ((fe (mnr M 1 0)).map (vi .u64)).toArray)] (out := [fe (mnr M 1 0)].flatten.map (vi .u64)) rfl rfl (by decide) rfl rfl rfl (by decide) rfl (fillB1 (fe_len _)) rfl rfl rfl ?_
    refine AWo.append tbok (all := ((((mins M).take 13).map fe).flatten).map (vi .u64)) (news := [fe (mnr M 1 0)].flatten.map (vi .u64)) 25030000 rfl rfl rfl rfl (by show (FF _).length = _; rw [FF_len]; rfl) (by show List.take _ (List.drop 0 _) = _; rw [List.drop_zero]; exact List.take_of_length_le (by simp)) (by simp; done) (by decide) rfl rfl rfl (by first | decide | exact Nat.one_ne_zero) rfl rfl rfl (by first | decide | omega) (by first | decide | omega) (by first | exact oneM (fun _ => rfl) _ | (simp; done)) (by show FF _ ++ FF [_] = FF _; rw [← FF_app]; rfl) rfl rfl ?_
    refine AWo.pure (PureOp.assign rfl) rfl rfl ?_
    refine AWo.nil trivial ?_
    refine inBlockA_normal ?_
    refine thenA_normal ?_
    refine AW.region ?_
    first | refine AWo.pure (PureOp.addI (b := 1) rfl rfl (by first | decide | omega)) rfl rfl ?_ | refine AWo.pure (PureOp.bin rfl rfl rfl) rfl rfl ?_
    refine AWo.pure (PureOp.move rfl) rfl rfl ?_
    refine AWo.nil trivial ?_
    refine thenA_normal ?_
    refine roundsA_succ ?_
    refine AW.seqR ?_
    first | refine AWo.pure (PureOp.ltN (b := 3) rfl rfl) rfl rfl ?_ | refine AWo.pure (PureOp.bin rfl rfl rfl) rfl rfl ?_
    refine AWo.nil trivial ?_
    refine AW.seq ?_
    refine AW.condT rfl ?_
    refine AW.skip ?_
    refine thenA_normal ?_
    refine AW.seq ?_
    refine AW.block ?_
    refine AW.seqR ?_
    refine AWo.pure (PureOp.move rfl) rfl rfl ?_
    refine AWo.pure (PureOp.assign rfl) rfl rfl ?_
    refine AWo.nil trivial ?_
    refine AW.region ?_
    refine AWo.pure (PureOp.move rfl) rfl rfl ?_
    refine AWo.pure (PureOp.move rfl) rfl rfl ?_
    refine AWo.pure (PureOp.move rfl) rfl rfl ?_
    refine AWo.pure (PureOp.move rfl) rfl rfl ?_
    refine AWo.callX (minor_ctr (M := M) (i := 1) (j := 1) hM (by decide) (by decide)) bd100 [] [] rfl (.cons rfl (.cons rfl .nil)) rfl (.pure (by first | rfl | exact pure_aggM flat_vi | exact pure_aggM flat_bool) (.cons rfl rfl (.cons rfl rfl .nil))) .nil rfl .nil frN (by decide) (.pure (by first | rfl | exact pure_aggM flat_vi | exact pure_aggM flat_bool) .nil) rfl rfl rfl rfl ?_
    refine AWo.buildSlice tbok 26029000 [(0, .agg ((fe (mnr M 1 1)).map (vi .u64)).toArray)] (out := [fe (mnr M 1 1)].flatten.map (vi .u64)) rfl rfl (by decide) rfl rfl rfl (by decide) rfl (fillB1 (fe_len _)) rfl rfl rfl ?_
    refine AWo.append tbok (all := ((((mins M).take 14).map fe).flatten).map (vi .u64)) (news := [fe (mnr M 1 1)].flatten.map (vi .u64)) 26030000 rfl rfl rfl rfl (by show (FF _).length = _; rw [FF_len]; rfl) (by show List.take _ (List.drop 0 _) = _; rw [List.drop_zero]; exact List.take_of_length_le (by simp)) (by simp; done) (by decide) rfl rfl rfl (by first | decide | exact Nat.one_ne_zero) rfl rfl rfl (by first | decide | omega) (by first | decide | omega) (by first | exact oneM (fun _ => rfl) _ | (simp; done)) (by show FF _ ++ FF [_] = FF _; rw [← FF_app]; rfl) rfl rfl ?_
    refine AWo.pure (PureOp.assign rfl) rfl rfl ?_
    refine AWo.nil trivial ?_
    refine inBlockA_normal ?_
    refine thenA_normal ?_
    refine AW.region ?_
    first | refine AWo.pure (PureOp.addI (b := 1) rfl rfl (by first | decide | omega)) rfl rfl ?_ | refine AWo.pure (PureOp.bin rfl rfl rfl) rfl rfl ?_
    refine AWo.pure (PureOp.move rfl) rfl rfl ?_
    refine AWo.nil trivial ?_
    refine thenA_normal ?_
    refine roundsA_succ ?_
    refine AW.seqR ?_
    first | refine AWo.pure (PureOp.ltN (b := 3) rfl rfl) rfl rfl ?_ | refine AWo.pure (PureOp.bin rfl rfl rfl) rfl rfl ?_
    refine AWo.nil trivial ?_
    refine AW.seq ?_
    refine AW.condT rfl ?_
    refine AW.skip ?_
    refine thenA_normal ?_
    refine AW.seq ?_
    refine AW.block ?_
    refine AW.seqR ?_
    refine AWo.pure (PureOp.move rfl) rfl rfl ?_
    refine AWo.pure (PureOp.assign rfl) rfl rfl ?_
    refine AWo.nil trivial ?_
    refine AW.region ?_
    refine AWo.pure (PureOp.move rfl) rfl rfl ?_
    refine AWo.pure (PureOp.move rfl) rfl rfl ?_
    refine AWo.pure (PureOp.move rfl) rfl rfl ?_
    refine AWo.pure (PureOp.move rfl) rfl rfl ?_
    refine AWo.callX (minor_ctr (M := M) (i := 1) (j := 2) hM (by decide) (by decide)) bd100 [] [] rfl (.cons rfl (.cons rfl .nil)) rfl (.pure (by first | rfl | exact pure_aggM flat_vi | exact pure_aggM flat_bool) (.cons rfl rfl (.cons rfl rfl .nil))) .nil rfl .nil frN (by decide) (.pure (by first | rfl | exact pure_aggM flat_vi | exact pure_aggM flat_bool) .nil) rfl rfl rfl rfl ?_
    refine AWo.buildSlice tbok 27029000 [(0, .agg ((fe (mnr M 1 2)).map (vi .u64)).toArray)] (out := [fe (mnr M 1 2)].flatten.map (vi .u64)) rfl rfl (by decide) rfl rfl rfl (by decide) rfl (fillB1 (fe_len _)) rfl rfl rfl ?_
    refine AWo.append tbok (all := ((((mins M).take 15).map fe).flatten).map (vi .u64)) (news := [fe (mnr M 1 2)].flatten.map (vi .u64)) 27030000 rfl rfl rfl rfl (by show (FF _).length = _; rw [FF_len]; rfl) (by show List.take _ (List.drop 0 _) = _; rw [List.drop_zero]; exact List.take_of_length_le (by simp)) (by simp; done) (by decide) rfl rfl rfl (by first | decide | exact Nat.one_ne_zero) rfl rfl rfl (by first | decide | omega) (by first | decide | omega) (by first | exact oneM (fun _ => rfl) _ | (simp; done)) (by show FF _ ++ FF [_] = FF _; rw [← FF_app]; rfl) rfl rfl ?_
    refine AWo.pure (PureOp.assign rfl) rfl rfl ?_
    refine AWo.nil trivial ?_
    refine inBlockA_normal ?_
    refine thenA_normal ?_
    refine AW.region ?_
    first | refine AWo.pure (PureOp.addI (b := 1) rfl rfl (by first | decide | omega)) rfl rfl ?_ | refine AWo.pure (PureOp.bin rfl rfl rfl) rfl rfl ?_
    refine AWo.pure (PureOp.move rfl) rfl rfl ?_
    refine AWo.nil trivial ?_
    refine thenA_normal ?_
    refine roundsA_succ ?_
    refine AW.seqR ?_
    first | refine AWo.pure (PureOp.ltN (b := 3) rfl rfl) rfl rfl ?_ | refine AWo.pure (PureOp.bin rfl rfl rfl) rfl rfl ?_
    refine AWo.nil trivial ?_
    refine AW.seq ?_
    refine AW.condF rfl ?_
    refine AW.exit ?_
    refine thenA_exit ?_
    refine thenA_exit ?_
    refine inBlockA_hit ?_
    refine inBlockA_normal ?_
    refine thenA_normal ?_
    refine AW.region ?_
    first | refine AWo.pure (PureOp.addI (b := 1) rfl rfl (by first | decide | omega)) rfl rfl ?_ | refine AWo.pure (PureOp.bin rfl rfl rfl) rfl rfl ?_
    refine AWo.pure (PureOp.move rfl) rfl rfl ?_
    refine AWo.nil trivial ?_
    refine thenA_normal ?_
    refine roundsA_succ ?_
    refine AW.seqR ?_
    first | refine AWo.pure (PureOp.ltN (b := 3) rfl rfl) rfl rfl ?_ | refine AWo.pure (PureOp.bin rfl rfl rfl) rfl rfl ?_
    refine AWo.nil trivial ?_
    refine AW.seq ?_
    refine AW.condT rfl ?_
    refine AW.skip ?_
    refine thenA_normal ?_
    refine AW.seq ?_
    refine AW.block ?_
    refine AW.seqR ?_
    refine AWo.pure (PureOp.move rfl) rfl rfl ?_
    refine AWo.pure (PureOp.assign rfl) rfl rfl ?_
    refine AWo.nil trivial ?_
    refine AW.seqR ?_
    refine AWo.pure (PureOp.move rfl) rfl rfl ?_
    refine AWo.nil trivial ?_
    refine AW.block ?_
    refine AW.rounds 4 ?_
    refine roundsA_succ ?_
    refine AW.seqR ?_
    first | refine AWo.pure (PureOp.ltN (b := 3) rfl rfl) rfl rfl ?_ | refine AWo.pure (PureOp.bin rfl rfl rfl) rfl rfl ?_
    refine AWo.nil trivial ?_
    refine AW.seq ?_
    refine AW.condT rfl ?_
    refine AW.skip ?_
    refine thenA_normal ?_
    refine AW.seq ?_
    refine AW.block ?_
    refine AW.seqR ?_
    refine AWo.pure (PureOp.move rfl) rfl rfl ?_
    refine AWo.pure (PureOp.assign rfl) rfl rfl ?_
    refine AWo.nil trivial ?_
    refine AW.region ?_
    refine AWo.pure (PureOp.move rfl) rfl rfl ?_
    refine AWo.pure (PureOp.move rfl) rfl rfl ?_
    refine AWo.pure (PureOp.move rfl) rfl rfl ?_
    refine AWo.pure (PureOp.move rfl) rfl rfl ?_
    refine AWo.callX (minor_ctr (M := M) (i := 2) (j := 0) hM (by decide) (by decide)) bd100 [] [] rfl (.cons rfl (.cons rfl .nil)) rfl (.pure (by first | rfl | exact pure_aggM flat_vi | exact pure_aggM flat_bool) (.cons rfl rfl (.cons rfl rfl .nil))) .nil rfl .nil frN (by decide) (.pure (by first | rfl | exact pure_aggM flat_vi | exact pure_aggM flat_bool) .nil) rfl rfl rfl rfl ?_
    refine AWo.buildSlice tbok 30029000 [(0, .agg ((fe (mnr M 2 0)).map (vi .u64)).toArray)] (out := [fe (mnr M 2 0)].flatten.map (vi .u64)) rfl rfl (by decide) rfl rfl rfl (by decide) rfl (fillB1 (fe_len _)) rfl rfl rfl ?_
    refine AWo.append tbok (all := ((((mins M).take 16).map fe).flatten).map (vi .u64)) (news := [fe (mnr M 2 0)].flatten.map (vi .u64)) 30030000 rfl rfl rfl rfl (by show (FF _).length = _; rw [FF_len]; rfl) (by show List.take _ (List.drop 0 _) = _; rw [List.drop_zero]; exact List.take_of_length_le (by simp)) (by simp; done) (by decide) rfl rfl rfl (by first | decide | exact Nat.one_ne_zero) rfl rfl rfl (by first | decide | omega) (by first | decide | omega) (by first | exact oneM (fun _ => rfl) _ | (simp; done)) (by show FF _ ++ FF [_] = FF _; rw [← FF_app]; rfl) rfl rfl ?_
    refine AWo.pure (PureOp.assign rfl) rfl rfl ?_
    refine AWo.nil trivial ?_
    refine inBlockA_normal ?_
    refine thenA_normal ?_
    refine AW.region ?_
    first | refine AWo.pure (PureOp.addI (b := 1) rfl rfl (by first | decide | omega)) rfl rfl ?_ | refine AWo.pure (PureOp.bin rfl rfl rfl) rfl rfl ?_
    refine AWo.pure (PureOp.move rfl) rfl rfl ?_
    refine AWo.nil trivial ?_
    refine thenA_normal ?_
    refine roundsA_succ ?_
    refine AW.seqR ?_
    first | refine AWo.pure (PureOp.ltN (b := 3) rfl rfl) rfl rfl ?_ | refine AWo.pure (PureOp.bin rfl rfl rfl) rfl rfl ?_
    refine AWo.nil trivial ?_
    refine AW.seq ?_
    refine AW.condT rfl ?_
    refine AW.skip ?_
    refine thenA_normal ?_
    refine AW.seq ?_
    refine AW.block ?_
    refine AW.seqR ?_
    refine AWo.pure (PureOp.move rfl) rfl rfl ?_
    refine AWo.pure (PureOp.assign rfl) rfl rfl ?_
    refine AWo.nil trivial ?_
    refine AW.region ?_
    refine AWo.pure (PureOp.move rfl) rfl rfl ?_
    refine AWo.pure (PureOp.move rfl) rfl rfl ?_
    refine AWo.pure (PureOp.move rfl) rfl rfl ?_
    refine AWo.pure (PureOp.move rfl) rfl rfl ?_
    refine AWo.callX (minor_ctr (M := M) (i := 2) (j := 1) hM (by decide) (by decide)) bd100 [] [] rfl (.cons rfl (.cons rfl .nil)) rfl (.pure (by first | rfl | exact pure_aggM flat_vi | exact pure_aggM flat_bool) (.cons rfl rfl (.cons rfl rfl .nil))) .nil rfl .nil frN (by decide) (.pure (by first | rfl | exact pure_aggM flat_vi | exact pure_aggM flat_bool) .nil) rfl rfl rfl rfl ?_
    refine AWo.buildSlice tbok 31029000 [(0, .agg ((fe (mnr M 2 1)).map (vi .u64)).toArray)] (out := [fe (mnr M 2 1)].flatten.map (vi .u64)) rfl rfl (by decide) rfl rfl rfl (by decide) rfl (fillB1 (fe_len _)) rfl rfl rfl ?_
    refine AWo.append tbok (all := ((((mins M).take 17).map fe).flatten).map (vi .u64)) (news := [fe (mnr M 2 1)].flatten.map (vi .u64)) 31030000 rfl rfl rfl rfl (by show (FF _).length = _; rw [FF_len]; rfl) (by show List.take _ (List.drop 0 _) = _; rw [List.drop_zero]; exact List.take_of_length_le (by simp)) (by simp; done) (by decide) rfl rfl rfl (by first | decide | exact Nat.one_ne_zero) rfl rfl rfl (by first | decide | omega) (by first | decide | omega) (by first | exact oneM (fun _ => rfl) _ | (simp; done)) (by show FF _ ++ FF [_] = FF _; rw [← FF_app]; rfl) rfl rfl ?_
    refine AWo.pure (PureOp.assign rfl) rfl rfl ?_
    refine AWo.nil trivial ?_
    refine inBlockA_normal ?_
    refine thenA_normal ?_
    refine AW.region ?_
    first | refine AWo.pure (PureOp.addI (b := 1) rfl rfl (by first | decide | omega)) rfl rfl ?_ | refine AWo.pure (PureOp.bin rfl rfl rfl) rfl rfl ?_
    refine AWo.pure (PureOp.move rfl) rfl rfl ?_
    refine AWo.nil trivial ?_
    refine thenA_normal ?_
    refine roundsA_succ ?_
    refine AW.seqR ?_
    first | refine AWo.pure (PureOp.ltN (b := 3) rfl rfl) rfl rfl ?_ | refine AWo.pure (PureOp.bin rfl rfl rfl) rfl rfl ?_
    refine AWo.nil trivial ?_
    refine AW.seq ?_
    refine AW.condT rfl ?_
    refine AW.skip ?_
    refine thenA_normal ?_
    refine AW.seq ?_
    refine AW.block ?_
    refine AW.seqR ?_
    refine AWo.pure (PureOp.move rfl) rfl rfl ?_
    refine AWo.pure (PureOp.assign rfl) rfl rfl ?_
    refine AWo.nil trivial ?_
    refine AW.region ?_
    refine AWo.pure (PureOp.move rfl) rfl rfl ?_
    refine AWo.pure (PureOp.move rfl) rfl rfl ?_
    refine AWo.pure (PureOp.move rfl) rfl rfl ?_
    refine AWo.pure (PureOp.move rfl) rfl rfl ?_
    refine AWo.callX (minor_ctr (M := M) (i := 2) (j := 2) hM (by decide) (by decide)) bd100 [] [] rfl (.cons rfl (.cons rfl .nil)) rfl (.pure (by first | rfl | exact pure_aggM flat_vi | exact pure_aggM flat_bool) (.cons rfl rfl (.cons rfl rfl .nil))) .nil rfl .nil frN (by decide) (.pure (by first | rfl | exact pure_aggM flat_vi | exact pure_aggM flat_bool) .nil) rfl rfl rfl rfl ?_
    refine AWo.buildSlice tbok 32029000 [(0, .agg ((fe (mnr M 2 2)).map (vi .u64)).toArray)] (out := [fe (mnr M 2 2)].flatten.map (vi .u64)) rfl rfl (by decide) rfl rfl rfl (by decide) rfl (fillB1 (fe_len _)) rfl rfl rfl ?_
    refine AWo.append tbok (all := ((((mins M).take 18).map fe).flatten).map (vi .u64)) (news := [fe (mnr M 2 2)].flatten.map (vi .u64)) 32030000 rfl rfl rfl rfl (by show (FF _).length = _; rw [FF_len]; rfl) (by show List.take _ (List.drop 0 _) = _; rw [List.drop_zero]; exact List.take_of_length_le (by simp)) (by simp; done) (by decide) rfl rfl rfl (by first | decide | exact Nat.one_ne_zero) rfl rfl rfl (by first | decide | omega) (by first | decide | omega) (by first | exact oneM (fun _ => rfl) _ | (simp; done)) (by show FF _ ++ FF [_] = FF _; rw [← FF_app]; rfl) rfl rfl ?_
    refine AWo.pure (PureOp.assign rfl) rfl rfl ?_
    refine AWo.nil trivial ?_
    refine inBlockA_normal ?_
    refine thenA_normal ?_
    refine AW.region ?_
    first | refine AWo.pure (PureOp.addI (b := 1) rfl rfl (by first | decide | omega)) rfl rfl ?_ | refine AWo.pure (PureOp.bin rfl rfl rfl) rfl rfl ?_
    refine AWo.pure (PureOp.move rfl) rfl rfl ?_
    refine AWo.nil trivial ?_
    refine thenA_normal ?_
    refine roundsA_succ ?_
    refine AW.seqR ?_
    first | refine AWo.pure (PureOp.ltN (b := 3) rfl rfl) rfl rfl ?_ | refine AWo.pure (PureOp.bin rfl rfl rfl) rfl rfl ?_
    refine AWo.nil trivial ?_
    refine AW.seq ?_
    refine AW.condF rfl ?_
    refine AW.exit ?_
    refine thenA_exit ?_
    refine thenA_exit ?_
    refine inBlockA_hit ?_
    refine inBlockA_normal ?_
    refine thenA_normal ?_
    refine AW.region ?_
    first | refine AWo.pure (PureOp.addI (b := 1) rfl rfl (by first | decide | omega)) rfl rfl ?_ | refine AWo.pure (PureOp.bin rfl rfl rfl) rfl rfl ?_
    refine AWo.pure (PureOp.move rfl) rfl rfl ?_
    refine AWo.nil trivial ?_
    refine thenA_normal ?_
    refine roundsA_succ ?_
    refine AW.seqR ?_
    first | refine AWo.pure (PureOp.ltN (b := 3) rfl rfl) rfl rfl ?_ | refine AWo.pure (PureOp.bin rfl rfl rfl) rfl rfl ?_
    refine AWo.nil trivial ?_
    refine AW.seq ?_
    refine AW.condF rfl ?_
    refine AW.exit ?_
    refine thenA_exit ?_
    refine thenA_exit ?_
    refine inBlockA_hit ?_
    refine inBlockA_normal ?_
    refine thenA_normal ?_
    refine AW.region ?_
    first | refine AWo.pure (PureOp.addI (b := 1) rfl rfl (by first | decide | omega)) rfl rfl ?_ | refine AWo.pure (PureOp.bin rfl rfl rfl) rfl rfl ?_
    refine AWo.pure (PureOp.move rfl) rfl rfl ?_
    refine AWo.nil trivial ?_
    refine thenA_normal ?_
    refine roundsA_succ ?_
    refine AW.seqR ?_
    first | refine AWo.pure (PureOp.ltN rfl rfl) rfl rfl ?_ | refine AWo.pure (PureOp.bin rfl rfl rfl) rfl rfl ?_
    refine AWo.nil trivial ?_
    refine AW.seq ?_
    refine AW.condF rfl ?_
    refine AW.exit ?_
    refine thenA_exit ?_
    refine thenA_exit ?_
    refine inBlockA_hit ?_
    refine thenA_normal ?_
    refine AW.seqR ?_
    refine AWo.pure (PureOp.move rfl) rfl rfl ?_
    refine yLM (xs := M) 9 ?_
    refine AWo.callX (det_ctr (by first | assumption | omega)) bd43 [] [] rfl (.cons rfl .nil) rfl (.pure (by first | rfl | exact pure_aggM flat_vi | exact pure_aggM flat_bool) .nil) .nil rfl .nil frN (by decide) (.pure (by first | rfl | exact pure_aggM flat_vi | exact pure_aggM flat_bool) .nil) rfl rfl rfl rfl ?_
    refine AWo.buildSlice tbok 37000 [(0, .agg ((fe (dtm M)).map (vi .u64)).toArray)] (out := [fe (dtm M)].flatten.map (vi .u64)) rfl rfl (by decide) rfl rfl rfl (by decide) rfl (fillB1 (fe_len _)) rfl rfl rfl ?_
    refine AWo.append tbok (all := (((mins M).map fe).flatten).map (vi .u64)) (news := [fe (dtm M)].flatten.map (vi .u64)) 35038000 rfl rfl rfl rfl (by show (FF _).length = _; rw [FF_len]; rfl) (by show List.take _ (List.drop 0 _) = _; rw [List.drop_zero]; exact List.take_of_length_le (by simp)) (by simp; done) (by decide) rfl rfl rfl (by first | decide | exact Nat.one_ne_zero) rfl rfl rfl (by first | decide | omega) (by first | decide | omega) (by first | exact oneM (fun _ => rfl) _ | (simp; done)) (by show FF _ ++ FF [_] = FF _; rw [← FF_app]; rfl) rfl rfl ?_
    refine AWo.pure (PureOp.assign rfl) rfl rfl ?_
    refine AWo.nil trivial ?_
    refine AW.ret ?_
    refine RetQ.gc [_] [35038000] [.tmp 2] (.inl rfl) rfl (.tmp rfl .nil) rfl (.cons rfl rfl .nil) (OutL.flat rfl (flatM flat_vi) (by intro h; first | rfl | exact h.elim id fun h => absurd h.1 (by simp)) trivial) (by decide) rfl
theorem idxf_ctr {xs : List Fp} {n : Nat} (hn : xs.length = n) (hl : n < 1000000000) : GC Try.prog 134 [.slice (some ⟨0, 0, none⟩) n 0, .func (.func 46) #[] #[]] [⟨((xs.map fe).flatten).map (vi .u64), false, 4⟩] [.int .i64 (firstz xs)] [⟨((xs.map fe).flatten).map (vi .u64), false, 4⟩] := by
  refine GC.intro Try.func134 rfl (by show 2 ≤ 19; decide) (by first | exact Nat.le_refl _ | decide | simp) ?_
  refine AW.seqR ?_
  refine AWo.pure (PureOp.assign rfl) rfl rfl ?_
  refine AWo.nil trivial ?_
  refine AW.seq ?_
  refine AW.seqR ?_
  refine AWo.pure (PureOp.move rfl) rfl rfl ?_
  first | refine AWo.pure (PureOp.lenS tbok rfl rfl) rfl rfl ?_ | refine AWo.pure (PureOp.lenD tbok rfl rfl) rfl rfl ?_
  refine AWo.pure (PureOp.move rfl) rfl rfl ?_
  refine AWo.nil trivial ?_
  refine AW.block ?_
  refine AW.loopw (fun mm σ => ∃ i, (i ≤ n ∧ ∀ j, j < i → xs.getD j 0 ≠ 0) ∧ mm = n - i ∧ σ = ⟨(upd (upd (upd (upd emp 0 (.slice (some ⟨0, 0, none⟩) n 0)) 1 (.func (.func 46) #[] #[])) 7 (vi .i64 n)) 8 (vi .i64 i)), (upd emp 0 ⟨((xs.map fe).flatten).map (vi .u64), false, 4⟩)⟩) (fm := []) ?_ ⟨0, ⟨Nat.zero_le _, fun j hj => absurd hj (Nat.not_lt_zero j)⟩, rfl, rfl⟩ ?_
  ·
    refine Wk.of [0] ?_ ?_ ?_ (by decide) rfl
    ·
      refine WkE.upd rfl (by first | exact VR.flat _ rfl | exact VR.eqv (vp_succ _) rfl | exact VR.eqv (vp_succ _).symm rfl | exact VR.eqv (by first | rfl | (congr 1; omega) | (simp; done) | (simp; omega)) rfl) ?_
      refine WkE.upd rfl (by first | exact VR.flat _ rfl | exact VR.eqv (vp_succ _) rfl | exact VR.eqv (vp_succ _).symm rfl | exact VR.eqv (by first | rfl | (congr 1; omega) | (simp; done) | (simp; omega)) rfl) ?_
      refine WkE.upd rfl (by first | exact VR.flat _ rfl | exact VR.eqv (vp_succ _) rfl | exact VR.eqv (vp_succ _).symm rfl | exact VR.eqv (by first | rfl | (congr 1; omega) | (simp; done) | (simp; omega)) rfl) ?_
      refine WkE.upd rfl (.slice (0) 0 _ 0 ⟨_, rfl⟩ (by simp) (by simp)) ?_
      exact WkE.emp
    ·
      refine WkM.flat rfl (flatM flat_vi) (fun h => h) ?_
      exact WkM.emp
    ·
      repeat (refine dom_upd_mem (by decide) ?_)
      exact dom_emp
  ·
    rintro mm σ ⟨i, ⟨hi0, hz⟩, rfl, rfl⟩
    refine AW.seqR ?_
    first | refine AWo.pure (PureOp.ltN rfl rfl) rfl rfl ?_ | refine AWo.pure (PureOp.bin rfl rfl rfl) rfl rfl ?_
    refine AWo.nil trivial ?_
    refine AW.seq ?_
    refine AW.cond rfl (fun hb0 => ?_) (fun hb0 => ?_)
    ·
      have hi : i < n := by simpa using hb0
      refine AW.skip ?_
      refine thenA_normal ?_
      refine AW.seq ?_
      refine AW.block ?_
      refine AW.seqR ?_
      refine AWo.pure (PureOp.move rfl) rfl rfl ?_
      refine AWo.pure (PureOp.assign rfl) rfl rfl ?_
      refine AWo.nil trivial ?_
      refine AW.seqR ?_
      refine AWo.pure (PureOp.move rfl) rfl rfl ?_
      refine AWo.pure (PureOp.move rfl) rfl rfl ?_
      refine AWo.pure (PureOp.move rfl) rfl rfl ?_
      first | refine AWo.pure (PureOp.idx1 tbok rfl rfl rfl rfl (by first | decide | omega)) rfl rfl ?_ | refine AWo.pure (PureOp.idx tbok rfl rfl rfl rfl (by first | decide | omega)) rfl rfl ?_
      refine yLJ (xs := xs) (i) ?_
      refine AWo.callX (iszeroF_ctr) bd46 [] [] rfl (.cons rfl .nil) rfl (.pure (by first | rfl | exact pure_aggM flat_vi | exact pure_aggM flat_bool) .nil) .nil rfl .nil frN (by decide) (.cons rfl rfl .nil) rfl rfl rfl rfl ?_
      refine AWo.nil trivial ?_
      refine AW.cond rfl (fun hb1 => ?_) (fun hb1 => ?_)
      ·
        have he : xs.getD i 0 = 0 := by simpa using hb1
        rw [firstz_some (by omega) he hz]
        refine AW.seqR ?_
        refine AWo.pure (PureOp.move rfl) rfl rfl ?_
        refine AWo.pure (PureOp.assign rfl) rfl rfl ?_
        refine AWo.nil trivial ?_
        refine AW.ret ?_
        refine inBlockA_ret ?_
        refine thenA_ret ?_
        refine thenA_ret ?_
        refine inBlockA_ret ?_
        refine thenA_ret ?_
        refine RetQ.gc [_] [] [.tmp 4] (.inl rfl) rfl (.tmp rfl .nil) rfl (.cons rfl rfl .nil) (OutL.flat rfl (by first | exact flatM flat_vi | exact flatM flat_bool | (simp [flatV, flat_vi]; done)) (by intro h; first | rfl | exact h.elim id fun h => absurd h.1 (by simp)) trivial) (by decide) rfl
      ·
        have hne : xs.getD i 0 ≠ 0 := by simpa using hb1
        refine AW.skip ?_
        refine inBlockA_normal ?_
        refine thenA_normal ?_
        refine AW.region ?_
        first | refine AWo.pure (PureOp.addI (b := 1) rfl rfl (by first | decide | omega)) rfl rfl ?_ | refine AWo.pure (PureOp.bin rfl rfl rfl) rfl rfl ?_
        refine AWo.pure (PureOp.move rfl) rfl rfl ?_
        refine AWo.nil trivial ?_
        refine thenA_normal ?_
        refine ⟨n - (i + 1), [], _, by omega, ?_, i + 1, ⟨by omega, fun j hj => by rcases Nat.lt_succ_iff_lt_or_eq.1 hj with h | h; exact hz j h; exact h ▸ hne⟩, rfl, rfl⟩
        refine Wk.of [0] ?_ ?_ ?_ (by decide) rfl
        ·
          refine WkE.upd rfl (by first | exact VR.flat _ rfl | exact VR.eqv (vp_succ _) rfl | exact VR.eqv (vp_succ _).symm rfl | exact VR.eqv (by first | rfl | (congr 1; omega) | (simp; done) | (simp; omega)) rfl) ?_
          refine WkE.upd rfl (by first | exact VR.flat _ rfl | exact VR.eqv (vp_succ _) rfl | exact VR.eqv (vp_succ _).symm rfl | exact VR.eqv (by first | rfl | (congr 1; omega) | (simp; done) | (simp; omega)) rfl) ?_
          refine WkE.upd rfl (by first | exact VR.flat _ rfl | exact VR.eqv (vp_succ _) rfl | exact VR.eqv (vp_succ _).symm rfl | exact VR.eqv (by first | rfl | (congr 1; omega) | (simp; done) | (simp; omega)) rfl) ?_
          refine WkE.upd rfl (.slice (0) 0 _ 0 ⟨_, rfl⟩ (by simp) (by simp)) ?_
          exact WkE.emp
        ·
          refine WkM.flat rfl (flatM flat_vi) (fun h => h) ?_
          exact WkM.emp
        ·
          repeat (refine dom_upd_mem (by decide) ?_)
          exact dom_emp
    ·
      have hni : n ≤ i := by simpa using hb0
      rw [firstz_none (xs := xs) fun j hj => hz j (by omega)]
      refine AW.exit ?_
      refine thenA_exit ?_
      refine thenA_exit ?_
      refine inBlockA_hit ?_
      refine thenA_normal ?_
      refine AW.seqR ?_
      refine AWo.pure (PureOp.assign rfl) rfl rfl ?_
      refine AWo.nil trivial ?_
      refine AW.ret ?_
      refine RetQ.gc [_] [] [.tmp 4] (.inl rfl) rfl (.tmp rfl .nil) rfl (.cons rfl rfl .nil) (OutL.flat rfl (by first | exact flatM flat_vi | exact flatM flat_bool | (simp [flatV, flat_vi]; done)) (by intro h; first | rfl | exact h.elim id fun h => absurd h.1 (by simp)) trivial) (by decide) rfl
theorem contf_ctr {xs : List Fp} {n : Nat} (hn : xs.length = n) (hl : n < 1000000000) : GC Try.prog 102 [.slice (some ⟨0, 0, none⟩) n 0, .func (.func 46) #[] #[]] [⟨((xs.map fe).flatten).map (vi .u64), false, 4⟩] [.bool (xs.any (fun x => decide (x = 0)))] [⟨((xs.map fe).flatten).map (vi .u64), false, 4⟩] := by
  refine GC.intro Try.func102 rfl (by show 2 ≤ 9; decide) (by first | exact Nat.le_refl _ | decide | simp) ?_
  refine AW.seqR ?_
  refine AWo.pure (PureOp.assign rfl) rfl rfl ?_
  refine AWo.nil trivial ?_
  refine AW.seqR ?_
  refine AWo.pure (PureOp.move rfl) rfl rfl ?_
  refine AWo.pure (PureOp.move rfl) rfl rfl ?_
  refine AWo.callX (idxf_ctr (xs := xs) (n := n) hn hl) bd134 [(0, 0)] [] rfl (.cons rfl (.cons rfl .nil)) rfl (.cons rfl rfl (.cons rfl rfl .nil)) (.flat rfl (by first | exact flatM flat_vi | exact flatM flat_bool | (simp [flatV, flat_vi]; done)) (by intro h; first | exact h | rfl) .nil) rfl (.keep rfl .nil) frN (by decide) (.cons rfl rfl .nil) rfl rfl rfl rfl ?_
  refine yP ((PureOp.bin rfl rfl rfl).mono (v' := .bool (xs.any (fun x => decide (x = 0)))) (firstz_ge xs)) ?_
  refine AWo.pure (PureOp.assign rfl) rfl rfl ?_
  refine AWo.nil trivial ?_
  refine AW.ret ?_
  refine RetQ.gc [_] [] [.tmp 4] (.inl rfl) rfl (.tmp rfl .nil) rfl (.cons rfl rfl .nil) (OutL.flat rfl (by first | exact flatM flat_vi | exact flatM flat_bool | (simp [flatV, flat_vi]; done)) (by intro h; first | rfl | exact h.elim id fun h => absurd h.1 (by simp)) trivial) (by decide) rfl
theorem goodM_ctr {M : List Fp} (hM : M.length = 9) : GC Try.prog 47 [.agg (((M.map fe).flatten).map (vi .u64)).toArray] [] [.bool (!((mins M).any (fun x => decide (x = 0))))] [] := by
  refine GC.intro Try.func47 rfl (by show 1 ≤ 7; decide) (by first | exact Nat.le_refl _ | decide | simp) ?_
  refine AW.seqR ?_
  refine AWo.box 2000 1 _ rfl rfl rfl rfl rfl ?_
  refine AWo.pure (PureOp.assign rfl) rfl rfl ?_
  refine AWo.nil trivial ?_
  refine AW.seqR ?_
  refine yLM (xs := M) 9 ?_
  refine AWo.callX (minors_ctr (by first | assumption | omega)) bd44 [] [5000] rfl (.cons rfl .nil) rfl (.pure (by first | rfl | exact pure_aggM flat_vi | exact pure_aggM flat_bool) .nil) .nil rfl (.new (flat_map_ren (flatM flat_vi)) (OkL.flat (flatM flat_vi)) .nil) (frC rfl frN) (by decide) (.cons rfl rfl .nil) rfl rfl rfl rfl ?_
  refine AWo.callX (contf_ctr (xs := mins M) (n := 19) rfl (by decide)) bd102 [(5000, 0)] [] rfl (.cons rfl (.cons rfl .nil)) rfl (.cons rfl rfl (.cons rfl rfl .nil)) (.flat rfl (by first | exact flatM flat_vi | exact flatM flat_bool | (simp [flatV, flat_vi]; done)) (by intro h; first | exact h | rfl) .nil) rfl (.keep rfl .nil) frN (by decide) (.cons rfl rfl .nil) rfl rfl rfl rfl ?_
  refine AWo.pure (PureOp.not rfl) rfl rfl ?_
  refine AWo.pure (PureOp.assign rfl) rfl rfl ?_
  refine AWo.nil trivial ?_
  refine AW.ret ?_
  refine RetQ.gc [_] [] [.tmp 2] (.inl rfl) rfl (.tmp rfl .nil) rfl (.cons rfl rfl .nil) trivial (by decide) rfl
theorem few_ctr {Ls : List (List Nat)} (hLs : Ls.length = 9) : GC Try.prog 41 [.agg (Ls.map db).toArray] [] [.bool (decide (∀ b ∈ Ls, b.length ≤ 40))] [] := by
  refine GC.intro Try.func41 rfl (by show 1 ≤ 13; decide) (by first | exact Nat.le_refl _ | decide | simp) ?_
  refine AW.seqR ?_
  refine AWo.box 2000 1 _ rfl rfl rfl rfl rfl ?_
  refine AWo.pure (PureOp.assign rfl) rfl rfl ?_
  refine AWo.nil trivial ?_
  refine AW.seq ?_
  refine AW.seqR ?_
  refine AWo.loadAll tbok rfl rfl rfl rfl (by show (Ls.map db).length = 9; rw [List.length_map]; exact hLs) rfl rfl ?_
  refine AWo.pure (PureOp.move rfl) rfl rfl ?_
  refine AWo.nil trivial ?_
  refine AW.block ?_
  refine AW.loopw (fun mm σ => ∃ i, (i ≤ 9 ∧ ∀ b ∈ Ls.take i, b.length ≤ 40) ∧ mm = 9 - i ∧ σ = ⟨(upd (upd (upd emp 2 (.bool false)) 5 (.agg (Ls.map db).toArray)) 6 (vi .i64 i)), emp⟩) (fm := []) ?_ ⟨0, ⟨Nat.zero_le _, fun b hb => by simp at hb⟩, rfl, rfl⟩ ?_
  ·
    refine Wk.of [] ?_ ?_ ?_ (by decide) rfl
    ·
      refine WkE.upd rfl (by first | exact VR.flat _ rfl | exact VR.eqv (vp_succ _) rfl | exact VR.eqv (vp_succ _).symm rfl | exact VR.eqv (by first | rfl | (congr 1; omega) | (simp; done) | (simp; omega)) rfl) ?_
      refine WkE.upd rfl (clo_refl (by simp) (cloAggM fun _ => rfl)) ?_
      refine WkE.upd rfl (by first | exact VR.flat _ rfl | exact VR.eqv (vp_succ _) rfl | exact VR.eqv (vp_succ _).symm rfl | exact VR.eqv (by first | rfl | (congr 1; omega) | (simp; done) | (simp; omega)) rfl) ?_
      exact WkE.emp
    ·
      exact WkM.emp
    ·
      repeat (refine dom_upd_mem (by decide) ?_)
      exact dom_emp
  ·
    rintro mm σ ⟨i, ⟨hi0, hs⟩, rfl, rfl⟩
    refine AW.seqR ?_
    first | refine AWo.pure (PureOp.ltN (b := 9) rfl rfl) rfl rfl ?_ | refine AWo.pure (PureOp.bin rfl rfl rfl) rfl rfl ?_
    refine AWo.nil trivial ?_
    refine AW.seq ?_
    refine AW.cond rfl (fun hb0 => ?_) (fun hb0 => ?_)
    ·
      have hi : i < 9 := by simpa using hb0
      refine AW.skip ?_
      refine thenA_normal ?_
      refine AW.seq ?_
      refine AW.block ?_
      refine AW.seqR ?_
      refine yP (PureOp.idxVM (f := db) (j := i) tbok [] rfl rfl rfl rfl rfl (by omega) hLs) ?_
      refine AWo.pure (PureOp.assign rfl) rfl rfl ?_
      refine AWo.nil trivial ?_
      refine AW.seqR ?_
      refine AWo.pure (PureOp.move rfl) rfl rfl ?_
      first | refine AWo.pure (PureOp.lenS tbok rfl rfl) rfl rfl ?_ | refine AWo.pure (PureOp.lenD tbok rfl rfl) rfl rfl ?_
      first | refine AWo.pure (PureOp.gtN (b := 40) rfl rfl) rfl rfl ?_ | refine AWo.pure (PureOp.bin rfl rfl rfl) rfl rfl ?_
      refine AWo.nil trivial ?_
      refine AW.cond rfl (fun hb1 => ?_) (fun hb1 => ?_)
      ·
        have hgt : 40 < (Ls.getD i []).length := by simpa using hb1
        rw [decide_eq_false fun h => few_bad (show i < Ls.length by omega) hgt h]
        refine AW.seqR ?_
        refine AWo.pure (PureOp.assign rfl) rfl rfl ?_
        refine AWo.nil trivial ?_
        refine AW.ret ?_
        refine inBlockA_ret ?_
        refine thenA_ret ?_
        refine thenA_ret ?_
        refine inBlockA_ret ?_
        refine thenA_ret ?_
        refine RetQ.gc [_] [] [.tmp 2] (.inl rfl) rfl (.tmp rfl .nil) rfl (.cons rfl rfl .nil) trivial (by decide) rfl
      ·
        have hle : (Ls.getD i []).length ≤ 40 := by simpa using hb1
        refine AW.skip ?_
        refine inBlockA_normal ?_
        refine thenA_normal ?_
        refine AW.region ?_
        first | refine AWo.pure (PureOp.addI (b := 1) rfl rfl (by first | decide | omega)) rfl rfl ?_ | refine AWo.pure (PureOp.bin rfl rfl rfl) rfl rfl ?_
        refine AWo.pure (PureOp.move rfl) rfl rfl ?_
        refine AWo.nil trivial ?_
        refine thenA_normal ?_
        refine ⟨9 - (i + 1), [], _, by omega, ?_, i + 1, ⟨by omega, few_step (by omega) hs hle⟩, rfl, rfl⟩
        refine Wk.of [] ?_ ?_ ?_ (by decide) rfl
        ·
          refine WkE.upd rfl (by first | exact VR.flat _ rfl | exact VR.eqv (vp_succ _) rfl | exact VR.eqv (vp_succ _).symm rfl | exact VR.eqv (by first | rfl | (congr 1; omega) | (simp; done) | (simp; omega)) rfl) ?_
          refine WkE.upd rfl (clo_refl (by simp) (cloAggM fun _ => rfl)) ?_
          refine WkE.upd rfl (by first | exact VR.flat _ rfl | exact VR.eqv (vp_succ _) rfl | exact VR.eqv (vp_succ _).symm rfl | exact VR.eqv (by first | rfl | (congr 1; omega) | (simp; done) | (simp; omega)) rfl) ?_
          exact WkE.emp
        ·
          exact WkM.emp
        ·
          repeat (refine dom_upd_mem (by decide) ?_)
          exact dom_emp
    ·
      obtain rfl : i = 9 := by simp at hb0; omega
      rw [List.take_of_length_le (by omega)] at hs
      rw [decide_eq_true hs]
      refine AW.exit ?_
      refine thenA_exit ?_
      refine thenA_exit ?_
      refine inBlockA_hit ?_
      refine thenA_normal ?_
      refine AW.seqR ?_
      refine AWo.pure (PureOp.assign rfl) rfl rfl ?_
      refine AWo.nil trivial ?_
      refine AW.ret ?_
      refine RetQ.gc [_] [] [.tmp 2] (.inl rfl) rfl (.tmp rfl .nil) rfl (.cons rfl rfl .nil) trivial (by decide) rfl
theorem of9_ctr {Ls : List (List Nat)} (hLs : Ls.length = 9) (hB : ∀ b ∈ Ls, bd 256 b) (hS : ∀ b ∈ Ls, b.length ≤ 40) : GC Try.prog 42 [.agg (Ls.map db).toArray] [] [.agg ((((tab (nbF Ls)).map fe).flatten).map (vi .u64)).toArray, matD (nbF Ls)] [] := by
  refine GC.intro Try.func42 rfl (by show 1 ≤ 47; decide) (by first | exact Nat.le_refl _ | decide | simp) ?_
  refine AW.seqR ?_
  refine AWo.box 2000 1 _ rfl rfl rfl rfl rfl ?_
  refine yN 3000 1 ((((List.replicate 9 (0 : Fp)).map fe).flatten).map (vi .u64)) ?_ (hc := by exact (zeroFF 9).symm)
  refine AWo.pure (PureOp.assign rfl) rfl rfl ?_
  refine AWo.nil trivial ?_
  refine AW.seqR ?_
  refine yN 5000 1 ((((pb (nbF Ls) (0 * 3)).map fe).flatten).map (vi .u64)) ?_ (hc := by exact pb_zero)
  refine AWo.nil trivial ?_
  refine AW.seqR ?_
  refine AWo.buildSlice tbok 10000 [] (out := []) rfl rfl (by decide) rfl rfl rfl (by decide) rfl rfl rfl rfl rfl ?_
  refine AWo.pure (PureOp.assign rfl) rfl rfl ?_
  refine AWo.nil trivial ?_
  refine AW.seq ?_
  refine AW.seqR ?_
  refine AWo.pure (PureOp.move rfl) rfl rfl ?_
  refine AWo.nil trivial ?_
  refine AW.block ?_
  refine AW.loopw (fun mm σ => ∃ i, (i ≤ 3) ∧ mm = 3 - i ∧ σ = ⟨(upd (upd (upd (upd (upd emp 2 (.pointer (some ⟨3000, 0, none⟩))) 1 (.pointer (some ⟨2000, 0, none⟩))) 4 (.pointer (some ⟨5000, 0, none⟩))) 5 (.slice (some ⟨77000, 0, none⟩) i 0)) 10 (vi .i64 i)), (upd (upd (upd (upd emp 2000 ⟨Ls.map db, true, 1⟩) 3000 ⟨(((List.replicate 9 (0 : Fp)).map fe).flatten).map (vi .u64), true, 1⟩) 5000 ⟨(((pb (nbF Ls) (i * 3)).map fe).flatten).map (vi .u64), true, 1⟩) 77000 ⟨(List.range i).map (fun a => rowD (nbF Ls a)), true, 1⟩)⟩) (fm := [(77000, 10000)]) ?_ ⟨0, by omega, rfl, rfl⟩ ?_
  ·
    refine Wk.of [2000, 3000, 5000, 77000] ?_ ?_ ?_ (by decide) rfl
    ·
      refine WkE.upd rfl (by first | exact VR.flat _ rfl | exact VR.eqv (vp_succ _) rfl | exact VR.eqv (vp_succ _).symm rfl | exact VR.eqv (by first | rfl | (congr 1; omega) | (simp; done) | (simp; omega)) rfl) ?_
      refine WkE.upd rfl (.slice (77000) 0 _ 0 ⟨_, rfl⟩ (by simp) (by simp)) ?_
      refine WkE.upd rfl (.ptr (5000) 0 ⟨_, rfl⟩) ?_
      refine WkE.upd rfl (.ptr (2000) 0 ⟨_, rfl⟩) ?_
      refine WkE.upd rfl (.ptr (3000) 0 ⟨_, rfl⟩) ?_
      exact WkE.emp
    ·
      refine WkM.cloM rfl rfl (fun _ => rfl) (fun h => h) ?_
      refine WkM.flat rfl (flatM flat_vi) (fun h => h) ?_
      refine WkM.flat rfl (flatM flat_vi) (fun h => h) ?_
      refine WkM.cloM rfl rfl (fun _ => rfl) (fun h => h) ?_
      exact WkM.emp
    ·
      repeat (refine dom_upd_mem (by decide) ?_)
      exact dom_emp
  ·
    rintro mm σ ⟨i, hinv, rfl, rfl⟩
    refine AW.seqR ?_
    first | refine AWo.pure (PureOp.ltN (b := 3) rfl rfl) rfl rfl ?_ | refine AWo.pure (PureOp.bin rfl rfl rfl) rfl rfl ?_
    refine AWo.nil trivial ?_
    refine AW.seq ?_
    refine AW.cond rfl (fun hb0 => ?_) (fun hb0 => ?_)
    ·
      have hi : i < 3 := by simpa using hb0
      refine AW.skip ?_
      refine thenA_normal ?_
      refine AW.seq ?_
      refine AW.block ?_
      refine AW.seqR ?_
      refine AWo.pure (PureOp.move rfl) rfl rfl ?_
      refine AWo.pure (PureOp.assign rfl) rfl rfl ?_
      refine AWo.nil trivial ?_
      refine AW.seqR ?_
      refine AWo.buildSlice tbok 14000 [] (out := []) rfl rfl (by decide) rfl rfl rfl (by decide) rfl rfl rfl rfl rfl ?_
      refine AWo.pure (PureOp.assign rfl) rfl rfl ?_
      refine AWo.nil trivial ?_
      refine AW.seq ?_
      refine AW.seqR ?_
      refine AWo.pure (PureOp.move rfl) rfl rfl ?_
      refine AWo.nil trivial ?_
      refine AW.block ?_
      refine AW.loopw (fun mm σ => ∃ j, (j ≤ 3) ∧ mm = 3 - j ∧ σ = ⟨(upd (upd (upd (upd (upd (upd (upd (upd emp 2 (.pointer (some ⟨3000, 0, none⟩))) 1 (.pointer (some ⟨2000, 0, none⟩))) 4 (.pointer (some ⟨5000, 0, none⟩))) 5 (.slice (some ⟨77000, 0, none⟩) i 0)) 10 (vi .i64 i)) 6 (vi .i64 i)) 7 (.slice (some ⟨77001, 0, none⟩) j 0)) 14 (vi .i64 j)), (upd (upd (upd (upd (upd emp 2000 ⟨Ls.map db, true, 1⟩) 3000 ⟨(((List.replicate 9 (0 : Fp)).map fe).flatten).map (vi .u64), true, 1⟩) 5000 ⟨(((pb (nbF Ls) (i * 3 + j)).map fe).flatten).map (vi .u64), true, 1⟩) 77000 ⟨(List.range i).map (fun a => rowD (nbF Ls a)), true, 1⟩) 77001 ⟨(List.range j).map (fun b => dv (nbF Ls i b)), true, 1⟩)⟩) (fm := [(77001, 14000)]) ?_ ⟨0, by omega, rfl, rfl⟩ ?_
      ·
        refine Wk.of [2000, 3000, 5000, 77000, 77001] ?_ ?_ ?_ (by decide) rfl
        ·
          refine WkE.upd rfl (by first | exact VR.flat _ rfl | exact VR.eqv (vp_succ _) rfl | exact VR.eqv (vp_succ _).symm rfl | exact VR.eqv (by first | rfl | (congr 1; omega) | (simp; done) | (simp; omega)) rfl) ?_
          refine WkE.upd rfl (.slice (77001) 0 _ 0 ⟨_, rfl⟩ (by simp) (by simp)) ?_
          refine WkE.upd rfl (by first | exact VR.flat _ rfl | exact VR.eqv (vp_succ _) rfl | exact VR.eqv (vp_succ _).symm rfl | exact VR.eqv (by first | rfl | (congr 1; omega) | (simp; done) | (simp; omega)) rfl) ?_
          refine WkE.upd rfl (by first | exact VR.flat _ rfl | exact VR.eqv (vp_succ _) rfl | exact VR.eqv (vp_succ _).symm rfl | exact VR.eqv (by first | rfl | (congr 1; omega) | (simp; done) | (simp; omega)) rfl) ?_
          refine WkE.upd rfl (.slice (77000) 0 _ 0 ⟨_, rfl⟩ (by simp) (by simp)) ?_
          refine WkE.upd rfl (.ptr (5000) 0 ⟨_, rfl⟩) ?_
          refine WkE.upd rfl (.ptr (2000) 0 ⟨_, rfl⟩) ?_
          refine WkE.upd rfl (.ptr (3000) 0 ⟨_, rfl⟩) ?_
          exact WkE.emp
        ·
          refine WkM.cloM rfl rfl (fun _ => rfl) (fun h => h) ?_
          refine WkM.cloM rfl rfl (fun _ => rfl) (fun h => h) ?_
          refine WkM.flat rfl (flatM flat_vi) (fun h => h) ?_
          refine WkM.flat rfl (flatM flat_vi) (fun h => h) ?_
          refine WkM.cloM rfl rfl (fun _ => rfl) (fun h => h) ?_
          exact WkM.emp
        ·
          repeat (refine dom_upd_mem (by decide) ?_)
          exact dom_emp
      ·
        rintro mm σ ⟨j, hinv, rfl, rfl⟩
        refine AW.seqR ?_
        first | refine AWo.pure (PureOp.ltN (b := 3) rfl rfl) rfl rfl ?_ | refine AWo.pure (PureOp.bin rfl rfl rfl) rfl rfl ?_
        refine AWo.nil trivial ?_
        refine AW.seq ?_
        refine AW.cond rfl (fun hb1 => ?_) (fun hb1 => ?_)
        ·
          have hj : j < 3 := by simpa using hb1
          refine AW.skip ?_
          refine thenA_normal ?_
          refine AW.seq ?_
          refine AW.block ?_
          refine AW.seqR ?_
          refine AWo.pure (PureOp.move rfl) rfl rfl ?_
          refine AWo.pure (PureOp.assign rfl) rfl rfl ?_
          refine AWo.nil trivial ?_
          refine AW.seqD mixed ?_
          refine AWo.pure (PureOp.move rfl) rfl rfl ?_
          refine AWo.pure (PureOp.move rfl) rfl rfl ?_
          refine AWo.pure (PureOp.move rfl) rfl rfl ?_
          first | refine AWo.pure (PureOp.mulI (a := 3) rfl rfl (by first | decide | omega)) rfl rfl ?_ | refine AWo.pure (PureOp.bin rfl rfl rfl) rfl rfl ?_
          refine AWo.pure (PureOp.move rfl) rfl rfl ?_
          first | refine AWo.pure (PureOp.addI rfl rfl (by first | decide | omega)) rfl rfl ?_ | refine AWo.pure (PureOp.bin rfl rfl rfl) rfl rfl ?_
          first | refine AWo.pure (PureOp.arr1 tbok rfl rfl rfl rfl (by first | decide | omega)) rfl rfl ?_ | refine AWo.pure (PureOp.arr tbok rfl rfl rfl rfl (by first | decide | omega)) rfl rfl ?_
          refine AWo.loadM tbok (f := db) [] rfl rfl rfl (by omega) rfl rfl ?_
          refine AWo.callX (v := .agg ((fe (nbF Ls i j)).map (vi .u64)).toArray) (fromwideFd (b := Ls.getD (3 * i + j) []) (hB _ (getD_mem (by omega))) (by have := hS _ (getD_mem (show 3 * i + j < Ls.length by omega)); omega)) bd30 [] [] rfl (.cons rfl .nil) rfl (.cons rfl rfl .nil) .nil rfl .nil frN (by decide) (.pure (by first | rfl | exact pure_aggM flat_vi | exact pure_aggM flat_bool) .nil) rfl rfl rfl rfl ?_
          first | refine AWo.pure (PureOp.arr1 tbok rfl rfl rfl rfl (by first | decide | omega)) rfl rfl ?_ | refine AWo.pure (PureOp.arr tbok rfl rfl rfl rfl (by first | decide | omega)) rfl rfl ?_
          first | refine AWo.pure (PureOp.arr1 tbok rfl rfl rfl rfl (by first | decide | omega)) rfl rfl ?_ | refine AWo.pure (PureOp.arr tbok rfl rfl rfl rfl (by first | decide | omega)) rfl rfl ?_
          refine ySJ (i * 3 + j) ?_ (hj := by rw [pb_len]; omega)
          rw [pb_set (nbF Ls) hi hj]
          refine AWo.nil (by kernel_rfl) ?_
          refine AW.region ?_
          refine AWo.pure (PureOp.move rfl) rfl rfl ?_
          refine AWo.pure (PureOp.move rfl) rfl rfl ?_
          first | refine AWo.pure (PureOp.mulI (a := 3) rfl rfl (by first | decide | omega)) rfl rfl ?_ | refine AWo.pure (PureOp.bin rfl rfl rfl) rfl rfl ?_
          refine AWo.pure (PureOp.move rfl) rfl rfl ?_
          first | refine AWo.pure (PureOp.addI rfl rfl (by first | decide | omega)) rfl rfl ?_ | refine AWo.pure (PureOp.bin rfl rfl rfl) rfl rfl ?_
          first | refine AWo.pure (PureOp.arr1 tbok rfl rfl rfl rfl (by first | decide | omega)) rfl rfl ?_ | refine AWo.pure (PureOp.arr tbok rfl rfl rfl rfl (by first | decide | omega)) rfl rfl ?_
          refine AWo.loadM tbok (f := db) [] rfl rfl rfl (by omega) rfl rfl ?_
          refine AWo.callX (ofbd (a := Ls.getD (3 * i + j) []) (hB _ (getD_mem (by omega))) (by have := hS _ (getD_mem (show 3 * i + j < Ls.length by omega)); omega)) bd52 [] [] rfl (.cons rfl .nil) rfl (.cons rfl rfl .nil) .nil rfl .nil frN (by decide) (.cons rfl rfl .nil) rfl rfl rfl rfl ?_
          refine AWo.callX (v := dv (nbF Ls i j)) (modRd (v := num 256 (Ls.getD (3 * i + j) [])) (bytes_room (hB _ (getD_mem (by omega))) (by have := hS _ (getD_mem (show 3 * i + j < Ls.length by omega)); omega))) bd51 [] [] rfl (.cons rfl .nil) rfl (.cons rfl rfl .nil) .nil rfl .nil frN (by decide) (.cons rfl rfl .nil) rfl rfl rfl rfl ?_
          refine AWo.buildSlice tbok 38000 [(0, dv (nbF Ls i j))] (out := [dv (nbF Ls i j)]) rfl rfl (by decide) rfl rfl rfl (by decide) rfl rfl rfl rfl rfl ?_
          refine AWo.append tbok (all := (List.range (j + 1)).map (fun b => dv (nbF Ls i b))) (news := [dv (nbF Ls i j)]) 39000 rfl rfl rfl rfl (by simp) (by show List.take _ (List.drop 0 _) = _; rw [List.drop_zero]; exact List.take_of_length_le (by simp)) (by first | decide | (simp; done) | (simp; omega)) (by decide) rfl rfl rfl (by first | decide | exact Nat.one_ne_zero) rfl rfl rfl (by first | decide | omega) (by first | decide | omega) (by rfl) (by rw [List.range_succ, List.map_append]; rfl) rfl rfl ?_
          refine AWo.pure (PureOp.assign rfl) rfl rfl ?_
          refine AWo.nil trivial ?_
          refine inBlockA_normal ?_
          refine thenA_normal ?_
          refine AW.region ?_
          first | refine AWo.pure (PureOp.addI (b := 1) rfl rfl (by first | decide | omega)) rfl rfl ?_ | refine AWo.pure (PureOp.bin rfl rfl rfl) rfl rfl ?_
          refine AWo.pure (PureOp.move rfl) rfl rfl ?_
          refine AWo.nil trivial ?_
          refine thenA_normal ?_
          refine ⟨3 - (j + 1), [(77001, 39000)], _, by omega, ?_, j + 1, by omega, rfl, rfl⟩
          refine Wk.of [2000, 3000, 5000, 77000, 77001] ?_ ?_ ?_ (by decide) rfl
          ·
            refine WkE.upd rfl (by first | exact VR.flat _ rfl | exact VR.eqv (vp_succ _) rfl | exact VR.eqv (vp_succ _).symm rfl | exact VR.eqv (by first | rfl | (congr 1; omega) | (simp; done) | (simp; omega)) rfl) ?_
            refine WkE.upd rfl (.slice (77001) 0 _ 0 ⟨_, rfl⟩ (by simp) (by simp)) ?_
            refine WkE.upd rfl (by first | exact VR.flat _ rfl | exact VR.eqv (vp_succ _) rfl | exact VR.eqv (vp_succ _).symm rfl | exact VR.eqv (by first | rfl | (congr 1; omega) | (simp; done) | (simp; omega)) rfl) ?_
            refine WkE.upd rfl (by first | exact VR.flat _ rfl | exact VR.eqv (vp_succ _) rfl | exact VR.eqv (vp_succ _).symm rfl | exact VR.eqv (by first | rfl | (congr 1; omega) | (simp; done) | (simp; omega)) rfl) ?_
            refine WkE.upd rfl (.slice (77000) 0 _ 0 ⟨_, rfl⟩ (by simp) (by simp)) ?_
            refine WkE.upd rfl (.ptr (5000) 0 ⟨_, rfl⟩) ?_
            refine WkE.upd rfl (.ptr (2000) 0 ⟨_, rfl⟩) ?_
            refine WkE.upd rfl (.ptr (3000) 0 ⟨_, rfl⟩) ?_
            exact WkE.emp
          ·
            refine WkM.cloM rfl rfl (fun _ => rfl) (fun h => h) ?_
            refine WkM.cloM rfl rfl (fun _ => rfl) (fun h => h) ?_
            refine WkM.flat rfl (flatM flat_vi) (fun h => h) ?_
            refine WkM.flat rfl (flatM flat_vi) (fun h => h) ?_
            refine WkM.cloM rfl rfl (fun _ => rfl) (fun h => h) ?_
            exact WkM.emp
          ·
            repeat (refine dom_upd_mem (by decide) ?_)
            exact dom_emp
        ·
          obtain rfl : j = 3 := by simp at hb1; omega
          refine AW.exit ?_
          refine thenA_exit ?_
          refine thenA_exit ?_
          refine inBlockA_hit ?_
          refine thenA_normal ?_
          refine AW.freeze 7 77001 ((List.range 3).map (fun b => dv (nbF Ls i b))) ?_ rfl rfl (cloM fun _ => rfl) (by simp) (by rw [List.drop_zero]; exact List.take_of_length_le (by simp))
          refine AW.region ?_
          refine AWo.pure (PureOp.move rfl) rfl rfl ?_
          refine AWo.pure (PureOp.move rfl) rfl rfl ?_
          refine AWo.buildSlice tbok 43000 [(0, rowD (nbF Ls i))] (out := [rowD (nbF Ls i)]) rfl rfl (by decide) rfl rfl rfl (by decide) rfl rfl rfl rfl rfl ?_
          refine AWo.append tbok (all := (List.range (i + 1)).map (fun a => rowD (nbF Ls a))) (news := [rowD (nbF Ls i)]) 44000 rfl rfl rfl rfl (by simp) (by show List.take _ (List.drop 0 _) = _; rw [List.drop_zero]; exact List.take_of_length_le (by simp)) (by first | decide | (simp; done) | (simp; omega)) (by decide) rfl rfl rfl (by first | decide | exact Nat.one_ne_zero) rfl rfl rfl (by first | decide | omega) (by first | decide | omega) (by rfl) (by rw [List.range_succ, List.map_append]; rfl) rfl rfl ?_
          refine AWo.pure (PureOp.assign rfl) rfl rfl ?_
          refine AWo.nil trivial ?_
          refine inBlockA_normal ?_
          refine thenA_normal ?_
          refine AW.region ?_
          first | refine AWo.pure (PureOp.addI (b := 1) rfl rfl (by first | decide | omega)) rfl rfl ?_ | refine AWo.pure (PureOp.bin rfl rfl rfl) rfl rfl ?_
          refine AWo.pure (PureOp.move rfl) rfl rfl ?_
          refine AWo.nil trivial ?_
          refine thenA_normal ?_
          rw [show i * 3 + 3 = (i + 1) * 3 by omega]
          refine ⟨3 - (i + 1), [(77000, 44000)], _, by omega, ?_, i + 1, by omega, rfl, rfl⟩
          refine Wk.of [2000, 3000, 5000, 77000] ?_ ?_ ?_ (by decide) rfl
          ·
            refine WkE.upd rfl (by first | exact VR.flat _ rfl | exact VR.eqv (vp_succ _) rfl | exact VR.eqv (vp_succ _).symm rfl | exact VR.eqv (by first | rfl | (congr 1; omega) | (simp; done) | (simp; omega)) rfl) ?_
            refine WkE.upd rfl (.slice (77000) 0 _ 0 ⟨_, rfl⟩ (by simp) (by simp)) ?_
            refine WkE.upd rfl (.ptr (5000) 0 ⟨_, rfl⟩) ?_
            refine WkE.upd rfl (.ptr (2000) 0 ⟨_, rfl⟩) ?_
            refine WkE.upd rfl (.ptr (3000) 0 ⟨_, rfl⟩) ?_
            exact WkE.emp
          ·
            refine WkM.cloM rfl rfl (fun _ => rfl) (fun h => h) ?_
            refine WkM.flat rfl (flatM flat_vi) (fun h => h) ?_
            refine WkM.flat rfl (flatM flat_vi) (fun h => h) ?_
            refine WkM.cloM rfl rfl (fun _ => rfl) (fun h => h) ?_
            exact WkM.emp
          ·
            repeat (refine dom_upd_mem (by decide) ?_)
            exact dom_emp
    ·
      obtain rfl : i = 3 := by simp at hb0; omega
      rw [pb_all]
      refine AW.exit ?_
      refine thenA_exit ?_
      refine thenA_exit ?_
      refine inBlockA_hit ?_
      refine thenA_normal ?_
      refine AW.freeze 5 77000 ((List.range 3).map (fun a => rowD (nbF Ls a))) ?_ rfl rfl (cloM fun _ => rfl) (by simp) (by rw [List.drop_zero]; exact List.take_of_length_le (by simp))
      refine AW.seqR ?_
      refine yLM (xs := tab (nbF Ls)) 9 ?_
      refine AWo.pure (PureOp.move rfl) rfl rfl ?_
      refine ySE (vs := tab (nbF Ls)) 0 ?_ (hj := by exact Nat.le_refl 9)
      refine AWo.pure (PureOp.assign rfl) rfl rfl ?_
      refine AWo.nil trivial ?_
      refine AW.ret ?_
      refine RetQ.gc [_, _] [] [.cell 2 76, .tmp 3] (.inl rfl) rfl (.val (RVal.cellAll tbok rfl rfl rfl rfl (by first | (simp [*]; done) | rfl)) (.tmp rfl .nil)) rfl (.pure (by first | rfl | exact pure_aggM flat_vi | exact pure_aggM flat_bool) (.cons rfl rfl .nil)) trivial (by decide) rfl
end Go.Proofs.Yteeifahhejangaa
namespace Go.Proofs.Yteeifahhejangaa
open Go Sim
namespace Rg3
variable {n : Nat} [NeZero n]
def dt (a b c d e f g h k : Fin n) : Fin n := 0 + a * (e * k - f * h) + b * -(d * k - f * g) + c * (d * h - e * g)
def s3 (a b c : Fin n) : Fin n := 0 + a + b + c
theorem swap01 (a b c d e f g h k : Fin n) : dt d e f a b c g h k = - dt a b c d e f g h k := by unfold dt; grind
theorem swap02 (a b c d e f g h k : Fin n) : dt g h k d e f a b c = - dt a b c d e f g h k := by unfold dt; grind
theorem swap12 (a b c d e f g h k : Fin n) : dt a b c g h k d e f = - dt a b c d e f g h k := by unfold dt; grind
theorem same01 (a b c g h k : Fin n) : dt a b c a b c g h k = 0 := by unfold dt; grind
theorem same02 (a b c d e f : Fin n) : dt a b c d e f a b c = 0 := by unfold dt; grind
theorem same12 (a b c d e f : Fin n) : dt a b c d e f d e f = 0 := by unfold dt; grind
theorem by0 (a b c d e f g h k z : Fin n) : dt (a * z) (b * z) (c * z) d e f g h k = dt a b c d e f g h k * z := by unfold dt; grind
theorem by1 (a b c d e f g h k z : Fin n) : dt a b c (d * z) (e * z) (f * z) g h k = dt a b c d e f g h k * z := by unfold dt; grind
theorem by2 (a b c d e f g h k z : Fin n) : dt a b c d e f (g * z) (h * z) (k * z) = dt a b c d e f g h k * z := by unfold dt; grind
theorem assoc3 (a b c p0 p1 p2 q0 q1 q2 r0 r1 r2 x y z : Fin n) :
    s3 (s3 (a * p0) (b * q0) (c * r0) * x) (s3 (a * p1) (b * q1) (c * r1) * y) (s3 (a * p2) (b * q2) (c * r2) * z) =
    s3 (a * s3 (p0 * x) (p1 * y) (p2 * z)) (b * s3 (q0 * x) (q1 * y) (q2 * z)) (c * s3 (r0 * x) (r1 * y) (r2 * z)) := by unfold s3; grind
theorem unit0 (a b c : Fin n) : s3 (a * 1) (b * 0) (c * 0) = a := by unfold s3; grind
theorem unit1 (a b c : Fin n) : s3 (a * 0) (b * 1) (c * 0) = b := by unfold s3; grind
theorem unit2 (a b c : Fin n) : s3 (a * 0) (b * 0) (c * 1) = c := by unfold s3; grind
theorem dt_unit : dt (1 : Fin n) 0 0 0 1 0 0 0 1 = 1 := by unfold dt; grind
theorem dt_mul (a b c d e f g h k A B C D E F G H K : Fin n) :
    dt (s3 (a * A) (b * D) (c * G)) (s3 (a * B) (b * E) (c * H)) (s3 (a * C) (b * F) (c * K))
      (s3 (d * A) (e * D) (f * G)) (s3 (d * B) (e * E) (f * H)) (s3 (d * C) (e * F) (f * K))
      (s3 (g * A) (h * D) (k * G)) (s3 (g * B) (h * E) (k * H)) (s3 (g * C) (h * F) (k * K)) = dt a b c d e f g h k * dt A B C D E F G H K := by unfold dt s3; grind
theorem three (a b c d e f g h k : Fin n) : 0 + a * (0 + e * k - f * h) - b * (0 + d * k - f * g) + c * (0 + d * h - e * g) = dt a b c d e f g h k := by unfold dt; grind
end Rg3
theorem nine : ∀ {M : List Fp}, M.length = 9 → ∃ a b c d e f g h k, M = [a, b, c, d, e, f, g, h, k]
  | [a, b, c, d, e, f, g, h, k], _ => ⟨a, b, c, d, e, f, g, h, k, rfl⟩
theorem tab_congr {g g' : Nat → Nat → Fp} (h : ∀ i, i < 3 → ∀ j, j < 3 → g i j = g' i j) : tab g = tab g' :=
  List.map_congr_left fun p hp => h _ (by have := List.mem_range.1 hp; omega) _ (by omega)
theorem tab_of {M : List Fp} (hM : M.length = 9) : tab (fun i j => M.getD (i * 3 + j) 0) = M := by
  obtain ⟨a, b, c, d, e, f, g, h, k, rfl⟩ := nine hM; rfl
theorem mm_l (g : Nat → Nat → Fp) (K : List Fp) {i : Nat} (j : Nat) (hi : i < 3) : mmF (tab g) K i j = Rg3.s3 (g i 0 * K.getD j 0) (g i 1 * K.getD (3 + j) 0) (g i 2 * K.getD (6 + j) 0) := by
  rcases i with _ | _ | _ | i
  · rfl
  · rfl
  · rfl
  · omega
theorem mm_r (M : List Fp) (g : Nat → Nat → Fp) (i : Nat) {j : Nat} (hj : j < 3) : mmF M (tab g) i j = Rg3.s3 (M.getD (i * 3) 0 * g 0 j) (M.getD (i * 3 + 1) 0 * g 1 j) (M.getD (i * 3 + 2) 0 * g 2 j) := by
  rcases j with _ | _ | _ | j
  · rfl
  · rfl
  · rfl
  · omega
theorem mm_assoc (M N K : List Fp) : tab (mmF (tab (mmF M N)) K) = tab (mmF M (tab (mmF N K))) :=
  tab_congr fun i hi j hj => by
    rw [mm_l _ _ _ hi, mm_r _ _ _ hj]
    exact Rg3.assoc3 ..
theorem mm_unit {M : List Fp} (hM : M.length = 9) : tab (mmF M (tab fun i j => if i = j then fp 1 else 0)) = M := by
  refine Eq.trans (tab_congr fun i hi j hj => ?_) (tab_of hM)
  rw [mm_r _ _ _ hj]
  rcases j with _ | _ | _ | j
  · exact Rg3.unit0 ..
  · exact Rg3.unit1 ..
  · exact Rg3.unit2 ..
  · omega
theorem apl_mm (M N : List Fp) (p q r : Fp) : apl (tab (mmF M N)) p q r = apl M (fsumL [N.getD 0 0 * p, N.getD 1 0 * q, N.getD 2 0 * r]) (fsumL [N.getD 3 0 * p, N.getD 4 0 * q, N.getD 5 0 * r]) (fsumL [N.getD 6 0 * p, N.getD 7 0 * q, N.getD 8 0 * r]) := by
  have e : ∀ i, i < 3 → fsumL [mmF M N i 0 * p, mmF M N i 1 * q, mmF M N i 2 * r] = fsumL [M.getD (i * 3) 0 * fsumL [N.getD 0 0 * p, N.getD 1 0 * q, N.getD 2 0 * r], M.getD (i * 3 + 1) 0 * fsumL [N.getD 3 0 * p, N.getD 4 0 * q, N.getD 5 0 * r], M.getD (i * 3 + 2) 0 * fsumL [N.getD 6 0 * p, N.getD 7 0 * q, N.getD 8 0 * r]] := fun i _ => Rg3.assoc3 ..
  have cg : ∀ {a b c a' b' c' : Fp}, a = a' → b = b' → c = c' → [a, b, c] = [a', b', c'] := fun h1 h2 h3 => by rw [h1, h2, h3]
  exact cg (e 0 (by decide)) (e 1 (by decide)) (e 2 (by decide))
theorem dtm_mm {M N : List Fp} (hM : M.length = 9) (hN : N.length = 9) : dtm (tab (mmF M N)) = dtm M * dtm N := by
  obtain ⟨a, b, c, d, e, f, g, h, k, rfl⟩ := nine hM
  obtain ⟨A, B, C, D, E, F, G, H, K, rfl⟩ := nine hN
  exact Rg3.dt_mul a b c d e f g h k A B C D E F G H K
theorem dtm_unit : dtm (tab fun i j => if i = j then fp 1 else 0) = fp 1 := Rg3.dt_unit
def row3 (M : List Fp) (y : Nat) : List Fp := [M.getD (y * 3) 0, M.getD (y * 3 + 1) 0, M.getD (y * 3 + 2) 0]
def tmL (M : List Fp) (x : Nat) (e : Fp) : Nat → List Fp
  | 0 => M
  | k + 1 => (tmL M x e k).set (x * 3 + k) ((tmL M x e k).getD (x * 3 + k) 0 * e)
theorem tmL_len (M : List Fp) (x : Nat) (e : Fp) : ∀ k, (tmL M x e k).length = M.length
  | 0 => rfl
  | k + 1 => by rw [tmL, List.length_set, tmL_len M x e k]
theorem setE_full {M : List Fp} (hM : M.length = 9) : setE (List.replicate 9 0) 0 M = M := by
  obtain ⟨a, b, c, d, e, f, g, h, k, rfl⟩ := nine hM; rfl
theorem turned {M : List Fp} (hM : M.length = 9) {x y : Nat} (hx : x < 3) (hy : y < 3) (hxy : x ≠ y) : dtm (setE (setE M (x * 3) (row3 M y)) (y * 3) (row3 M x)) = -dtm M := by
  obtain ⟨a, b, c, d, e, f, g, h, k, rfl⟩ := nine hM
  rcases x with _ | _ | _ | x
  · rcases y with _ | _ | _ | y
    · exact absurd rfl hxy
    · exact Rg3.swap01 ..
    · exact Rg3.swap02 ..
    · omega
  · rcases y with _ | _ | _ | y
    · exact Rg3.swap01 ..
    · exact absurd rfl hxy
    · exact Rg3.swap12 ..
    · omega
  · rcases y with _ | _ | _ | y
    · exact Rg3.swap02 ..
    · exact Rg3.swap12 ..
    · exact absurd rfl hxy
    · omega
  · omega
theorem alike {M : List Fp} (hM : M.length = 9) {x y : Nat} (hx : x < 3) (hy : y < 3) (hxy : x ≠ y) : dtm (setE M (x * 3) (row3 M y)) = 0 := by
  obtain ⟨a, b, c, d, e, f, g, h, k, rfl⟩ := nine hM
  rcases x with _ | _ | _ | x
  · rcases y with _ | _ | _ | y
    · exact absurd rfl hxy
    · exact Rg3.same01 ..
    · exact Rg3.same02 ..
    · omega
  · rcases y with _ | _ | _ | y
    · exact Rg3.same01 ..
    · exact absurd rfl hxy
    · exact Rg3.same12 ..
    · omega
  · rcases y with _ | _ | _ | y
    · exact Rg3.same02 ..
    · exact Rg3.same12 ..
    · exact absurd rfl hxy
    · omega
  · omega
theorem times {M : List Fp} (hM : M.length = 9) {x : Nat} (hx : x < 3) (z : Fp) : dtm (tmL M x z 3) = dtm M * z := by
  obtain ⟨a, b, c, d, e, f, g, h, k, rfl⟩ := nine hM
  rcases x with _ | _ | _ | x
  · exact Rg3.by0 ..
  · exact Rg3.by1 ..
  · exact Rg3.by2 ..
  · omega
theorem bad_of {M : List Fp} (h : dtm M = 0) : (mins M).any (fun x => decide (x = 0)) = true := by
  rw [List.any_eq_true]
  exact ⟨dtm M, by simp [mins], decide_eq_true h⟩
theorem finv_lit {k : Nat} {v : Fp} (h : fp k * v = 1) : finv (fp k) = v := by
  have h0 : fp k ≠ 0 := fun e => by
    rw [e, Rg.zero_mul] at h
    exact one_ne h
  exact mul_left_cancel h0 ((mul_finv h0).trans h.symm)
theorem fi3 : finv (fp 3) = (14592161914559516814830937163504850059032242933610689562465469457717205663745 : Fp) := finv_lit (by decide)
theorem fi4 : finv (fp 4) = (16416182153879456416684804308942956316411273300312025757773653139931856371713 : Fp) := finv_lit (by decide)
theorem fi5 : finv (fp 5) = (8755297148735710088898562298102910035419345760166413737479281674630323398247 : Fp) := finv_lit (by decide)
theorem fi6 : finv (fp 6) = (18240202393199396018538671454381062573790303667013361953081836822146507079681 : Fp) := finv_lit (by decide)
theorem fi7 : finv (fp 7) = (3126891838834182174606629392179610726935480628630862049099743455225115499374 : Fp) := finv_lit (by decide)
theorem cau_eq : tab (fun i j => finv (fp (i + j + 3))) = [finv (fp 3), finv (fp 4), finv (fp 5), finv (fp 4), finv (fp 5), finv (fp 6), finv (fp 5), finv (fp 6), finv (fp 7)] := rfl
theorem cau_good : (mins (tab (fun i j => finv (fp (i + j + 3))))).any (fun x => decide (x = 0)) = false := by
  rw [cau_eq, fi3, fi4, fi5, fi6, fi7]; kernel_rfl
theorem unit_bad : (mins (tab (fun i j => if i = j then fp 1 else 0))).any (fun x => decide (x = 0)) = true := by kernel_rfl
theorem cau_at : (tab (fun i j => finv (fp (i + j + 3)))).getD 0 0 * fp 3 = fp 1 := by
  rw [cau_eq, fi3]; decide
theorem cau_ne : (tab (fun i j => finv (fp (i + j + 3)))).getD 0 0 ≠ 0 := by
  rw [cau_eq, fi3]; decide
end Go.Proofs.Yteeifahhejangaa
