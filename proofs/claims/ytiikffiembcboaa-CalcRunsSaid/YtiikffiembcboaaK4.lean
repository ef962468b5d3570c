/- What the proof stands on, part 4: the walk of each function, and plain laws of numbers. -/
import Derived.Test.YtiikffiembcboaaK3
namespace Go.Proofs.Ytiikffiembcboaa
open Go Sim
theorem inv_words {e : Nat} (he : e = 21888242871839275222246405745257275088548364400416034343698204186575808495617 - 2) : (digs 18446744073709551616 4 21888242871839275222246405745257275088548364400416034343698204186575808495617).set 0 4891460686036598783 = digs 18446744073709551616 4 e := by subst he; kernel_rfl
theorem emulP_ctr {u v : Nat} : GC Try.prog 91 [.agg ((fel u).map (vi .u64)).toArray, .agg ((fel v).map (vi .u64)).toArray] [] [.agg ((fel (u * v % 21888242871839275222246405745257275088548364400416034343698204186575808495617)).map (vi .u64)).toArray] [] := by
 have h := emul_ctr (u := u) (v := v)
 rw [← fel_mod (u * v)] at h
 exact h
theorem add_fel {u v : Nat} : digs 18446744073709551616 4 (num 18446744073709551616 (digs 18446744073709551616 4 (num 18446744073709551616 (fel u) + num 18446744073709551616 (fel v))) % 21888242871839275222246405745257275088548364400416034343698204186575808495617) = fel ((u + v) % 21888242871839275222246405745257275088548364400416034343698204186575808495617) := by
 have h1 := fel_lt u
 have h2 := fel_lt v
 rw [num_digs_lt (by omega), num_fel, num_fel, fel_mod, fel, ← Nat.add_mod, Nat.add_mul]
theorem sub_fel {u v : Nat} (hv : v < 21888242871839275222246405745257275088548364400416034343698204186575808495617) : (u + (21888242871839275222246405745257275088548364400416034343698204186575808495617 - v)) * 18446744073709551616 ^ 4 % 21888242871839275222246405745257275088548364400416034343698204186575808495617 = (num 18446744073709551616 (fel u) + (21888242871839275222246405745257275088548364400416034343698204186575808495617 - num 18446744073709551616 (fel v))) % 21888242871839275222246405745257275088548364400416034343698204186575808495617 := by
 have h1 := fel_lt u
 have h2 := fel_lt v
 have h3 : ((u + (21888242871839275222246405745257275088548364400416034343698204186575808495617 - v)) * 18446744073709551616 ^ 4 % 21888242871839275222246405745257275088548364400416034343698204186575808495617 + num 18446744073709551616 (fel v)) % 21888242871839275222246405745257275088548364400416034343698204186575808495617 = num 18446744073709551616 (fel u) := by
  rw [num_fel, num_fel, ← Nat.add_mod, ← Nat.add_mul, show u + (21888242871839275222246405745257275088548364400416034343698204186575808495617 - v) + v = u + 21888242871839275222246405745257275088548364400416034343698204186575808495617 by omega, Nat.add_mul, Nat.add_mul_mod_self_left]
 have h4 := Nat.mod_lt ((u + (21888242871839275222246405745257275088548364400416034343698204186575808495617 - v)) * 18446744073709551616 ^ 4) (show 0 < 21888242871839275222246405745257275088548364400416034343698204186575808495617 by decide)
 omega
theorem sub_fel_ge {u v : Nat} (hv : v < 21888242871839275222246405745257275088548364400416034343698204186575808495617) (h : num 18446744073709551616 (fel v) ≤ num 18446744073709551616 (fel u)) : digs 18446744073709551616 4 (num 18446744073709551616 (fel u) + 18446744073709551616 ^ 4 - num 18446744073709551616 (fel v)) = fel ((u + (21888242871839275222246405745257275088548364400416034343698204186575808495617 - v)) % 21888242871839275222246405745257275088548364400416034343698204186575808495617) := by
 have h1 := fel_lt u
 refine num_inj (digs_bd (by decide) _ _) (bd_fel _) (by rw [digs_len, fel_len]) ?_
 rw [num_digs, num_fel ((u + (21888242871839275222246405745257275088548364400416034343698204186575808495617 - v)) % 21888242871839275222246405745257275088548364400416034343698204186575808495617), Nat.mod_mul_mod, sub_fel hv]
 omega
theorem sub_fel_lt {u v : Nat} (hv : v < 21888242871839275222246405745257275088548364400416034343698204186575808495617) (h : num 18446744073709551616 (fel u) < num 18446744073709551616 (fel v)) : digs 18446744073709551616 4 (num 18446744073709551616 (digs 18446744073709551616 4 (num 18446744073709551616 (fel u) + 18446744073709551616 ^ 4 - num 18446744073709551616 (fel v))) + num 18446744073709551616 (digs 18446744073709551616 4 21888242871839275222246405745257275088548364400416034343698204186575808495617)) = fel ((u + (21888242871839275222246405745257275088548364400416034343698204186575808495617 - v)) % 21888242871839275222246405745257275088548364400416034343698204186575808495617) := by
 have h1 := fel_lt u
 have h2 := fel_lt v
 refine num_inj (digs_bd (by decide) _ _) (bd_fel _) (by rw [digs_len, fel_len]) ?_
 rw [num_digs, num_fel ((u + (21888242871839275222246405745257275088548364400416034343698204186575808495617 - v)) % 21888242871839275222246405745257275088548364400416034343698204186575808495617), Nat.mod_mul_mod, sub_fel hv, num_digs, num_digs]
 omega
theorem one_word {x : Nat} (hx : x < 18446744073709551616) : digs 18446744073709551616 4 x = [x, 0, 0, 0] := by
 simp only [digs, Nat.mod_eq_of_lt hx, Nat.div_eq_of_lt hx]
set_option maxRecDepth 10000 in
theorem eaddP_ctr {u v : Nat} : GC Try.prog 92 [.agg ((fel u).map (vi .u64)).toArray, .agg ((fel v).map (vi .u64)).toArray] [] [.agg ((fel ((u + v) % 21888242871839275222246405745257275088548364400416034343698204186575808495617)).map (vi .u64)).toArray] [] := by
 refine gi Try.func92 ?_
 have hd1 := fel_len u
 have hd2 := fel_len v
 have hd3 := fel_len ((u + v) % 21888242871839275222246405745257275088548364400416034343698204186575808495617)
 have h1 := fel_lt u
 have h2 := fel_lt v
 have hds := digs_len (B := 18446744073709551616) 4 (num 18446744073709551616 (fel u) + num 18446744073709551616 (fel v))
 refine zS ?_
 refine yO 3000 1 ((fel u).map (vi .u64)) ?_
 refine yO 4000 1 ((fel v).map (vi .u64)) ?_
 refine yN 5000 1 _ ?_
 refine zN (zS ?_)
 refine yP pF ?_
 refine AWo.loadAgg tbok (vs := (fel u).map (vi .u64)) rfl rfl rfl rfl (by simp [fel_len]) (ld4 (fel_len _)) rfl rfl ?_
 refine yP pF ?_
 refine AWo.loadAgg tbok (vs := (fel v).map (vi .u64)) rfl rfl rfl rfl (by simp [fel_len]) (ld4 (fel_len _)) rfl rfl ?_
 refine yC (plus_ctr (bd_fel u) (bd_fel v) (fel_len u) (fel_len v)) bd139 [] [] ?_
 refine yC (below_ctr (a := digs 18446744073709551616 4 (num 18446744073709551616 (fel u) + num 18446744073709551616 (fel v))) (digs_bd (by decide) _ _) (digs_len _ _) (by rw [num_digs_lt (by omega)]; omega)) bd138 [] [] ?_
 rw [add_fel]
 refine yP (build50 (by exact digs_len _ _) rfl) ?_
 refine ySA ?_
 refine zN (zE ?_)
 exact rq [] [.cell 4 50]
set_option maxRecDepth 10000 in
theorem esubP_ctr {u v : Nat} (hv : v < 21888242871839275222246405745257275088548364400416034343698204186575808495617) : GC Try.prog 94 [.agg ((fel u).map (vi .u64)).toArray, .agg ((fel v).map (vi .u64)).toArray] [] [.agg ((fel ((u + (21888242871839275222246405745257275088548364400416034343698204186575808495617 - v)) % 21888242871839275222246405745257275088548364400416034343698204186575808495617)).map (vi .u64)).toArray] [] := by
 refine gi Try.func94 ?_
 have hd1 := fel_len u
 have hd2 := fel_len v
 have hd3 := fel_len ((u + (21888242871839275222246405745257275088548364400416034343698204186575808495617 - v)) % 21888242871839275222246405745257275088548364400416034343698204186575808495617)
 have hd4 := digs_len (B := 18446744073709551616) 4 (num 18446744073709551616 (fel u) + 18446744073709551616 ^ 4 - num 18446744073709551616 (fel v))
 have hd5 := digs_len (B := 18446744073709551616) 4 (num 18446744073709551616 (digs 18446744073709551616 4 (num 18446744073709551616 (fel u) + 18446744073709551616 ^ 4 - num 18446744073709551616 (fel v))) + num 18446744073709551616 (digs 18446744073709551616 4 21888242871839275222246405745257275088548364400416034343698204186575808495617))
 have hsub := sub_fel (u := u) hv
 refine zS ?_
 refine yO 3000 1 ((fel u).map (vi .u64)) ?_
 refine yO 4000 1 ((fel v).map (vi .u64)) ?_
 refine yN 5000 1 _ ?_
 refine zN (zS ?_)
 refine yP pF ?_
 refine AWo.loadAgg tbok (vs := (fel u).map (vi .u64)) rfl rfl rfl rfl (by simp [fel_len]) (ld4 (fel_len _)) rfl rfl ?_
 refine yP pF ?_
 refine AWo.loadAgg tbok (vs := (fel v).map (vi .u64)) rfl rfl rfl rfl (by simp [fel_len]) (ld4 (fel_len _)) rfl rfl ?_
 refine yC (borrow_ctr (bd_fel u) (bd_fel v) (fel_len u) (fel_len v)) bd140 [] [] ?_
 refine yM ?_
 refine yP pX ?_
 refine yP pX ?_
 refine yN 6000 1 ((List.replicate 4 0).map (vi .u64)) ?_
 refine ySA ?_
 refine yA ?_
 refine zN (zQ (zS ?_))
 refine yM ?_
 refine yP (pNe (b := 0)) ?_
 refine zN ?_
 refine zA (fun hb0 => ?_) (fun hb0 => ?_)
 ·
  have hlt : num 18446744073709551616 (fel u) < num 18446744073709551616 (fel v) := by
   rcases Nat.lt_or_ge (num 18446744073709551616 (fel u)) (num 18446744073709551616 (fel v)) with h | h
   · exact h
   · rw [if_neg (by omega)] at hb0; simp at hb0
  refine AW.draw mixed ?_
  refine AWo.loadAgg tbok (vs := (digs 18446744073709551616 4 (num 18446744073709551616 (fel u) + 18446744073709551616 ^ 4 - num 18446744073709551616 (fel v))).map (vi .u64)) rfl rfl rfl rfl (by simp [digs_len]) (ld4 (digs_len _ _)) rfl rfl ?_
  refine yC (prime_ctr) bd136 [] [] ?_
  refine yC (plus_ctr (a := digs 18446744073709551616 4 (num 18446744073709551616 (fel u) + 18446744073709551616 ^ 4 - num 18446744073709551616 (fel v))) (b := digs 18446744073709551616 4 21888242871839275222246405745257275088548364400416034343698204186575808495617) (digs_bd (by decide) _ _) (digs_bd (by decide) _ _) (digs_len _ _) (digs_len _ _)) bd139 [] [] ?_
  rw [sub_fel_lt hv hlt]
  refine ySA ?_
  refine zD (zT (zS ?_))
  refine AWo.loadAgg tbok (vs := (fel ((u + (21888242871839275222246405745257275088548364400416034343698204186575808495617 - v)) % 21888242871839275222246405745257275088548364400416034343698204186575808495617)).map (vi .u64)) rfl rfl rfl rfl (by simp [fel_len]) (ld4 (fel_len _)) rfl rfl ?_
  refine yP (build50 (by exact digs_len _ _) rfl) ?_
  refine ySA ?_
  refine zN (zE ?_)
  exact rq [] [.cell 4 50]
 ·
  have hge : num 18446744073709551616 (fel v) ≤ num 18446744073709551616 (fel u) := by
   rcases Nat.lt_or_ge (num 18446744073709551616 (fel u)) (num 18446744073709551616 (fel v)) with h | h
   · rw [if_pos h] at hb0; simp at hb0
   · exact h
  rw [sub_fel_ge hv hge]
  refine zK (zT (zS ?_))
  refine AWo.loadAgg tbok (vs := (fel ((u + (21888242871839275222246405745257275088548364400416034343698204186575808495617 - v)) % 21888242871839275222246405745257275088548364400416034343698204186575808495617)).map (vi .u64)) rfl rfl rfl rfl (by simp [fel_len]) (ld4 (fel_len _)) rfl rfl ?_
  refine yP (build50 (by exact digs_len _ _) rfl) ?_
  refine ySA ?_
  refine zN (zE ?_)
  exact rq [] [.cell 4 50]
set_option maxRecDepth 10000 in
theorem enegP_ctr {v : Nat} (hv : v < 21888242871839275222246405745257275088548364400416034343698204186575808495617) : GC Try.prog 95 [.agg ((fel v).map (vi .u64)).toArray] [] [.agg ((fel ((0 + (21888242871839275222246405745257275088548364400416034343698204186575808495617 - v)) % 21888242871839275222246405745257275088548364400416034343698204186575808495617)).map (vi .u64)).toArray] [] := by
 refine gi Try.func95 ?_
 have hd1 := fel_len v
 have hd2 := fel_len ((0 + (21888242871839275222246405745257275088548364400416034343698204186575808495617 - v)) % 21888242871839275222246405745257275088548364400416034343698204186575808495617)
 refine zS ?_
 refine yO 2000 1 ((fel v).map (vi .u64)) ?_
 refine yN 3000 1 _ ?_
 refine zN (zS ?_)
 refine yP ((PureOp.buildStruct [] pl50.choose_spec.1 zr50 (by decide) pl50.choose_spec.2 rfl rfl).mono (v' := .agg ((fel 0).map (vi .u64)).toArray) (by rw [fel_zero]; rfl)) ?_
 refine AWo.loadAgg tbok (vs := (fel v).map (vi .u64)) rfl rfl rfl rfl (by simp [fel_len]) (ld4 (fel_len _)) rfl rfl ?_
 refine yC (esubP_ctr (u := 0) (v := v) hv) bd94 [] [] ?_
 refine ySA ?_
 refine zN (zE ?_)
 exact rq [] [.cell 2 50]
set_option maxRecDepth 10000 in
theorem esqP_ctr {v : Nat} : GC Try.prog 107 [.agg ((fel v).map (vi .u64)).toArray] [] [.agg ((fel (v * v % 21888242871839275222246405745257275088548364400416034343698204186575808495617)).map (vi .u64)).toArray] [] := by
 refine gi Try.func107 ?_
 have hd1 := fel_len v
 have hd2 := fel_len (v * v % 21888242871839275222246405745257275088548364400416034343698204186575808495617)
 refine zS ?_
 refine yO 2000 1 ((fel v).map (vi .u64)) ?_
 refine yN 3000 1 _ ?_
 refine zN (zS ?_)
 refine AWo.loadAgg tbok (vs := (fel v).map (vi .u64)) rfl rfl rfl rfl (by simp [fel_len]) (ld4 (fel_len _)) rfl rfl ?_
 refine AWo.loadAgg tbok (vs := (fel v).map (vi .u64)) rfl rfl rfl rfl (by simp [fel_len]) (ld4 (fel_len _)) rfl rfl ?_
 refine yC (emulP_ctr (u := v) (v := v)) bd91 [] [] ?_
 refine ySA ?_
 refine zN (zE ?_)
 exact rq [] [.cell 2 50]
set_option maxRecDepth 10000 in
theorem fromuP_ctr {x : Nat} (hx : x < 18446744073709551616) : GC Try.prog 82 [vi .u64 (x)] [] [.agg ((fel x).map (vi .u64)).toArray] [] := by
 refine gi Try.func82 ?_
 have hd1 := fel_len (num 18446744073709551616 (digs 18446744073709551616 4 x))
 have hd2 := fel_len x
 have h4 : x < 18446744073709551616 ^ 4 := Nat.lt_of_lt_of_le hx (by decide)
 refine zS ?_
 refine yN 3000 1 _ ?_
 refine zN (zS ?_)
 refine yM ?_
 refine yP ((PureOp.buildArr tbok [(0, vi .u64 x)] rfl rfl rfl (by decide) rfl rfl).mono (v' := .agg ((digs 18446744073709551616 4 x).map (vi .u64)).toArray) (by rw [one_word hx]; rfl)) ?_
 refine yC (enter_ctr (a := digs 18446744073709551616 4 x) (digs_bd (by decide) _ _) (digs_len _ _) (by rw [num_digs_lt h4]; exact Nat.lt_trans hx (by decide))) bd134 [] [] ?_
 rw [num_digs_lt h4]
 refine ySA ?_
 refine zN (zE ?_)
 exact rq [] [.cell 2 50]
set_option maxRecDepth 10000 in
theorem eexp_ctr {v : Nat} {e : List Nat} (hv : v < 21888242871839275222246405745257275088548364400416034343698204186575808495617) (he : bd 18446744073709551616 e) (hle : e.length ≤ 1000) : GC Try.prog 87 [.agg ((fel v).map (vi .u64)).toArray, .slice (some ⟨0, 0, none⟩) e.length 0] [⟨e.map (vi .u64), false, 1⟩] [.agg ((fel (v ^ num 18446744073709551616 e % 21888242871839275222246405745257275088548364400416034343698204186575808495617)).map (vi .u64)).toArray] [⟨e.map (vi .u64), false, 1⟩] := by
 refine gi Try.func87 ?_
 have hbw := blen_words he
 have hle2 : e.length ≤ 1000 := hle
 have hd4 := fel_len v
 refine zS ?_
 refine yO 3000 1 ((fel v).map (vi .u64)) ?_
 refine yN 5000 1 _ ?_
 refine zN (zS ?_)
 refine yC (fromuP_ctr (x := 1) (by decide)) bd82 [] [] ?_
 refine yN 6000 1 _ ?_
 refine ySA ?_
 refine zN (zQ (zS ?_))
 refine yM ?_
 refine yC (lbits_ctr he (by omega)) bd66 [(0, 0)] [] ?_
 refine yP ((PureOp.subP rfl rfl (by omega)).mono (v' := vp (blen (num 18446744073709551616 e))) (by rfl)) ?_
 refine yA ?_
 refine zN (zB ?_)
 refine AW.loopw (fun mm σ => ∃ z, ∃ r, (r ≤ blen (num 18446744073709551616 e) ∧ z = v ^ (num 18446744073709551616 e / 2 ^ r) % 21888242871839275222246405745257275088548364400416034343698204186575808495617) ∧ mm = 1 * r ∧ σ = ⟨(upd (upd (upd (upd (upd emp 1 (.slice (some ⟨0, 0, none⟩) e.length 0)) 2 (.pointer (some ⟨3000, 0, none⟩))) 4 (.pointer (some ⟨5000, 0, none⟩))) 5 (.pointer (some ⟨6000, 0, none⟩))) 6 (vp r)), (upd (upd (upd (upd emp 0 ⟨(e).map (vi .u64), false, 1⟩) 3000 ⟨(fel v).map (vi .u64), true, 1⟩) 5000 ⟨(List.replicate 4 0).map (vi .u64), true, 1⟩) 6000 ⟨(fel z).map (vi .u64), true, 1⟩)⟩) (fm := []) (wk [0, 3000, 5000, 6000]) ⟨1, blen (num 18446744073709551616 e), ⟨Nat.le_refl _, by rw [num_lt_blen]; rfl⟩, rfl, rfl⟩ ?_
 rintro mm σ ⟨z, r, ⟨hr0, hz⟩, rfl, rfl⟩
 have hdz := fel_len z
 have hdz2 := fel_len (z * z % 21888242871839275222246405745257275088548364400416034343698204186575808495617)
 have hdz3 := fel_len (z * z % 21888242871839275222246405745257275088548364400416034343698204186575808495617 * v % 21888242871839275222246405745257275088548364400416034343698204186575808495617)
 refine zQ (zS ?_)
 refine yM ?_
 refine yP (PureOp.geP rfl rfl) ?_
 refine zN ?_
 refine zA (fun hb0 => ?_) (fun hb0 => ?_)
 ·
  have hp0 : 0 < r := by simpa using hb0
  obtain ⟨r, rfl⟩ : ∃ q, r = q + 1 := ⟨r - 1, by omega⟩
  rw [vp_succ]
  have hal := bit_len he (show r < blen (num 18446744073709551616 e) by omega)
  refine zK (zT (zQ (zB (zS ?_))))
  refine AWo.loadAgg tbok (vs := (fel z).map (vi .u64)) rfl rfl rfl rfl (by simp [fel_len]) (ld4 (fel_len _)) rfl rfl ?_
  refine yC (esqP_ctr (v := z)) bd107 [] [] ?_
  refine ySA ?_
  refine zN (zS ?_)
  refine yM ?_
  refine yM ?_
  refine yP ((PureOp.quoN (b := 64) 9223372036854775808 rfl rfl (by decide) (by decide) (by decide) (by omega)).mono (v' := vi .i64 (r / 64)) rfl) ?_
  refine yP pJ ?_
  refine yL 0 ?_
  refine yM ?_
  refine yP ((PureOp.remN (b := 64) rfl rfl (by decide)).mono (v' := vi .i64 (r % 64)) rfl) ?_
  refine yP (PureOp.shrN (b := r % 64) 64 rfl rfl rfl (by omega)) ?_
  refine yP ((PureOp.andN 18446744073709551616 rfl rfl (by decide) (by decide) (Nat.lt_of_le_of_lt (Nat.div_le_self _ _) (bd_getD he (by decide) _)) (by decide)).mono (v' := vi .u64 (num 18446744073709551616 e / 2 ^ r % 2)) (congrArg (vi .u64) ((Nat.and_one_is_mod _).trans (bit64_at he r)))) ?_
  refine yP (pEq (b := 1)) ?_
  refine zN ?_
  refine zA (fun hb1 => ?_) (fun hb1 => ?_)
  ·
   have hb2 : num 18446744073709551616 e / 2 ^ r % 2 = 1 := by simpa using hb1
   refine zR ?_
   refine AWo.loadAgg tbok (vs := (fel (z * z % 21888242871839275222246405745257275088548364400416034343698204186575808495617)).map (vi .u64)) rfl rfl rfl rfl (by simp [fel_len]) (ld4 (fel_len _)) rfl rfl ?_
   refine AWo.loadAgg tbok (vs := (fel v).map (vi .u64)) rfl rfl rfl rfl (by simp [fel_len]) (ld4 (fel_len _)) rfl rfl ?_
   refine yC (emulP_ctr (u := z * z % 21888242871839275222246405745257275088548364400416034343698204186575808495617) (v := v)) bd91 [] [] ?_
   refine ySA ?_
   refine zN (zL (zT (zR ?_)))
   refine yM ?_
   refine yP (PureOp.subP rfl rfl (by omega)) ?_
   refine yA ?_
   refine zN (zT ?_)
   exact ⟨1 * r, [], _, by omega, wk [0, 3000, 5000, 6000], z * z % 21888242871839275222246405745257275088548364400416034343698204186575808495617 * v % 21888242871839275222246405745257275088548364400416034343698204186575808495617, r, ⟨by omega, by rw [← exp_odd hz hb2, Nat.mod_eq_of_lt hv]⟩, rfl, rfl⟩
  ·
   have hb2 : ¬ num 18446744073709551616 e / 2 ^ r % 2 = 1 := by simpa using hb1
   refine zK (zL (zT (zR ?_)))
   refine yM ?_
   refine yP (PureOp.subP rfl rfl (by omega)) ?_
   refine yA ?_
   refine zN (zT ?_)
   exact ⟨1 * r, [], _, by omega, wk [0, 3000, 5000, 6000], z * z % 21888242871839275222246405745257275088548364400416034343698204186575808495617, r, ⟨by omega, exp_even hz hb2⟩, rfl, rfl⟩
 ·
  obtain rfl : r = 0 := by simpa using hb0
  rw [Nat.pow_zero, Nat.div_one] at hz
  rw [← hz]
  refine zX (zV (zV (zH (zT (zS ?_)))))
  refine AWo.loadAgg tbok (vs := (fel z).map (vi .u64)) rfl rfl rfl rfl (by simp [fel_len]) (ld4 (fel_len _)) rfl rfl ?_
  refine ySA ?_
  refine zN (zE ?_)
  exact rq [] [.cell 4 50]
theorem eexp_ctrN {e : List Nat} {ne xe : Nat} (hne : e.length = ne) (hxe : num 18446744073709551616 e = xe) {v : Nat} (hv : v < 21888242871839275222246405745257275088548364400416034343698204186575808495617) (he : bd 18446744073709551616 e) (hle : e.length ≤ 1000) : GC Try.prog 87 [.agg ((fel v).map (vi .u64)).toArray, .slice (some ⟨0, 0, none⟩) ne 0] [⟨e.map (vi .u64), false, 1⟩] [.agg ((fel (v ^ xe % 21888242871839275222246405745257275088548364400416034343698204186575808495617)).map (vi .u64)).toArray] [⟨e.map (vi .u64), false, 1⟩] := by
 subst hne hxe
 exact eexp_ctr hv he hle
set_option maxRecDepth 10000 in
theorem einv_ctr {v e : Nat} (he : e = 21888242871839275222246405745257275088548364400416034343698204186575808495617 - 2) (hv : v < 21888242871839275222246405745257275088548364400416034343698204186575808495617) : GC Try.prog 89 [.agg ((fel v).map (vi .u64)).toArray] [] [.agg ((fel (v ^ e % 21888242871839275222246405745257275088548364400416034343698204186575808495617)).map (vi .u64)).toArray] [] := by
 refine gi Try.func89 ?_
 have hd4 := fel_len v
 refine zS ?_
 refine yO 2000 1 ((fel v).map (vi .u64)) ?_
 refine yN 3000 1 _ ?_
 refine zN (zS ?_)
 refine yC (prime_ctr) bd136 [] [] ?_
 refine yN 4000 1 ((List.replicate 4 0).map (vi .u64)) ?_
 refine ySA ?_
 refine zN (zS ?_)
 refine yP (pA (j := 0)) ?_
 refine AWo.load tbok (v := vi .u64 4891460686036598785) rfl rfl rfl (by kernel_rfl) rfl rfl ?_
 refine yP ((PureOp.subU (b := 2) 18446744073709551616 rfl rfl rfl rfl (by decide)).mono (v' := vi .u64 4891460686036598783) (congrArg (vi .u64) (by decide))) ?_
 refine yP (pA (j := 0)) ?_
 refine AWo.storeM (f := (vi .u64)) (y := 4891460686036598783) tbok rfl rfl rfl rfl (by rw [digs_len]; decide) rfl rfl ?_
 rw [inv_words he]
 refine zN ?_
 refine AW.seqD mixed ?_
 refine AWo.loadAgg tbok (vs := (fel v).map (vi .u64)) rfl rfl rfl rfl (by simp [fel_len]) (ld4 (fel_len _)) rfl rfl ?_
 refine AWo.sliceA tbok (h := 4) rfl .none .none rfl rfl rfl rfl (by decide) (by decide) (.inl rfl) (by simp [digs_len]) rfl rfl rfl ?_
 refine yC (eexp_ctrN (v := v) (e := digs 18446744073709551616 4 e) (ne := 4) (xe := e) (digs_len _ _) (num_digs_lt (by rw [he]; decide)) hv (digs_bd (by decide) _ _) (by rw [digs_len]; decide)) bd87 [(4000, 0)] [] ?_
 refine ySA ?_
 refine zD (zE ?_)
 exact rq [] [.cell 2 50]
set_option maxRecDepth 10000 in
theorem isT_ctr {v : Nat} (hv : v < 21888242871839275222246405745257275088548364400416034343698204186575808495617) : GC Try.prog 46 [.agg ((fel v).map (vi .u64)).toArray, .slice (some ⟨0, 0, none⟩) (D 4294967296 v).length 0] [⟨(D 4294967296 v).map (vi .u64), false, 1⟩] [.bool true] [⟨(D 4294967296 v).map (vi .u64), false, 1⟩] := by
 refine gi Try.func46 ?_
 have hd4 := fel_len v
 have hd7 := digs_len (B := 256) 32 v
 refine zS ?_
 refine yO 3000 1 ((fel v).map (vi .u64)) ?_
 refine yA ?_
 refine zN (zS ?_)
 refine AWo.loadAgg tbok (vs := (fel v).map (vi .u64)) rfl rfl rfl rfl (by simp [fel_len]) (ld4 (fel_len _)) rfl rfl ?_
 refine yC (ebytes_ctr hv) bd43 [] [] ?_
 refine yN 6000 1 ((List.replicate 32 0).map (vi .u8)) ?_
 refine ySA ?_
 refine zN ?_
 refine AW.seqD mixed ?_
 refine AWo.sliceA tbok (h := 32) rfl .none .none rfl rfl rfl rfl (by decide) (by decide) (.inl rfl) (by simp [digs_len]) rfl rfl rfl ?_
 refine AWo.bytesStr tbok (digs 256 32 v) rfl rfl (List.take_of_length_le (by simp [digs_len])) (digs_len _ _) rfl Try.underlying5 Try.underlying9 rfl rfl ?_
 refine yM ?_
 refine yC (bytes02_ctr (Nat.lt_trans hv (by decide))) bd99 [(0, 0)] [12000] ?_
 refine AWo.bytesStr tbok (digs 256 32 v) rfl rfl (List.take_of_length_le (by simp [digs_len])) (digs_len _ _) rfl Try.underlying5 Try.underlying9 rfl rfl ?_
 refine yP (PureOp.sameStr rfl rfl) ?_
 refine yA ?_
 refine zD (zE ?_)
 exact rq [] [.tmp 4]
end Go.Proofs.Ytiikffiembcboaa
namespace Go.Proofs.Ytiikffiembcboaa
open Go Sim
theorem inv02X_ctr {x p : Nat} (hp : p = 21888242871839275222246405745257275088548364400416034343698204186575808495617 - 2) (hx : x < 21888242871839275222246405745257275088548364400416034343698204186575808495617) : GC Try.prog 90 [.slice (some ⟨0, 0, none⟩) (D 4294967296 x).length 0] [⟨(D 4294967296 x).map (vi .u64), false, 1⟩] [.slice (some ⟨1, 0, none⟩) (D 4294967296 (x ^ p % 21888242871839275222246405745257275088548364400416034343698204186575808495617)).length 0] [⟨(D 4294967296 x).map (vi .u64), false, 1⟩, ⟨(D 4294967296 (x ^ p % 21888242871839275222246405745257275088548364400416034343698204186575808495617)).map (vi .u64), true, 1⟩] := by
 subst hp; exact inv02_ctr hx
end Go.Proofs.Ytiikffiembcboaa
namespace Go.Proofs.Ytiikffiembcboaa.Rg
variable {n : Nat} [NeZero n] {x y z u v w : Fin n}
theorem add_comm (x y : Fin n) : x + y = y + x := by grind
theorem mul_comm (x y : Fin n) : x * y = y * x := by grind
theorem mul_assoc (x y z : Fin n) : x * (y * z) = x * y * z := by grind
theorem mul_add (x y z : Fin n) : x * (y + z) = x * y + x * z := by grind
theorem mul_one (x : Fin n) : x * 1 = x := by grind
theorem one_mul (x : Fin n) : 1 * x = x := by grind
theorem sub_self (x : Fin n) : x - x = 0 := by grind
theorem zero_mul (x : Fin n) : 0 * x = 0 := by grind
theorem mul_zero (x : Fin n) : x * 0 = 0 := by grind
theorem add_zero (x : Fin n) : x + 0 = x := by grind
theorem zero_add (x : Fin n) : 0 + x = x := by grind
theorem add_assoc (x y z : Fin n) : x + y + z = x + (y + z) := by grind
end Go.Proofs.Ytiikffiembcboaa.Rg
namespace Go.Proofs.Ytiikffiembcboaa
open Go Sim
abbrev Fp := Fin 21888242871839275222246405745257275088548364400416034343698204186575808495617
def fe (x : Fp) : List Nat := fel x.val
def fp (v : Nat) : Fp := ⟨v % 21888242871839275222246405745257275088548364400416034343698204186575808495617, Nat.mod_lt _ (by decide)⟩
@[irreducible] def fpw (x : Fp) (k : Nat) : Fp := ⟨x.val ^ k % 21888242871839275222246405745257275088548364400416034343698204186575808495617, Nat.mod_lt _ (by decide)⟩
@[irreducible] def finv (x : Fp) : Fp := fpw x (21888242871839275222246405745257275088548364400416034343698204186575808495617 - 2)
@[simp] theorem fe_len (x : Fp) : (fe x).length = 4 := fel_len _
theorem fe_inj {x y : Fp} (h : fe x = fe y) : x = y := Fin.ext (fel_inj x.isLt y.isLt h)
theorem fe_eq {x y : Fp} : fe x = fe y ↔ x = y := ⟨fe_inj, fun h => by rw [h]⟩
theorem fe_zero : fe 0 = List.replicate 4 0 := fel_zero
theorem fpw_val (x : Fp) (k : Nat) : (fpw x k).val = x.val ^ k % 21888242871839275222246405745257275088548364400416034343698204186575808495617 := by unfold fpw; rfl
theorem val_len (x : Fp) : (D 4294967296 x.val).length ≤ 9 := dl9 (Nat.lt_trans x.isLt (by decide))
theorem val_lt9 (x : Fp) : (D 4294967296 x.val).length < 1000000 := Nat.lt_of_le_of_lt (val_len x) (by decide)
theorem addF_ctr {x y : Fp} : GC Try.prog 92 [.agg ((fe x).map (vi .u64)).toArray, .agg ((fe y).map (vi .u64)).toArray] [] [.agg ((fe (x + y)).map (vi .u64)).toArray] [] := eaddP_ctr (u := x.val) (v := y.val)
theorem subF_ctr {x y : Fp} : GC Try.prog 94 [.agg ((fe x).map (vi .u64)).toArray, .agg ((fe y).map (vi .u64)).toArray] [] [.agg ((fe (x - y)).map (vi .u64)).toArray] [] := by
  have h := esubP_ctr (u := x.val) (v := y.val) y.isLt
  rwa [Nat.add_comm x.val] at h
theorem negF_ctr {x : Fp} : GC Try.prog 95 [.agg ((fe x).map (vi .u64)).toArray] [] [.agg ((fe (-x)).map (vi .u64)).toArray] [] := by
  have h := enegP_ctr (v := x.val) x.isLt
  rwa [Nat.zero_add] at h
theorem mulF_ctr {x y : Fp} : GC Try.prog 91 [.agg ((fe x).map (vi .u64)).toArray, .agg ((fe y).map (vi .u64)).toArray] [] [.agg ((fe (x * y)).map (vi .u64)).toArray] [] := emulP_ctr (u := x.val) (v := y.val)
theorem sqF_ctr {x : Fp} : GC Try.prog 107 [.agg ((fe x).map (vi .u64)).toArray] [] [.agg ((fe (x * x)).map (vi .u64)).toArray] [] := esqP_ctr (v := x.val)
theorem invF_ctr {x : Fp} : GC Try.prog 89 [.agg ((fe x).map (vi .u64)).toArray] [] [.agg ((fe (finv x)).map (vi .u64)).toArray] [] := by
  obtain ⟨e, he⟩ : ∃ e, e = 21888242871839275222246405745257275088548364400416034343698204186575808495617 - 2 := ⟨_, rfl⟩
  have h := einv_ctr (v := x.val) (e := e) he x.isLt
  have h2 : x.val ^ e % 21888242871839275222246405745257275088548364400416034343698204186575808495617 = (finv x).val := by unfold finv; rw [fpw_val, he]
  rwa [h2] at h
theorem equalF_ctr {x y : Fp} : GC Try.prog 40 [.agg ((fe x).map (vi .u64)).toArray, .agg ((fe y).map (vi .u64)).toArray] [] [.bool (decide (x = y))] [] := by
  have h := equal_ctr (a := fe x) (b := fe y) (fe_len x) (fe_len y)
  rwa [show decide (fe x = fe y) = decide (x = y) from decide_eq_decide.2 fe_eq] at h
theorem iszeroF_ctr {x : Fp} : GC Try.prog 39 [.agg ((fe x).map (vi .u64)).toArray] [] [.bool (decide (x = 0))] [] := by
  have h := iszero_ctr (a := fe x) (fe_len x)
  rwa [show decide (fe x = List.replicate 4 0) = decide (x = 0) from decide_eq_decide.2 (by rw [← fe_zero, fe_eq])] at h
theorem fromuF_ctr {v : Nat} (hv : v < 18446744073709551616) : GC Try.prog 82 [vi .u64 (v)] [] [.agg ((fe (fp v)).map (vi .u64)).toArray] [] := by
  have h := fromuP_ctr hv
  rwa [← fel_mod] at h
theorem isF_ctr {x : Fp} : GC Try.prog 46 [.agg ((fe x).map (vi .u64)).toArray, .slice (some ⟨0, 0, none⟩) (D 4294967296 x.val).length 0] [⟨(D 4294967296 x.val).map (vi .u64), false, 1⟩] [.bool true] [⟨(D 4294967296 x.val).map (vi .u64), false, 1⟩] := isT_ctr x.isLt
theorem addR_ctr {x y : Fp} : GC Try.prog 104 [.slice (some ⟨0, 0, none⟩) (D 4294967296 x.val).length 0, .slice (some ⟨1, 0, none⟩) (D 4294967296 y.val).length 0] [⟨(D 4294967296 x.val).map (vi .u64), false, 1⟩, ⟨(D 4294967296 y.val).map (vi .u64), false, 1⟩] [.slice (some ⟨2, 0, none⟩) (D 4294967296 ((x + y).val)).length 0] [⟨(D 4294967296 x.val).map (vi .u64), false, 1⟩, ⟨(D 4294967296 y.val).map (vi .u64), false, 1⟩, ⟨(D 4294967296 ((x + y).val)).map (vi .u64), true, 1⟩] := add02_ctr (x := x.val) (y := y.val) x.isLt y.isLt
theorem subR_ctr {x y : Fp} : GC Try.prog 105 [.slice (some ⟨0, 0, none⟩) (D 4294967296 x.val).length 0, .slice (some ⟨1, 0, none⟩) (D 4294967296 y.val).length 0] [⟨(D 4294967296 x.val).map (vi .u64), false, 1⟩, ⟨(D 4294967296 y.val).map (vi .u64), false, 1⟩] [.slice (some ⟨2, 0, none⟩) (D 4294967296 ((x - y).val)).length 0] [⟨(D 4294967296 x.val).map (vi .u64), false, 1⟩, ⟨(D 4294967296 y.val).map (vi .u64), false, 1⟩, ⟨(D 4294967296 ((x - y).val)).map (vi .u64), true, 1⟩] := by
  have h := sub02_ctr (x := x.val) (y := y.val) x.isLt y.isLt
  rwa [Nat.add_comm x.val] at h
theorem mulR_ctr {x y : Fp} : GC Try.prog 106 [.slice (some ⟨0, 0, none⟩) (D 4294967296 x.val).length 0, .slice (some ⟨1, 0, none⟩) (D 4294967296 y.val).length 0] [⟨(D 4294967296 x.val).map (vi .u64), false, 1⟩, ⟨(D 4294967296 y.val).map (vi .u64), false, 1⟩] [.slice (some ⟨2, 0, none⟩) (D 4294967296 ((x * y).val)).length 0] [⟨(D 4294967296 x.val).map (vi .u64), false, 1⟩, ⟨(D 4294967296 y.val).map (vi .u64), false, 1⟩, ⟨(D 4294967296 ((x * y).val)).map (vi .u64), true, 1⟩] := mul02_ctr (x := x.val) (y := y.val) x.isLt y.isLt
theorem invR_ctr {x : Fp} : GC Try.prog 90 [.slice (some ⟨0, 0, none⟩) (D 4294967296 x.val).length 0] [⟨(D 4294967296 x.val).map (vi .u64), false, 1⟩] [.slice (some ⟨1, 0, none⟩) (D 4294967296 ((finv x).val)).length 0] [⟨(D 4294967296 x.val).map (vi .u64), false, 1⟩, ⟨(D 4294967296 ((finv x).val)).map (vi .u64), true, 1⟩] := by
  obtain ⟨e, he⟩ : ∃ e, e = 21888242871839275222246405745257275088548364400416034343698204186575808495617 - 2 := ⟨_, rfl⟩
  have h := inv02X_ctr (x := x.val) (p := e) he x.isLt
  have h2 : x.val ^ e % 21888242871839275222246405745257275088548364400416034343698204186575808495617 = (finv x).val := by unfold finv; rw [fpw_val, he]
  rwa [h2] at h
section
variable {ops : Array Oper} {n i : Nat} {os : List Oper} {E : Env} {M : Mem} {D : List Eff → Prop} {K : ASt → Prop}
  {d : Tmp} {ty : TypeId} {ps : String} {af : Array Edge} {g : Option (Nat × Bool)} {t : TypeId} {a : Operand}
theorem yLE {x : Fp} {id sz : Nat} {rw : Bool} {es : Nat} (hr : AWo Try.prog ops n (i + 1) os ⟨upd E d (.agg ((fe x).map (vi .u64)).toArray), M⟩ (fun es => D (⟨[id], []⟩ :: es)) K)
    (ha : aev E a = some (.pointer (some ⟨id, 0, none⟩)) := by exact rfl) (hb : M id = some ⟨(fe x).map (vi .u64), rw, es⟩ := by exact rfl)
    (ht : Tb.agg.lookup t = some true := by exact rfl) (hs : Tb.sz.lookup t = some sz := by exact rfl) (hl : 4 = sz := by exact rfl) (hw : wantA ops E ⟨some d, .load t a, ty, ps, af, g⟩ = some true := by exact rfl) (hd : Nat.blt d n = true := by exact rfl) :
    AWo Try.prog ops n i (⟨some d, .load t a, ty, ps, af, g⟩ :: os) ⟨E, M⟩ D K := AWo.loadAll tbok ha hb ht hs (by simpa using hl) hw hd hr
theorem yLEi {xs : List Fp} {id j sz : Nat} {rw : Bool} {es : Nat} (hr : AWo Try.prog ops n (i + 1) os ⟨upd E d (.agg ((fe (xs.getD j 0)).map (vi .u64)).toArray), M⟩ (fun es => D (⟨[id], []⟩ :: es)) K)
    (ha : aev E a = some (.pointer (some ⟨id, 0 + j * 4, none⟩)) := by exact rfl) (hb : M id = some ⟨((xs.map fe).flatten).map (vi .u64), rw, es⟩ := by exact rfl) (hj : j < xs.length := by first | decide | omega)
    (ht : Tb.agg.lookup t = some true := by exact rfl) (hs : Tb.sz.lookup t = some sz := by exact rfl) (hl : 4 = sz := by exact rfl) (hw : wantA ops E ⟨some d, .load t a, ty, ps, af, g⟩ = some true := by exact rfl) (hd : Nat.blt d n = true := by exact rfl) :
    AWo Try.prog ops n i (⟨some d, .load t a, ty, ps, af, g⟩ :: os) ⟨E, M⟩ D K := by
  subst hl
  have hlen : ∀ x ∈ xs.map fe, x.length = 4 := fun x hx => by obtain ⟨y, _, rfl⟩ := List.mem_map.1 hx; exact fe_len y
  refine AWo.loadAgg tbok (vs := (fe (xs.getD j 0)).map (vi .u64)) ha hb ht hs ?_ ?_ hw hd hr
  · rw [List.length_map, flat_len hlen, List.length_map]; omega
  · rw [Nat.zero_add, flat_take_map hlen (by rw [List.length_map]; exact hj)]
    congr 1
    rw [List.getD_eq_getElem?_getD, List.getElem?_map, List.getElem?_eq_getElem hj, List.getD_eq_getElem?_getD, List.getElem?_eq_getElem hj]
    rfl
end
end Go.Proofs.Ytiikffiembcboaa
namespace Go.Proofs.Ytiikffiembcboaa
open Go Sim
abbrev dd (v : Nat) : Value := deep (D 4294967296 v).length 1 ((D 4294967296 v).map (vi .u64))
abbrev dv (x : Fp) : Value := dd x.val
abbrev db (b : List Nat) : Value := deep b.length 1 (b.map (vi .u8))
theorem cloA {α : Type} {f : α → Value} {l : List α} (hf : ∀ x, flatV (f x) = true) : cloV (.agg (l.map f).toArray) = true := by
  simp only [cloV, List.all_eq_true]
  intro x hx
  obtain ⟨y, _, rfl⟩ := List.mem_map.1 (by simpa using hx)
  simp [clo1, hf y]
theorem addRd {x y : Fp} : GC Try.prog 104 [dv x, dv y] [] [dv (x + y)] [] := GC.deepen (addR_ctr (x := x) (y := y)) (.deep (.deep .nil)) (.new (Nat.le_refl _) rfl (by simp) (cloM fun _ => rfl) .nil)
theorem subRd {x y : Fp} : GC Try.prog 105 [dv x, dv y] [] [dv (x - y)] [] := GC.deepen (subR_ctr (x := x) (y := y)) (.deep (.deep .nil)) (.new (Nat.le_refl _) rfl (by simp) (cloM fun _ => rfl) .nil)
theorem mulRd {x y : Fp} : GC Try.prog 106 [dv x, dv y] [] [dv (x * y)] [] := GC.deepen (mulR_ctr (x := x) (y := y)) (.deep (.deep .nil)) (.new (Nat.le_refl _) rfl (by simp) (cloM fun _ => rfl) .nil)
theorem invRd {x : Fp} : GC Try.prog 90 [dv x] [] [dv (finv x)] [] := GC.deepen (invR_ctr (x := x)) (.deep .nil) (.new (Nat.le_refl _) rfl (by simp) (cloM fun _ => rfl) .nil)
theorem ofRd {v : Nat} (hv : v < 18446744073709551616) : GC Try.prog 100 [vi .u64 (v)] [] [dd v] [] := GC.deepen (of02_ctr hv) (.pure rfl .nil) (.new (Nat.le_refl _) rfl (by simp) (cloM fun _ => rfl) .nil)
theorem isFd {x : Fp} : GC Try.prog 46 [.agg ((fe x).map (vi .u64)).toArray, dv x] [] [.bool true] [] := GC.deepen (isF_ctr (x := x)) (.pure (cloA flat_vi) (.deep .nil)) (.pure rfl .nil)
theorem sameRd {x y : Nat} (hx : (D 4294967296 x).length < 100000000) (hy : (D 4294967296 y).length < 100000000) : GC Try.prog 108 [dd x, dd y] [] [.bool (decide (x = y))] [] := GC.deepen (same02_ctr hx hy) (.deep (.deep .nil)) (.pure rfl .nil)
end Go.Proofs.Ytiikffiembcboaa
namespace Go.Proofs.Ytiikffiembcboaa
open Go Sim
def blk (L : List (List Nat)) (c : Nat) : List Nat := L.getD (c % L.length) []
end Go.Proofs.Ytiikffiembcboaa
namespace Go.Proofs.Ytiikffiembcboaa
open Go Sim
theorem setL_eq : ∀ (vs cells : List Value) (o : Nat), o + vs.length ≤ cells.length → setL cells o vs = cells.take o ++ vs ++ cells.drop (o + vs.length) := by
 intro vs
 induction vs with
 | nil => intro cells o _; simp [setL]
 | cons v vs ih =>
  intro cells o h
  simp only [List.length_cons] at h
  simp only [setL]
  rw [ih (cells.set o v) (o + 1) (by simp; omega), List.drop_set_of_lt (by omega)]
  have h1 : (cells.set o v).take (o + 1) = cells.take o ++ [v] := by
   rw [List.take_add_one, List.take_set_of_le (by omega), List.getElem?_set_self (by omega)]
   rfl
  rw [h1]
  simp [Nat.add_assoc, Nat.add_comm 1]
theorem fillB1 {b : List Nat} {c : Value} {k : IntKind} {n : Nat} (h : b.length = n) : fillL (fun i => some (i * n, n)) (List.replicate (1 * n) c) [(0, .agg (b.map (vi k)).toArray)] = some ([b].flatten.map (vi k)) := by
 simp only [fillL]
 rw [if_neg (by simp [Value.cells, h])]
 simp only [Value.cells]
 rw [setL_eq _ _ _ (by simp [h])]
 simp [h]
end Go.Proofs.Ytiikffiembcboaa
namespace Go.Proofs.Ytiikffiembcboaa
open Go Sim
attribute [local simp] digs_len
def bstr (xs : List Fp) (i : Nat) : Nat := (digs 256 32 (xs.getD (i / 31 % xs.length) 0).val).getD (i % 31) 0
def bts (xs : List Fp) (n : Nat) : List Nat := (List.range n).map (bstr xs)
@[simp] theorem bts_len (xs : List Fp) (n : Nat) : (bts xs n).length = n := by simp [bts]
theorem bts_step {xs : List Fp} {k n : Nat} (h : 31 * k < n) : bts xs (min (31 * k) n) ++ (digs 256 32 (xs.getD (k % xs.length) 0).val).take (min 31 (n - min (31 * k) n)) = bts xs (min (31 * (k + 1)) n) := by
  have h1 : min (31 * k) n = 31 * k := by omega
  rw [h1]
  obtain ⟨m, hm⟩ : ∃ m, m = min 31 (n - 31 * k) := ⟨_, rfl⟩
  rw [← hm, show min (31 * (k + 1)) n = 31 * k + m by omega]
  apply List.ext_getElem?
  intro i
  have hl : ((digs 256 32 (xs.getD (k % xs.length) 0).val).take m).length = m := by rw [List.length_take, digs_len]; omega
  rcases Nat.lt_or_ge i (31 * k) with hi | hi
  · rw [List.getElem?_append_left (by simpa using hi)]
    simp only [bts, List.getElem?_map, List.getElem?_range hi, List.getElem?_range (show i < 31 * k + m by omega)]
  · rw [List.getElem?_append_right (by simpa using hi), bts_len]
    rcases Nat.lt_or_ge i (31 * k + m) with hj | hj
    · simp only [bts, List.getElem?_map, List.getElem?_range hj, Option.map_some, bstr]
      rw [List.getElem?_take, if_pos (by omega), List.getElem?_eq_getElem (by rw [digs_len]; omega), show i / 31 = k by omega, show i % 31 = i - 31 * k by omega, List.getD_eq_getElem?_getD (i := i - 31 * k), List.getElem?_eq_getElem (by rw [digs_len]; omega)]
      rfl
    · rw [List.getElem?_eq_none (by omega), List.getElem?_eq_none (by simpa using hj)]
end Go.Proofs.Ytiikffiembcboaa
namespace Go.Proofs.Ytiikffiembcboaa
open Go Sim
theorem fe_flat (xs : List Fp) : ((xs.map fe).flatten).length = xs.length * 4 := by
 have := flat_len (L := xs.map fe) (n := 4) (fun x hx => by obtain ⟨y, _, rfl⟩ := List.mem_map.1 hx; exact fe_len y)
 rwa [List.length_map] at this
end Go.Proofs.Ytiikffiembcboaa
namespace Go.Proofs.Ytiikffiembcboaa
open Go Sim
theorem fp_mulN (a b : Nat) : fp (a * b) = fp a * fp b := Fin.ext (Nat.mul_mod a b 21888242871839275222246405745257275088548364400416034343698204186575808495617)
end Go.Proofs.Ytiikffiembcboaa
namespace Go.Proofs.Ytiikffiembcboaa
open Go Sim
set_option maxRecDepth 10000
theorem one4_ctr : GC Try.prog 147 [.int .i64 4] [] [.func (.func 95) #[] #[]] [] := by
 refine gi Try.func147 ?_
 refine zS ?_
 refine yA ?_
 refine zN (zS ?_)
 refine AWo.buildSlice tbok 5000 [(4, .func (.func 95) #[] #[]), (5, .func (.func 107) #[] #[]), (6, .func (.func 89) #[] #[])] rfl rfl (by decide) rfl rfl rfl (by decide) rfl rfl rfl rfl rfl ?_
 refine yA ?_
 refine zN (zQ (zS ?_))
 refine yM ?_
 refine yP ((PureOp.ltN (b := 4) rfl rfl).mono (v' := .bool false) rfl) ?_
 refine yM ?_
 refine yM ?_
 refine yM ?_
 refine yP pL ?_
 refine yP ((PureOp.geN rfl rfl).mono (v' := .bool false) rfl) ?_
 refine yP pE ?_
 refine zN (zF (zK (zT (zS ?_))))
 refine yM ?_
 refine yM ?_
 refine yP (pJ (j := 4)) ?_
 refine yL1 ?_
 refine yA ?_
 refine zN (zE ?_)
 exact rq [] [.tmp 2]
theorem one5_ctr : GC Try.prog 147 [.int .i64 5] [] [.func (.func 107) #[] #[]] [] := by
 refine gi Try.func147 ?_
 refine zS ?_
 refine yA ?_
 refine zN (zS ?_)
 refine AWo.buildSlice tbok 5000 [(4, .func (.func 95) #[] #[]), (5, .func (.func 107) #[] #[]), (6, .func (.func 89) #[] #[])] rfl rfl (by decide) rfl rfl rfl (by decide) rfl rfl rfl rfl rfl ?_
 refine yA ?_
 refine zN (zQ (zS ?_))
 refine yM ?_
 refine yP ((PureOp.ltN (b := 4) rfl rfl).mono (v' := .bool false) rfl) ?_
 refine yM ?_
 refine yM ?_
 refine yM ?_
 refine yP pL ?_
 refine yP ((PureOp.geN rfl rfl).mono (v' := .bool false) rfl) ?_
 refine yP pE ?_
 refine zN (zF (zK (zT (zS ?_))))
 refine yM ?_
 refine yM ?_
 refine yP (pJ (j := 5)) ?_
 refine yL1 ?_
 refine yA ?_
 refine zN (zE ?_)
 exact rq [] [.tmp 2]
theorem one6_ctr : GC Try.prog 147 [.int .i64 6] [] [.func (.func 89) #[] #[]] [] := by
 refine gi Try.func147 ?_
 refine zS ?_
 refine yA ?_
 refine zN (zS ?_)
 refine AWo.buildSlice tbok 5000 [(4, .func (.func 95) #[] #[]), (5, .func (.func 107) #[] #[]), (6, .func (.func 89) #[] #[])] rfl rfl (by decide) rfl rfl rfl (by decide) rfl rfl rfl rfl rfl ?_
 refine yA ?_
 refine zN (zQ (zS ?_))
 refine yM ?_
 refine yP ((PureOp.ltN (b := 4) rfl rfl).mono (v' := .bool false) rfl) ?_
 refine yM ?_
 refine yM ?_
 refine yM ?_
 refine yP pL ?_
 refine yP ((PureOp.geN rfl rfl).mono (v' := .bool false) rfl) ?_
 refine yP pE ?_
 refine zN (zF (zK (zT (zS ?_))))
 refine yM ?_
 refine yM ?_
 refine yP (pJ (j := 6)) ?_
 refine yL1 ?_
 refine yA ?_
 refine zN (zE ?_)
 exact rq [] [.tmp 2]
theorem oneN_ctr {z : Int} (hz : z < 4 ∨ 7 ≤ z) : GC Try.prog 147 [.int .i64 z] [] [.nilFunc] [] := by
 refine gi Try.func147 ?_
 refine zS ?_
 refine yA ?_
 refine zN (zS ?_)
 refine AWo.buildSlice tbok 5000 [(4, .func (.func 95) #[] #[]), (5, .func (.func 107) #[] #[]), (6, .func (.func 89) #[] #[])] rfl rfl (by decide) rfl rfl rfl (by decide) rfl rfl rfl rfl rfl ?_
 refine yA ?_
 refine zN (zQ (zS ?_))
 refine yM ?_
 refine yB (PureOp.bin rfl rfl rfl) (fun hb0 => ?_) (fun hb0 => ?_)
 ·
  refine yM ?_
  refine yK ?_
  refine yK ?_
  refine yK ?_
  refine yK ?_
  refine yP pT ?_
  refine zN (zC (zS ?_))
  refine yA ?_
  refine zN (zE (zU ?_))
  exact rq [] [.tmp 2]
 ·
  have h6 : 4 ≤ z := by simpa using hb0
  refine yM ?_
  refine yM ?_
  refine yM ?_
  refine yP pL ?_
  refine yB (PureOp.bin rfl rfl rfl) (fun hb1 => ?_) (fun hb1 => ?_)
  ·
   refine yP pE ?_
   refine zN (zC (zS ?_))
   refine yA ?_
   refine zN (zE (zU ?_))
   exact rq [] [.tmp 2]
  ·
   have h11 : z < 7 := by simpa using hb1
   omega
theorem fsame_ctr {x y : Fp} : GC Try.prog 152 [.agg ((fe x).map (vi .u64)).toArray, .agg ((fe y).map (vi .u64)).toArray] [] [.agg ((fe (if x = y then 1 else 0)).map (vi .u64)).toArray] [] := by
 refine gi Try.func152 ?_
 refine zS ?_
 refine yO 3000 1 _ ?_
 refine yO 4000 1 _ ?_
 refine yN 5000 1 _ ?_
 refine zN (zQ (zS ?_))
 refine yLE ?_
 refine yLE ?_
 refine yC (equalF_ctr) bd40 [] [] ?_
 refine zN ?_
 refine zA (fun hb0 => ?_) (fun hb0 => ?_)
 ·
  have hxy : x = y := by simpa using hb0
  rw [if_pos hxy]
  refine zS ?_
  refine yC (fromuF_ctr (v := 1) (by decide)) bd82 [] [] ?_
  refine ySA ?_
  refine zN (zE (zU ?_))
  exact rq [] [.cell 4 50]
 ·
  have hxy : x ≠ y := by simpa using hb0
  rw [if_neg hxy]
  refine zK (zT (zS ?_))
  refine yP (PureOp.buildStruct [] pl50.choose_spec.1 zr50 (by decide) pl50.choose_spec.2 rfl rfl) ?_
  refine ySA ?_
  refine zN (zE ?_)
  exact rq [] [.cell 4 50]
theorem need0_ctr {N : Nat} : GC Try.prog 132 [.agg #[.int .i64 0, vi .u64 N]] [] [vi .i64 (0)] [] := by
 refine gi Try.func132 ?_
 refine zS ?_
 refine yO 2000 1 _ ?_
 refine yA ?_
 refine zN (zQ (zS ?_))
 refine yP pF ?_
 refine yL1 ?_
 refine zN (zB (zS ?_))
 refine yP ((PureOp.eqN (b := 0) rfl rfl).mono (v' := .bool true) rfl) ?_
 refine yA ?_
 refine zN (zC (zS ?_))
 refine yA ?_
 refine zN (zE (zI (zU ?_)))
 exact rq [] [.tmp 2]
theorem need1_ctr {N : Nat} : GC Try.prog 132 [.agg #[.int .i64 1, vi .u64 N]] [] [vi .i64 (2)] [] := by
 refine gi Try.func132 ?_
 refine zS ?_
 refine yO 2000 1 _ ?_
 refine yA ?_
 refine zN (zQ (zS ?_))
 refine yP pF ?_
 refine yL1 ?_
 refine zN (zB (zS ?_))
 refine yP ((PureOp.eqN (b := 0) rfl rfl).mono (v' := .bool false) rfl) ?_
 refine yA ?_
 refine zN (zF (zQ (zS ?_)))
 refine yP ((PureOp.eqN (b := 4) rfl rfl).mono (v' := .bool false) rfl) ?_
 refine yA ?_
 refine zN (zF (zS ?_))
 refine yP ((PureOp.eqN (b := 5) rfl rfl).mono (v' := .bool false) rfl) ?_
 refine yA ?_
 refine zN (zF (zS ?_))
 refine yP ((PureOp.eqN (b := 6) rfl rfl).mono (v' := .bool false) rfl) ?_
 refine yA ?_
 refine zN (zF (zR ?_))
 refine yP ((PureOp.eqN (b := 9) rfl rfl).mono (v' := .bool false) rfl) ?_
 refine yA ?_
 refine zN (zT (zF (zS ?_)))
 refine yP ((PureOp.eqN (b := 7) rfl rfl).mono (v' := .bool false) rfl) ?_
 refine yA ?_
 refine zN (zF (zK (zL (zT (zS ?_)))))
 refine yA ?_
 refine zN (zE ?_)
 exact rq [] [.tmp 2]
theorem need2_ctr {N : Nat} : GC Try.prog 132 [.agg #[.int .i64 2, vi .u64 N]] [] [vi .i64 (2)] [] := by
 refine gi Try.func132 ?_
 refine zS ?_
 refine yO 2000 1 _ ?_
 refine yA ?_
 refine zN (zQ (zS ?_))
 refine yP pF ?_
 refine yL1 ?_
 refine zN (zB (zS ?_))
 refine yP ((PureOp.eqN (b := 0) rfl rfl).mono (v' := .bool false) rfl) ?_
 refine yA ?_
 refine zN (zF (zQ (zS ?_)))
 refine yP ((PureOp.eqN (b := 4) rfl rfl).mono (v' := .bool false) rfl) ?_
 refine yA ?_
 refine zN (zF (zS ?_))
 refine yP ((PureOp.eqN (b := 5) rfl rfl).mono (v' := .bool false) rfl) ?_
 refine yA ?_
 refine zN (zF (zS ?_))
 refine yP ((PureOp.eqN (b := 6) rfl rfl).mono (v' := .bool false) rfl) ?_
 refine yA ?_
 refine zN (zF (zR ?_))
 refine yP ((PureOp.eqN (b := 9) rfl rfl).mono (v' := .bool false) rfl) ?_
 refine yA ?_
 refine zN (zT (zF (zS ?_)))
 refine yP ((PureOp.eqN (b := 7) rfl rfl).mono (v' := .bool false) rfl) ?_
 refine yA ?_
 refine zN (zF (zK (zL (zT (zS ?_)))))
 refine yA ?_
 refine zN (zE ?_)
 exact rq [] [.tmp 2]
theorem need3_ctr {N : Nat} : GC Try.prog 132 [.agg #[.int .i64 3, vi .u64 N]] [] [vi .i64 (2)] [] := by
 refine gi Try.func132 ?_
 refine zS ?_
 refine yO 2000 1 _ ?_
 refine yA ?_
 refine zN (zQ (zS ?_))
 refine yP pF ?_
 refine yL1 ?_
 refine zN (zB (zS ?_))
 refine yP ((PureOp.eqN (b := 0) rfl rfl).mono (v' := .bool false) rfl) ?_
 refine yA ?_
 refine zN (zF (zQ (zS ?_)))
 refine yP ((PureOp.eqN (b := 4) rfl rfl).mono (v' := .bool false) rfl) ?_
 refine yA ?_
 refine zN (zF (zS ?_))
 refine yP ((PureOp.eqN (b := 5) rfl rfl).mono (v' := .bool false) rfl) ?_
 refine yA ?_
 refine zN (zF (zS ?_))
 refine yP ((PureOp.eqN (b := 6) rfl rfl).mono (v' := .bool false) rfl) ?_
 refine yA ?_
 refine zN (zF (zR ?_))
 refine yP ((PureOp.eqN (b := 9) rfl rfl).mono (v' := .bool false) rfl) ?_
 refine yA ?_
 refine zN (zT (zF (zS ?_)))
 refine yP ((PureOp.eqN (b := 7) rfl rfl).mono (v' := .bool false) rfl) ?_
 refine yA ?_
 refine zN (zF (zK (zL (zT (zS ?_)))))
 refine yA ?_
 refine zN (zE ?_)
 exact rq [] [.tmp 2]
theorem need4_ctr {N : Nat} : GC Try.prog 132 [.agg #[.int .i64 4, vi .u64 N]] [] [vi .i64 (1)] [] := by
 refine gi Try.func132 ?_
 refine zS ?_
 refine yO 2000 1 _ ?_
 refine yA ?_
 refine zN (zQ (zS ?_))
 refine yP pF ?_
 refine yL1 ?_
 refine zN (zB (zS ?_))
 refine yP ((PureOp.eqN (b := 0) rfl rfl).mono (v' := .bool false) rfl) ?_
 refine yA ?_
 refine zN (zF (zQ (zS ?_)))
 refine yP ((PureOp.eqN (b := 4) rfl rfl).mono (v' := .bool true) rfl) ?_
 refine yA ?_
 refine zN (zC (zK (zT (zC (zS ?_)))))
 refine yA ?_
 refine zN (zE (zI (zU ?_)))
 exact rq [] [.tmp 2]
theorem need5_ctr {N : Nat} : GC Try.prog 132 [.agg #[.int .i64 5, vi .u64 N]] [] [vi .i64 (1)] [] := by
 refine gi Try.func132 ?_
 refine zS ?_
 refine yO 2000 1 _ ?_
 refine yA ?_
 refine zN (zQ (zS ?_))
 refine yP pF ?_
 refine yL1 ?_
 refine zN (zB (zS ?_))
 refine yP ((PureOp.eqN (b := 0) rfl rfl).mono (v' := .bool false) rfl) ?_
 refine yA ?_
 refine zN (zF (zQ (zS ?_)))
 refine yP ((PureOp.eqN (b := 4) rfl rfl).mono (v' := .bool false) rfl) ?_
 refine yA ?_
 refine zN (zF (zS ?_))
 refine yP ((PureOp.eqN (b := 5) rfl rfl).mono (v' := .bool true) rfl) ?_
 refine yA ?_
 refine zN (zC (zK (zT (zC (zS ?_)))))
 refine yA ?_
 refine zN (zE (zI (zU ?_)))
 exact rq [] [.tmp 2]
theorem need6_ctr {N : Nat} : GC Try.prog 132 [.agg #[.int .i64 6, vi .u64 N]] [] [vi .i64 (1)] [] := by
 refine gi Try.func132 ?_
 refine zS ?_
 refine yO 2000 1 _ ?_
 refine yA ?_
 refine zN (zQ (zS ?_))
 refine yP pF ?_
 refine yL1 ?_
 refine zN (zB (zS ?_))
 refine yP ((PureOp.eqN (b := 0) rfl rfl).mono (v' := .bool false) rfl) ?_
 refine yA ?_
 refine zN (zF (zQ (zS ?_)))
 refine yP ((PureOp.eqN (b := 4) rfl rfl).mono (v' := .bool false) rfl) ?_
 refine yA ?_
 refine zN (zF (zS ?_))
 refine yP ((PureOp.eqN (b := 5) rfl rfl).mono (v' := .bool false) rfl) ?_
 refine yA ?_
 refine zN (zF (zS ?_))
 refine yP ((PureOp.eqN (b := 6) rfl rfl).mono (v' := .bool true) rfl) ?_
 refine yA ?_
 refine zN (zC (zK (zT (zC (zS ?_)))))
 refine yA ?_
 refine zN (zE (zI (zU ?_)))
 exact rq [] [.tmp 2]
theorem need7_ctr {N : Nat} (hN : N < 18446744073709551616) : GC Try.prog 132 [.agg #[.int .i64 7, vi .u64 N]] [] [vi .i64 (Nat.min N 64 + 1)] [] := by
 refine gi Try.func132 ?_
 have hmn : Nat.min N 64 ≤ 64 := Nat.min_le_right ..
 refine zS ?_
 refine yO 2000 1 _ ?_
 refine yA ?_
 refine zN (zQ (zS ?_))
 refine yP pF ?_
 refine yL1 ?_
 refine zN (zB (zS ?_))
 refine yP ((PureOp.eqN (b := 0) rfl rfl).mono (v' := .bool false) rfl) ?_
 refine yA ?_
 refine zN (zF (zQ (zS ?_)))
 refine yP ((PureOp.eqN (b := 4) rfl rfl).mono (v' := .bool false) rfl) ?_
 refine yA ?_
 refine zN (zF (zS ?_))
 refine yP ((PureOp.eqN (b := 5) rfl rfl).mono (v' := .bool false) rfl) ?_
 refine yA ?_
 refine zN (zF (zS ?_))
 refine yP ((PureOp.eqN (b := 6) rfl rfl).mono (v' := .bool false) rfl) ?_
 refine yA ?_
 refine zN (zF (zR ?_))
 refine yP ((PureOp.eqN (b := 9) rfl rfl).mono (v' := .bool false) rfl) ?_
 refine yA ?_
 refine zN (zT (zF (zS ?_)))
 refine yP ((PureOp.eqN (b := 7) rfl rfl).mono (v' := .bool true) rfl) ?_
 refine yA ?_
 refine zN (zC (zS ?_))
 refine yP pF ?_
 refine yL1 ?_
 refine yP (PureOp.minN (a := N) (b := 64) rfl rfl) ?_
 refine yP (PureOp.cvtN tbok 9223372036854775808 rfl rfl rfl (by decide) (by decide) (by omega)) ?_
 refine yP (pAdd (b := 1)) ?_
 refine yA ?_
 refine zN (zE (zI (zU ?_)))
 exact rq [] [.tmp 2]
theorem need8_ctr {N : Nat} : GC Try.prog 132 [.agg #[.int .i64 8, vi .u64 N]] [] [vi .i64 (2)] [] := by
 refine gi Try.func132 ?_
 refine zS ?_
 refine yO 2000 1 _ ?_
 refine yA ?_
 refine zN (zQ (zS ?_))
 refine yP pF ?_
 refine yL1 ?_
 refine zN (zB (zS ?_))
 refine yP ((PureOp.eqN (b := 0) rfl rfl).mono (v' := .bool false) rfl) ?_
 refine yA ?_
 refine zN (zF (zQ (zS ?_)))
 refine yP ((PureOp.eqN (b := 4) rfl rfl).mono (v' := .bool false) rfl) ?_
 refine yA ?_
 refine zN (zF (zS ?_))
 refine yP ((PureOp.eqN (b := 5) rfl rfl).mono (v' := .bool false) rfl) ?_
 refine yA ?_
 refine zN (zF (zS ?_))
 refine yP ((PureOp.eqN (b := 6) rfl rfl).mono (v' := .bool false) rfl) ?_
 refine yA ?_
 refine zN (zF (zR ?_))
 refine yP ((PureOp.eqN (b := 9) rfl rfl).mono (v' := .bool false) rfl) ?_
 refine yA ?_
 refine zN (zT (zF (zS ?_)))
 refine yP ((PureOp.eqN (b := 7) rfl rfl).mono (v' := .bool false) rfl) ?_
 refine yA ?_
 refine zN (zF (zK (zL (zT (zS ?_)))))
 refine yA ?_
 refine zN (zE ?_)
 exact rq [] [.tmp 2]
theorem need9_ctr {N : Nat} : GC Try.prog 132 [.agg #[.int .i64 9, vi .u64 N]] [] [vi .i64 (1)] [] := by
 refine gi Try.func132 ?_
 refine zS ?_
 refine yO 2000 1 _ ?_
 refine yA ?_
 refine zN (zQ (zS ?_))
 refine yP pF ?_
 refine yL1 ?_
 refine zN (zB (zS ?_))
 refine yP ((PureOp.eqN (b := 0) rfl rfl).mono (v' := .bool false) rfl) ?_
 refine yA ?_
 refine zN (zF (zQ (zS ?_)))
 refine yP ((PureOp.eqN (b := 4) rfl rfl).mono (v' := .bool false) rfl) ?_
 refine yA ?_
 refine zN (zF (zS ?_))
 refine yP ((PureOp.eqN (b := 5) rfl rfl).mono (v' := .bool false) rfl) ?_
 refine yA ?_
 refine zN (zF (zS ?_))
 refine yP ((PureOp.eqN (b := 6) rfl rfl).mono (v' := .bool false) rfl) ?_
 refine yA ?_
 refine zN (zF (zR ?_))
 refine yP ((PureOp.eqN (b := 9) rfl rfl).mono (v' := .bool true) rfl) ?_
 refine yA ?_
 refine zN (zT (zC (zS ?_)))
 refine yA ?_
 refine zN (zE (zI (zU ?_)))
 exact rq [] [.tmp 2]
theorem need10_ctr {N : Nat} : GC Try.prog 132 [.agg #[.int .i64 10, vi .u64 N]] [] [vi .i64 (2)] [] := by
 refine gi Try.func132 ?_
 refine zS ?_
 refine yO 2000 1 _ ?_
 refine yA ?_
 refine zN (zQ (zS ?_))
 refine yP pF ?_
 refine yL1 ?_
 refine zN (zB (zS ?_))
 refine yP ((PureOp.eqN (b := 0) rfl rfl).mono (v' := .bool false) rfl) ?_
 refine yA ?_
 refine zN (zF (zQ (zS ?_)))
 refine yP ((PureOp.eqN (b := 4) rfl rfl).mono (v' := .bool false) rfl) ?_
 refine yA ?_
 refine zN (zF (zS ?_))
 refine yP ((PureOp.eqN (b := 5) rfl rfl).mono (v' := .bool false) rfl) ?_
 refine yA ?_
 refine zN (zF (zS ?_))
 refine yP ((PureOp.eqN (b := 6) rfl rfl).mono (v' := .bool false) rfl) ?_
 refine yA ?_
 refine zN (zF (zR ?_))
 refine yP ((PureOp.eqN (b := 9) rfl rfl).mono (v' := .bool false) rfl) ?_
 refine yA ?_
 refine zN (zT (zF (zS ?_)))
 refine yP ((PureOp.eqN (b := 7) rfl rfl).mono (v' := .bool false) rfl) ?_
 refine yA ?_
 refine zN (zF (zK (zL (zT (zS ?_)))))
 refine yA ?_
 refine zN (zE ?_)
 exact rq [] [.tmp 2]
def needN (k N : Nat) : Nat := if k = 0 then 0 else if k = 4 ∨ k = 5 ∨ k = 6 ∨ k = 9 then 1 else if k = 7 then Nat.min N 64 + 1 else 2
theorem need_ctr {k N : Nat} (hk : k ≤ 10) (hN : N < 18446744073709551616) : GC Try.prog 132 [.agg #[vi .i64 k, vi .u64 N]] [] [vi .i64 (needN k N)] [] := by
 rcases (by omega : k = 0 ∨ k = 1 ∨ k = 2 ∨ k = 3 ∨ k = 4 ∨ k = 5 ∨ k = 6 ∨ k = 7 ∨ k = 8 ∨ k = 9 ∨ k = 10) with rfl | rfl | rfl | rfl | rfl | rfl | rfl | rfl | rfl | rfl | rfl
 · exact need0_ctr
 · exact need1_ctr
 · exact need2_ctr
 · exact need3_ctr
 · exact need4_ctr
 · exact need5_ctr
 · exact need6_ctr
 · exact need7_ctr hN
 · exact need8_ctr
 · exact need9_ctr
 · exact need10_ctr
end Go.Proofs.Ytiikffiembcboaa
namespace Go.Proofs.Ytiikffiembcboaa
open Go Sim
set_option maxRecDepth 10000
section
variable {ops : Array Oper} {n i : Nat} {os : List Oper} {E : Env} {M : Mem} {D : List Eff → Prop} {K : ASt → Prop} {ty : TypeId} {ps : String} {af : Array Edge} {g : Option (Nat × Bool)} {t : TypeId} {a x : Operand}
theorem yStE {XS : List Fp} {y : Fp} {id j sz : Nat} (hr' : AWo Try.prog ops n (i + 1) os ⟨E, upd M id ⟨(((XS.set j y).map fe).flatten).map (vi .u64), true, 4⟩⟩ (fun es' => D (⟨[id], [(id, ⟨(((XS.set j y).map fe).flatten).map (vi .u64), true, 4⟩)]⟩ :: es')) K)
    (ha : aev E a = some (.pointer (some ⟨id, 0 + j * 4, none⟩)) := by exact rfl) (hx : aev E x = some (.agg ((fe y).map (vi .u64)).toArray) := by exact rfl) (hb : M id = some ⟨((XS.map fe).flatten).map (vi .u64), true, 4⟩ := by exact rfl)
    (hj : j < XS.length := by first | decide | omega | (simp; omega)) (hs : Tb.sz.lookup t = some sz := by exact rfl) (h4 : 4 = sz := by exact rfl) (hw : wantA ops E ⟨none, .store t a x, ty, ps, af, g⟩ = some true := by exact rfl) :
    AWo Try.prog ops n i (⟨none, .store t a x, ty, ps, af, g⟩ :: os) ⟨E, M⟩ D K := by
  subst h4
  have hlen : ∀ x ∈ XS.map fe, x.length = 4 := fun x hx => by obtain ⟨y, _, rfl⟩ := List.mem_map.1 hx; exact fe_len y
  have hv : (Value.agg ((fe y).map (vi .u64)).toArray).cells = ((fe y).map (vi .u64)).toArray := rfl
  refine AWo.store tbok (v := .agg ((fe y).map (vi .u64)).toArray) ha hx hb rfl ?_ ?_ ?_ ?_ hw hr'
  · rw [hv]; simpa using hs
  · rw [hv]; simp only [List.size_toArray, List.length_map, fe_len, fe_flat]; omega
  · rw [hv]; exact oneM (fun _ => rfl) _
  · rw [hv, Nat.zero_add]
    show setL (((XS.map fe).flatten).map (vi .u64)) (j * 4) ((fe y).map (vi .u64)) = _
    rw [setL_row hlen (by rw [List.length_map]; exact hj) (fe_len y), List.map_set]
end
theorem part_take0 {XS : List Fp} {k : Nat} : (((XS.map fe).flatten).map (vi .u64)).take ((((XS.take k).map fe).flatten).map (vi .u64)).length = (((XS.take k).map fe).flatten).map (vi .u64) := by
  conv => lhs; arg 2; rw [← List.take_append_drop k XS, List.map_append, List.flatten_append, List.map_append]
  exact List.take_left
theorem part_le0 {XS : List Fp} {k : Nat} : ((((XS.take k).map fe).flatten).map (vi .u64)).length ≤ (((XS.map fe).flatten).map (vi .u64)).length := by
  rw [List.length_map, List.length_map, fe_flat, fe_flat, List.length_take]
  exact Nat.mul_le_mul_right _ (Nat.min_le_right ..)
theorem step1_ctr {k : Int} {f : FuncId} {g : Fp → Fp} {XS : List Fp} {N : Nat} (hl : XS.length ≤ 64) (h0 : 0 < XS.length) (h1 : GC Try.prog 147 [.int .i64 k] [] [.func (.func f) #[] #[]] []) (hbf : Bodied Try.prog f)
  (hg : ∀ x, GC Try.prog f [.agg ((fe x).map (vi .u64)).toArray] [] [.agg ((fe (g x)).map (vi .u64)).toArray] []) : GC Try.prog 133 [.pointer (some ⟨0, 0, none⟩), .agg #[.int .i64 k, vi .u64 N]] [⟨[.slice (some ⟨1, 0, none⟩) XS.length 0], true, 1⟩, ⟨(((XS).map fe).flatten).map (vi .u64), true, 4⟩] [] [⟨[.slice (some ⟨2, 0, none⟩) (XS.length) 0], true, 1⟩, ⟨[], false, 4⟩, ⟨(((XS.set (XS.length - 1) (g (XS.getD (XS.length - 1) 0))).map fe).flatten).map (vi .u64), true, 4⟩] := by
 refine gi Try.func133 ?_
 refine AW.moveC 0 1 77000 rfl rfl rfl (by decide) ?_
 refine zS ?_
 refine yO 4000 1 _ ?_
 refine zN (zS ?_)
 refine yM ?_
 refine yP (PureOp.nilCheck rfl) ?_
 refine yL1 ?_
 refine yP pL ?_
 refine yP (pSub (b := 1)) ?_
 refine yA ?_
 refine zN (zQ (zS ?_))
 refine yP pF ?_
 refine yL1 ?_
 refine yC (h1) bd147 [] [] ?_
 refine yA ?_
 refine zN (zS ?_)
 refine yM ?_
 refine yP (PureOp.fnNeNil Try.underlying114 rfl rfl) ?_
 refine zN (zC ?_)
 refine AW.seqD mixed ?_
 refine yM ?_
 refine yP (PureOp.nilCheck rfl) ?_
 refine yL1 ?_
 refine yM ?_
 refine yM ?_
 refine yM ?_
 refine yP (PureOp.nilCheck rfl) ?_
 refine yL1 ?_
 refine yM ?_
 refine yP (pI (j := XS.length - 1)) ?_
 refine yLEi ?_
 refine yC (hg (XS.getD (XS.length - 1) 0)) hbf [] [] ?_
 refine yP (pI (j := XS.length - 1)) ?_
 refine yStE ?_
 refine zD (zE (zU ?_))
 exact rq [77000] [] (hb := (OutL.whole rfl rfl (OkL.all rfl) (fun _ => rfl) (OutL.husk rfl rfl (OutL.flat rfl (flatM flat_vi) (fun _ => rfl) trivial))))
theorem step2_ctr {k : Int} {f : FuncId} {g : Fp → Fp → Fp} {XS : List Fp} {N : Nat} (hl : XS.length ≤ 64) (h0 : 2 ≤ XS.length) (h1 : GC Try.prog 147 [.int .i64 k] [] [.nilFunc] []) (h2 : GC Try.prog 148 [.int .i64 k] [] [.func (.func f) #[] #[]] []) (hbf : Bodied Try.prog f)
  (hg : ∀ x y, GC Try.prog f [.agg ((fe x).map (vi .u64)).toArray, .agg ((fe y).map (vi .u64)).toArray] [] [.agg ((fe (g x y)).map (vi .u64)).toArray] []) : GC Try.prog 133 [.pointer (some ⟨0, 0, none⟩), .agg #[.int .i64 k, vi .u64 N]] [⟨[.slice (some ⟨1, 0, none⟩) XS.length 0], true, 1⟩, ⟨(((XS).map fe).flatten).map (vi .u64), true, 4⟩] [] [⟨[.slice (some ⟨2, 0, none⟩) (XS.length - 1) 0], true, 1⟩, ⟨[], false, 4⟩, ⟨((((XS.set (XS.length - 2) (g (XS.getD (XS.length - 2) 0) (XS.getD (XS.length - 1) 0))).take (XS.length - 1)).map fe).flatten).map (vi .u64), true, 4⟩] := by
 refine gi Try.func133 ?_
 refine AW.moveC 0 1 77000 rfl rfl rfl (by decide) ?_
 refine zS ?_
 refine yO 4000 1 _ ?_
 refine zN (zS ?_)
 refine yM ?_
 refine yP (PureOp.nilCheck rfl) ?_
 refine yL1 ?_
 refine yP pL ?_
 refine yP (pSub (b := 1)) ?_
 refine yA ?_
 refine zN (zQ (zS ?_))
 refine yP pF ?_
 refine yL1 ?_
 refine yC (h1) bd147 [] [] ?_
 refine yA ?_
 refine zN (zS ?_)
 refine yM ?_
 refine yP (PureOp.nilFnNeNil Try.underlying114 rfl rfl) ?_
 refine zN (zF (zK (zT (zQ (zS ?_)))))
 refine yP pF ?_
 refine yL1 ?_
 refine yC (h2) bd148 [] [] ?_
 refine yA ?_
 refine zN (zS ?_)
 refine yM ?_
 refine yP (PureOp.fnNeNil Try.underlying168 rfl rfl) ?_
 refine zN (zC ?_)
 refine AW.seqD mixed ?_
 refine yM ?_
 refine yP (PureOp.nilCheck rfl) ?_
 refine yL1 ?_
 refine yM ?_
 refine yP ((PureOp.subI (b := 1) rfl rfl (by omega) (by omega)).mono (v' := vi .i64 (XS.length - 2)) (congrArg (vi .i64) (Nat.sub_sub ..))) ?_
 refine yM ?_
 refine yM ?_
 refine yP (PureOp.nilCheck rfl) ?_
 refine yL1 ?_
 refine yM ?_
 refine yP ((PureOp.subI (b := 1) rfl rfl (by omega) (by omega)).mono (v' := vi .i64 (XS.length - 2)) (congrArg (vi .i64) (Nat.sub_sub ..))) ?_
 refine yP (pI (j := XS.length - 2)) ?_
 refine yLEi ?_
 refine yM ?_
 refine yP (PureOp.nilCheck rfl) ?_
 refine yL1 ?_
 refine yM ?_
 refine yP (pI (j := XS.length - 1)) ?_
 refine yLEi ?_
 refine yC (hg (XS.getD (XS.length - 2) 0) (XS.getD (XS.length - 1) 0)) hbf [] [] ?_
 refine yP (pI (j := XS.length - 2)) ?_
 refine yStE ?_
 refine zD (zS ?_)
 refine yM ?_
 refine yM ?_
 refine yP (PureOp.nilCheck rfl) ?_
 refine yL1 ?_
 refine yM ?_
 refine AWo.sliceS tbok rfl .none (.some rfl) rfl rfl rfl rfl (by omega) (by omega) (.inl rfl) rfl rfl rfl ?_
 refine yP (PureOp.nilCheck rfl) ?_
 refine AWo.store1 tbok rfl rfl rfl rfl rfl Nat.zero_lt_one rfl rfl ?_
 refine zN (zE (zU ?_))
 exact rq [77000] [] (hb := (OutL.whole rfl rfl (OkL.all rfl) (fun _ => rfl) (OutL.husk rfl rfl (OutL.part rfl (part_take0 ) (flatM flat_vi) (fun _ => rfl) (part_le0 ) trivial))))
theorem stepp_ctr {XS : List Fp} {N : Nat} (hl : XS.length ≤ 64) (hN : N < 18446744073709551616) : GC Try.prog 133 [.pointer (some ⟨0, 0, none⟩), .agg #[.int .i64 0, vi .u64 N]] [⟨[.slice (some ⟨1, 0, none⟩) XS.length 0], true, 1⟩, ⟨(((XS).map fe).flatten).map (vi .u64), true, 4⟩] [] [⟨[.slice (some ⟨2, 0, none⟩) (XS.length + 1) 0], true, 1⟩, ⟨[], false, 4⟩, ⟨(((XS ++ [fp N]).map fe).flatten).map (vi .u64), true, 4⟩] := by
 refine gi Try.func133 ?_
 refine AW.moveC 0 1 77000 rfl rfl rfl (by decide) ?_
 refine zS ?_
 refine yO 4000 1 _ ?_
 refine zN (zS ?_)
 refine yM ?_
 refine yP (PureOp.nilCheck rfl) ?_
 refine yL1 ?_
 refine yP pL ?_
 refine yP (PureOp.subP rfl rfl (by omega)) ?_
 refine yA ?_
 refine zN (zQ (zS ?_))
 refine yP pF ?_
 refine yL1 ?_
 refine AWo.callX (oneN_ctr (by omega)) bd147 [] [] rfl (.cons rfl .nil) rfl (.cons rfl rfl .nil) .nil rfl .nil frN (by decide) (.cons rfl rfl .nil) rfl rfl rfl rfl ?_
 refine yA ?_
 refine zN (zS ?_)
 refine yM ?_
 refine yP (PureOp.nilFnNeNil Try.underlying114 rfl rfl) ?_
 refine zN (zF (zK (zT (zQ (zS ?_)))))
 refine yP pF ?_
 refine yL1 ?_
 refine yC (two_ctr (z := 0)) bd148 [] [] ?_
 refine yA ?_
 refine zN (zS ?_)
 refine yM ?_
 refine yP (PureOp.nilFnNeNil Try.underlying168 rfl rfl) ?_
 refine zN (zF (zK (zT (zS ?_))))
 refine yP pF ?_
 refine yL1 ?_
 refine zN (zB (zS ?_))
 refine yP ((PureOp.eqN (b := 0) rfl rfl).mono (v' := .bool true) rfl) ?_
 refine yA ?_
 refine zN (zC ?_)
 refine AW.draw mixed ?_
 refine yM ?_
 refine yM ?_
 refine yP (PureOp.nilCheck rfl) ?_
 refine yL1 ?_
 refine yP pF ?_
 refine yL1 ?_
 refine yC (fromuF_ctr hN) bd82 [] [] ?_
 refine AWo.buildSlice tbok 75000 [(0, .agg ((fe (fp N)).map (vi .u64)).toArray)] (out := [fe (fp N)].flatten.map (vi .u64)) rfl rfl (by decide) rfl rfl rfl (by decide) rfl (fillB1 (fe_len _)) rfl rfl rfl ?_
 refine AWo.append tbok (all := (((XS ++ [fp N]).map fe).flatten).map (vi .u64)) (news := [fe (fp N)].flatten.map (vi .u64)) 76000 rfl rfl rfl rfl (by rw [List.length_map, fe_flat]) (by show List.take _ (List.drop 0 _) = _; rw [List.drop_zero]; exact List.take_of_length_le (by simp)) (by (simp; done)) (by decide) rfl rfl rfl (by decide) rfl rfl rfl (by omega) (by omega) (by exact oneM (fun _ => rfl) _) (by rw [← List.map_append, ← List.flatten_append]; simp) rfl rfl ?_
 refine yP (PureOp.nilCheck rfl) ?_
 refine AWo.store1 tbok rfl rfl rfl rfl rfl Nat.zero_lt_one rfl rfl ?_
 refine zD (zL ?_)
 exact rq [76000] [] (hb := (OutL.whole rfl rfl (OkL.all rfl) (fun _ => rfl) (OutL.husk rfl rfl (OutL.flat rfl (flatM flat_vi) (fun _ => rfl) trivial))))
theorem stepc_ctr {XS : List Fp} {N : Nat} (hl : XS.length ≤ 64) (hN : N < XS.length) : GC Try.prog 133 [.pointer (some ⟨0, 0, none⟩), .agg #[.int .i64 7, vi .u64 N]] [⟨[.slice (some ⟨1, 0, none⟩) XS.length 0], true, 1⟩, ⟨(((XS).map fe).flatten).map (vi .u64), true, 4⟩] [] [⟨[.slice (some ⟨2, 0, none⟩) (XS.length + 1) 0], true, 1⟩, ⟨[], false, 4⟩, ⟨(((XS ++ [XS.getD (XS.length - 1 - N) 0]).map fe).flatten).map (vi .u64), true, 4⟩] := by
 refine gi Try.func133 ?_
 refine AW.moveC 0 1 77000 rfl rfl rfl (by decide) ?_
 refine zS ?_
 refine yO 4000 1 _ ?_
 refine zN (zS ?_)
 refine yM ?_
 refine yP (PureOp.nilCheck rfl) ?_
 refine yL1 ?_
 refine yP pL ?_
 refine yP (pSub (b := 1)) ?_
 refine yA ?_
 refine zN (zQ (zS ?_))
 refine yP pF ?_
 refine yL1 ?_
 refine AWo.callX (oneN_ctr (by omega)) bd147 [] [] rfl (.cons rfl .nil) rfl (.cons rfl rfl .nil) .nil rfl .nil frN (by decide) (.cons rfl rfl .nil) rfl rfl rfl rfl ?_
 refine yA ?_
 refine zN (zS ?_)
 refine yM ?_
 refine yP (PureOp.nilFnNeNil Try.underlying114 rfl rfl) ?_
 refine zN (zF (zK (zT (zQ (zS ?_)))))
 refine yP pF ?_
 refine yL1 ?_
 refine yC (two_ctr (z := 7)) bd148 [] [] ?_
 refine yA ?_
 refine zN (zS ?_)
 refine yM ?_
 refine yP (PureOp.nilFnNeNil Try.underlying168 rfl rfl) ?_
 refine zN (zF (zK (zT (zS ?_))))
 refine yP pF ?_
 refine yL1 ?_
 refine zN (zB (zS ?_))
 refine yP ((PureOp.eqN (b := 0) rfl rfl).mono (v' := .bool false) rfl) ?_
 refine yA ?_
 refine zN (zF (zS ?_))
 refine yP ((PureOp.eqN (b := 7) rfl rfl).mono (v' := .bool true) rfl) ?_
 refine yA ?_
 refine zN (zC ?_)
 refine AW.draw mixed ?_
 refine yM ?_
 refine yM ?_
 refine yP (PureOp.nilCheck rfl) ?_
 refine yL1 ?_
 refine yM ?_
 refine yP (PureOp.nilCheck rfl) ?_
 refine yL1 ?_
 refine yM ?_
 refine yP pF ?_
 refine yL1 ?_
 refine yP (PureOp.cvtN tbok 9223372036854775808 rfl rfl rfl (by decide) (by decide) (by omega)) ?_
 refine yP pSub ?_
 refine yP (pI (j := XS.length - 1 - N)) ?_
 refine yLEi ?_
 refine AWo.buildSlice tbok 94000 [(0, .agg ((fe (XS.getD (XS.length - 1 - N) 0)).map (vi .u64)).toArray)] (out := [fe (XS.getD (XS.length - 1 - N) 0)].flatten.map (vi .u64)) rfl rfl (by decide) rfl rfl rfl (by decide) rfl (fillB1 (fe_len _)) rfl rfl rfl ?_
 refine AWo.append tbok (all := (((XS ++ [XS.getD (XS.length - 1 - N) 0]).map fe).flatten).map (vi .u64)) (news := [fe (XS.getD (XS.length - 1 - N) 0)].flatten.map (vi .u64)) 95000 rfl rfl rfl rfl (by rw [List.length_map, fe_flat]) (by show List.take _ (List.drop 0 _) = _; rw [List.drop_zero]; exact List.take_of_length_le (by simp)) (by (simp; done)) (by decide) rfl rfl rfl (by decide) rfl rfl rfl (by omega) (by omega) (by exact oneM (fun _ => rfl) _) (by rw [← List.map_append, ← List.flatten_append]; simp) rfl rfl ?_
 refine yP (PureOp.nilCheck rfl) ?_
 refine AWo.store1 tbok rfl rfl rfl rfl rfl Nat.zero_lt_one rfl rfl ?_
 refine zD (zL ?_)
 exact rq [95000] [] (hb := (OutL.whole rfl rfl (OkL.all rfl) (fun _ => rfl) (OutL.husk rfl rfl (OutL.flat rfl (flatM flat_vi) (fun _ => rfl) trivial))))
theorem steps_ctr {XS : List Fp} {N : Nat} (hl : XS.length ≤ 64) (h0 : 2 ≤ XS.length) : GC Try.prog 133 [.pointer (some ⟨0, 0, none⟩), .agg #[.int .i64 8, vi .u64 N]] [⟨[.slice (some ⟨1, 0, none⟩) XS.length 0], true, 1⟩, ⟨(((XS).map fe).flatten).map (vi .u64), true, 4⟩] [] [⟨[.slice (some ⟨2, 0, none⟩) (XS.length) 0], true, 1⟩, ⟨[], false, 4⟩, ⟨((((XS.set (XS.length - 1) (XS.getD (XS.length - 2) 0)).set (XS.length - 2) (XS.getD (XS.length - 1) 0)).map fe).flatten).map (vi .u64), true, 4⟩] := by
 refine gi Try.func133 ?_
 refine AW.moveC 0 1 77000 rfl rfl rfl (by decide) ?_
 refine zS ?_
 refine yO 4000 1 _ ?_
 refine zN (zS ?_)
 refine yM ?_
 refine yP (PureOp.nilCheck rfl) ?_
 refine yL1 ?_
 refine yP pL ?_
 refine yP (pSub (b := 1)) ?_
 refine yA ?_
 refine zN (zQ (zS ?_))
 refine yP pF ?_
 refine yL1 ?_
 refine AWo.callX (oneN_ctr (by omega)) bd147 [] [] rfl (.cons rfl .nil) rfl (.cons rfl rfl .nil) .nil rfl .nil frN (by decide) (.cons rfl rfl .nil) rfl rfl rfl rfl ?_
 refine yA ?_
 refine zN (zS ?_)
 refine yM ?_
 refine yP (PureOp.nilFnNeNil Try.underlying114 rfl rfl) ?_
 refine zN (zF (zK (zT (zQ (zS ?_)))))
 refine yP pF ?_
 refine yL1 ?_
 refine yC (two_ctr (z := 8)) bd148 [] [] ?_
 refine yA ?_
 refine zN (zS ?_)
 refine yM ?_
 refine yP (PureOp.nilFnNeNil Try.underlying168 rfl rfl) ?_
 refine zN (zF (zK (zT (zS ?_))))
 refine yP pF ?_
 refine yL1 ?_
 refine zN (zB (zS ?_))
 refine yP ((PureOp.eqN (b := 0) rfl rfl).mono (v' := .bool false) rfl) ?_
 refine yA ?_
 refine zN (zF (zS ?_))
 refine yP ((PureOp.eqN (b := 7) rfl rfl).mono (v' := .bool false) rfl) ?_
 refine yA ?_
 refine zN (zF (zS ?_))
 refine yP ((PureOp.eqN (b := 8) rfl rfl).mono (v' := .bool true) rfl) ?_
 refine yA ?_
 refine zN (zC ?_)
 refine AW.draw mixed ?_
 refine yM ?_
 refine yP (PureOp.nilCheck rfl) ?_
 refine yL1 ?_
 refine yM ?_
 refine yM ?_
 refine yP (PureOp.nilCheck rfl) ?_
 refine yL1 ?_
 refine yM ?_
 refine yP ((PureOp.subI (b := 1) rfl rfl (by omega) (by omega)).mono (v' := vi .i64 (XS.length - 2)) (congrArg (vi .i64) (Nat.sub_sub ..))) ?_
 refine yM ?_
 refine yP (PureOp.nilCheck rfl) ?_
 refine yL1 ?_
 refine yM ?_
 refine yP ((PureOp.subI (b := 1) rfl rfl (by omega) (by omega)).mono (v' := vi .i64 (XS.length - 2)) (congrArg (vi .i64) (Nat.sub_sub ..))) ?_
 refine yP (pI (j := XS.length - 2)) ?_
 refine yLEi ?_
 refine yM ?_
 refine yP (PureOp.nilCheck rfl) ?_
 refine yL1 ?_
 refine yM ?_
 refine yP (pI (j := XS.length - 1)) ?_
 refine yLEi ?_
 refine yP (pI (j := XS.length - 1)) ?_
 refine yStE ?_
 refine yP (pI (j := XS.length - 2)) ?_
 refine yStE ?_
 refine zD (zL ?_)
 exact rq [77000] [] (hb := (OutL.whole rfl rfl (OkL.all rfl) (fun _ => rfl) (OutL.husk rfl rfl (OutL.flat rfl (flatM flat_vi) (fun _ => rfl) trivial))))
theorem stepd_ctr {XS : List Fp} {N : Nat} (hl : XS.length ≤ 64) (h0 : 0 < XS.length) : GC Try.prog 133 [.pointer (some ⟨0, 0, none⟩), .agg #[.int .i64 9, vi .u64 N]] [⟨[.slice (some ⟨1, 0, none⟩) XS.length 0], true, 1⟩, ⟨(((XS).map fe).flatten).map (vi .u64), true, 4⟩] [] [⟨[.slice (some ⟨2, 0, none⟩) (XS.length - 1) 0], true, 1⟩, ⟨[], false, 4⟩, ⟨(((XS.take (XS.length - 1)).map fe).flatten).map (vi .u64), true, 4⟩] := by
 refine gi Try.func133 ?_
 refine AW.moveC 0 1 77000 rfl rfl rfl (by decide) ?_
 refine zS ?_
 refine yO 4000 1 _ ?_
 refine zN (zS ?_)
 refine yM ?_
 refine yP (PureOp.nilCheck rfl) ?_
 refine yL1 ?_
 refine yP pL ?_
 refine yP (pSub (b := 1)) ?_
 refine yA ?_
 refine zN (zQ (zS ?_))
 refine yP pF ?_
 refine yL1 ?_
 refine AWo.callX (oneN_ctr (by omega)) bd147 [] [] rfl (.cons rfl .nil) rfl (.cons rfl rfl .nil) .nil rfl .nil frN (by decide) (.cons rfl rfl .nil) rfl rfl rfl rfl ?_
 refine yA ?_
 refine zN (zS ?_)
 refine yM ?_
 refine yP (PureOp.nilFnNeNil Try.underlying114 rfl rfl) ?_
 refine zN (zF (zK (zT (zQ (zS ?_)))))
 refine yP pF ?_
 refine yL1 ?_
 refine yC (two_ctr (z := 9)) bd148 [] [] ?_
 refine yA ?_
 refine zN (zS ?_)
 refine yM ?_
 refine yP (PureOp.nilFnNeNil Try.underlying168 rfl rfl) ?_
 refine zN (zF (zK (zT (zS ?_))))
 refine yP pF ?_
 refine yL1 ?_
 refine zN (zB (zS ?_))
 refine yP ((PureOp.eqN (b := 0) rfl rfl).mono (v' := .bool false) rfl) ?_
 refine yA ?_
 refine zN (zF (zS ?_))
 refine yP ((PureOp.eqN (b := 7) rfl rfl).mono (v' := .bool false) rfl) ?_
 refine yA ?_
 refine zN (zF (zS ?_))
 refine yP ((PureOp.eqN (b := 8) rfl rfl).mono (v' := .bool false) rfl) ?_
 refine yA ?_
 refine zN (zF (zS ?_))
 refine yP ((PureOp.eqN (b := 9) rfl rfl).mono (v' := .bool true) rfl) ?_
 refine yA ?_
 refine zN (zC (zR ?_))
 refine yM ?_
 refine yM ?_
 refine yP (PureOp.nilCheck rfl) ?_
 refine yL1 ?_
 refine yM ?_
 refine AWo.sliceS tbok rfl .none (.some rfl) rfl rfl rfl rfl (by omega) (by omega) (.inl rfl) rfl rfl rfl ?_
 refine yP (PureOp.nilCheck rfl) ?_
 refine AWo.store1 tbok rfl rfl rfl rfl rfl Nat.zero_lt_one rfl rfl ?_
 refine zN (zL ?_)
 exact rq [77000] [] (hb := (OutL.whole rfl rfl (OkL.all rfl) (fun _ => rfl) (OutL.husk rfl rfl (OutL.part rfl (part_take0 ) (flatM flat_vi) (fun _ => rfl) (part_le0 ) trivial))))
end Go.Proofs.Ytiikffiembcboaa
namespace Go.Proofs.Ytiikffiembcboaa
open Go Sim
set_option maxRecDepth 10000
def f2 (k : Nat) (a b : Fp) : Fp := if k = 1 then a + b else if k = 2 then a - b else if k = 3 then a * b else if a = b then 1 else 0
def f1 (k : Nat) (a : Fp) : Fp := if k = 4 then -a else if k = 5 then a * a else finv a
def stepF (XS : List Fp) (k N : Nat) : List Fp :=
  if k = 0 then XS ++ [fp N]
  else if k = 7 then XS ++ [XS.getD (XS.length - 1 - N) 0]
  else if k = 8 then (XS.set (XS.length - 1) (XS.getD (XS.length - 2) 0)).set (XS.length - 2) (XS.getD (XS.length - 1) 0)
  else if k = 9 then XS.take (XS.length - 1)
  else if k = 4 ∨ k = 5 ∨ k = 6 then XS.set (XS.length - 1) (f1 k (XS.getD (XS.length - 1) 0))
  else (XS.set (XS.length - 2) (f2 k (XS.getD (XS.length - 2) 0) (XS.getD (XS.length - 1) 0))).take (XS.length - 1)
theorem stepF_len (XS : List Fp) (k N : Nat) : (stepF XS k N).length = if k = 0 ∨ k = 7 then XS.length + 1 else if k = 8 ∨ k = 4 ∨ k = 5 ∨ k = 6 then XS.length else XS.length - 1 := by
  unfold stepF
  repeat' split
  all_goals first | omega | (simp only [List.length_append, List.length_cons, List.length_nil, List.length_set, List.length_take]; try omega)
def errF (n : Nat) (s : Int × Nat) : Nat := if s.1 < 0 ∨ 10 < s.1 then 5 else if n < needN s.1.toNat s.2 then 13 else if n = 64 ∧ (s.1.toNat = 0 ∨ s.1.toNat = 7) then 9 else 0
theorem errF_lo {n N : Nat} {z : Int} (h : z < 0) : errF n (z, N) = 5 := if_pos (.inl h)
theorem errF_hi {n N : Nat} {z : Int} (h : 10 < z) : errF n (z, N) = 5 := if_pos (.inr h)
theorem errF_13 {n N k : Nat} (hk : k ≤ 10) (h : n < needN k N) : errF n ((k : Int), N) = 13 := by
  unfold errF; simp only [Int.toNat_natCast]
  rw [if_neg (by omega), if_pos h]
theorem errF_9 {n N k : Nat} (hk : k ≤ 10) (h : needN k N ≤ n) (h1 : n = 64) (h2 : k = 0 ∨ k = 7) : errF n ((k : Int), N) = 9 := by
  unfold errF; simp only [Int.toNat_natCast]
  rw [if_neg (by omega), if_neg (by omega), if_pos ⟨h1, h2⟩]
theorem errF_0 {n N k : Nat} (hk : k ≤ 10) (h : needN k N ≤ n) (h1 : ¬ (n = 64 ∧ (k = 0 ∨ k = 7))) : errF n ((k : Int), N) = 0 := by
  unfold errF; simp only [Int.toNat_natCast]
  rw [if_neg (by omega), if_neg (by omega), if_neg h1]
theorem errF_inv {n : Nat} {s : Int × Nat} (h : errF n s = 0) : ∃ k : Nat, s.1 = k ∧ k ≤ 10 ∧ needN k s.2 ≤ n ∧ ¬ (n = 64 ∧ (k = 0 ∨ k = 7)) := by
  unfold errF at h
  split at h
  · cases h
  · split at h
    · cases h
    · split at h
      · cases h
      · exact ⟨s.1.toNat, by omega, by omega, by omega, by assumption⟩
def stk (L : List (Int × Nat)) (XS : List Fp) : Nat → List Fp
  | 0 => XS
  | i + 1 => stepF (stk L XS i) (L.getD i (0, 0)).1.toNat (L.getD i (0, 0)).2
def errAt (L : List (Int × Nat)) (XS : List Fp) (i : Nat) : Nat := errF (stk L XS i).length (L.getD i (0, 0))
theorem stk_le {L : List (Int × Nat)} {XS : List Fp} (hl : XS.length ≤ 64) : ∀ {m : Nat}, (∀ i, i < m → errAt L XS i = 0) → (stk L XS m).length ≤ 64
  | 0, _ => hl
  | m + 1, h => by
    have ih := stk_le (L := L) hl (m := m) fun i hi => h i (by omega)
    obtain ⟨k, hk, _, hn, hr⟩ := errF_inv (h m (by omega))
    show (stepF _ _ _).length ≤ 64
    rw [stepF_len, hk, Int.toNat_natCast]
    split
    · have : (stk L XS m).length ≠ 64 := fun e => hr ⟨e, by assumption⟩
      omega
    · split <;> omega
theorem getD_mem {α : Type} {l : List α} {i : Nat} {d : α} (h : i < l.length) : l.getD i d ∈ l := by
  rw [List.getD_eq_getElem?_getD, List.getElem?_eq_getElem h]; exact List.getElem_mem _
def stC (s : Int × Nat) : List Value := [.int .i64 s.1, vi .u64 s.2]
theorem flatS (L : List (Int × Nat)) : ∀ x ∈ L.flatMap stC, flatV x = true := fun x hx => by
 obtain ⟨s, _, hs⟩ := List.mem_flatMap.1 hx
 simp [stC] at hs
 rcases hs with rfl | rfl <;> rfl
theorem st_two {L : List (Int × Nat)} : ∀ x ∈ L.map stC, x.length = 2 := fun x hx => by obtain ⟨s, _, rfl⟩ := List.mem_map.1 hx; rfl
theorem st_len (L : List (Int × Nat)) : (L.flatMap stC).length = L.length * 2 := by
 rw [List.flatMap_def, flat_len st_two, List.length_map]
theorem st_room {L : List (Int × Nat)} {i : Nat} (hi : i < L.length) : 0 + i * 2 + 2 ≤ (L.flatMap stC).length := by
 rw [st_len]; omega
theorem st_at {L : List (Int × Nat)} {i : Nat} (hi : i < L.length) : ((L.flatMap stC).drop (0 + i * 2)).take 2 = stC (L.getD i (0, 0)) := by
 rw [Nat.zero_add, List.flatMap_def, flat_take st_two (by rw [List.length_map]; exact hi), List.getD_eq_getElem?_getD, List.getElem?_map, List.getD_eq_getElem?_getD, List.getElem?_eq_getElem hi]
 rfl
theorem cstep_ctr {XS : List Fp} {k N : Nat} (hl : XS.length ≤ 64) (hk : k ≤ 10) (hN : N < 18446744073709551616) (hn : needN k N ≤ XS.length) (_hr : ¬ (XS.length = 64 ∧ (k = 0 ∨ k = 7))) : GC Try.prog 133 [.pointer (some ⟨0, 0, none⟩), .agg #[vi .i64 k, vi .u64 N]] [⟨[.slice (some ⟨1, 0, none⟩) XS.length 0], true, 1⟩, ⟨(((XS).map fe).flatten).map (vi .u64), true, 4⟩] [] [⟨[.slice (some ⟨2, 0, none⟩) ((stepF XS k N).length) 0], true, 1⟩, ⟨[], false, 4⟩, ⟨(((stepF XS k N).map fe).flatten).map (vi .u64), true, 4⟩] := by
 rw [stepF_len]
 rcases (by omega : k = 0 ∨ k = 1 ∨ k = 2 ∨ k = 3 ∨ k = 4 ∨ k = 5 ∨ k = 6 ∨ k = 7 ∨ k = 8 ∨ k = 9 ∨ k = 10) with rfl | rfl | rfl | rfl | rfl | rfl | rfl | rfl | rfl | rfl | rfl
 · exact stepp_ctr hl hN
 · exact step2_ctr (g := f2 1) hl hn (oneN_ctr (by omega)) (two_ctr (z := 1)) bd92 fun x y => addF_ctr
 · exact step2_ctr (g := f2 2) hl hn (oneN_ctr (by omega)) (two_ctr (z := 2)) bd94 fun x y => subF_ctr
 · exact step2_ctr (g := f2 3) hl hn (oneN_ctr (by omega)) (two_ctr (z := 3)) bd91 fun x y => mulF_ctr
 · exact step1_ctr (g := f1 4) hl hn one4_ctr bd95 fun x => negF_ctr
 · exact step1_ctr (g := f1 5) hl hn one5_ctr bd107 fun x => sqF_ctr
 · exact step1_ctr (g := f1 6) hl hn one6_ctr bd89 fun x => invF_ctr
 · exact stepc_ctr hl (by simp only [needN] at hn; have h9 : Nat.min N 64 + 1 ≤ XS.length := hn; have h8 : Nat.min N 64 = if N ≤ 64 then N else 64 := Nat.min_def ..; split at h8 <;> omega)
 · exact steps_ctr hl hn
 · exact stepd_ctr hl hn
 · exact step2_ctr (g := f2 10) hl hn (oneN_ctr (by omega)) (two_ctr (z := 10)) bd152 fun x y => fsame_ctr
theorem runm_ctr {L : List (Int × Nat)} {XS : List Fp} (hl : 64 < XS.length) (hl2 : XS.length ≤ 1000) : GC Try.prog 81 [.slice (some ⟨0, 0, none⟩) L.length 0, .slice (some ⟨1, 0, none⟩) XS.length 0] [⟨L.flatMap stC, false, 2⟩, ⟨(((XS).map fe).flatten).map (vi .u64), false, 4⟩] [.slice none 0 0, .int .i64 (-1), .int .i64 9] [⟨L.flatMap stC, false, 2⟩, ⟨(((XS).map fe).flatten).map (vi .u64), false, 4⟩] := by
 refine gi Try.func81 ?_
 refine zS ?_
 refine yA ?_
 refine yA ?_
 refine yA ?_
 refine zN (zQ (zS ?_))
 refine yM ?_
 refine yP pL ?_
 refine yP (pGt (b := 64)) ?_
 refine zN ?_
 refine zA (fun hb0 => ?_) (fun hb0 => ?_)
 ·
  refine zS ?_
  refine yA ?_
  refine yA ?_
  refine yA ?_
  refine zN (zE (zU ?_))
  exact rq [] [.tmp 4, .tmp 5, .tmp 6] (hb := (OutL.flat rfl (flatS L) (by intro h; exact h.elim id fun h => absurd h.1 (by simp)) (OutL.flat rfl (flatM flat_vi) (by intro h; exact h.elim id fun h => absurd h.1 (by simp)) trivial)))
 ·
  simp at hb0; omega
theorem run_ctr {L : List (Int × Nat)} {XS : List Fp} (hL : ∀ s ∈ L, s.2 < 18446744073709551616) (hll : L.length ≤ 1000) (hl : XS.length ≤ 64) (hok : ∀ i, i < L.length → errAt L XS i = 0) : GC Try.prog 81 [.slice (some ⟨0, 0, none⟩) L.length 0, .slice (some ⟨1, 0, none⟩) XS.length 0] [⟨L.flatMap stC, false, 2⟩, ⟨(((XS).map fe).flatten).map (vi .u64), false, 4⟩] [.slice (some ⟨2, 0, none⟩) (stk L XS L.length).length 0, .int .i64 (-1), .int .i64 0] [⟨L.flatMap stC, false, 2⟩, ⟨(((XS).map fe).flatten).map (vi .u64), false, 4⟩, ⟨(((stk L XS L.length).map fe).flatten).map (vi .u64), true, 4⟩] := by
 refine gi Try.func81 ?_
 refine zS ?_
 refine yA ?_
 refine yA ?_
 refine yA ?_
 refine zN (zQ (zS ?_))
 refine yM ?_
 refine yP pL ?_
 refine yP (pGt (b := 64)) ?_
 refine zN ?_
 refine zA (fun hb0 => ?_) (fun hb0 => ?_)
 ·
  simp at hb0; omega
 ·
  refine zK (zT (zS ?_))
  refine AWo.buildSlice tbok 14000 [] (out := []) rfl rfl (by decide) rfl rfl rfl (by decide) rfl rfl rfl rfl rfl ?_
  refine yM ?_
  refine AWo.appendT tbok (all := (((XS).map fe).flatten).map (vi .u64)) (news := (((XS).map fe).flatten).map (vi .u64)) 16000 rfl rfl rfl rfl rfl (by show List.take _ (List.drop 0 _) = _; rw [List.drop_zero]; exact List.take_of_length_le (by rw [List.length_map, fe_flat]; exact Nat.le_refl _)) (by rw [List.length_map, fe_flat, Nat.zero_add]; exact Nat.le_refl _) (by decide) rfl rfl rfl rfl (by decide) rfl rfl rfl (by omega) (by omega) (by exact oneM (fun _ => rfl) _) rfl rfl rfl ?_
  refine yN 8000 1 _ ?_
  refine AWo.store1 tbok rfl rfl rfl rfl rfl Nat.zero_lt_one rfl rfl ?_
  refine zN (zQ (zS ?_))
  refine yM ?_
  refine yP pL ?_
  refine yM ?_
  refine zN (zB ?_)
  rw [show 0 + XS.length = XS.length from Nat.zero_add _]
  refine AW.loopw (fun mm σ => ∃ i, (i ≤ L.length) ∧ mm = L.length - i ∧ σ = ⟨(upd (upd (upd (upd emp 7 (.pointer (some ⟨8000, 0, none⟩))) 16 (.slice (some ⟨0, 0, none⟩) L.length 0)) 17 (vi .i64 L.length)) 18 (vi .i64 i)), (upd (upd (upd (upd emp 0 ⟨L.flatMap stC, false, 2⟩) 1 ⟨(((XS).map fe).flatten).map (vi .u64), false, 4⟩) 8000 ⟨[.slice (some ⟨77000, 0, none⟩) (stk L XS i).length 0], true, 1⟩) 77000 ⟨(((stk L XS i).map fe).flatten).map (vi .u64), true, 4⟩)⟩) (fm := [(77000, 16000)]) ?_ ⟨0, Nat.zero_le _, rfl, rfl⟩ ?_
  ·
   refine Wk.of [0, 1, 8000, 77000] ?_ ?_ ?_ (by decide) rfl
   ·
    refine WkE.upd rfl (by exact VR.flat _ rfl) ?_
    refine WkE.upd rfl (by exact VR.flat _ rfl) ?_
    refine WkE.upd rfl (.slice (0) 0 _ 0 ⟨_, rfl⟩ (by simp) (by simp)) ?_
    refine WkE.upd rfl (.ptr (8000) 0 ⟨_, rfl⟩) ?_
    exact WkE.emp
   ·
    refine WkM.flat rfl (flatM flat_vi) (fun h => h) ?_
    refine WkM.ren [77000] rfl rfl rfl (dom_all rfl) (fun h => h) ?_
    refine WkM.flat rfl (flatM flat_vi) (fun h => h) ?_
    refine WkM.flat rfl (flatS L) (fun h => h) ?_
    exact WkM.emp
   ·
    repeat (refine dom_upd_mem (by decide) ?_)
    exact dom_emp
  ·
   rintro mm σ ⟨i, hinv, rfl, rfl⟩
   obtain ⟨YS, hY⟩ : ∃ YS, stk L XS i = YS := ⟨_, rfl⟩
   have hyl : YS.length ≤ 64 := by rw [← hY]; exact stk_le hl (fun i' hi' => hok i' (by omega))
   rw [hY]
   refine zS ?_
   refine yP pLt ?_
   refine zN (zQ ?_)
   refine zA (fun hb1 => ?_) (fun hb1 => ?_)
   ·
    have hi : i < L.length := by simpa using hb1
    obtain ⟨⟨z, N⟩, hs⟩ : ∃ s, L.getD i (0, 0) = s := ⟨_, rfl⟩
    have hN : N < 18446744073709551616 := by have := hL (L.getD i (0, 0)) (getD_mem hi); rw [hs] at this; exact this
    have her : errAt L XS i = errF YS.length (z, N) := by unfold errAt; rw [hY, hs]
    refine zK (zT (zQ (zB (zS ?_))))
    refine yM ?_
    refine yP (PureOp.idxN tbok (j := i) rfl rfl rfl rfl hi) ?_
    refine AWo.loadAgg tbok (vs := [.int .i64 z, vi .u64 N]) rfl rfl rfl rfl (st_room hi) (by rw [st_at hi, hs]; rfl) rfl rfl ?_
    refine yN 10000 1 _ ?_
    refine yA ?_
    refine ySA ?_
    refine zN (zQ (zB (zS ?_)))
    refine yP pF ?_
    refine yL1 ?_
    refine yP (PureOp.bin rfl rfl rfl) ?_
    first | refine AWo.pureB (PureOp.move rfl) rfl rfl (fun hb2 => ?_) (fun hb2 => ?_)
    ·
     have hz0 : z < 0 := by simpa using hb2
     exact absurd (errF_lo (n := YS.length) (N := N) hz0) (by rw [← her, hok i hi]; decide)
    ·
     have hz0 : 0 ≤ z := by simpa using hb2
     refine yP pF ?_
     refine yL1 ?_
     refine yP (PureOp.bin rfl rfl rfl) ?_
     refine yP pE ?_
     refine yA ?_
     refine zN ?_
     refine zA (fun hb3 => ?_) (fun hb3 => ?_)
     ·
      have hz1 : 10 < z := by simpa using hb3
      exact absurd (errF_hi (n := YS.length) (N := N) hz1) (by rw [← her, hok i hi]; decide)
     ·
      have hz1 : z ≤ 10 := by simpa using hb3
      obtain ⟨k, rfl⟩ : ∃ k : Nat, z = k := ⟨z.toNat, by omega⟩
      have hk : k ≤ 10 := by omega
      refine AW.seqD mixed ?_
      refine yL1 ?_
      refine yP pL ?_
      refine yLA ?_
      refine yC (need_ctr hk hN) bd132 [] [] ?_
      refine yP pLt ?_
      refine yA ?_
      refine zD ?_
      refine zA (fun hb4 => ?_) (fun hb4 => ?_)
      ·
       have hne : YS.length < needN k N := by simpa using hb4
       exact absurd (errF_13 hk hne) (by rw [← her, hok i hi]; decide)
      ·
       have hneed : needN k N ≤ YS.length := by simpa using hb4
       refine zS ?_
       refine yL1 ?_
       refine yP pL ?_
       refine yP (pEq (b := 64)) ?_
       first | refine AWo.pureB (PureOp.move rfl) rfl rfl (fun hb5 => ?_) (fun hb5 => ?_)
       ·
        have h64 : YS.length = 64 := by simpa using hb5
        refine yP pF ?_
        refine yL1 ?_
        refine yP (pEq (b := 0)) ?_
        first | refine AWo.pureB (PureOp.move rfl) rfl rfl (fun hb6 => ?_) (fun hb6 => ?_)
        ·
         have hk0 : k = 0 := by simpa using hb6
         exact absurd (errF_9 hk hneed h64 (.inl hk0)) (by rw [← her, hok i hi]; decide)
        ·
         have hk0 : k ≠ 0 := by simpa using hb6
         refine yP pF ?_
         refine yL1 ?_
         refine yP (pEq (b := 7)) ?_
         refine yP pE ?_
         refine yP pT ?_
         refine yA ?_
         refine zN ?_
         refine zA (fun hb7 => ?_) (fun hb7 => ?_)
         ·
          have hk7 : k = 7 := by simpa using hb7
          exact absurd (errF_9 hk hneed h64 (.inr hk7)) (by rw [← her, hok i hi]; decide)
         ·
          have hk7 : k ≠ 7 := by simpa using hb7
          have hrm : ¬ (YS.length = 64 ∧ (k = 0 ∨ k = 7)) := fun h => h.2.elim hk0 hk7
          refine zK (zL (zT (zR ?_)))
          refine yLA ?_
          refine yC (cstep_ctr (XS := YS) hyl hk hN hneed hrm) bd133 [(8000, 0), (77000, 0)] [57000] ?_ (hnew := (.chg rfl rfl rfl (OkL.all rfl) (.gone rfl rfl (OkL.flat (by simp)) (.new (flat_map_ren (flatM flat_vi)) (OkL.flat (flatM flat_vi)) .nil))))
          refine zN (zL (zT (zR ?_)))
          refine yP (pAdd (b := 1)) ?_
          refine yM ?_
          refine zN (zT ?_)
          rw [show stepF YS k N = stk L XS (i + 1) by show _ = stepF (stk L XS i) _ _; rw [hY, hs]; rfl]
          refine ⟨L.length - (i + 1), [(77000, 57000)], _, by omega, ?_, i + 1, by omega, rfl, rfl⟩
          refine Wk.of [0, 1, 8000, 77000] ?_ ?_ ?_ (by decide) rfl
          ·
           refine WkE.upd rfl (by exact VR.flat _ rfl) ?_
           refine WkE.upd rfl (by exact VR.flat _ rfl) ?_
           refine WkE.upd rfl (.slice (0) 0 _ 0 ⟨_, rfl⟩ (by simp) (by simp)) ?_
           refine WkE.upd rfl (.ptr (8000) 0 ⟨_, rfl⟩) ?_
           exact WkE.emp
          ·
           refine WkM.flat rfl (flatM flat_vi) (fun h => h) ?_
           refine WkM.ren [77000] rfl rfl rfl (dom_all rfl) (fun h => h) ?_
           refine WkM.flat rfl (flatM flat_vi) (fun h => h) ?_
           refine WkM.flat rfl (flatS L) (fun h => h) ?_
           exact WkM.emp
          ·
           repeat (refine dom_upd_mem (by decide) ?_)
           exact dom_emp
       ·
        have h64 : YS.length ≠ 64 := by simpa using hb5
        have hrm : ¬ (YS.length = 64 ∧ (k = 0 ∨ k = 7)) := fun h => h64 h.1
        refine yK ?_
        refine yK ?_
        refine yK ?_
        refine yK ?_
        refine yK ?_
        refine yK ?_
        refine yK ?_
        refine yK ?_
        refine yP pE ?_
        refine yA ?_
        refine zN (zF (zK (zL (zT (zR ?_)))))
        refine yLA ?_
        refine yC (cstep_ctr (XS := YS) hyl hk hN hneed hrm) bd133 [(8000, 0), (77000, 0)] [57000] ?_ (hnew := (.chg rfl rfl rfl (OkL.all rfl) (.gone rfl rfl (OkL.flat (by simp)) (.new (flat_map_ren (flatM flat_vi)) (OkL.flat (flatM flat_vi)) .nil))))
        refine zN (zL (zT (zR ?_)))
        refine yP (pAdd (b := 1)) ?_
        refine yM ?_
        refine zN (zT ?_)
        rw [show stepF YS k N = stk L XS (i + 1) by show _ = stepF (stk L XS i) _ _; rw [hY, hs]; rfl]
        refine ⟨L.length - (i + 1), [(77000, 57000)], _, by omega, ?_, i + 1, by omega, rfl, rfl⟩
        refine Wk.of [0, 1, 8000, 77000] ?_ ?_ ?_ (by decide) rfl
        ·
         refine WkE.upd rfl (by exact VR.flat _ rfl) ?_
         refine WkE.upd rfl (by exact VR.flat _ rfl) ?_
         refine WkE.upd rfl (.slice (0) 0 _ 0 ⟨_, rfl⟩ (by simp) (by simp)) ?_
         refine WkE.upd rfl (.ptr (8000) 0 ⟨_, rfl⟩) ?_
         exact WkE.emp
        ·
         refine WkM.flat rfl (flatM flat_vi) (fun h => h) ?_
         refine WkM.ren [77000] rfl rfl rfl (dom_all rfl) (fun h => h) ?_
         refine WkM.flat rfl (flatM flat_vi) (fun h => h) ?_
         refine WkM.flat rfl (flatS L) (fun h => h) ?_
         exact WkM.emp
        ·
         repeat (refine dom_upd_mem (by decide) ?_)
         exact dom_emp
   ·
    obtain rfl : i = L.length := by simp at hb1; omega
    subst hY
    refine zX (zV (zV (zH (zT (zS ?_)))))
    refine yL1 ?_
    refine yA ?_
    refine yA ?_
    refine yA ?_
    refine zN (zE ?_)
    exact rq [77000] [.tmp 4, .tmp 5, .tmp 6] (hb := (OutL.flat rfl (flatS L) (by intro h; exact h.elim id fun h => absurd h.1 (by simp)) (OutL.flat rfl (flatM flat_vi) (by intro h; exact h.elim id fun h => absurd h.1 (by simp)) (OutL.flat rfl (flatM flat_vi) (fun _ => rfl) trivial))))
theorem rune_ctr {L : List (Int × Nat)} {XS : List Fp} (hL : ∀ s ∈ L, s.2 < 18446744073709551616) (hll : L.length ≤ 1000) {j c : Nat} (hl : XS.length ≤ 64) (hj : j < L.length) (hok : ∀ i, i < j → errAt L XS i = 0) (hej : errAt L XS j = c) (hc : c ≠ 0) : GC Try.prog 81 [.slice (some ⟨0, 0, none⟩) L.length 0, .slice (some ⟨1, 0, none⟩) XS.length 0] [⟨L.flatMap stC, false, 2⟩, ⟨(((XS).map fe).flatten).map (vi .u64), false, 4⟩] [.slice none 0 0, vi .i64 j, vi .i64 c] [⟨L.flatMap stC, false, 2⟩, ⟨(((XS).map fe).flatten).map (vi .u64), false, 4⟩] := by
 refine gi Try.func81 ?_
 refine zS ?_
 refine yA ?_
 refine yA ?_
 refine yA ?_
 refine zN (zQ (zS ?_))
 refine yM ?_
 refine yP pL ?_
 refine yP (pGt (b := 64)) ?_
 refine zN ?_
 refine zA (fun hb0 => ?_) (fun hb0 => ?_)
 ·
  simp at hb0; omega
 ·
  refine zK (zT (zS ?_))
  refine AWo.buildSlice tbok 14000 [] (out := []) rfl rfl (by decide) rfl rfl rfl (by decide) rfl rfl rfl rfl rfl ?_
  refine yM ?_
  refine AWo.appendT tbok (all := (((XS).map fe).flatten).map (vi .u64)) (news := (((XS).map fe).flatten).map (vi .u64)) 16000 rfl rfl rfl rfl rfl (by show List.take _ (List.drop 0 _) = _; rw [List.drop_zero]; exact List.take_of_length_le (by rw [List.length_map, fe_flat]; exact Nat.le_refl _)) (by rw [List.length_map, fe_flat, Nat.zero_add]; exact Nat.le_refl _) (by decide) rfl rfl rfl rfl (by decide) rfl rfl rfl (by omega) (by omega) (by exact oneM (fun _ => rfl) _) rfl rfl rfl ?_
  refine yN 8000 1 _ ?_
  refine AWo.store1 tbok rfl rfl rfl rfl rfl Nat.zero_lt_one rfl rfl ?_
  refine zN (zQ (zS ?_))
  refine yM ?_
  refine yP pL ?_
  refine yM ?_
  refine zN (zB ?_)
  rw [show 0 + XS.length = XS.length from Nat.zero_add _]
  refine AW.loopw (fun mm σ => ∃ i, (i ≤ j) ∧ mm = L.length - i ∧ σ = ⟨(upd (upd (upd (upd emp 7 (.pointer (some ⟨8000, 0, none⟩))) 16 (.slice (some ⟨0, 0, none⟩) L.length 0)) 17 (vi .i64 L.length)) 18 (vi .i64 i)), (upd (upd (upd (upd emp 0 ⟨L.flatMap stC, false, 2⟩) 1 ⟨(((XS).map fe).flatten).map (vi .u64), false, 4⟩) 8000 ⟨[.slice (some ⟨77000, 0, none⟩) (stk L XS i).length 0], true, 1⟩) 77000 ⟨(((stk L XS i).map fe).flatten).map (vi .u64), true, 4⟩)⟩) (fm := [(77000, 16000)]) ?_ ⟨0, Nat.zero_le _, rfl, rfl⟩ ?_
  ·
   refine Wk.of [0, 1, 8000, 77000] ?_ ?_ ?_ (by decide) rfl
   ·
    refine WkE.upd rfl (by exact VR.flat _ rfl) ?_
    refine WkE.upd rfl (by exact VR.flat _ rfl) ?_
    refine WkE.upd rfl (.slice (0) 0 _ 0 ⟨_, rfl⟩ (by simp) (by simp)) ?_
    refine WkE.upd rfl (.ptr (8000) 0 ⟨_, rfl⟩) ?_
    exact WkE.emp
   ·
    refine WkM.flat rfl (flatM flat_vi) (fun h => h) ?_
    refine WkM.ren [77000] rfl rfl rfl (dom_all rfl) (fun h => h) ?_
    refine WkM.flat rfl (flatM flat_vi) (fun h => h) ?_
    refine WkM.flat rfl (flatS L) (fun h => h) ?_
    exact WkM.emp
   ·
    repeat (refine dom_upd_mem (by decide) ?_)
    exact dom_emp
  ·
   rintro mm σ ⟨i, hinv, rfl, rfl⟩
   obtain ⟨YS, hY⟩ : ∃ YS, stk L XS i = YS := ⟨_, rfl⟩
   have hyl : YS.length ≤ 64 := by rw [← hY]; exact stk_le hl (fun i' hi' => hok i' (by omega))
   rw [hY]
   refine zS ?_
   refine yP pLt ?_
   refine zN (zQ ?_)
   refine zA (fun hb1 => ?_) (fun hb1 => ?_)
   ·
    have hi : i < L.length := by simpa using hb1
    obtain ⟨⟨z, N⟩, hs⟩ : ∃ s, L.getD i (0, 0) = s := ⟨_, rfl⟩
    have hN : N < 18446744073709551616 := by have := hL (L.getD i (0, 0)) (getD_mem hi); rw [hs] at this; exact this
    have her : errAt L XS i = errF YS.length (z, N) := by unfold errAt; rw [hY, hs]
    refine zK (zT (zQ (zB (zS ?_))))
    refine yM ?_
    refine yP (PureOp.idxN tbok (j := i) rfl rfl rfl rfl hi) ?_
    refine AWo.loadAgg tbok (vs := [.int .i64 z, vi .u64 N]) rfl rfl rfl rfl (st_room hi) (by rw [st_at hi, hs]; rfl) rfl rfl ?_
    refine yN 10000 1 _ ?_
    refine yA ?_
    refine ySA ?_
    refine zN (zQ (zB (zS ?_)))
    refine yP pF ?_
    refine yL1 ?_
    refine yP (PureOp.bin rfl rfl rfl) ?_
    first | refine AWo.pureB (PureOp.move rfl) rfl rfl (fun hb2 => ?_) (fun hb2 => ?_)
    ·
     have hz0 : z < 0 := by simpa using hb2
     have hcc := errF_lo (n := YS.length) (N := N) hz0
     obtain rfl : i = j := by rcases Nat.lt_or_ge i j with h | h; exact absurd (hcc.symm.trans (her.symm.trans (hok i h))) (by decide); omega
     obtain rfl : c = errF YS.length _ := by rw [← her]; exact hej.symm
     rw [hcc]
     refine yK ?_
     refine yK ?_
     refine yK ?_
     refine yP pT ?_
     refine yA ?_
     refine zN (zC (zS ?_))
     refine yM ?_
     refine yA ?_
     refine yA ?_
     refine yA ?_
     refine zN (zE (zI (zU (zI (zU (zU (zI (zU ?_))))))))
     exact rq [] [.tmp 4, .tmp 5, .tmp 6] (hb := (OutL.flat rfl (flatS L) (by intro h; exact h.elim id fun h => absurd h.1 (by simp)) (OutL.flat rfl (flatM flat_vi) (by intro h; exact h.elim id fun h => absurd h.1 (by simp)) trivial)))
    ·
     have hz0 : 0 ≤ z := by simpa using hb2
     refine yP pF ?_
     refine yL1 ?_
     refine yP (PureOp.bin rfl rfl rfl) ?_
     refine yP pE ?_
     refine yA ?_
     refine zN ?_
     refine zA (fun hb3 => ?_) (fun hb3 => ?_)
     ·
      have hz1 : 10 < z := by simpa using hb3
      have hcc := errF_hi (n := YS.length) (N := N) hz1
      obtain rfl : i = j := by rcases Nat.lt_or_ge i j with h | h; exact absurd (hcc.symm.trans (her.symm.trans (hok i h))) (by decide); omega
      obtain rfl : c = errF YS.length _ := by rw [← her]; exact hej.symm
      rw [hcc]
      refine zS ?_
      refine yM ?_
      refine yA ?_
      refine yA ?_
      refine yA ?_
      refine zN (zE (zI (zU (zI (zU (zU (zI (zU ?_))))))))
      exact rq [] [.tmp 4, .tmp 5, .tmp 6] (hb := (OutL.flat rfl (flatS L) (by intro h; exact h.elim id fun h => absurd h.1 (by simp)) (OutL.flat rfl (flatM flat_vi) (by intro h; exact h.elim id fun h => absurd h.1 (by simp)) trivial)))
     ·
      have hz1 : z ≤ 10 := by simpa using hb3
      obtain ⟨k, rfl⟩ : ∃ k : Nat, z = k := ⟨z.toNat, by omega⟩
      have hk : k ≤ 10 := by omega
      refine AW.seqD mixed ?_
      refine yL1 ?_
      refine yP pL ?_
      refine yLA ?_
      refine yC (need_ctr hk hN) bd132 [] [] ?_
      refine yP pLt ?_
      refine yA ?_
      refine zD ?_
      refine zA (fun hb4 => ?_) (fun hb4 => ?_)
      ·
       have hne : YS.length < needN k N := by simpa using hb4
       have hcc := errF_13 hk hne
       obtain rfl : i = j := by rcases Nat.lt_or_ge i j with h | h; exact absurd (hcc.symm.trans (her.symm.trans (hok i h))) (by decide); omega
       obtain rfl : c = errF YS.length _ := by rw [← her]; exact hej.symm
       rw [hcc]
       refine zS ?_
       refine yM ?_
       refine yA ?_
       refine yA ?_
       refine yA ?_
       refine zN (zE (zI (zU (zI (zU (zU (zI (zU ?_))))))))
       exact rq [] [.tmp 4, .tmp 5, .tmp 6] (hb := (OutL.flat rfl (flatS L) (by intro h; exact h.elim id fun h => absurd h.1 (by simp)) (OutL.flat rfl (flatM flat_vi) (by intro h; exact h.elim id fun h => absurd h.1 (by simp)) trivial)))
      ·
       have hneed : needN k N ≤ YS.length := by simpa using hb4
       refine zS ?_
       refine yL1 ?_
       refine yP pL ?_
       refine yP (pEq (b := 64)) ?_
       first | refine AWo.pureB (PureOp.move rfl) rfl rfl (fun hb5 => ?_) (fun hb5 => ?_)
       ·
        have h64 : YS.length = 64 := by simpa using hb5
        refine yP pF ?_
        refine yL1 ?_
        refine yP (pEq (b := 0)) ?_
        first | refine AWo.pureB (PureOp.move rfl) rfl rfl (fun hb6 => ?_) (fun hb6 => ?_)
        ·
         have hk0 : k = 0 := by simpa using hb6
         have hcc := errF_9 hk hneed h64 (.inl hk0)
         obtain rfl : i = j := by rcases Nat.lt_or_ge i j with h | h; exact absurd (hcc.symm.trans (her.symm.trans (hok i h))) (by decide); omega
         obtain rfl : c = errF YS.length _ := by rw [← her]; exact hej.symm
         rw [hcc]
         refine yK ?_
         refine yK ?_
         refine yK ?_
         refine yP pT ?_
         refine yP pT ?_
         refine yA ?_
         refine zN (zC (zS ?_))
         refine yM ?_
         refine yA ?_
         refine yA ?_
         refine yA ?_
         refine zN (zE (zI (zU (zI (zU (zU (zI (zU ?_))))))))
         exact rq [] [.tmp 4, .tmp 5, .tmp 6] (hb := (OutL.flat rfl (flatS L) (by intro h; exact h.elim id fun h => absurd h.1 (by simp)) (OutL.flat rfl (flatM flat_vi) (by intro h; exact h.elim id fun h => absurd h.1 (by simp)) trivial)))
        ·
         have hk0 : k ≠ 0 := by simpa using hb6
         refine yP pF ?_
         refine yL1 ?_
         refine yP (pEq (b := 7)) ?_
         refine yP pE ?_
         refine yP pT ?_
         refine yA ?_
         refine zN ?_
         refine zA (fun hb7 => ?_) (fun hb7 => ?_)
         ·
          have hk7 : k = 7 := by simpa using hb7
          have hcc := errF_9 hk hneed h64 (.inr hk7)
          obtain rfl : i = j := by rcases Nat.lt_or_ge i j with h | h; exact absurd (hcc.symm.trans (her.symm.trans (hok i h))) (by decide); omega
          obtain rfl : c = errF YS.length _ := by rw [← her]; exact hej.symm
          rw [hcc]
          refine zS ?_
          refine yM ?_
          refine yA ?_
          refine yA ?_
          refine yA ?_
          refine zN (zE (zI (zU (zI (zU (zU (zI (zU ?_))))))))
          exact rq [] [.tmp 4, .tmp 5, .tmp 6] (hb := (OutL.flat rfl (flatS L) (by intro h; exact h.elim id fun h => absurd h.1 (by simp)) (OutL.flat rfl (flatM flat_vi) (by intro h; exact h.elim id fun h => absurd h.1 (by simp)) trivial)))
         ·
          have hk7 : k ≠ 7 := by simpa using hb7
          have hrm : ¬ (YS.length = 64 ∧ (k = 0 ∨ k = 7)) := fun h => h.2.elim hk0 hk7
          refine zK (zL (zT ?_))
          have hjn : i ≠ j := by rintro rfl; exact hc (by rw [← hej, her]; exact errF_0 hk (by omega) hrm)
          refine zR ?_
          refine yLA ?_
          refine yC (cstep_ctr (XS := YS) hyl hk hN hneed hrm) bd133 [(8000, 0), (77000, 0)] [57000] ?_ (hnew := (.chg rfl rfl rfl (OkL.all rfl) (.gone rfl rfl (OkL.flat (by simp)) (.new (flat_map_ren (flatM flat_vi)) (OkL.flat (flatM flat_vi)) .nil))))
          refine zN (zL (zT (zR ?_)))
          refine yP (pAdd (b := 1)) ?_
          refine yM ?_
          refine zN (zT ?_)
          rw [show stepF YS k N = stk L XS (i + 1) by show _ = stepF (stk L XS i) _ _; rw [hY, hs]; rfl]
          refine ⟨L.length - (i + 1), [(77000, 57000)], _, by omega, ?_, i + 1, by omega, rfl, rfl⟩
          refine Wk.of [0, 1, 8000, 77000] ?_ ?_ ?_ (by decide) rfl
          ·
           refine WkE.upd rfl (by exact VR.flat _ rfl) ?_
           refine WkE.upd rfl (by exact VR.flat _ rfl) ?_
           refine WkE.upd rfl (.slice (0) 0 _ 0 ⟨_, rfl⟩ (by simp) (by simp)) ?_
           refine WkE.upd rfl (.ptr (8000) 0 ⟨_, rfl⟩) ?_
           exact WkE.emp
          ·
           refine WkM.flat rfl (flatM flat_vi) (fun h => h) ?_
           refine WkM.ren [77000] rfl rfl rfl (dom_all rfl) (fun h => h) ?_
           refine WkM.flat rfl (flatM flat_vi) (fun h => h) ?_
           refine WkM.flat rfl (flatS L) (fun h => h) ?_
           exact WkM.emp
          ·
           repeat (refine dom_upd_mem (by decide) ?_)
           exact dom_emp
       ·
        have h64 : YS.length ≠ 64 := by simpa using hb5
        have hrm : ¬ (YS.length = 64 ∧ (k = 0 ∨ k = 7)) := fun h => h64 h.1
        refine yK ?_
        refine yK ?_
        refine yK ?_
        refine yK ?_
        refine yK ?_
        refine yK ?_
        refine yK ?_
        refine yK ?_
        refine yP pE ?_
        refine yA ?_
        refine zN (zF (zK (zL (zT ?_))))
        have hjn : i ≠ j := by rintro rfl; exact hc (by rw [← hej, her]; exact errF_0 hk (by omega) hrm)
        refine zR ?_
        refine yLA ?_
        refine yC (cstep_ctr (XS := YS) hyl hk hN hneed hrm) bd133 [(8000, 0), (77000, 0)] [57000] ?_ (hnew := (.chg rfl rfl rfl (OkL.all rfl) (.gone rfl rfl (OkL.flat (by simp)) (.new (flat_map_ren (flatM flat_vi)) (OkL.flat (flatM flat_vi)) .nil))))
        refine zN (zL (zT (zR ?_)))
        refine yP (pAdd (b := 1)) ?_
        refine yM ?_
        refine zN (zT ?_)
        rw [show stepF YS k N = stk L XS (i + 1) by show _ = stepF (stk L XS i) _ _; rw [hY, hs]; rfl]
        refine ⟨L.length - (i + 1), [(77000, 57000)], _, by omega, ?_, i + 1, by omega, rfl, rfl⟩
        refine Wk.of [0, 1, 8000, 77000] ?_ ?_ ?_ (by decide) rfl
        ·
         refine WkE.upd rfl (by exact VR.flat _ rfl) ?_
         refine WkE.upd rfl (by exact VR.flat _ rfl) ?_
         refine WkE.upd rfl (.slice (0) 0 _ 0 ⟨_, rfl⟩ (by simp) (by simp)) ?_
         refine WkE.upd rfl (.ptr (8000) 0 ⟨_, rfl⟩) ?_
         exact WkE.emp
        ·
         refine WkM.flat rfl (flatM flat_vi) (fun h => h) ?_
         refine WkM.ren [77000] rfl rfl rfl (dom_all rfl) (fun h => h) ?_
         refine WkM.flat rfl (flatM flat_vi) (fun h => h) ?_
         refine WkM.flat rfl (flatS L) (fun h => h) ?_
         exact WkM.emp
        ·
         repeat (refine dom_upd_mem (by decide) ?_)
         exact dom_emp
   ·
    simp at hb1; omega
end Go.Proofs.Ytiikffiembcboaa
namespace Go.Proofs.Ytiikffiembcboaa
open Go Sim
set_option maxRecDepth 10000
theorem stk_ex : stk ([(0, 3), (0, 5), (3, 0)] : List (Int × Nat)) [] 3 = [fp 15] := by
 show [fp 3 * fp 5] = [fp 15]
 rw [← fp_mulN]
theorem runS_ctr : GC Try.prog 81 [.slice (some ⟨0, 0, none⟩) 3 0, .slice (some ⟨1, 0, none⟩) 0 0] [⟨([(0, 3), (0, 5), (3, 0)] : List (Int × Nat)).flatMap stC, false, 2⟩, ⟨((([] : List Fp).map fe).flatten).map (vi .u64), false, 4⟩] [.slice (some ⟨2, 0, none⟩) 1 0, .int .i64 (-1), .int .i64 0] [⟨([(0, 3), (0, 5), (3, 0)] : List (Int × Nat)).flatMap stC, false, 2⟩, ⟨((([] : List Fp).map fe).flatten).map (vi .u64), false, 4⟩, ⟨(([fp 15].map fe).flatten).map (vi .u64), true, 4⟩] := by
 have h := run_ctr (L := ([(0, 3), (0, 5), (3, 0)] : List (Int × Nat))) (XS := []) (by decide) (by decide) (by decide) (fun i hi => by
  rcases (by simp at hi; omega : i = 0 ∨ i = 1 ∨ i = 2) with rfl | rfl | rfl <;> rfl)
 rw [show stk ([(0, 3), (0, 5), (3, 0)] : List (Int × Nat)) [] (List.length ([(0, 3), (0, 5), (3, 0)] : List (Int × Nat))) = [fp 15] from stk_ex] at h
 exact h
theorem ofRv_ctr {v : Nat} (hv : v < 18446744073709551616) : GC Try.prog 100 [vi .u64 (v)] [] [dv (fp v)] [] := by
 have h := ofRd hv
 rwa [show dd v = dv (fp v) by show dd v = dd (v % 21888242871839275222246405745257275088548364400416034343698204186575808495617); rw [Nat.mod_eq_of_lt (Nat.lt_trans hv (by decide))]] at h
theorem cspeaks_ctr : GC Try.prog 78 [] [] [.bool true] [] := by
 refine gi Try.func78 ?_
 refine zS ?_
 refine yA ?_
 refine zN ?_
 refine AW.ghost 99000 4 rfl ?_
 refine zS ?_
 refine yP (PureOp.buildStruct [(0, .int .i64 0), (1, .int .u64 3)] pl105.choose_spec.1 zr105 (by decide) pl105.choose_spec.2 rfl rfl) ?_
 refine yP (PureOp.buildStruct [(0, .int .i64 0), (1, .int .u64 5)] pl105.choose_spec.1 zr105 (by decide) pl105.choose_spec.2 rfl rfl) ?_
 refine yP (PureOp.buildStruct [(0, .int .i64 3)] pl105.choose_spec.1 zr105 (by decide) pl105.choose_spec.2 rfl rfl) ?_
 refine AWo.buildSliceG tbok 9000 [(0, .agg #[.int .i64 0, .int .u64 3]), (1, .agg #[.int .i64 0, .int .u64 5]), (2, .agg #[.int .i64 3, .int .u64 0])] (out := ([(0, 3), (0, 5), (3, 0)] : List (Int × Nat)).flatMap stC) rfl rfl rfl rfl rfl (by decide) rfl rfl rfl rfl rfl ?_
 refine yC (runS_ctr) bd81 [(9000, 0), (99000, 0)] [10000] ?_ (hfit := (.flat rfl (flatS _) (by intro h; rfl) (.flat rfl (by exact flatM flat_vi) (by intro h; rfl) .nil)))
 refine yM ?_
 refine yP pX ?_
 refine yP pX ?_
 refine yP pX ?_
 refine yA ?_
 refine yA ?_
 refine yA ?_
 refine zN ?_
 refine AW.seqD mixed ?_
 refine yM ?_
 refine yP ((PureOp.eqN (b := 0) rfl rfl).mono (v' := .bool true) rfl) ?_
 refine yM ?_
 refine yM ?_
 refine yP ((PureOp.bin rfl rfl rfl).mono (v' := .bool true) rfl) ?_
 refine yP pT ?_
 refine yM ?_
 refine yM ?_
 refine yP pL ?_
 refine yP ((PureOp.eqN (b := 1) rfl rfl).mono (v' := .bool true) rfl) ?_
 refine yP pT ?_
 refine yM ?_
 refine yM ?_
 refine yP (pI (j := 0)) ?_
 refine yLEi (xs := [fp 15]) (j := 0) ?_
 refine yC (fromuF_ctr (v := 15) (by decide)) bd82 [] [] ?_
 refine AWo.callX (v := .bool true) (equalF_ctr) bd40 [] [] rfl (.cons rfl (.cons rfl .nil)) rfl (.pure (by rfl) (.pure (by rfl) .nil)) .nil rfl .nil frN (by decide) (.cons rfl rfl .nil) (congrArg Value.bool (decide_eq_true rfl)) rfl rfl rfl ?_
 refine yP pT ?_
 refine yM ?_
 refine yM ?_
 refine yP (pI (j := 0)) ?_
 refine yLEi (xs := [fp 15]) (j := 0) ?_
 refine AWo.callX (v := .bool false) (iszeroF_ctr) bd39 [] [] rfl (.cons rfl .nil) rfl (.pure (by rfl) .nil) .nil rfl .nil frN (by decide) (.cons rfl rfl .nil) (congrArg Value.bool (decide_eq_false (by decide))) rfl rfl rfl ?_
 first | refine AWo.pure ((PureOp.not rfl).mono (v' := .bool true) rfl) rfl rfl ?_
 refine yP pT ?_
 refine yA ?_
 refine zD (zE ?_)
 exact rq [] [.tmp 0]
theorem first_ctr {ns : List Nat} (hb : bd 18446744073709551616 ns) (hl : ns.length ≤ 1000) : GC Try.prog 79 [.slice (some ⟨0, 0, none⟩) ns.length 0] [⟨ns.map (vi .u64), false, 1⟩] [.slice (some ⟨1, 0, none⟩) ns.length 0, .slice (some ⟨2, 0, none⟩) ns.length 0] [⟨ns.map (vi .u64), false, 1⟩, ⟨(((ns.map fp).map fe).flatten).map (vi .u64), true, 4⟩, ⟨(ns.map fp).map (dv), true, 1⟩] := by
 refine gi Try.func79 ?_
 refine zS ?_
 refine yA ?_
 refine yA ?_
 refine zN (zS ?_)
 refine yA ?_
 refine zN (zS ?_)
 refine AWo.buildSlice tbok 9000 [] (out := []) rfl rfl (by decide) rfl rfl rfl (by decide) rfl rfl rfl rfl rfl ?_
 refine yA ?_
 refine zN (zQ (zS ?_))
 refine yM ?_
 refine yP pL ?_
 refine yM ?_
 refine zN (zB ?_)
 refine AW.ghost 77000 4 rfl ?_
 refine AW.loopw (fun mm σ => ∃ i, (i ≤ ns.length) ∧ mm = ns.length - i ∧ σ = ⟨(upd (upd (upd (upd (upd emp 4 (.slice (some ⟨77000, 0, none⟩) i 0)) 5 (.slice (some ⟨77001, 0, none⟩) i 0)) 9 (.slice (some ⟨0, 0, none⟩) ns.length 0)) 10 (vi .i64 ns.length)) 11 (vi .i64 i)), (upd (upd (upd emp 0 ⟨ns.map (vi .u64), false, 1⟩) 77000 ⟨((((ns.take i).map fp).map fe).flatten).map (vi .u64), true, 4⟩) 77001 ⟨((ns.take i).map fp).map dv, true, 1⟩)⟩) (fm := [(77001, 9000)]) (wk [0, 77000, 77001]) ⟨0, Nat.zero_le _, rfl, rfl⟩ ?_
 rintro mm σ ⟨i, hinv, rfl, rfl⟩
 refine zS ?_
 refine yP pLt ?_
 refine zN (zQ ?_)
 refine zA (fun hb0 => ?_) (fun hb0 => ?_)
 ·
  have hi : i < ns.length := by simpa using hb0
  have hvi : ns.getD i 0 < 18446744073709551616 := hb _ (getD_mem hi)
  have hnx : ns.take (i + 1) = ns.take i ++ [ns.getD i 0] := by rw [List.take_add_one, List.getElem?_eq_getElem hi, List.getD_eq_getElem?_getD, List.getElem?_eq_getElem hi]; rfl
  refine zK (zT (zQ (zB (zS ?_))))
  refine yP pJ ?_
  refine yL 0 ?_
  refine yA ?_
  refine zN (zS ?_)
  refine yM ?_
  refine yM ?_
  refine yC (fromuF_ctr (v := (ns.getD i 0)) hvi) bd82 [] [] ?_
  refine AWo.buildSlice tbok 19000 [(0, .agg ((fe (fp (ns.getD i 0))).map (vi .u64)).toArray)] (out := [fe (fp (ns.getD i 0))].flatten.map (vi .u64)) rfl rfl (by decide) rfl rfl rfl (by decide) rfl (fillB1 (fe_len _)) rfl rfl rfl ?_
  refine AWo.append tbok (all := ((((ns.take (i + 1)).map fp).map fe).flatten).map (vi .u64)) (news := [fe (fp (ns.getD i 0))].flatten.map (vi .u64)) 20000 rfl rfl rfl rfl (by rw [List.length_map, fe_flat, List.length_map, List.length_take, Nat.min_eq_left (by omega)]) (by show List.take _ (List.drop 0 _) = _; rw [List.drop_zero]; exact List.take_of_length_le (by simp)) (by (simp; done)) (by decide) rfl rfl rfl (by decide) rfl rfl rfl (by omega) (by omega) (by exact oneM (fun _ => rfl) _) (by rw [← List.map_append, ← List.flatten_append, hnx]; simp) rfl rfl ?_
  refine yA ?_
  refine zN (zR ?_)
  refine yM ?_
  refine yM ?_
  refine yC (ofRv_ctr (v := (ns.getD i 0)) hvi) bd100 [] [] ?_
  refine AWo.buildSlice tbok 24000 [(0, dv (fp (ns.getD i 0)))] (out := [dv (fp (ns.getD i 0))]) rfl rfl (by decide) rfl rfl rfl (by decide) rfl rfl rfl rfl rfl ?_
  refine AWo.append tbok (all := ((ns.take (i + 1)).map fp).map dv) (news := [fp (ns.getD i 0)].map dv) 25000 rfl rfl rfl rfl (by rw [List.length_map, List.length_map, List.length_take, Nat.min_eq_left (by omega)]; omega) rfl (by (simp; done)) (by decide) rfl rfl rfl (by decide) rfl rfl rfl (by omega) (by omega) (by exact oneM (fun _ => rfl) _) (by rw [hnx, List.map_append, List.map_append]; rfl) rfl rfl ?_
  refine yA ?_
  refine zN (zL (zT (zR ?_)))
  refine yP (pAdd (b := 1)) ?_
  refine yM ?_
  refine zN (zT ?_)
  exact ⟨ns.length - (i + 1), [(77000, 20000), (77001, 25000)], _, by omega, wk [0, 77000, 77001], i + 1, by omega, rfl, rfl⟩
 ·
  obtain rfl : i = ns.length := by simp at hb0; omega
  rw [List.take_length]
  refine zX (zV (zV (zH (zT (zS ?_)))))
  refine yM ?_
  refine yM ?_
  refine yA ?_
  refine yA ?_
  refine zN (zE ?_)
  exact rq [77000, 77001] [.tmp 2, .tmp 3] (hb := (OutL.flat rfl (by exact flatM flat_vi) (by intro h; exact h.elim id fun h => absurd h.1 (by simp)) (OutL.flat rfl (by exact flatM flat_vi) (by intro h; rfl) (OutL.clo rfl (cloM fun _ => rfl) (by intro h; rfl) trivial))))
theorem cof_ctr {L : List (Int × Nat)} (hl : L.length ≤ 1000) : GC Try.prog 80 [.slice (some ⟨0, 0, none⟩) L.length 0] [⟨L.flatMap stC, false, 2⟩] [.slice (some ⟨1, 0, none⟩) L.length 0] [⟨L.flatMap stC, false, 2⟩, ⟨L.flatMap stC, true, 2⟩] := by
 refine gi Try.func80 ?_
 refine zS ?_
 refine yA ?_
 refine zN (zS ?_)
 refine yA ?_
 refine zN (zQ (zS ?_))
 refine yM ?_
 refine yP pL ?_
 refine yM ?_
 refine zN (zB ?_)
 refine AW.ghost 77000 2 rfl ?_
 refine AW.loopw (fun mm σ => ∃ i, (i ≤ L.length) ∧ mm = L.length - i ∧ σ = ⟨(upd (upd (upd (upd emp 3 (.slice (some ⟨77000, 0, none⟩) i 0)) 6 (.slice (some ⟨0, 0, none⟩) L.length 0)) 7 (vi .i64 L.length)) 8 (vi .i64 i)), (upd (upd emp 0 ⟨L.flatMap stC, false, 2⟩) 77000 ⟨(L.take i).flatMap stC, true, 2⟩)⟩) (fm := []) ?_ ⟨0, Nat.zero_le _, rfl, rfl⟩ ?_
 ·
  refine Wk.of [0, 77000] ?_ ?_ ?_ (by decide) rfl
  ·
   refine WkE.upd rfl (by exact VR.flat _ rfl) ?_
   refine WkE.upd rfl (by exact VR.flat _ rfl) ?_
   refine WkE.upd rfl (.slice (0) 0 _ 0 ⟨_, rfl⟩ (by simp) (by simp)) ?_
   refine WkE.upd rfl (by exact .nilS _ (by simp)) ?_
   exact WkE.emp
  ·
   refine WkM.flat rfl (flatS _) (fun h => h) ?_
   refine WkM.flat rfl (flatS _) (fun h => h) ?_
   exact WkM.emp
  ·
   repeat (refine dom_upd_mem (by decide) ?_)
   exact dom_emp
 ·
  rintro mm σ ⟨i, hinv, rfl, rfl⟩
  refine zS ?_
  refine yP pLt ?_
  refine zN (zQ ?_)
  refine zA (fun hb0 => ?_) (fun hb0 => ?_)
  ·
   have hi : i < L.length := by simpa using hb0
   obtain ⟨⟨z, N⟩, hs⟩ : ∃ s, L.getD i (0, 0) = s := ⟨_, rfl⟩
   have hnx : L.take (i + 1) = L.take i ++ [(z, N)] := by rw [List.take_add_one, List.getElem?_eq_getElem hi, ← hs, List.getD_eq_getElem?_getD, List.getElem?_eq_getElem hi]; rfl
   refine zK (zT (zQ (zB (zS ?_))))
   refine yP (PureOp.idxN tbok (j := i) rfl rfl rfl rfl hi) ?_
   refine AWo.loadAgg tbok (vs := [.int .i64 z, vi .u64 N]) rfl rfl rfl rfl (st_room hi) (by rw [st_at hi, hs]; rfl) rfl rfl ?_
   refine yN 6000 1 _ ?_
   refine ySA ?_
   refine zN (zR ?_)
   refine yM ?_
   refine yP pF ?_
   refine yL1 ?_
   refine yP pF ?_
   refine yL1 ?_
   refine yP (PureOp.buildStruct [(0, .int .i64 z), (1, vi .u64 N)] pl105.choose_spec.1 zr105 (by decide) pl105.choose_spec.2 rfl rfl) ?_
   refine AWo.buildSliceG tbok 19000 [(0, .agg #[.int .i64 z, vi .u64 N])] (out := [(z, N)].flatMap stC) rfl rfl rfl rfl rfl (by decide) rfl rfl rfl rfl rfl ?_
   refine AWo.append tbok (all := (L.take (i + 1)).flatMap stC) (news := [(z, N)].flatMap stC) 20000 rfl rfl rfl rfl (by rw [st_len, List.length_take, Nat.min_eq_left (by omega)]) rfl (by show 0 + 1 * 2 ≤ 2; decide) (by decide) rfl rfl rfl (by decide) rfl rfl rfl (by omega) (by omega) rfl (by rw [← List.flatMap_append, hnx]) rfl rfl ?_
   refine yA ?_
   refine zN (zL (zT (zR ?_)))
   refine yP (pAdd (b := 1)) ?_
   refine yM ?_
   refine zN (zT ?_)
   refine ⟨L.length - (i + 1), [(77000, 20000)], _, by omega, ?_, i + 1, by omega, rfl, rfl⟩
   refine Wk.of [0, 77000] ?_ ?_ ?_ (by decide) rfl
   ·
    refine WkE.upd rfl (by exact VR.flat _ rfl) ?_
    refine WkE.upd rfl (by exact VR.flat _ rfl) ?_
    refine WkE.upd rfl (.slice (0) 0 _ 0 ⟨_, rfl⟩ (by simp) (by simp)) ?_
    refine WkE.upd rfl (by exact .slice (77000) 0 _ 0 ⟨_, rfl⟩ (by simp) (by simp)) ?_
    exact WkE.emp
   ·
    refine WkM.flat rfl (flatS _) (fun h => h) ?_
    refine WkM.flat rfl (flatS _) (fun h => h) ?_
    exact WkM.emp
   ·
    repeat (refine dom_upd_mem (by decide) ?_)
    exact dom_emp
  ·
   obtain rfl : i = L.length := by simp at hb0; omega
   rw [List.take_length]
   refine zX (zV (zV (zH (zT (zS ?_)))))
   refine yM ?_
   refine yA ?_
   refine zN (zE ?_)
   exact rq [77000] [.tmp 2] (hb := (OutL.flat rfl (flatS _) (by intro h; exact h.elim id fun h => absurd h.1 (by simp)) (OutL.flat rfl (flatS _) (by intro h; rfl) trivial)))
end Go.Proofs.Ytiikffiembcboaa
namespace Go.Proofs.Ytiikffiembcboaa
open Go Sim
set_option maxRecDepth 10000
theorem runK_ctr {L : List (Int × Nat)} {XS YS : List Fp} {n x m : Nat} (hn : L.length = n) (hx : XS.length = x) (hY : stk L XS n = YS) (hm : YS.length = m) (hL : ∀ s ∈ L, s.2 < 18446744073709551616) (hll : L.length ≤ 1000) (hl : XS.length ≤ 64) (hok : ∀ i, i < L.length → errAt L XS i = 0) : GC Try.prog 81 [.slice (some ⟨0, 0, none⟩) n 0, .slice (some ⟨1, 0, none⟩) x 0] [⟨L.flatMap stC, false, 2⟩, ⟨((XS.map fe).flatten).map (vi .u64), false, 4⟩] [.slice (some ⟨2, 0, none⟩) m 0, .int .i64 (-1), .int .i64 0] [⟨L.flatMap stC, false, 2⟩, ⟨((XS.map fe).flatten).map (vi .u64), false, 4⟩, ⟨((YS.map fe).flatten).map (vi .u64), true, 4⟩] := by
 subst hn hx hY hm; exact run_ctr hL hll hl hok
theorem runJ_ctr {L : List (Int × Nat)} {XS : List Fp} {n x j c : Nat} (hn : L.length = n) (hx : XS.length = x) (hL : ∀ s ∈ L, s.2 < 18446744073709551616) (hll : L.length ≤ 1000) (hl : XS.length ≤ 64) (hj : j < L.length) (hok : ∀ i, i < j → errAt L XS i = 0) (hej : errAt L XS j = c) (hc : c ≠ 0) : GC Try.prog 81 [.slice (some ⟨0, 0, none⟩) n 0, .slice (some ⟨1, 0, none⟩) x 0] [⟨L.flatMap stC, false, 2⟩, ⟨((XS.map fe).flatten).map (vi .u64), false, 4⟩] [.slice none 0 0, vi .i64 j, vi .i64 c] [⟨L.flatMap stC, false, 2⟩, ⟨((XS.map fe).flatten).map (vi .u64), false, 4⟩] := by
 subst hn hx; exact rune_ctr hL hll hl hj hok hej hc
theorem firstBad (L : List (Int × Nat)) (XS : List Fp) : ∀ n, (∀ i, i < n → errAt L XS i = 0) ∨ ∃ j, j < n ∧ (∀ i, i < j → errAt L XS i = 0) ∧ errAt L XS j ≠ 0
  | 0 => .inl fun i h => absurd h (Nat.not_lt_zero i)
  | n + 1 => by
    rcases firstBad L XS n with h | ⟨j, h1, h2, h3⟩
    · by_cases h0 : errAt L XS n = 0
      · refine .inl fun i hi => ?_
        rcases (by omega : i < n ∨ i = n) with h4 | rfl
        · exact h i h4
        · exact h0
      · exact .inr ⟨n, by omega, h, h0⟩
    · exact .inr ⟨j, by omega, h2, h3⟩
end Go.Proofs.Ytiikffiembcboaa
namespace Go.Proofs.Ytiikffiembcboaa
open Go Sim
set_option maxRecDepth 10000
abbrev dst (L : List (Int × Nat)) : Value := deep L.length 2 (L.flatMap stC)
end Go.Proofs.Ytiikffiembcboaa
namespace Go.Proofs.Ytiikffiembcboaa
open Go Sim
set_option maxRecDepth 10000
theorem rneed0_ctr {N : Nat} : GC Try.prog 149 [.agg #[.int .i64 0, vi .u64 N]] [] [vi .i64 (0)] [] := by
  refine GC.intro Try.func149 rfl (by show 1 ≤ 21; decide) (by first | exact Nat.le_refl _ | decide | simp) ?_
  refine AW.seqR ?_
  refine AWo.box 2000 1 _ rfl rfl rfl rfl rfl ?_
  refine AWo.pure (PureOp.assign rfl) rfl rfl ?_
  refine AWo.nil trivial ?_
  refine AW.seq ?_
  refine AW.seqR ?_
  refine AWo.pure (PureOp.fld tbok rfl rfl rfl (by decide)) rfl rfl ?_
  first | refine AWo.loadM tbok 0 rfl rfl rfl (by first | decide | omega) rfl rfl ?_ | refine AWo.load tbok rfl rfl rfl rfl rfl rfl ?_
  refine AWo.nil trivial ?_
  refine AW.block ?_
  refine AW.seqR ?_
  first | refine AWo.pure ((PureOp.eqN (b := 0) rfl rfl).mono (v' := .bool true) rfl) rfl rfl ?_ | refine AWo.pure ((PureOp.bin rfl rfl rfl).mono (v' := .bool true) rfl) rfl rfl ?_
  refine AWo.pure (PureOp.assign rfl) rfl rfl ?_
  refine AWo.nil trivial ?_
  refine AW.condT rfl ?_
  refine AW.seqR ?_
  refine AWo.pure (PureOp.assign rfl) rfl rfl ?_
  refine AWo.nil trivial ?_
  refine AW.ret ?_
  refine inBlockA_ret ?_
  refine thenA_ret ?_
  refine RetQ.gc [_] [] [.tmp 2] (.inl rfl) rfl (.tmp rfl .nil) rfl (.cons rfl rfl .nil) trivial (by decide) rfl
theorem rneed1_ctr {N : Nat} : GC Try.prog 149 [.agg #[.int .i64 1, vi .u64 N]] [] [vi .i64 (2)] [] := by
  refine GC.intro Try.func149 rfl (by show 1 ≤ 21; decide) (by first | exact Nat.le_refl _ | decide | simp) ?_
  refine AW.seqR ?_
  refine AWo.box 2000 1 _ rfl rfl rfl rfl rfl ?_
  refine AWo.pure (PureOp.assign rfl) rfl rfl ?_
  refine AWo.nil trivial ?_
  refine AW.seq ?_
  refine AW.seqR ?_
  refine AWo.pure (PureOp.fld tbok rfl rfl rfl (by decide)) rfl rfl ?_
  first | refine AWo.loadM tbok 0 rfl rfl rfl (by first | decide | omega) rfl rfl ?_ | refine AWo.load tbok rfl rfl rfl rfl rfl rfl ?_
  refine AWo.nil trivial ?_
  refine AW.block ?_
  refine AW.seqR ?_
  first | refine AWo.pure ((PureOp.eqN (b := 0) rfl rfl).mono (v' := .bool false) rfl) rfl rfl ?_ | refine AWo.pure ((PureOp.bin rfl rfl rfl).mono (v' := .bool false) rfl) rfl rfl ?_
  refine AWo.pure (PureOp.assign rfl) rfl rfl ?_
  refine AWo.nil trivial ?_
  refine AW.condF rfl ?_
  refine AW.seq ?_
  refine AW.seqR ?_
  first | refine AWo.pure ((PureOp.eqN (b := 4) rfl rfl).mono (v' := .bool false) rfl) rfl rfl ?_ | refine AWo.pure ((PureOp.bin rfl rfl rfl).mono (v' := .bool false) rfl) rfl rfl ?_
  refine AWo.pure (PureOp.assign rfl) rfl rfl ?_
  refine AWo.nil trivial ?_
  refine AW.condF rfl ?_
  refine AW.seqR ?_
  first | refine AWo.pure ((PureOp.eqN (b := 5) rfl rfl).mono (v' := .bool false) rfl) rfl rfl ?_ | refine AWo.pure ((PureOp.bin rfl rfl rfl).mono (v' := .bool false) rfl) rfl rfl ?_
  refine AWo.pure (PureOp.assign rfl) rfl rfl ?_
  refine AWo.nil trivial ?_
  refine AW.condF rfl ?_
  refine AW.seqR ?_
  first | refine AWo.pure ((PureOp.eqN (b := 6) rfl rfl).mono (v' := .bool false) rfl) rfl rfl ?_ | refine AWo.pure ((PureOp.bin rfl rfl rfl).mono (v' := .bool false) rfl) rfl rfl ?_
  refine AWo.pure (PureOp.assign rfl) rfl rfl ?_
  refine AWo.nil trivial ?_
  refine AW.condF rfl ?_
  refine AW.region ?_
  first | refine AWo.pure ((PureOp.eqN (b := 9) rfl rfl).mono (v' := .bool false) rfl) rfl rfl ?_ | refine AWo.pure ((PureOp.bin rfl rfl rfl).mono (v' := .bool false) rfl) rfl rfl ?_
  refine AWo.pure (PureOp.assign rfl) rfl rfl ?_
  refine AWo.nil trivial ?_
  refine thenA_normal ?_
  refine AW.condF rfl ?_
  refine AW.seqR ?_
  first | refine AWo.pure ((PureOp.eqN (b := 7) rfl rfl).mono (v' := .bool false) rfl) rfl rfl ?_ | refine AWo.pure ((PureOp.bin rfl rfl rfl).mono (v' := .bool false) rfl) rfl rfl ?_
  refine AWo.pure (PureOp.assign rfl) rfl rfl ?_
  refine AWo.nil trivial ?_
  refine AW.condF rfl ?_
  refine AW.skip ?_
  refine inBlockA_normal ?_
  refine thenA_normal ?_
  refine AW.seqR ?_
  refine AWo.pure (PureOp.assign rfl) rfl rfl ?_
  refine AWo.nil trivial ?_
  refine AW.ret ?_
  refine RetQ.gc [_] [] [.tmp 2] (.inl rfl) rfl (.tmp rfl .nil) rfl (.cons rfl rfl .nil) trivial (by decide) rfl
theorem rneed2_ctr {N : Nat} : GC Try.prog 149 [.agg #[.int .i64 2, vi .u64 N]] [] [vi .i64 (2)] [] := by
  refine GC.intro Try.func149 rfl (by show 1 ≤ 21; decide) (by first | exact Nat.le_refl _ | decide | simp) ?_
  refine AW.seqR ?_
  refine AWo.box 2000 1 _ rfl rfl rfl rfl rfl ?_
  refine AWo.pure (PureOp.assign rfl) rfl rfl ?_
  refine AWo.nil trivial ?_
  refine AW.seq ?_
  refine AW.seqR ?_
  refine AWo.pure (PureOp.fld tbok rfl rfl rfl (by decide)) rfl rfl ?_
  first | refine AWo.loadM tbok 0 rfl rfl rfl (by first | decide | omega) rfl rfl ?_ | refine AWo.load tbok rfl rfl rfl rfl rfl rfl ?_
  refine AWo.nil trivial ?_
  refine AW.block ?_
  refine AW.seqR ?_
  first | refine AWo.pure ((PureOp.eqN (b := 0) rfl rfl).mono (v' := .bool false) rfl) rfl rfl ?_ | refine AWo.pure ((PureOp.bin rfl rfl rfl).mono (v' := .bool false) rfl) rfl rfl ?_
  refine AWo.pure (PureOp.assign rfl) rfl rfl ?_
  refine AWo.nil trivial ?_
  refine AW.condF rfl ?_
  refine AW.seq ?_
  refine AW.seqR ?_
  first | refine AWo.pure ((PureOp.eqN (b := 4) rfl rfl).mono (v' := .bool false) rfl) rfl rfl ?_ | refine AWo.pure ((PureOp.bin rfl rfl rfl).mono (v' := .bool false) rfl) rfl rfl ?_
  refine AWo.pure (PureOp.assign rfl) rfl rfl ?_
  refine AWo.nil trivial ?_
  refine AW.condF rfl ?_
  refine AW.seqR ?_
  first | refine AWo.pure ((PureOp.eqN (b := 5) rfl rfl).mono (v' := .bool false) rfl) rfl rfl ?_ | refine AWo.pure ((PureOp.bin rfl rfl rfl).mono (v' := .bool false) rfl) rfl rfl ?_
  refine AWo.pure (PureOp.assign rfl) rfl rfl ?_
  refine AWo.nil trivial ?_
  refine AW.condF rfl ?_
  refine AW.seqR ?_
  first | refine AWo.pure ((PureOp.eqN (b := 6) rfl rfl).mono (v' := .bool false) rfl) rfl rfl ?_ | refine AWo.pure ((PureOp.bin rfl rfl rfl).mono (v' := .bool false) rfl) rfl rfl ?_
  refine AWo.pure (PureOp.assign rfl) rfl rfl ?_
  refine AWo.nil trivial ?_
  refine AW.condF rfl ?_
  refine AW.region ?_
  first | refine AWo.pure ((PureOp.eqN (b := 9) rfl rfl).mono (v' := .bool false) rfl) rfl rfl ?_ | refine AWo.pure ((PureOp.bin rfl rfl rfl).mono (v' := .bool false) rfl) rfl rfl ?_
  refine AWo.pure (PureOp.assign rfl) rfl rfl ?_
  refine AWo.nil trivial ?_
  refine thenA_normal ?_
  refine AW.condF rfl ?_
  refine AW.seqR ?_
  first | refine AWo.pure ((PureOp.eqN (b := 7) rfl rfl).mono (v' := .bool false) rfl) rfl rfl ?_ | refine AWo.pure ((PureOp.bin rfl rfl rfl).mono (v' := .bool false) rfl) rfl rfl ?_
  refine AWo.pure (PureOp.assign rfl) rfl rfl ?_
  refine AWo.nil trivial ?_
  refine AW.condF rfl ?_
  refine AW.skip ?_
  refine inBlockA_normal ?_
  refine thenA_normal ?_
  refine AW.seqR ?_
  refine AWo.pure (PureOp.assign rfl) rfl rfl ?_
  refine AWo.nil trivial ?_
  refine AW.ret ?_
  refine RetQ.gc [_] [] [.tmp 2] (.inl rfl) rfl (.tmp rfl .nil) rfl (.cons rfl rfl .nil) trivial (by decide) rfl
theorem rneed3_ctr {N : Nat} : GC Try.prog 149 [.agg #[.int .i64 3, vi .u64 N]] [] [vi .i64 (2)] [] := by
  refine GC.intro Try.func149 rfl (by show 1 ≤ 21; decide) (by first | exact Nat.le_refl _ | decide | simp) ?_
  refine AW.seqR ?_
  refine AWo.box 2000 1 _ rfl rfl rfl rfl rfl ?_
  refine AWo.pure (PureOp.assign rfl) rfl rfl ?_
  refine AWo.nil trivial ?_
  refine AW.seq ?_
  refine AW.seqR ?_
  refine AWo.pure (PureOp.fld tbok rfl rfl rfl (by decide)) rfl rfl ?_
  first | refine AWo.loadM tbok 0 rfl rfl rfl (by first | decide | omega) rfl rfl ?_ | refine AWo.load tbok rfl rfl rfl rfl rfl rfl ?_
  refine AWo.nil trivial ?_
  refine AW.block ?_
  refine AW.seqR ?_
  first | refine AWo.pure ((PureOp.eqN (b := 0) rfl rfl).mono (v' := .bool false) rfl) rfl rfl ?_ | refine AWo.pure ((PureOp.bin rfl rfl rfl).mono (v' := .bool false) rfl) rfl rfl ?_
  refine AWo.pure (PureOp.assign rfl) rfl rfl ?_
  refine AWo.nil trivial ?_
  refine AW.condF rfl ?_
  refine AW.seq ?_
  refine AW.seqR ?_
  first | refine AWo.pure ((PureOp.eqN (b := 4) rfl rfl).mono (v' := .bool false) rfl) rfl rfl ?_ | refine AWo.pure ((PureOp.bin rfl rfl rfl).mono (v' := .bool false) rfl) rfl rfl ?_
  refine AWo.pure (PureOp.assign rfl) rfl rfl ?_
  refine AWo.nil trivial ?_
  refine AW.condF rfl ?_
  refine AW.seqR ?_
  first | refine AWo.pure ((PureOp.eqN (b := 5) rfl rfl).mono (v' := .bool false) rfl) rfl rfl ?_ | refine AWo.pure ((PureOp.bin rfl rfl rfl).mono (v' := .bool false) rfl) rfl rfl ?_
  refine AWo.pure (PureOp.assign rfl) rfl rfl ?_
  refine AWo.nil trivial ?_
  refine AW.condF rfl ?_
  refine AW.seqR ?_
  first | refine AWo.pure ((PureOp.eqN (b := 6) rfl rfl).mono (v' := .bool false) rfl) rfl rfl ?_ | refine AWo.pure ((PureOp.bin rfl rfl rfl).mono (v' := .bool false) rfl) rfl rfl ?_
  refine AWo.pure (PureOp.assign rfl) rfl rfl ?_
  refine AWo.nil trivial ?_
  refine AW.condF rfl ?_
  refine AW.region ?_
  first | refine AWo.pure ((PureOp.eqN (b := 9) rfl rfl).mono (v' := .bool false) rfl) rfl rfl ?_ | refine AWo.pure ((PureOp.bin rfl rfl rfl).mono (v' := .bool false) rfl) rfl rfl ?_
  refine AWo.pure (PureOp.assign rfl) rfl rfl ?_
  refine AWo.nil trivial ?_
  refine thenA_normal ?_
  refine AW.condF rfl ?_
  refine AW.seqR ?_
  first | refine AWo.pure ((PureOp.eqN (b := 7) rfl rfl).mono (v' := .bool false) rfl) rfl rfl ?_ | refine AWo.pure ((PureOp.bin rfl rfl rfl).mono (v' := .bool false) rfl) rfl rfl ?_
  refine AWo.pure (PureOp.assign rfl) rfl rfl ?_
  refine AWo.nil trivial ?_
  refine AW.condF rfl ?_
  refine AW.skip ?_
  refine inBlockA_normal ?_
  refine thenA_normal ?_
  refine AW.seqR ?_
  refine AWo.pure (PureOp.assign rfl) rfl rfl ?_
  refine AWo.nil trivial ?_
  refine AW.ret ?_
  refine RetQ.gc [_] [] [.tmp 2] (.inl rfl) rfl (.tmp rfl .nil) rfl (.cons rfl rfl .nil) trivial (by decide) rfl
theorem rneed4_ctr {N : Nat} : GC Try.prog 149 [.agg #[.int .i64 4, vi .u64 N]] [] [vi .i64 (1)] [] := by
  refine GC.intro Try.func149 rfl (by show 1 ≤ 21; decide) (by first | exact Nat.le_refl _ | decide | simp) ?_
  refine AW.seqR ?_
  refine AWo.box 2000 1 _ rfl rfl rfl rfl rfl ?_
  refine AWo.pure (PureOp.assign rfl) rfl rfl ?_
  refine AWo.nil trivial ?_
  refine AW.seq ?_
  refine AW.seqR ?_
  refine AWo.pure (PureOp.fld tbok rfl rfl rfl (by decide)) rfl rfl ?_
  first | refine AWo.loadM tbok 0 rfl rfl rfl (by first | decide | omega) rfl rfl ?_ | refine AWo.load tbok rfl rfl rfl rfl rfl rfl ?_
  refine AWo.nil trivial ?_
  refine AW.block ?_
  refine AW.seqR ?_
  first | refine AWo.pure ((PureOp.eqN (b := 0) rfl rfl).mono (v' := .bool false) rfl) rfl rfl ?_ | refine AWo.pure ((PureOp.bin rfl rfl rfl).mono (v' := .bool false) rfl) rfl rfl ?_
  refine AWo.pure (PureOp.assign rfl) rfl rfl ?_
  refine AWo.nil trivial ?_
  refine AW.condF rfl ?_
  refine AW.seq ?_
  refine AW.seqR ?_
  first | refine AWo.pure ((PureOp.eqN (b := 4) rfl rfl).mono (v' := .bool true) rfl) rfl rfl ?_ | refine AWo.pure ((PureOp.bin rfl rfl rfl).mono (v' := .bool true) rfl) rfl rfl ?_
  refine AWo.pure (PureOp.assign rfl) rfl rfl ?_
  refine AWo.nil trivial ?_
  refine AW.condT rfl ?_
  refine AW.skip ?_
  refine thenA_normal ?_
  refine AW.condT rfl ?_
  refine AW.seqR ?_
  refine AWo.pure (PureOp.assign rfl) rfl rfl ?_
  refine AWo.nil trivial ?_
  refine AW.ret ?_
  refine inBlockA_ret ?_
  refine thenA_ret ?_
  refine RetQ.gc [_] [] [.tmp 2] (.inl rfl) rfl (.tmp rfl .nil) rfl (.cons rfl rfl .nil) trivial (by decide) rfl
theorem rneed5_ctr {N : Nat} : GC Try.prog 149 [.agg #[.int .i64 5, vi .u64 N]] [] [vi .i64 (1)] [] := by
  refine GC.intro Try.func149 rfl (by show 1 ≤ 21; decide) (by first | exact Nat.le_refl _ | decide | simp) ?_
  refine AW.seqR ?_
  refine AWo.box 2000 1 _ rfl rfl rfl rfl rfl ?_
  refine AWo.pure (PureOp.assign rfl) rfl rfl ?_
  refine AWo.nil trivial ?_
  refine AW.seq ?_
  refine AW.seqR ?_
  refine AWo.pure (PureOp.fld tbok rfl rfl rfl (by decide)) rfl rfl ?_
  first | refine AWo.loadM tbok 0 rfl rfl rfl (by first | decide | omega) rfl rfl ?_ | refine AWo.load tbok rfl rfl rfl rfl rfl rfl ?_
  refine AWo.nil trivial ?_
  refine AW.block ?_
  refine AW.seqR ?_
  first | refine AWo.pure ((PureOp.eqN (b := 0) rfl rfl).mono (v' := .bool false) rfl) rfl rfl ?_ | refine AWo.pure ((PureOp.bin rfl rfl rfl).mono (v' := .bool false) rfl) rfl rfl ?_
  refine AWo.pure (PureOp.assign rfl) rfl rfl ?_
  refine AWo.nil trivial ?_
  refine AW.condF rfl ?_
  refine AW.seq ?_
  refine AW.seqR ?_
  first | refine AWo.pure ((PureOp.eqN (b := 4) rfl rfl).mono (v' := .bool false) rfl) rfl rfl ?_ | refine AWo.pure ((PureOp.bin rfl rfl rfl).mono (v' := .bool false) rfl) rfl rfl ?_
  refine AWo.pure (PureOp.assign rfl) rfl rfl ?_
  refine AWo.nil trivial ?_
  refine AW.condF rfl ?_
  refine AW.seqR ?_
  first | refine AWo.pure ((PureOp.eqN (b := 5) rfl rfl).mono (v' := .bool true) rfl) rfl rfl ?_ | refine AWo.pure ((PureOp.bin rfl rfl rfl).mono (v' := .bool true) rfl) rfl rfl ?_
  refine AWo.pure (PureOp.assign rfl) rfl rfl ?_
  refine AWo.nil trivial ?_
  refine AW.condT rfl ?_
  refine AW.skip ?_
  refine thenA_normal ?_
  refine AW.condT rfl ?_
  refine AW.seqR ?_
  refine AWo.pure (PureOp.assign rfl) rfl rfl ?_
  refine AWo.nil trivial ?_
  refine AW.ret ?_
  refine inBlockA_ret ?_
  refine thenA_ret ?_
  refine RetQ.gc [_] [] [.tmp 2] (.inl rfl) rfl (.tmp rfl .nil) rfl (.cons rfl rfl .nil) trivial (by decide) rfl
theorem rneed6_ctr {N : Nat} : GC Try.prog 149 [.agg #[.int .i64 6, vi .u64 N]] [] [vi .i64 (1)] [] := by
  refine GC.intro Try.func149 rfl (by show 1 ≤ 21; decide) (by first | exact Nat.le_refl _ | decide | simp) ?_
  refine AW.seqR ?_
  refine AWo.box 2000 1 _ rfl rfl rfl rfl rfl ?_
  refine AWo.pure (PureOp.assign rfl) rfl rfl ?_
  refine AWo.nil trivial ?_
  refine AW.seq ?_
  refine AW.seqR ?_
  refine AWo.pure (PureOp.fld tbok rfl rfl rfl (by decide)) rfl rfl ?_
  first | refine AWo.loadM tbok 0 rfl rfl rfl (by first | decide | omega) rfl rfl ?_ | refine AWo.load tbok rfl rfl rfl rfl rfl rfl ?_
  refine AWo.nil trivial ?_
  refine AW.block ?_
  refine AW.seqR ?_
  first | refine AWo.pure ((PureOp.eqN (b := 0) rfl rfl).mono (v' := .bool false) rfl) rfl rfl ?_ | refine AWo.pure ((PureOp.bin rfl rfl rfl).mono (v' := .bool false) rfl) rfl rfl ?_
  refine AWo.pure (PureOp.assign rfl) rfl rfl ?_
  refine AWo.nil trivial ?_
  refine AW.condF rfl ?_
  refine AW.seq ?_
  refine AW.seqR ?_
  first | refine AWo.pure ((PureOp.eqN (b := 4) rfl rfl).mono (v' := .bool false) rfl) rfl rfl ?_ | refine AWo.pure ((PureOp.bin rfl rfl rfl).mono (v' := .bool false) rfl) rfl rfl ?_
  refine AWo.pure (PureOp.assign rfl) rfl rfl ?_
  refine AWo.nil trivial ?_
  refine AW.condF rfl ?_
  refine AW.seqR ?_
  first | refine AWo.pure ((PureOp.eqN (b := 5) rfl rfl).mono (v' := .bool false) rfl) rfl rfl ?_ | refine AWo.pure ((PureOp.bin rfl rfl rfl).mono (v' := .bool false) rfl) rfl rfl ?_
  refine AWo.pure (PureOp.assign rfl) rfl rfl ?_
  refine AWo.nil trivial ?_
  refine AW.condF rfl ?_
  refine AW.seqR ?_
  first | refine AWo.pure ((PureOp.eqN (b := 6) rfl rfl).mono (v' := .bool true) rfl) rfl rfl ?_ | refine AWo.pure ((PureOp.bin rfl rfl rfl).mono (v' := .bool true) rfl) rfl rfl ?_
  refine AWo.pure (PureOp.assign rfl) rfl rfl ?_
  refine AWo.nil trivial ?_
  refine AW.condT rfl ?_
  refine AW.skip ?_
  refine thenA_normal ?_
  refine AW.condT rfl ?_
  refine AW.seqR ?_
  refine AWo.pure (PureOp.assign rfl) rfl rfl ?_
  refine AWo.nil trivial ?_
  refine AW.ret ?_
  refine inBlockA_ret ?_
  refine thenA_ret ?_
  refine RetQ.gc [_] [] [.tmp 2] (.inl rfl) rfl (.tmp rfl .nil) rfl (.cons rfl rfl .nil) trivial (by decide) rfl
theorem rneed7a_ctr {N : Nat} (hN : N ≤ 100) : GC Try.prog 149 [.agg #[.int .i64 7, vi .u64 N]] [] [vi .i64 (N + 1)] [] := by
  refine GC.intro Try.func149 rfl (by show 1 ≤ 21; decide) (by first | exact Nat.le_refl _ | decide | simp) ?_
  refine AW.seqR ?_
  refine AWo.box 2000 1 _ rfl rfl rfl rfl rfl ?_
  refine AWo.pure (PureOp.assign rfl) rfl rfl ?_
  refine AWo.nil trivial ?_
  refine AW.seq ?_
  refine AW.seqR ?_
  refine AWo.pure (PureOp.fld tbok rfl rfl rfl (by decide)) rfl rfl ?_
  first | refine AWo.loadM tbok 0 rfl rfl rfl (by first | decide | omega) rfl rfl ?_ | refine AWo.load tbok rfl rfl rfl rfl rfl rfl ?_
  refine AWo.nil trivial ?_
  refine AW.block ?_
  refine AW.seqR ?_
  first | refine AWo.pure ((PureOp.eqN (b := 0) rfl rfl).mono (v' := .bool false) rfl) rfl rfl ?_ | refine AWo.pure ((PureOp.bin rfl rfl rfl).mono (v' := .bool false) rfl) rfl rfl ?_
  refine AWo.pure (PureOp.assign rfl) rfl rfl ?_
  refine AWo.nil trivial ?_
  refine AW.condF rfl ?_
  refine AW.seq ?_
  refine AW.seqR ?_
  first | refine AWo.pure ((PureOp.eqN (b := 4) rfl rfl).mono (v' := .bool false) rfl) rfl rfl ?_ | refine AWo.pure ((PureOp.bin rfl rfl rfl).mono (v' := .bool false) rfl) rfl rfl ?_
  refine AWo.pure (PureOp.assign rfl) rfl rfl ?_
  refine AWo.nil trivial ?_
  refine AW.condF rfl ?_
  refine AW.seqR ?_
  first | refine AWo.pure ((PureOp.eqN (b := 5) rfl rfl).mono (v' := .bool false) rfl) rfl rfl ?_ | refine AWo.pure ((PureOp.bin rfl rfl rfl).mono (v' := .bool false) rfl) rfl rfl ?_
  refine AWo.pure (PureOp.assign rfl) rfl rfl ?_
  refine AWo.nil trivial ?_
  refine AW.condF rfl ?_
  refine AW.seqR ?_
  first | refine AWo.pure ((PureOp.eqN (b := 6) rfl rfl).mono (v' := .bool false) rfl) rfl rfl ?_ | refine AWo.pure ((PureOp.bin rfl rfl rfl).mono (v' := .bool false) rfl) rfl rfl ?_
  refine AWo.pure (PureOp.assign rfl) rfl rfl ?_
  refine AWo.nil trivial ?_
  refine AW.condF rfl ?_
  refine AW.region ?_
  first | refine AWo.pure ((PureOp.eqN (b := 9) rfl rfl).mono (v' := .bool false) rfl) rfl rfl ?_ | refine AWo.pure ((PureOp.bin rfl rfl rfl).mono (v' := .bool false) rfl) rfl rfl ?_
  refine AWo.pure (PureOp.assign rfl) rfl rfl ?_
  refine AWo.nil trivial ?_
  refine thenA_normal ?_
  refine AW.condF rfl ?_
  refine AW.seqR ?_
  first | refine AWo.pure ((PureOp.eqN (b := 7) rfl rfl).mono (v' := .bool true) rfl) rfl rfl ?_ | refine AWo.pure ((PureOp.bin rfl rfl rfl).mono (v' := .bool true) rfl) rfl rfl ?_
  refine AWo.pure (PureOp.assign rfl) rfl rfl ?_
  refine AWo.nil trivial ?_
  refine AW.condT rfl ?_
  refine AW.seq ?_
  refine AW.seqR ?_
  refine AWo.pure (PureOp.fld tbok rfl rfl rfl (by decide)) rfl rfl ?_
  first | refine AWo.loadM tbok 0 rfl rfl rfl (by first | decide | omega) rfl rfl ?_ | refine AWo.load tbok rfl rfl rfl rfl rfl rfl ?_
  first | refine AWo.pure (PureOp.gtN (b := 100) rfl rfl) rfl rfl ?_ | refine AWo.pure (PureOp.bin rfl rfl rfl) rfl rfl ?_
  refine AWo.nil trivial ?_
  refine AW.cond rfl (fun hb0 => ?_) (fun hb0 => ?_)
  ·
    simp at hb0; omega
  ·
    refine AW.skip ?_
    refine thenA_normal ?_
    refine AW.seqR ?_
    refine AWo.pure (PureOp.fld tbok rfl rfl rfl (by decide)) rfl rfl ?_
    first | refine AWo.loadM tbok 0 rfl rfl rfl (by first | decide | omega) rfl rfl ?_ | refine AWo.load tbok rfl rfl rfl rfl rfl rfl ?_
    first | refine AWo.pure (PureOp.cvtN tbok 9223372036854775808 rfl rfl rfl (by decide) (by decide) (by first | decide | omega)) rfl rfl ?_ | refine AWo.pure (PureOp.cvt tbok rfl rfl rfl) rfl rfl ?_
    first | refine AWo.pure (PureOp.addI (b := 1) rfl rfl (by first | decide | omega)) rfl rfl ?_ | refine AWo.pure (PureOp.bin rfl rfl rfl) rfl rfl ?_
    refine AWo.pure (PureOp.assign rfl) rfl rfl ?_
    refine AWo.nil trivial ?_
    refine AW.ret ?_
    refine inBlockA_ret ?_
    refine thenA_ret ?_
    refine RetQ.gc [_] [] [.tmp 2] (.inl rfl) rfl (.tmp rfl .nil) rfl (.cons rfl rfl .nil) trivial (by decide) rfl
theorem rneed7b_ctr {N : Nat} (hN : 100 < N) : GC Try.prog 149 [.agg #[.int .i64 7, vi .u64 N]] [] [vi .i64 (101)] [] := by
  refine GC.intro Try.func149 rfl (by show 1 ≤ 21; decide) (by first | exact Nat.le_refl _ | decide | simp) ?_
  refine AW.seqR ?_
  refine AWo.box 2000 1 _ rfl rfl rfl rfl rfl ?_
  refine AWo.pure (PureOp.assign rfl) rfl rfl ?_
  refine AWo.nil trivial ?_
  refine AW.seq ?_
  refine AW.seqR ?_
  refine AWo.pure (PureOp.fld tbok rfl rfl rfl (by decide)) rfl rfl ?_
  first | refine AWo.loadM tbok 0 rfl rfl rfl (by first | decide | omega) rfl rfl ?_ | refine AWo.load tbok rfl rfl rfl rfl rfl rfl ?_
  refine AWo.nil trivial ?_
  refine AW.block ?_
  refine AW.seqR ?_
  first | refine AWo.pure ((PureOp.eqN (b := 0) rfl rfl).mono (v' := .bool false) rfl) rfl rfl ?_ | refine AWo.pure ((PureOp.bin rfl rfl rfl).mono (v' := .bool false) rfl) rfl rfl ?_
  refine AWo.pure (PureOp.assign rfl) rfl rfl ?_
  refine AWo.nil trivial ?_
  refine AW.condF rfl ?_
  refine AW.seq ?_
  refine AW.seqR ?_
  first | refine AWo.pure ((PureOp.eqN (b := 4) rfl rfl).mono (v' := .bool false) rfl) rfl rfl ?_ | refine AWo.pure ((PureOp.bin rfl rfl rfl).mono (v' := .bool false) rfl) rfl rfl ?_
  refine AWo.pure (PureOp.assign rfl) rfl rfl ?_
  refine AWo.nil trivial ?_
  refine AW.condF rfl ?_
  refine AW.seqR ?_
  first | refine AWo.pure ((PureOp.eqN (b := 5) rfl rfl).mono (v' := .bool false) rfl) rfl rfl ?_ | refine AWo.pure ((PureOp.bin rfl rfl rfl).mono (v' := .bool false) rfl) rfl rfl ?_
  refine AWo.pure (PureOp.assign rfl) rfl rfl ?_
  refine AWo.nil trivial ?_
  refine AW.condF rfl ?_
  refine AW.seqR ?_
  first | refine AWo.pure ((PureOp.eqN (b := 6) rfl rfl).mono (v' := .bool false) rfl) rfl rfl ?_ | refine AWo.pure ((PureOp.bin rfl rfl rfl).mono (v' := .bool false) rfl) rfl rfl ?_
  refine AWo.pure (PureOp.assign rfl) rfl rfl ?_
  refine AWo.nil trivial ?_
  refine AW.condF rfl ?_
  refine AW.region ?_
  first | refine AWo.pure ((PureOp.eqN (b := 9) rfl rfl).mono (v' := .bool false) rfl) rfl rfl ?_ | refine AWo.pure ((PureOp.bin rfl rfl rfl).mono (v' := .bool false) rfl) rfl rfl ?_
  refine AWo.pure (PureOp.assign rfl) rfl rfl ?_
  refine AWo.nil trivial ?_
  refine thenA_normal ?_
  refine AW.condF rfl ?_
  refine AW.seqR ?_
  first | refine AWo.pure ((PureOp.eqN (b := 7) rfl rfl).mono (v' := .bool true) rfl) rfl rfl ?_ | refine AWo.pure ((PureOp.bin rfl rfl rfl).mono (v' := .bool true) rfl) rfl rfl ?_
  refine AWo.pure (PureOp.assign rfl) rfl rfl ?_
  refine AWo.nil trivial ?_
  refine AW.condT rfl ?_
  refine AW.seq ?_
  refine AW.seqR ?_
  refine AWo.pure (PureOp.fld tbok rfl rfl rfl (by decide)) rfl rfl ?_
  first | refine AWo.loadM tbok 0 rfl rfl rfl (by first | decide | omega) rfl rfl ?_ | refine AWo.load tbok rfl rfl rfl rfl rfl rfl ?_
  first | refine AWo.pure (PureOp.gtN (b := 100) rfl rfl) rfl rfl ?_ | refine AWo.pure (PureOp.bin rfl rfl rfl) rfl rfl ?_
  refine AWo.nil trivial ?_
  refine AW.cond rfl (fun hb0 => ?_) (fun hb0 => ?_)
  ·
    refine AW.seqR ?_
    refine AWo.pure (PureOp.assign rfl) rfl rfl ?_
    refine AWo.nil trivial ?_
    refine AW.ret ?_
    refine thenA_ret ?_
    refine inBlockA_ret ?_
    refine thenA_ret ?_
    refine RetQ.gc [_] [] [.tmp 2] (.inl rfl) rfl (.tmp rfl .nil) rfl (.cons rfl rfl .nil) trivial (by decide) rfl
  ·
    simp at hb0; omega
theorem rneed8_ctr {N : Nat} : GC Try.prog 149 [.agg #[.int .i64 8, vi .u64 N]] [] [vi .i64 (2)] [] := by
  refine GC.intro Try.func149 rfl (by show 1 ≤ 21; decide) (by first | exact Nat.le_refl _ | decide | simp) ?_
  refine AW.seqR ?_
  refine AWo.box 2000 1 _ rfl rfl rfl rfl rfl ?_
  refine AWo.pure (PureOp.assign rfl) rfl rfl ?_
  refine AWo.nil trivial ?_
  refine AW.seq ?_
  refine AW.seqR ?_
  refine AWo.pure (PureOp.fld tbok rfl rfl rfl (by decide)) rfl rfl ?_
  first | refine AWo.loadM tbok 0 rfl rfl rfl (by first | decide | omega) rfl rfl ?_ | refine AWo.load tbok rfl rfl rfl rfl rfl rfl ?_
  refine AWo.nil trivial ?_
  refine AW.block ?_
  refine AW.seqR ?_
  first | refine AWo.pure ((PureOp.eqN (b := 0) rfl rfl).mono (v' := .bool false) rfl) rfl rfl ?_ | refine AWo.pure ((PureOp.bin rfl rfl rfl).mono (v' := .bool false) rfl) rfl rfl ?_
  refine AWo.pure (PureOp.assign rfl) rfl rfl ?_
  refine AWo.nil trivial ?_
  refine AW.condF rfl ?_
  refine AW.seq ?_
  refine AW.seqR ?_
  first | refine AWo.pure ((PureOp.eqN (b := 4) rfl rfl).mono (v' := .bool false) rfl) rfl rfl ?_ | refine AWo.pure ((PureOp.bin rfl rfl rfl).mono (v' := .bool false) rfl) rfl rfl ?_
  refine AWo.pure (PureOp.assign rfl) rfl rfl ?_
  refine AWo.nil trivial ?_
  refine AW.condF rfl ?_
  refine AW.seqR ?_
  first | refine AWo.pure ((PureOp.eqN (b := 5) rfl rfl).mono (v' := .bool false) rfl) rfl rfl ?_ | refine AWo.pure ((PureOp.bin rfl rfl rfl).mono (v' := .bool false) rfl) rfl rfl ?_
  refine AWo.pure (PureOp.assign rfl) rfl rfl ?_
  refine AWo.nil trivial ?_
  refine AW.condF rfl ?_
  refine AW.seqR ?_
  first | refine AWo.pure ((PureOp.eqN (b := 6) rfl rfl).mono (v' := .bool false) rfl) rfl rfl ?_ | refine AWo.pure ((PureOp.bin rfl rfl rfl).mono (v' := .bool false) rfl) rfl rfl ?_
  refine AWo.pure (PureOp.assign rfl) rfl rfl ?_
  refine AWo.nil trivial ?_
  refine AW.condF rfl ?_
  refine AW.region ?_
  first | refine AWo.pure ((PureOp.eqN (b := 9) rfl rfl).mono (v' := .bool false) rfl) rfl rfl ?_ | refine AWo.pure ((PureOp.bin rfl rfl rfl).mono (v' := .bool false) rfl) rfl rfl ?_
  refine AWo.pure (PureOp.assign rfl) rfl rfl ?_
  refine AWo.nil trivial ?_
  refine thenA_normal ?_
  refine AW.condF rfl ?_
  refine AW.seqR ?_
  first | refine AWo.pure ((PureOp.eqN (b := 7) rfl rfl).mono (v' := .bool false) rfl) rfl rfl ?_ | refine AWo.pure ((PureOp.bin rfl rfl rfl).mono (v' := .bool false) rfl) rfl rfl ?_
  refine AWo.pure (PureOp.assign rfl) rfl rfl ?_
  refine AWo.nil trivial ?_
  refine AW.condF rfl ?_
  refine AW.skip ?_
  refine inBlockA_normal ?_
  refine thenA_normal ?_
  refine AW.seqR ?_
  refine AWo.pure (PureOp.assign rfl) rfl rfl ?_
  refine AWo.nil trivial ?_
  refine AW.ret ?_
  refine RetQ.gc [_] [] [.tmp 2] (.inl rfl) rfl (.tmp rfl .nil) rfl (.cons rfl rfl .nil) trivial (by decide) rfl
theorem rneed9_ctr {N : Nat} : GC Try.prog 149 [.agg #[.int .i64 9, vi .u64 N]] [] [vi .i64 (1)] [] := by
  refine GC.intro Try.func149 rfl (by show 1 ≤ 21; decide) (by first | exact Nat.le_refl _ | decide | simp) ?_
  refine AW.seqR ?_
  refine AWo.box 2000 1 _ rfl rfl rfl rfl rfl ?_
  refine AWo.pure (PureOp.assign rfl) rfl rfl ?_
  refine AWo.nil trivial ?_
  refine AW.seq ?_
  refine AW.seqR ?_
  refine AWo.pure (PureOp.fld tbok rfl rfl rfl (by decide)) rfl rfl ?_
  first | refine AWo.loadM tbok 0 rfl rfl rfl (by first | decide | omega) rfl rfl ?_ | refine AWo.load tbok rfl rfl rfl rfl rfl rfl ?_
  refine AWo.nil trivial ?_
  refine AW.block ?_
  refine AW.seqR ?_
  first | refine AWo.pure ((PureOp.eqN (b := 0) rfl rfl).mono (v' := .bool false) rfl) rfl rfl ?_ | refine AWo.pure ((PureOp.bin rfl rfl rfl).mono (v' := .bool false) rfl) rfl rfl ?_
  refine AWo.pure (PureOp.assign rfl) rfl rfl ?_
  refine AWo.nil trivial ?_
  refine AW.condF rfl ?_
  refine AW.seq ?_
  refine AW.seqR ?_
  first | refine AWo.pure ((PureOp.eqN (b := 4) rfl rfl).mono (v' := .bool false) rfl) rfl rfl ?_ | refine AWo.pure ((PureOp.bin rfl rfl rfl).mono (v' := .bool false) rfl) rfl rfl ?_
  refine AWo.pure (PureOp.assign rfl) rfl rfl ?_
  refine AWo.nil trivial ?_
  refine AW.condF rfl ?_
  refine AW.seqR ?_
  first | refine AWo.pure ((PureOp.eqN (b := 5) rfl rfl).mono (v' := .bool false) rfl) rfl rfl ?_ | refine AWo.pure ((PureOp.bin rfl rfl rfl).mono (v' := .bool false) rfl) rfl rfl ?_
  refine AWo.pure (PureOp.assign rfl) rfl rfl ?_
  refine AWo.nil trivial ?_
  refine AW.condF rfl ?_
  refine AW.seqR ?_
  first | refine AWo.pure ((PureOp.eqN (b := 6) rfl rfl).mono (v' := .bool false) rfl) rfl rfl ?_ | refine AWo.pure ((PureOp.bin rfl rfl rfl).mono (v' := .bool false) rfl) rfl rfl ?_
  refine AWo.pure (PureOp.assign rfl) rfl rfl ?_
  refine AWo.nil trivial ?_
  refine AW.condF rfl ?_
  refine AW.region ?_
  first | refine AWo.pure ((PureOp.eqN (b := 9) rfl rfl).mono (v' := .bool true) rfl) rfl rfl ?_ | refine AWo.pure ((PureOp.bin rfl rfl rfl).mono (v' := .bool true) rfl) rfl rfl ?_
  refine AWo.pure (PureOp.assign rfl) rfl rfl ?_
  refine AWo.nil trivial ?_
  refine thenA_normal ?_
  refine AW.condT rfl ?_
  refine AW.seqR ?_
  refine AWo.pure (PureOp.assign rfl) rfl rfl ?_
  refine AWo.nil trivial ?_
  refine AW.ret ?_
  refine inBlockA_ret ?_
  refine thenA_ret ?_
  refine RetQ.gc [_] [] [.tmp 2] (.inl rfl) rfl (.tmp rfl .nil) rfl (.cons rfl rfl .nil) trivial (by decide) rfl
theorem rneed10_ctr {N : Nat} : GC Try.prog 149 [.agg #[.int .i64 10, vi .u64 N]] [] [vi .i64 (2)] [] := by
  refine GC.intro Try.func149 rfl (by show 1 ≤ 21; decide) (by first | exact Nat.le_refl _ | decide | simp) ?_
  refine AW.seqR ?_
  refine AWo.box 2000 1 _ rfl rfl rfl rfl rfl ?_
  refine AWo.pure (PureOp.assign rfl) rfl rfl ?_
  refine AWo.nil trivial ?_
  refine AW.seq ?_
  refine AW.seqR ?_
  refine AWo.pure (PureOp.fld tbok rfl rfl rfl (by decide)) rfl rfl ?_
  first | refine AWo.loadM tbok 0 rfl rfl rfl (by first | decide | omega) rfl rfl ?_ | refine AWo.load tbok rfl rfl rfl rfl rfl rfl ?_
  refine AWo.nil trivial ?_
  refine AW.block ?_
  refine AW.seqR ?_
  first | refine AWo.pure ((PureOp.eqN (b := 0) rfl rfl).mono (v' := .bool false) rfl) rfl rfl ?_ | refine AWo.pure ((PureOp.bin rfl rfl rfl).mono (v' := .bool false) rfl) rfl rfl ?_
  refine AWo.pure (PureOp.assign rfl) rfl rfl ?_
  refine AWo.nil trivial ?_
  refine AW.condF rfl ?_
  refine AW.seq ?_
  refine AW.seqR ?_
  first | refine AWo.pure ((PureOp.eqN (b := 4) rfl rfl).mono (v' := .bool false) rfl) rfl rfl ?_ | refine AWo.pure ((PureOp.bin rfl rfl rfl).mono (v' := .bool false) rfl) rfl rfl ?_
  refine AWo.pure (PureOp.assign rfl) rfl rfl ?_
  refine AWo.nil trivial ?_
  refine AW.condF rfl ?_
  refine AW.seqR ?_
  first | refine AWo.pure ((PureOp.eqN (b := 5) rfl rfl).mono (v' := .bool false) rfl) rfl rfl ?_ | refine AWo.pure ((PureOp.bin rfl rfl rfl).mono (v' := .bool false) rfl) rfl rfl ?_
  refine AWo.pure (PureOp.assign rfl) rfl rfl ?_
  refine AWo.nil trivial ?_
  refine AW.condF rfl ?_
  refine AW.seqR ?_
  first | refine AWo.pure ((PureOp.eqN (b := 6) rfl rfl).mono (v' := .bool false) rfl) rfl rfl ?_ | refine AWo.pure ((PureOp.bin rfl rfl rfl).mono (v' := .bool false) rfl) rfl rfl ?_
  refine AWo.pure (PureOp.assign rfl) rfl rfl ?_
  refine AWo.nil trivial ?_
  refine AW.condF rfl ?_
  refine AW.region ?_
  first | refine AWo.pure ((PureOp.eqN (b := 9) rfl rfl).mono (v' := .bool false) rfl) rfl rfl ?_ | refine AWo.pure ((PureOp.bin rfl rfl rfl).mono (v' := .bool false) rfl) rfl rfl ?_
  refine AWo.pure (PureOp.assign rfl) rfl rfl ?_
  refine AWo.nil trivial ?_
  refine thenA_normal ?_
  refine AW.condF rfl ?_
  refine AW.seqR ?_
  first | refine AWo.pure ((PureOp.eqN (b := 7) rfl rfl).mono (v' := .bool false) rfl) rfl rfl ?_ | refine AWo.pure ((PureOp.bin rfl rfl rfl).mono (v' := .bool false) rfl) rfl rfl ?_
  refine AWo.pure (PureOp.assign rfl) rfl rfl ?_
  refine AWo.nil trivial ?_
  refine AW.condF rfl ?_
  refine AW.skip ?_
  refine inBlockA_normal ?_
  refine thenA_normal ?_
  refine AW.seqR ?_
  refine AWo.pure (PureOp.assign rfl) rfl rfl ?_
  refine AWo.nil trivial ?_
  refine AW.ret ?_
  refine RetQ.gc [_] [] [.tmp 2] (.inl rfl) rfl (.tmp rfl .nil) rfl (.cons rfl rfl .nil) trivial (by decide) rfl
def needR (k N : Nat) : Nat := if k = 7 then (if 100 < N then 101 else N + 1) else needN k N
theorem needR_lt {k N n : Nat} (hn : n ≤ 64) : n < needR k N ↔ n < needN k N := by
  unfold needR
  split
  · rename_i h
    subst h
    have h9 : Nat.min N 64 = if N ≤ 64 then N else 64 := Nat.min_def ..
    show _ ↔ n < Nat.min N 64 + 1
    split <;> split at h9 <;> omega
  · rfl
theorem rneed_ctr {k N : Nat} (hk : k ≤ 10) : GC Try.prog 149 [.agg #[vi .i64 k, vi .u64 N]] [] [vi .i64 (needR k N)] [] := by
  rcases (by omega : k = 0 ∨ k = 1 ∨ k = 2 ∨ k = 3 ∨ k = 4 ∨ k = 5 ∨ k = 6 ∨ k = 7 ∨ k = 8 ∨ k = 9 ∨ k = 10) with rfl | rfl | rfl | rfl | rfl | rfl | rfl | rfl | rfl | rfl | rfl
  · exact rneed0_ctr
  · exact rneed1_ctr
  · exact rneed2_ctr
  · exact rneed3_ctr
  · exact rneed4_ctr
  · exact rneed5_ctr
  · exact rneed6_ctr
  · by_cases h : 100 < N
    · rw [show needR 7 N = 101 from if_pos h]; exact rneed7b_ctr h
    · rw [show needR 7 N = N + 1 from if_neg h]; exact rneed7a_ctr (by omega)
  · exact rneed8_ctr
  · exact rneed9_ctr
  · exact rneed10_ctr
end Go.Proofs.Ytiikffiembcboaa
