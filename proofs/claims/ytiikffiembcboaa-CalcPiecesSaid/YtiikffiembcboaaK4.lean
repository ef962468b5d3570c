/- What the proof stands on, part 4: the walk of each function, and plain laws of numbers. -/
import Derived.Test.YtiikffiembcboaaK3
import Derived.Test.YtiikffiembcboaaRows
import Derived.ProofKit
namespace Go.Proofs.Ytiikffiembcboaa
open Go Sim
set_option maxRecDepth 10000
theorem runK_ctr {L : List (Int × Nat)} {XS YS : List Fp} {n x m : Nat} (hn : L.length = n) (hx : XS.length = x) (hY : stk L XS n = YS) (hm : YS.length = m) (hL : ∀ s ∈ L, s.2 < 18446744073709551616) (hll : L.length ≤ 1000) (hl : XS.length ≤ 64) (hok : ∀ i, i < L.length → errAt L XS i = 0) : GC Try.prog 81 [.slice (some ⟨0, 0, none⟩) n 0, .slice (some ⟨1, 0, none⟩) x 0] [⟨L.flatMap stC, false, 2⟩, ⟨((XS.map fe).flatten).map (vi .u64), false, 4⟩] [.slice (some ⟨2, 0, none⟩) m 0, .int .i64 (-1), .int .i64 0] [⟨L.flatMap stC, false, 2⟩, ⟨((XS.map fe).flatten).map (vi .u64), false, 4⟩, ⟨((YS.map fe).flatten).map (vi .u64), true, 4⟩] := by
 subst hn hx hY hm; exact run_ctr hL hll hl hok
theorem runJ_ctr {L : List (Int × Nat)} {XS : List Fp} {n x j c : Nat} (hn : L.length = n) (hx : XS.length = x) (hL : ∀ s ∈ L, s.2 < 18446744073709551616) (hll : L.length ≤ 1000) (hl : XS.length ≤ 64) (hj : j < L.length) (hok : ∀ i, i < j → errAt L XS i = 0) (hej : errAt L XS j = c) (hc : c ≠ 0) : GC Try.prog 81 [.slice (some ⟨0, 0, none⟩) n 0, .slice (some ⟨1, 0, none⟩) x 0] [⟨L.flatMap stC, false, 2⟩, ⟨((XS.map fe).flatten).map (vi .u64), false, 4⟩] [.slice none 0 0, vi .i64 j, vi .i64 c] [⟨L.flatMap stC, false, 2⟩, ⟨((XS.map fe).flatten).map (vi .u64), false, 4⟩] := by
 subst hn hx; exact rune_ctr hL hll hl hj hok hej hc
theorem stc_take {L : List (Int × Nat)} {m : Nat} : ((L.flatMap stC).drop 0).take ((L.take m).flatMap stC).length = (L.take m).flatMap stC := by
 conv => lhs; rw [List.drop_zero]; arg 2; rw [← List.take_append_drop m L, List.flatMap_append]
 exact List.take_left
theorem stc_take_le {L : List (Int × Nat)} {m : Nat} : 0 + ((L.take m).flatMap stC).length ≤ (L.flatMap stC).length := by
 rw [st_len, st_len, List.length_take]; have := Nat.min_le_right m L.length; omega
theorem stc_drop {L : List (Int × Nat)} {m : Nat} (hm : m ≤ L.length) : ((L.flatMap stC).drop (0 + m * 2)).take ((L.drop m).flatMap stC).length = (L.drop m).flatMap stC := by
 have h1 : ((L.take m).flatMap stC).length = 0 + m * 2 := by rw [st_len, List.length_take, Nat.min_eq_left hm, Nat.zero_add]
 have h2 : L.flatMap stC = (L.take m).flatMap stC ++ (L.drop m).flatMap stC := by rw [← List.flatMap_append, List.take_append_drop]
 rw [h2, ← h1, List.drop_left]
 exact List.take_of_length_le (Nat.le_refl _)
theorem stc_drop_le {L : List (Int × Nat)} {m : Nat} (hm : m ≤ L.length) : 0 + m * 2 + ((L.drop m).flatMap stC).length ≤ (L.flatMap stC).length := by
 rw [st_len, st_len, List.length_drop]; omega
theorem take_len {α : Type} {l : List α} {m : Nat} (h : m ≤ l.length) : (l.take m).length = m := by rw [List.length_take]; omega
theorem take_w {L : List (Int × Nat)} {m : Nat} (h : ∀ s ∈ L, s.2 < 18446744073709551616) : ∀ s ∈ L.take m, s.2 < 18446744073709551616 := fun s hs => h s (List.mem_of_mem_take hs)
theorem drop_w {L : List (Int × Nat)} {m : Nat} (h : ∀ s ∈ L, s.2 < 18446744073709551616) : ∀ s ∈ L.drop m, s.2 < 18446744073709551616 := fun s hs => h s (List.mem_of_mem_drop hs)
theorem getD_take {α : Type} {l : List α} {i m : Nat} {d : α} (h : i < m) : (l.take m).getD i d = l.getD i d := by
 rw [List.getD_eq_getElem?_getD, List.getElem?_take, if_pos h, ← List.getD_eq_getElem?_getD]
theorem getD_drop {α : Type} {l : List α} {i m : Nat} {d : α} : (l.drop m).getD i d = l.getD (m + i) d := by
 rw [List.getD_eq_getElem?_getD, List.getElem?_drop, ← List.getD_eq_getElem?_getD]
theorem stk_take {L : List (Int × Nat)} {XS : List Fp} {m : Nat} : ∀ {i : Nat}, i ≤ m → stk (L.take m) XS i = stk L XS i
 | 0, _ => rfl
 | i + 1, h => by
  show stepF (stk (L.take m) XS i) _ _ = stepF (stk L XS i) _ _
  rw [stk_take (by omega), getD_take (by omega)]
theorem errAt_take {L : List (Int × Nat)} {XS : List Fp} {m i : Nat} (h : i < m) : errAt (L.take m) XS i = errAt L XS i := by
 unfold errAt; rw [stk_take (by omega), getD_take h]
theorem stk_drop (L : List (Int × Nat)) (XS : List Fp) (m : Nat) : ∀ i : Nat, stk (L.drop m) (stk L XS m) i = stk L XS (m + i)
 | 0 => rfl
 | i + 1 => by
  show stepF (stk (L.drop m) (stk L XS m) i) _ _ = stepF (stk L XS (m + i)) _ _
  rw [stk_drop L XS m i, getD_drop]
  rfl
theorem errAt_drop (L : List (Int × Nat)) (XS : List Fp) (m i : Nat) : errAt (L.drop m) (stk L XS m) i = errAt L XS (m + i) := by
 unfold errAt; rw [stk_drop, getD_drop]
theorem map_getD {ns : List Nat} {i : Nat} (h : i < ns.length) : (ns.map fp).getD i 0 = fp (ns.getD i 0) := by
 rw [List.getD_eq_getElem?_getD, List.getElem?_map, List.getD_eq_getElem?_getD, List.getElem?_eq_getElem h]; rfl
theorem pieces_ok {L : List (Int × Nat)} {ns : List Nat} {cut : Nat} (hL : ∀ s ∈ L, s.2 < 18446744073709551616) (hb : bd 18446744073709551616 ns) (hc256 : cut < 256) (hok : ∀ i, i < L.length → errAt L (ns.map fp) i = 0) : GC Try.prog 17 [.slice (some ⟨0, 0, none⟩) L.length 0, .slice (some ⟨1, 0, none⟩) ns.length 0, vi .u8 cut] [⟨L.flatMap stC, false, 2⟩, ⟨ns.map (vi .u64), false, 1⟩] [.bool true] [⟨L.flatMap stC, false, 2⟩, ⟨ns.map (vi .u64), false, 1⟩] := by
 refine gi Try.func17 ?_
 refine zS ?_
 refine yA ?_
 refine zN (zQ (zS ?_))
 refine yC (cspeaks_ctr) bd78 [] [] ?_
 first | refine AWo.pure ((PureOp.not rfl).mono (v' := .bool false) (congrArg Value.bool (by rfl))) rfl rfl ?_
 refine yM ?_
 refine yM ?_
 refine yP pL ?_
 refine yB (pGt (b := 60)) (fun hb0 => ?_) (fun hb0 => ?_)
 ·
  refine yP pE ?_
  refine yM ?_
  refine yK ?_
  refine yK ?_
  refine yK ?_
  refine yP pT ?_
  refine zN (zC (zS ?_))
  refine yC (cspeaks_ctr) bd78 [] [] ?_
  refine yA ?_
  refine zN (zE (zU ?_))
  exact rq [] [.tmp 6] (hb := (OutL.flat rfl (flatS L) (by intro h; exact h.elim id fun h => absurd h.1 (by simp)) (OutL.flat rfl (flatM flat_vi) (by intro h; exact h.elim id fun h => absurd h.1 (by simp)) trivial)))
 ·
  have hl60 : L.length ≤ 60 := by simpa using hb0
  refine yP pE ?_
  refine yM ?_
  refine yM ?_
  refine yP pL ?_
  refine yB (pGt (b := 64)) (fun hb1 => ?_) (fun hb1 => ?_)
  ·
   refine yP pE ?_
   refine zN (zC (zS ?_))
   refine yC (cspeaks_ctr) bd78 [] [] ?_
   refine yA ?_
   refine zN (zE (zU ?_))
   exact rq [] [.tmp 6] (hb := (OutL.flat rfl (flatS L) (by intro h; exact h.elim id fun h => absurd h.1 (by simp)) (OutL.flat rfl (flatM flat_vi) (by intro h; exact h.elim id fun h => absurd h.1 (by simp)) trivial)))
  ·
   have hn64 : ns.length ≤ 64 := by simpa using hb1
   obtain ⟨m, hm⟩ : ∃ m, cut % (L.length + 1) = m := ⟨_, rfl⟩
   have hmL : m ≤ L.length := by have : cut % (L.length + 1) < L.length + 1 := Nat.mod_lt _ (Nat.succ_pos _); omega
   have hXl : (ns.map fp).length = ns.length := List.length_map ..
   refine yP pE ?_
   refine zN (zF (zK (zT (zS ?_))))
   refine yM ?_
   refine yC (first_ctr hb (by omega)) bd79 [(1, 0)] [36000, 36001] ?_ (hnew := (.keep rfl (.new (flat_map_ren (by exact flatM flat_vi)) (OkL.flat (by exact flatM flat_vi)) (.new (clo_map_ren (cloM fun _ => rfl)) (OkL.clo (cloM fun _ => rfl)) .nil))))
   refine yM ?_
   refine yP pX ?_
   refine yP pX ?_
   refine yA ?_
   refine yA ?_
   refine zN (zS ?_)
   refine yM ?_
   refine yP (PureOp.cvtN tbok 9223372036854775808 rfl rfl rfl (by decide) (by decide) (by omega)) ?_
   refine yM ?_
   refine yP pL ?_
   refine yP (pAdd (b := 1)) ?_
   refine yP ((PureOp.remN (a := cut) (b := L.length + 1) rfl rfl (by omega)).mono (v' := vi .i64 m) (congrArg (vi .i64) hm)) ?_
   refine yA ?_
   refine zN (zS ?_)
   refine yM ?_
   refine yC (cof_ctr (L := L) (by omega)) bd80 [(0, 0)] [46000] ?_ (hfit := (.flat rfl (flatS _) (by intro h; exact h) .nil)) (hnew := (.keep rfl (.new (flat_map_ren (flatS _)) (OkL.flat (flatS _)) .nil)))
   refine yA ?_
   refine zN (zS ?_)
   refine yM ?_
   refine yM ?_
   refine yC (runK_ctr (L := L) (XS := (ns.map fp)) (YS := stk L (ns.map fp) L.length) (n := L.length) (x := ns.length) (m := (stk L (ns.map fp) L.length).length) rfl hXl rfl rfl hL (by omega) (by omega) hok) bd81 [(46000, 0), (36000, 0)] [50000] ?_ (hfit := (.flat rfl (flatS _) (by intro h; rfl) (.flat rfl (by exact flatM flat_vi) (by intro h; rfl) .nil)))
   refine yM ?_
   refine yP pX ?_
   refine yP pX ?_
   refine yP pX ?_
   refine yA ?_
   refine yA ?_
   refine yA ?_
   refine zN (zS ?_)
   refine yM ?_
   refine yM ?_
   refine AWo.sliceS2 tbok (h := m) rfl .none (.some rfl) rfl rfl rfl rfl (Nat.zero_le _) hmL rfl rfl rfl ?_
   refine yM ?_
   refine yC (runK_ctr (L := L.take m) (XS := (ns.map fp)) (YS := stk L (ns.map fp) m) (n := m) (x := ns.length) (m := (stk L (ns.map fp) m).length) (take_len hmL) hXl (stk_take (Nat.le_refl _)) rfl (take_w hL) (by rw [List.length_take]; omega) (by omega) (fun i hi => (errAt_take (by rw [List.length_take] at hi; omega)).trans (hok i (by rw [List.length_take] at hi; omega)))) bd81 [(46000, 0), (36000, 0)] [59000] ?_ (hfit := (.part rfl stc_take (flatS _) (stc_take_le) (.flat rfl (by exact flatM flat_vi) (by intro h; rfl) .nil)))
   refine yM ?_
   refine yP pX ?_
   refine yP pX ?_
   refine yP pX ?_
   refine yA ?_
   refine yA ?_
   refine yA ?_
   refine zN (zQ (zS ?_))
   refine yM ?_
   refine yP ((PureOp.eqN (b := 0) rfl rfl).mono (v' := .bool true) (congrArg Value.bool (by rfl))) ?_
   refine zN (zC (zS ?_))
   refine yM ?_
   refine yM ?_
   refine AWo.sliceS2 tbok (l := m) rfl (.some rfl) .none rfl rfl rfl rfl hmL (Nat.le_refl _) rfl rfl rfl ?_
   refine yM ?_
   refine yC (runK_ctr (L := L.drop m) (XS := stk L (ns.map fp) m) (YS := stk L (ns.map fp) L.length) (n := L.length - m) (x := (stk L (ns.map fp) m).length) (m := (stk L (ns.map fp) L.length).length) (List.length_drop ..) rfl ((stk_drop L _ m _).trans (by rw [show m + (L.length - m) = L.length by omega])) rfl (drop_w hL) (by rw [List.length_drop]; omega) (stk_le (by omega) fun i hi => hok i (by omega)) (fun i hi => (errAt_drop L _ m i).trans (hok _ (by rw [List.length_drop] at hi; omega)))) bd81 [(46000, 0 + m * 2), (59000, 0)] [70000] ?_ (hfit := (.part rfl (stc_drop (by omega)) (flatS _) (stc_drop_le (by omega)) (.flat rfl (by exact flatM flat_vi) (by intro h; rfl) .nil)))
   refine yM ?_
   refine yP pX ?_
   refine yP pX ?_
   refine yP pX ?_
   refine yA ?_
   refine yA ?_
   refine yA ?_
   refine zN (zS ?_)
   refine yM ?_
   refine yP ((PureOp.bin rfl rfl rfl).mono (v' := .bool false) rfl) ?_
   refine zN (zF (zK (zT (zQ (zS ?_)))))
   refine yM ?_
   refine yM ?_
   refine yP ((PureOp.neN rfl rfl).mono (v' := .bool false) (congrArg Value.bool (by rfl))) ?_
   refine yM ?_
   refine yM ?_
   refine yM ?_
   refine yP ((PureOp.bin rfl rfl rfl).mono (v' := .bool false) (congrArg Value.bool (by rfl))) ?_
   refine yP pE ?_
   refine yM ?_
   refine yM ?_
   refine yP pL ?_
   refine yM ?_
   refine yP pL ?_
   refine yP ((PureOp.neN rfl rfl).mono (v' := .bool false) (congrArg Value.bool (by (simp; done)))) ?_
   refine yP pE ?_
   refine zN (zF (zK (zT (zQ (zS ?_)))))
   refine yM ?_
   refine yP pL ?_
   refine yM ?_
   refine zN (zB ?_)
   refine AW.loopw (fun mm σ => ∃ i, (i ≤ (stk L (ns.map fp) L.length).length) ∧ mm = (stk L (ns.map fp) L.length).length - i ∧ σ = ⟨(upd (upd (upd (upd (upd (upd (upd emp 1 (.slice (some ⟨1, 0, none⟩) ns.length 0)) 7 (.slice (some ⟨36000, 0, none⟩) ns.length 0)) 11 (.slice (some ⟨50000, 0, none⟩) (stk L (ns.map fp) L.length).length 0)) 14 (.slice (some ⟨70000, 0, none⟩) (stk L (ns.map fp) L.length).length 0)) 93 (.slice (some ⟨50000, 0, none⟩) (stk L (ns.map fp) L.length).length 0)) 94 (vi .i64 (stk L (ns.map fp) L.length).length)) 95 (vi .i64 i)), (upd (upd (upd (upd (upd emp 0 ⟨L.flatMap stC, false, 2⟩) 1 ⟨ns.map (vi .u64), false, 1⟩) 36000 ⟨(((ns.map fp).map fe).flatten).map (vi .u64), true, 4⟩) 50000 ⟨(((stk L (ns.map fp) L.length).map fe).flatten).map (vi .u64), true, 4⟩) 70000 ⟨(((stk L (ns.map fp) L.length).map fe).flatten).map (vi .u64), true, 4⟩)⟩) (fm := []) ?_ ⟨0, Nat.zero_le _, rfl, rfl⟩ ?_
   ·
    refine Wk.of [0, 1, 36000, 50000, 70000] ?_ ?_ ?_ (by decide) rfl
    ·
     refine WkE.upd rfl (by exact VR.flat _ rfl) ?_
     refine WkE.upd rfl (by exact VR.flat _ rfl) ?_
     refine WkE.upd rfl (.slice (50000) 0 _ 0 ⟨_, rfl⟩ (by simp) (by simp)) ?_
     refine WkE.upd rfl (.slice (70000) 0 _ 0 ⟨_, rfl⟩ (by simp) (by simp)) ?_
     refine WkE.upd rfl (.slice (50000) 0 _ 0 ⟨_, rfl⟩ (by simp) (by simp)) ?_
     refine WkE.upd rfl (.slice (36000) 0 _ 0 ⟨_, rfl⟩ (by simp) (by simp)) ?_
     refine WkE.upd rfl (.slice (1) 0 _ 0 ⟨_, rfl⟩ (by simp) (by simp)) ?_
     exact WkE.emp
    ·
     refine WkM.flat rfl (flatM flat_vi) (fun h => h) ?_
     refine WkM.flat rfl (flatM flat_vi) (fun h => h) ?_
     refine WkM.flat rfl (flatM flat_vi) (fun h => h) ?_
     refine WkM.flat rfl (flatM flat_vi) (fun h => h) ?_
     refine WkM.flat rfl (flatS _) (fun h => h) ?_
     exact WkM.emp
    ·
     repeat (refine dom_upd_mem (by decide) ?_)
     exact dom_emp
   ·
    rintro mm σ ⟨i, hinv, rfl, rfl⟩
    have hW : (stk L (ns.map fp) L.length).length ≤ 64 := stk_le (by omega) hok
    refine zS ?_
    refine yP pLt ?_
    refine zN (zQ ?_)
    refine zA (fun hb2 => ?_) (fun hb2 => ?_)
    ·
     have hi : i < (stk L (ns.map fp) L.length).length := by simpa using hb2
     refine zK (zT (zQ (zB (zS ?_))))
     refine yM ?_
     refine yA ?_
     refine zN ?_
     refine AW.seqD mixed ?_
     refine yM ?_
     refine yM ?_
     refine yP (PureOp.idxN tbok (j := i) rfl rfl rfl rfl hi) ?_
     refine yLEi (xs := stk L (ns.map fp) L.length) (j := i) (hj := hi) ?_
     refine yM ?_
     refine yM ?_
     refine yP (PureOp.idxN tbok (j := i) rfl rfl rfl rfl hi) ?_
     refine yLEi (xs := stk L (ns.map fp) L.length) (j := i) (hj := hi) ?_
     refine AWo.callX (v := .bool true) (equalF_ctr) bd40 [] [] rfl (.cons rfl (.cons rfl .nil)) rfl (.pure (by rfl) (.pure (by rfl) .nil)) .nil rfl .nil frN (by decide) (.cons rfl rfl .nil) (congrArg Value.bool (decide_eq_true (rfl))) rfl rfl rfl ?_
     first | refine AWo.pure ((PureOp.not rfl).mono (v' := .bool false) (congrArg Value.bool (by rfl))) rfl rfl ?_
     refine zD (zF (zK (zL (zT (zR ?_)))))
     refine yP (pAdd (b := 1)) ?_
     refine yM ?_
     refine zN (zT ?_)
     refine ⟨(stk L (ns.map fp) L.length).length - (i + 1), [], _, by omega, ?_, i + 1, by omega, rfl, rfl⟩
     refine Wk.of [0, 1, 36000, 50000, 70000] ?_ ?_ ?_ (by decide) rfl
     ·
      refine WkE.upd rfl (by exact VR.flat _ rfl) ?_
      refine WkE.upd rfl (by exact VR.flat _ rfl) ?_
      refine WkE.upd rfl (.slice (50000) 0 _ 0 ⟨_, rfl⟩ (by simp) (by simp)) ?_
      refine WkE.upd rfl (.slice (70000) 0 _ 0 ⟨_, rfl⟩ (by simp) (by simp)) ?_
      refine WkE.upd rfl (.slice (50000) 0 _ 0 ⟨_, rfl⟩ (by simp) (by simp)) ?_
      refine WkE.upd rfl (.slice (36000) 0 _ 0 ⟨_, rfl⟩ (by simp) (by simp)) ?_
      refine WkE.upd rfl (.slice (1) 0 _ 0 ⟨_, rfl⟩ (by simp) (by simp)) ?_
      exact WkE.emp
     ·
      refine WkM.flat rfl (flatM flat_vi) (fun h => h) ?_
      refine WkM.flat rfl (flatM flat_vi) (fun h => h) ?_
      refine WkM.flat rfl (flatM flat_vi) (fun h => h) ?_
      refine WkM.flat rfl (flatM flat_vi) (fun h => h) ?_
      refine WkM.flat rfl (flatS _) (fun h => h) ?_
      exact WkM.emp
     ·
      repeat (refine dom_upd_mem (by decide) ?_)
      exact dom_emp
    ·
     refine zX (zV (zV (zH (zT (zQ (zS ?_))))))
     refine yM ?_
     refine yP pL ?_
     refine yM ?_
     refine zN (zB ?_)
     refine AW.loopw (fun mm σ => ∃ i, (i ≤ ns.length) ∧ mm = ns.length - i ∧ σ = ⟨(upd (upd (upd (upd emp 7 (.slice (some ⟨36000, 0, none⟩) ns.length 0)) 109 (.slice (some ⟨1, 0, none⟩) ns.length 0)) 110 (vi .i64 ns.length)) 111 (vi .i64 i)), (upd (upd (upd emp 0 ⟨L.flatMap stC, false, 2⟩) 1 ⟨ns.map (vi .u64), false, 1⟩) 36000 ⟨(((ns.map fp).map fe).flatten).map (vi .u64), true, 4⟩)⟩) (fm := []) ?_ ⟨0, Nat.zero_le _, rfl, rfl⟩ ?_
     ·
      refine Wk.of [0, 1, 36000] ?_ ?_ ?_ (by decide) rfl
      ·
       refine WkE.upd rfl (by exact VR.flat _ rfl) ?_
       refine WkE.upd rfl (by exact VR.flat _ rfl) ?_
       refine WkE.upd rfl (.slice (1) 0 _ 0 ⟨_, rfl⟩ (by simp) (by simp)) ?_
       refine WkE.upd rfl (.slice (36000) 0 _ 0 ⟨_, rfl⟩ (by simp) (by simp)) ?_
       exact WkE.emp
      ·
       refine WkM.flat rfl (flatM flat_vi) (fun h => h) ?_
       refine WkM.flat rfl (flatM flat_vi) (fun h => h) ?_
       refine WkM.flat rfl (flatS _) (fun h => h) ?_
       exact WkM.emp
      ·
       repeat (refine dom_upd_mem (by decide) ?_)
       exact dom_emp
     ·
      rintro mm σ ⟨i, hinv, rfl, rfl⟩
      refine zS ?_
      refine yP pLt ?_
      refine zN (zQ ?_)
      refine zA (fun hb3 => ?_) (fun hb3 => ?_)
      ·
       have hi : i < ns.length := by simpa using hb3
       have hvi : ns.getD i 0 < 18446744073709551616 := hb _ (getD_mem hi)
       refine zK (zT (zQ (zB (zS ?_))))
       refine yM ?_
       refine yP pJ ?_
       refine yL 0 ?_
       refine yA ?_
       refine yA ?_
       refine zN ?_
       refine AW.seqD mixed ?_
       refine yM ?_
       refine yM ?_
       refine yP (PureOp.idxN tbok (j := i) rfl rfl rfl rfl hi) ?_
       refine yLEi (xs := ns.map fp) (j := i) (hj := by rw [List.length_map]; exact hi) ?_
       refine yM ?_
       refine yC (fromuF_ctr (v := ns.getD i 0) hvi) bd82 [] [] ?_
       refine AWo.callX (v := .bool true) (equalF_ctr) bd40 [] [] rfl (.cons rfl (.cons rfl .nil)) rfl (.pure (by rfl) (.pure (by rfl) .nil)) .nil rfl .nil frN (by decide) (.cons rfl rfl .nil) (congrArg Value.bool (decide_eq_true (map_getD hi))) rfl rfl rfl ?_
       first | refine AWo.pure ((PureOp.not rfl).mono (v' := .bool false) (congrArg Value.bool (by rfl))) rfl rfl ?_
       refine zD (zF (zK (zL (zT (zR ?_)))))
       refine yP (pAdd (b := 1)) ?_
       refine yM ?_
       refine zN (zT ?_)
       refine ⟨ns.length - (i + 1), [], _, by omega, ?_, i + 1, by omega, rfl, rfl⟩
       refine Wk.of [0, 1, 36000] ?_ ?_ ?_ (by decide) rfl
       ·
        refine WkE.upd rfl (by exact VR.flat _ rfl) ?_
        refine WkE.upd rfl (by exact VR.flat _ rfl) ?_
        refine WkE.upd rfl (.slice (1) 0 _ 0 ⟨_, rfl⟩ (by simp) (by simp)) ?_
        refine WkE.upd rfl (.slice (36000) 0 _ 0 ⟨_, rfl⟩ (by simp) (by simp)) ?_
        exact WkE.emp
       ·
        refine WkM.flat rfl (flatM flat_vi) (fun h => h) ?_
        refine WkM.flat rfl (flatM flat_vi) (fun h => h) ?_
        refine WkM.flat rfl (flatS _) (fun h => h) ?_
        exact WkM.emp
       ·
        repeat (refine dom_upd_mem (by decide) ?_)
        exact dom_emp
      ·
       refine zX (zV (zV (zH (zT (zS ?_)))))
       refine yA ?_
       refine zN (zE ?_)
       exact rq [] [.tmp 6] (hb := (OutL.flat rfl (flatS L) (by intro h; exact h.elim id fun h => absurd h.1 (by simp)) (OutL.flat rfl (flatM flat_vi) (by intro h; exact h.elim id fun h => absurd h.1 (by simp)) trivial)))
theorem pieces_lo {L : List (Int × Nat)} {ns : List Nat} {cut : Nat} (hL : ∀ s ∈ L, s.2 < 18446744073709551616) (hb : bd 18446744073709551616 ns) (hc256 : cut < 256) {j c : Nat} (hj : j < L.length) (hjm0 : j < cut % (L.length + 1)) (hok : ∀ i, i < j → errAt L (ns.map fp) i = 0) (hej : errAt L (ns.map fp) j = c) (hc : c ≠ 0) : GC Try.prog 17 [.slice (some ⟨0, 0, none⟩) L.length 0, .slice (some ⟨1, 0, none⟩) ns.length 0, vi .u8 cut] [⟨L.flatMap stC, false, 2⟩, ⟨ns.map (vi .u64), false, 1⟩] [.bool true] [⟨L.flatMap stC, false, 2⟩, ⟨ns.map (vi .u64), false, 1⟩] := by
 refine gi Try.func17 ?_
 refine zS ?_
 refine yA ?_
 refine zN (zQ (zS ?_))
 refine yC (cspeaks_ctr) bd78 [] [] ?_
 first | refine AWo.pure ((PureOp.not rfl).mono (v' := .bool false) (congrArg Value.bool (by rfl))) rfl rfl ?_
 refine yM ?_
 refine yM ?_
 refine yP pL ?_
 refine yB (pGt (b := 60)) (fun hb0 => ?_) (fun hb0 => ?_)
 ·
  refine yP pE ?_
  refine yM ?_
  refine yK ?_
  refine yK ?_
  refine yK ?_
  refine yP pT ?_
  refine zN (zC (zS ?_))
  refine yC (cspeaks_ctr) bd78 [] [] ?_
  refine yA ?_
  refine zN (zE (zU ?_))
  exact rq [] [.tmp 6] (hb := (OutL.flat rfl (flatS L) (by intro h; exact h.elim id fun h => absurd h.1 (by simp)) (OutL.flat rfl (flatM flat_vi) (by intro h; exact h.elim id fun h => absurd h.1 (by simp)) trivial)))
 ·
  have hl60 : L.length ≤ 60 := by simpa using hb0
  refine yP pE ?_
  refine yM ?_
  refine yM ?_
  refine yP pL ?_
  refine yB (pGt (b := 64)) (fun hb1 => ?_) (fun hb1 => ?_)
  ·
   refine yP pE ?_
   refine zN (zC (zS ?_))
   refine yC (cspeaks_ctr) bd78 [] [] ?_
   refine yA ?_
   refine zN (zE (zU ?_))
   exact rq [] [.tmp 6] (hb := (OutL.flat rfl (flatS L) (by intro h; exact h.elim id fun h => absurd h.1 (by simp)) (OutL.flat rfl (flatM flat_vi) (by intro h; exact h.elim id fun h => absurd h.1 (by simp)) trivial)))
  ·
   have hn64 : ns.length ≤ 64 := by simpa using hb1
   obtain ⟨m, hm⟩ : ∃ m, cut % (L.length + 1) = m := ⟨_, rfl⟩
   have hmL : m ≤ L.length := by have : cut % (L.length + 1) < L.length + 1 := Nat.mod_lt _ (Nat.succ_pos _); omega
   have hXl : (ns.map fp).length = ns.length := List.length_map ..
   have hjm : j < m := by omega
   refine yP pE ?_
   refine zN (zF (zK (zT (zS ?_))))
   refine yM ?_
   refine yC (first_ctr hb (by omega)) bd79 [(1, 0)] [36000, 36001] ?_ (hnew := (.keep rfl (.new (flat_map_ren (by exact flatM flat_vi)) (OkL.flat (by exact flatM flat_vi)) (.new (clo_map_ren (cloM fun _ => rfl)) (OkL.clo (cloM fun _ => rfl)) .nil))))
   refine yM ?_
   refine yP pX ?_
   refine yP pX ?_
   refine yA ?_
   refine yA ?_
   refine zN (zS ?_)
   refine yM ?_
   refine yP (PureOp.cvtN tbok 9223372036854775808 rfl rfl rfl (by decide) (by decide) (by omega)) ?_
   refine yM ?_
   refine yP pL ?_
   refine yP (pAdd (b := 1)) ?_
   refine yP ((PureOp.remN (a := cut) (b := L.length + 1) rfl rfl (by omega)).mono (v' := vi .i64 m) (congrArg (vi .i64) hm)) ?_
   refine yA ?_
   refine zN (zS ?_)
   refine yM ?_
   refine yC (cof_ctr (L := L) (by omega)) bd80 [(0, 0)] [46000] ?_ (hfit := (.flat rfl (flatS _) (by intro h; exact h) .nil)) (hnew := (.keep rfl (.new (flat_map_ren (flatS _)) (OkL.flat (flatS _)) .nil)))
   refine yA ?_
   refine zN (zS ?_)
   refine yM ?_
   refine yM ?_
   refine yC (runJ_ctr (L := L) (XS := (ns.map fp)) (n := L.length) (x := ns.length) (j := j) rfl hXl hL (by omega) (by omega) hj hok hej hc) bd81 [(46000, 0), (36000, 0)] [] ?_ (hfit := (.flat rfl (flatS _) (by intro h; rfl) (.flat rfl (by exact flatM flat_vi) (by intro h; rfl) .nil)))
   refine yM ?_
   refine yP pX ?_
   refine yP pX ?_
   refine yP pX ?_
   refine yA ?_
   refine yA ?_
   refine yA ?_
   refine zN (zS ?_)
   refine yM ?_
   refine yM ?_
   refine AWo.sliceS2 tbok (h := m) rfl .none (.some rfl) rfl rfl rfl rfl (Nat.zero_le _) hmL rfl rfl rfl ?_
   refine yM ?_
   refine yC (runJ_ctr (L := L.take m) (XS := (ns.map fp)) (n := m) (x := ns.length) (j := j) (take_len hmL) hXl (take_w hL) (by rw [List.length_take]; omega) (by omega) (by rw [List.length_take]; omega) (fun i hi => (errAt_take (by omega)).trans (hok i hi)) ((errAt_take hjm).trans hej) hc) bd81 [(46000, 0), (36000, 0)] [] ?_ (hfit := (.part rfl stc_take (flatS _) (stc_take_le) (.flat rfl (by exact flatM flat_vi) (by intro h; rfl) .nil)))
   refine yM ?_
   refine yP pX ?_
   refine yP pX ?_
   refine yP pX ?_
   refine yA ?_
   refine yA ?_
   refine yA ?_
   refine zN (zQ (zS ?_))
   refine yM ?_
   refine yP ((PureOp.eqN (b := 0) rfl rfl).mono (v' := .bool false) (congrArg Value.bool (by (simp; omega)))) ?_
   refine zN (zF (zK (zT (zQ (zS ?_)))))
   refine yM ?_
   refine yM ?_
   refine yP ((PureOp.neN rfl rfl).mono (v' := .bool false) (congrArg Value.bool (by (simp; done)))) ?_
   refine yM ?_
   refine yM ?_
   refine yM ?_
   refine yP ((PureOp.neN rfl rfl).mono (v' := .bool false) (congrArg Value.bool (by (simp; done)))) ?_
   refine yP pE ?_
   refine yM ?_
   refine yM ?_
   refine yP pL ?_
   refine yM ?_
   refine yP pL ?_
   refine yP ((PureOp.neN rfl rfl).mono (v' := .bool false) (congrArg Value.bool (by rfl))) ?_
   refine yP pE ?_
   refine zN (zF (zK (zT (zQ (zS ?_)))))
   refine yM ?_
   refine yP pL ?_
   refine yM ?_
   refine zN (zB ?_)
   refine AW.rounds 1 ?_
   refine roundsA_succ ?_
   refine zS ?_
   refine yP pLt ?_
   refine zN (zQ (zF (zX (zV (zV (zH (zT (zQ (zS ?_)))))))))
   refine yM ?_
   refine yP pL ?_
   refine yM ?_
   refine zN (zB ?_)
   refine AW.loopw (fun mm σ => ∃ i, (i ≤ ns.length) ∧ mm = ns.length - i ∧ σ = ⟨(upd (upd (upd (upd emp 7 (.slice (some ⟨36000, 0, none⟩) ns.length 0)) 109 (.slice (some ⟨1, 0, none⟩) ns.length 0)) 110 (vi .i64 ns.length)) 111 (vi .i64 i)), (upd (upd (upd emp 0 ⟨L.flatMap stC, false, 2⟩) 1 ⟨ns.map (vi .u64), false, 1⟩) 36000 ⟨(((ns.map fp).map fe).flatten).map (vi .u64), true, 4⟩)⟩) (fm := []) ?_ ⟨0, Nat.zero_le _, rfl, rfl⟩ ?_
   ·
    refine Wk.of [0, 1, 36000] ?_ ?_ ?_ (by decide) rfl
    ·
     refine WkE.upd rfl (by exact VR.flat _ rfl) ?_
     refine WkE.upd rfl (by exact VR.flat _ rfl) ?_
     refine WkE.upd rfl (.slice (1) 0 _ 0 ⟨_, rfl⟩ (by simp) (by simp)) ?_
     refine WkE.upd rfl (.slice (36000) 0 _ 0 ⟨_, rfl⟩ (by simp) (by simp)) ?_
     exact WkE.emp
    ·
     refine WkM.flat rfl (flatM flat_vi) (fun h => h) ?_
     refine WkM.flat rfl (flatM flat_vi) (fun h => h) ?_
     refine WkM.flat rfl (flatS _) (fun h => h) ?_
     exact WkM.emp
    ·
     repeat (refine dom_upd_mem (by decide) ?_)
     exact dom_emp
   ·
    rintro mm σ ⟨i, hinv, rfl, rfl⟩
    refine zS ?_
    refine yP pLt ?_
    refine zN (zQ ?_)
    refine zA (fun hb2 => ?_) (fun hb2 => ?_)
    ·
     have hi : i < ns.length := by simpa using hb2
     have hvi : ns.getD i 0 < 18446744073709551616 := hb _ (getD_mem hi)
     refine zK (zT (zQ (zB (zS ?_))))
     refine yM ?_
     refine yP pJ ?_
     refine yL 0 ?_
     refine yA ?_
     refine yA ?_
     refine zN ?_
     refine AW.seqD mixed ?_
     refine yM ?_
     refine yM ?_
     refine yP (PureOp.idxN tbok (j := i) rfl rfl rfl rfl hi) ?_
     refine yLEi (xs := ns.map fp) (j := i) (hj := by rw [List.length_map]; exact hi) ?_
     refine yM ?_
     refine yC (fromuF_ctr (v := ns.getD i 0) hvi) bd82 [] [] ?_
     refine AWo.callX (v := .bool true) (equalF_ctr) bd40 [] [] rfl (.cons rfl (.cons rfl .nil)) rfl (.pure (by rfl) (.pure (by rfl) .nil)) .nil rfl .nil frN (by decide) (.cons rfl rfl .nil) (congrArg Value.bool (decide_eq_true (map_getD hi))) rfl rfl rfl ?_
     first | refine AWo.pure ((PureOp.not rfl).mono (v' := .bool false) (congrArg Value.bool (by rfl))) rfl rfl ?_
     refine zD (zF (zK (zL (zT (zR ?_)))))
     refine yP (pAdd (b := 1)) ?_
     refine yM ?_
     refine zN (zT ?_)
     refine ⟨ns.length - (i + 1), [], _, by omega, ?_, i + 1, by omega, rfl, rfl⟩
     refine Wk.of [0, 1, 36000] ?_ ?_ ?_ (by decide) rfl
     ·
      refine WkE.upd rfl (by exact VR.flat _ rfl) ?_
      refine WkE.upd rfl (by exact VR.flat _ rfl) ?_
      refine WkE.upd rfl (.slice (1) 0 _ 0 ⟨_, rfl⟩ (by simp) (by simp)) ?_
      refine WkE.upd rfl (.slice (36000) 0 _ 0 ⟨_, rfl⟩ (by simp) (by simp)) ?_
      exact WkE.emp
     ·
      refine WkM.flat rfl (flatM flat_vi) (fun h => h) ?_
      refine WkM.flat rfl (flatM flat_vi) (fun h => h) ?_
      refine WkM.flat rfl (flatS _) (fun h => h) ?_
      exact WkM.emp
     ·
      repeat (refine dom_upd_mem (by decide) ?_)
      exact dom_emp
    ·
     refine zX (zV (zV (zH (zT (zS ?_)))))
     refine yA ?_
     refine zN (zE ?_)
     exact rq [] [.tmp 6] (hb := (OutL.flat rfl (flatS L) (by intro h; exact h.elim id fun h => absurd h.1 (by simp)) (OutL.flat rfl (flatM flat_vi) (by intro h; exact h.elim id fun h => absurd h.1 (by simp)) trivial)))
theorem pieces_hi {L : List (Int × Nat)} {ns : List Nat} {cut : Nat} (hL : ∀ s ∈ L, s.2 < 18446744073709551616) (hb : bd 18446744073709551616 ns) (hc256 : cut < 256) {j c : Nat} (hj : j < L.length) (hjm0 : cut % (L.length + 1) ≤ j) (hok : ∀ i, i < j → errAt L (ns.map fp) i = 0) (hej : errAt L (ns.map fp) j = c) (hc : c ≠ 0) : GC Try.prog 17 [.slice (some ⟨0, 0, none⟩) L.length 0, .slice (some ⟨1, 0, none⟩) ns.length 0, vi .u8 cut] [⟨L.flatMap stC, false, 2⟩, ⟨ns.map (vi .u64), false, 1⟩] [.bool true] [⟨L.flatMap stC, false, 2⟩, ⟨ns.map (vi .u64), false, 1⟩] := by
 refine gi Try.func17 ?_
 refine zS ?_
 refine yA ?_
 refine zN (zQ (zS ?_))
 refine yC (cspeaks_ctr) bd78 [] [] ?_
 first | refine AWo.pure ((PureOp.not rfl).mono (v' := .bool false) (congrArg Value.bool (by rfl))) rfl rfl ?_
 refine yM ?_
 refine yM ?_
 refine yP pL ?_
 refine yB (pGt (b := 60)) (fun hb0 => ?_) (fun hb0 => ?_)
 ·
  refine yP pE ?_
  refine yM ?_
  refine yK ?_
  refine yK ?_
  refine yK ?_
  refine yP pT ?_
  refine zN (zC (zS ?_))
  refine yC (cspeaks_ctr) bd78 [] [] ?_
  refine yA ?_
  refine zN (zE (zU ?_))
  exact rq [] [.tmp 6] (hb := (OutL.flat rfl (flatS L) (by intro h; exact h.elim id fun h => absurd h.1 (by simp)) (OutL.flat rfl (flatM flat_vi) (by intro h; exact h.elim id fun h => absurd h.1 (by simp)) trivial)))
 ·
  have hl60 : L.length ≤ 60 := by simpa using hb0
  refine yP pE ?_
  refine yM ?_
  refine yM ?_
  refine yP pL ?_
  refine yB (pGt (b := 64)) (fun hb1 => ?_) (fun hb1 => ?_)
  ·
   refine yP pE ?_
   refine zN (zC (zS ?_))
   refine yC (cspeaks_ctr) bd78 [] [] ?_
   refine yA ?_
   refine zN (zE (zU ?_))
   exact rq [] [.tmp 6] (hb := (OutL.flat rfl (flatS L) (by intro h; exact h.elim id fun h => absurd h.1 (by simp)) (OutL.flat rfl (flatM flat_vi) (by intro h; exact h.elim id fun h => absurd h.1 (by simp)) trivial)))
  ·
   have hn64 : ns.length ≤ 64 := by simpa using hb1
   obtain ⟨m, hm⟩ : ∃ m, cut % (L.length + 1) = m := ⟨_, rfl⟩
   have hmL : m ≤ L.length := by have : cut % (L.length + 1) < L.length + 1 := Nat.mod_lt _ (Nat.succ_pos _); omega
   have hXl : (ns.map fp).length = ns.length := List.length_map ..
   have hjm : m ≤ j := by omega
   refine yP pE ?_
   refine zN (zF (zK (zT (zS ?_))))
   refine yM ?_
   refine yC (first_ctr hb (by omega)) bd79 [(1, 0)] [36000, 36001] ?_ (hnew := (.keep rfl (.new (flat_map_ren (by exact flatM flat_vi)) (OkL.flat (by exact flatM flat_vi)) (.new (clo_map_ren (cloM fun _ => rfl)) (OkL.clo (cloM fun _ => rfl)) .nil))))
   refine yM ?_
   refine yP pX ?_
   refine yP pX ?_
   refine yA ?_
   refine yA ?_
   refine zN (zS ?_)
   refine yM ?_
   refine yP (PureOp.cvtN tbok 9223372036854775808 rfl rfl rfl (by decide) (by decide) (by omega)) ?_
   refine yM ?_
   refine yP pL ?_
   refine yP (pAdd (b := 1)) ?_
   refine yP ((PureOp.remN (a := cut) (b := L.length + 1) rfl rfl (by omega)).mono (v' := vi .i64 m) (congrArg (vi .i64) hm)) ?_
   refine yA ?_
   refine zN (zS ?_)
   refine yM ?_
   refine yC (cof_ctr (L := L) (by omega)) bd80 [(0, 0)] [46000] ?_ (hfit := (.flat rfl (flatS _) (by intro h; exact h) .nil)) (hnew := (.keep rfl (.new (flat_map_ren (flatS _)) (OkL.flat (flatS _)) .nil)))
   refine yA ?_
   refine zN (zS ?_)
   refine yM ?_
   refine yM ?_
   refine yC (runJ_ctr (L := L) (XS := (ns.map fp)) (n := L.length) (x := ns.length) (j := j) rfl hXl hL (by omega) (by omega) hj hok hej hc) bd81 [(46000, 0), (36000, 0)] [] ?_ (hfit := (.flat rfl (flatS _) (by intro h; rfl) (.flat rfl (by exact flatM flat_vi) (by intro h; rfl) .nil)))
   refine yM ?_
   refine yP pX ?_
   refine yP pX ?_
   refine yP pX ?_
   refine yA ?_
   refine yA ?_
   refine yA ?_
   refine zN (zS ?_)
   refine yM ?_
   refine yM ?_
   refine AWo.sliceS2 tbok (h := m) rfl .none (.some rfl) rfl rfl rfl rfl (Nat.zero_le _) hmL rfl rfl rfl ?_
   refine yM ?_
   refine yC (runK_ctr (L := L.take m) (XS := (ns.map fp)) (YS := stk L (ns.map fp) m) (n := m) (x := ns.length) (m := (stk L (ns.map fp) m).length) (take_len hmL) hXl (stk_take (Nat.le_refl _)) rfl (take_w hL) (by rw [List.length_take]; omega) (by omega) (fun i hi => (errAt_take (by rw [List.length_take] at hi; omega)).trans (hok i (by rw [List.length_take] at hi; omega)))) bd81 [(46000, 0), (36000, 0)] [59000] ?_ (hfit := (.part rfl stc_take (flatS _) (stc_take_le) (.flat rfl (by exact flatM flat_vi) (by intro h; rfl) .nil)))
   refine yM ?_
   refine yP pX ?_
   refine yP pX ?_
   refine yP pX ?_
   refine yA ?_
   refine yA ?_
   refine yA ?_
   refine zN (zQ (zS ?_))
   refine yM ?_
   refine yP ((PureOp.eqN (b := 0) rfl rfl).mono (v' := .bool true) (congrArg Value.bool (by rfl))) ?_
   refine zN (zC (zS ?_))
   refine yM ?_
   refine yM ?_
   refine AWo.sliceS2 tbok (l := m) rfl (.some rfl) .none rfl rfl rfl rfl hmL (Nat.le_refl _) rfl rfl rfl ?_
   refine yM ?_
   refine yC (runJ_ctr (L := L.drop m) (XS := stk L (ns.map fp) m) (n := L.length - m) (x := (stk L (ns.map fp) m).length) (j := j - m) (List.length_drop ..) rfl (drop_w hL) (by rw [List.length_drop]; omega) (stk_le (by omega) fun i hi => hok i (by omega)) (by rw [List.length_drop]; omega) (fun i hi => (errAt_drop L _ m i).trans (hok _ (by omega))) ((errAt_drop L _ m (j - m)).trans (by rw [show m + (j - m) = j by omega]; exact hej)) hc) bd81 [(46000, 0 + m * 2), (59000, 0)] [] ?_ (hfit := (.part rfl (stc_drop (by omega)) (flatS _) (stc_drop_le (by omega)) (.flat rfl (by exact flatM flat_vi) (by intro h; rfl) .nil)))
   refine yM ?_
   refine yP pX ?_
   refine yP pX ?_
   refine yP pX ?_
   refine yA ?_
   refine yA ?_
   refine yA ?_
   refine zN (zS ?_)
   refine yM ?_
   refine yP ((PureOp.geN (b := 0) rfl rfl).mono (v' := .bool true) (congrArg Value.bool (by rfl))) ?_
   refine zN (zC (zR ?_))
   refine yM ?_
   refine yM ?_
   refine yP ((PureOp.addI rfl rfl (by omega)).mono (v' := vi .i64 j) (by exact congrArg (vi .i64) (by omega))) ?_
   refine yA ?_
   refine zN (zT (zQ (zS ?_)))
   refine yM ?_
   refine yM ?_
   refine yP ((PureOp.neN rfl rfl).mono (v' := .bool false) (congrArg Value.bool (by (simp; done)))) ?_
   refine yM ?_
   refine yM ?_
   refine yM ?_
   refine yP ((PureOp.neN rfl rfl).mono (v' := .bool false) (congrArg Value.bool (by (simp; done)))) ?_
   refine yP pE ?_
   refine yM ?_
   refine yM ?_
   refine yP pL ?_
   refine yM ?_
   refine yP pL ?_
   refine yP ((PureOp.neN rfl rfl).mono (v' := .bool false) (congrArg Value.bool (by rfl))) ?_
   refine yP pE ?_
   refine zN (zF (zK (zT (zQ (zS ?_)))))
   refine yM ?_
   refine yP pL ?_
   refine yM ?_
   refine zN (zB ?_)
   refine AW.rounds 1 ?_
   refine roundsA_succ ?_
   refine zS ?_
   refine yP pLt ?_
   refine zN (zQ (zF (zX (zV (zV (zH (zT (zQ (zS ?_)))))))))
   refine yM ?_
   refine yP pL ?_
   refine yM ?_
   refine zN (zB ?_)
   refine AW.loopw (fun mm σ => ∃ i, (i ≤ ns.length) ∧ mm = ns.length - i ∧ σ = ⟨(upd (upd (upd (upd emp 7 (.slice (some ⟨36000, 0, none⟩) ns.length 0)) 109 (.slice (some ⟨1, 0, none⟩) ns.length 0)) 110 (vi .i64 ns.length)) 111 (vi .i64 i)), (upd (upd (upd emp 0 ⟨L.flatMap stC, false, 2⟩) 1 ⟨ns.map (vi .u64), false, 1⟩) 36000 ⟨(((ns.map fp).map fe).flatten).map (vi .u64), true, 4⟩)⟩) (fm := []) ?_ ⟨0, Nat.zero_le _, rfl, rfl⟩ ?_
   ·
    refine Wk.of [0, 1, 36000] ?_ ?_ ?_ (by decide) rfl
    ·
     refine WkE.upd rfl (by exact VR.flat _ rfl) ?_
     refine WkE.upd rfl (by exact VR.flat _ rfl) ?_
     refine WkE.upd rfl (.slice (1) 0 _ 0 ⟨_, rfl⟩ (by simp) (by simp)) ?_
     refine WkE.upd rfl (.slice (36000) 0 _ 0 ⟨_, rfl⟩ (by simp) (by simp)) ?_
     exact WkE.emp
    ·
     refine WkM.flat rfl (flatM flat_vi) (fun h => h) ?_
     refine WkM.flat rfl (flatM flat_vi) (fun h => h) ?_
     refine WkM.flat rfl (flatS _) (fun h => h) ?_
     exact WkM.emp
    ·
     repeat (refine dom_upd_mem (by decide) ?_)
     exact dom_emp
   ·
    rintro mm σ ⟨i, hinv, rfl, rfl⟩
    refine zS ?_
    refine yP pLt ?_
    refine zN (zQ ?_)
    refine zA (fun hb2 => ?_) (fun hb2 => ?_)
    ·
     have hi : i < ns.length := by simpa using hb2
     have hvi : ns.getD i 0 < 18446744073709551616 := hb _ (getD_mem hi)
     refine zK (zT (zQ (zB (zS ?_))))
     refine yM ?_
     refine yP pJ ?_
     refine yL 0 ?_
     refine yA ?_
     refine yA ?_
     refine zN ?_
     refine AW.seqD mixed ?_
     refine yM ?_
     refine yM ?_
     refine yP (PureOp.idxN tbok (j := i) rfl rfl rfl rfl hi) ?_
     refine yLEi (xs := ns.map fp) (j := i) (hj := by rw [List.length_map]; exact hi) ?_
     refine yM ?_
     refine yC (fromuF_ctr (v := ns.getD i 0) hvi) bd82 [] [] ?_
     refine AWo.callX (v := .bool true) (equalF_ctr) bd40 [] [] rfl (.cons rfl (.cons rfl .nil)) rfl (.pure (by rfl) (.pure (by rfl) .nil)) .nil rfl .nil frN (by decide) (.cons rfl rfl .nil) (congrArg Value.bool (decide_eq_true (map_getD hi))) rfl rfl rfl ?_
     first | refine AWo.pure ((PureOp.not rfl).mono (v' := .bool false) (congrArg Value.bool (by rfl))) rfl rfl ?_
     refine zD (zF (zK (zL (zT (zR ?_)))))
     refine yP (pAdd (b := 1)) ?_
     refine yM ?_
     refine zN (zT ?_)
     refine ⟨ns.length - (i + 1), [], _, by omega, ?_, i + 1, by omega, rfl, rfl⟩
     refine Wk.of [0, 1, 36000] ?_ ?_ ?_ (by decide) rfl
     ·
      refine WkE.upd rfl (by exact VR.flat _ rfl) ?_
      refine WkE.upd rfl (by exact VR.flat _ rfl) ?_
      refine WkE.upd rfl (.slice (1) 0 _ 0 ⟨_, rfl⟩ (by simp) (by simp)) ?_
      refine WkE.upd rfl (.slice (36000) 0 _ 0 ⟨_, rfl⟩ (by simp) (by simp)) ?_
      exact WkE.emp
     ·
      refine WkM.flat rfl (flatM flat_vi) (fun h => h) ?_
      refine WkM.flat rfl (flatM flat_vi) (fun h => h) ?_
      refine WkM.flat rfl (flatS _) (fun h => h) ?_
      exact WkM.emp
     ·
      repeat (refine dom_upd_mem (by decide) ?_)
      exact dom_emp
    ·
     refine zX (zV (zV (zH (zT (zS ?_)))))
     refine yA ?_
     refine zN (zE ?_)
     exact rq [] [.tmp 6] (hb := (OutL.flat rfl (flatS L) (by intro h; exact h.elim id fun h => absurd h.1 (by simp)) (OutL.flat rfl (flatM flat_vi) (by intro h; exact h.elim id fun h => absurd h.1 (by simp)) trivial)))
theorem firstBad (L : List (Int × Nat)) (XS : List Fp) : ∀ n, (∀ i, i < n → errAt L XS i = 0) ∨ ∃ j, j < n ∧ (∀ i, i < j → errAt L XS i = 0) ∧ errAt L XS j ≠ 0
  | 0 => .inl fun i h => absurd h (Nat.not_lt_zero i)
  | n + 1 => by
    rcases firstBad L XS n with h | ⟨j, h1, h2, h3⟩
    · by_cases h0 : errAt L XS n = 0
      · refine .inl fun i hi => ?_
        rcases (by omega : i < n ∨ i = n) with h4 | rfl
        · exact h i h4
        · exact h0
      · exact .inr ⟨n, by omega, h, h0⟩
    · exact .inr ⟨j, by omega, h2, h3⟩
theorem pieces_ctr {L : List (Int × Nat)} {ns : List Nat} {cut : Nat} (hL : ∀ s ∈ L, s.2 < 18446744073709551616) (hb : bd 18446744073709551616 ns) (hc256 : cut < 256) : GC Try.prog 17 [.slice (some ⟨0, 0, none⟩) L.length 0, .slice (some ⟨1, 0, none⟩) ns.length 0, vi .u8 cut] [⟨L.flatMap stC, false, 2⟩, ⟨ns.map (vi .u64), false, 1⟩] [.bool true] [⟨L.flatMap stC, false, 2⟩, ⟨ns.map (vi .u64), false, 1⟩] := by
  rcases firstBad L (ns.map fp) L.length with h | ⟨j, h1, h2, h3⟩
  · exact pieces_ok hL hb hc256 h
  · rcases Nat.lt_or_ge j (cut % (L.length + 1)) with h | h
    · exact pieces_lo hL hb hc256 h1 h h2 rfl h3
    · exact pieces_hi hL hb hc256 h1 h h2 rfl h3
end Go.Proofs.Ytiikffiembcboaa
namespace Go.Proofs.Ytiikffiembcboaa
open Go
namespace Head
set_option maxRecDepth 100000 in
theorem words : ∃ l, Try.prog.initOrder = String.ofList l ∧ (behindMainWord (wordsSigns l)).head? = some "cut".toList := ⟨_, rfl, by kernel_rfl⟩
theorem head_of {P : Program} (h : ∃ l, P.initOrder = String.ofList l ∧ (behindMainWord (wordsSigns l)).head? = some "cut".toList) :
    ∃ rest, behindMainWord (wordsSigns P.initOrder.toList) = "cut".toList :: rest := by
  obtain ⟨l, h, hh⟩ := h
  rw [h, String.toList_ofList]
  cases hb : behindMainWord (wordsSigns l) with
  | nil => rw [hb] at hh; cases hh
  | cons c r => rw [hb] at hh; simp only [List.head?_cons, Option.some.injEq] at hh; exact ⟨r, by rw [hh]⟩
theorem cut_words : (liftWords.all fun s => !("cut".toList == s.toList)) = true := by decide +kernel
theorem strip_cut (rest : List (List Char)) : stripLifts liftWords ("cut".toList :: rest) = ([], "cut".toList :: rest) := by
  have key : ∀ o : List String, (o.all fun s => !("cut".toList == s.toList)) = true → stripLifts o ("cut".toList :: rest) = ([], "cut".toList :: rest) := by
    intro o
    induction o with
    | nil => intro _; rfl
    | cons s o ih =>
      intro h
      simp only [List.all_cons, Bool.and_eq_true, Bool.not_eq_true'] at h
      rw [stripLifts, if_neg (by rw [h.1]; exact Bool.false_ne_true)]
      exact ih h.2
  exact key liftWords cut_words
theorem mayEnter_of {P : Program} {rest : List (List Char)} (hr : behindMainWord (wordsSigns P.initOrder.toList) = "cut".toList :: rest) (e1 : P.laysLater = false) (e2 : P.bearsReflect = false) (e3 : P.doorFits [] = true) : P.mayEnter = true := by
  unfold Program.mayEnter
  rw [hr]
  simp only [strip_cut, e1, e2, e3]
  simp
theorem headLifts_of {P : Program} {rest : List (List Char)} (hr : behindMainWord (wordsSigns P.initOrder.toList) = "cut".toList :: rest) : P.headLifts = [] := by
  unfold Program.headLifts
  rw [hr, strip_cut]
  simp
theorem cut_ne : ("cut".toList == "carried".toList) = false ∧ ("cut".toList == "gc".toList) = false ∧ ("cut".toList == "spec".toList) = false := by decide +kernel
theorem liftsFinal_of {P : Program} {rest : List (List Char)} (hr : behindMainWord (wordsSigns P.initOrder.toList) = "cut".toList :: rest) : P.liftsFinal = false := by
  unfold Program.liftsFinal
  rw [hr, headLifts_of hr]
  simp
theorem make_of {P : Program} {rest : List (List Char)} (hr : behindMainWord (wordsSigns P.initOrder.toList) = "cut".toList :: rest) : P.make = some .cut := by
  unfold Program.make
  rw [hr]
  simp only [cut_ne.2.1, cut_ne.2.2, beq_self_eq_true]
  simp
theorem laysLater : Try.prog.laysLater = false := by kernel_rfl
theorem bearsReflect : Try.prog.bearsReflect = false := by kernel_rfl
theorem doorFits : Try.prog.doorFits [] = true := by kernel_rfl
theorem mayEnter : Try.prog.mayEnter = true := let ⟨_, hr⟩ := head_of words; mayEnter_of hr laysLater bearsReflect doorFits
theorem liftsFinal : Try.prog.liftsFinal = false := let ⟨_, hr⟩ := head_of words; liftsFinal_of hr
theorem make_cut : Try.prog.make = some .cut := let ⟨_, hr⟩ := head_of words; make_of hr
theorem band {a b : Bool} (ha : a = true) (hb : b = true) : (a && b) = true := by rw [ha, hb]; rfl
end Head
end Go.Proofs.Ytiikffiembcboaa
