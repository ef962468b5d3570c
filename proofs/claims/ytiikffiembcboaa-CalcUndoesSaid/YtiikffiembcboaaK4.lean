/- What the proof stands on, part 4: the walk of each function, and plain laws of numbers. -/
import Derived.Test.YtiikffiembcboaaK3
import Derived.Test.YtiikffiembcboaaRows
import Derived.ProofKit
namespace Go.Proofs.Ytiikffiembcboaa
open Go Sim
set_option maxRecDepth 10000
abbrev dst (L : List (Int × Nat)) : Value := deep L.length 2 (L.flatMap stC)
theorem stc_clo (L : List (Int × Nat)) : ∀ x ∈ L.flatMap stC, cloV x = true := fun x hx => by
 obtain ⟨s, _, hs⟩ := List.mem_flatMap.1 hx
 simp [stC] at hs
 rcases hs with rfl | rfl <;> rfl
def undoL (n v : Nat) : List (List (Int × Nat)) := [([(4, 0), (4, 0)] : List (Int × Nat)), ([(8, 0), (8, 0)] : List (Int × Nat)), ([(7, v % n), (9, 0)] : List (Int × Nat)), ([(0, v), (1, 0), (0, v), (2, 0)] : List (Int × Nat)), ([(6, 0), (6, 0)] : List (Int × Nat)), ([(7, 0), (7, 1), (10, 0), (0, 1), (2, 0), (1, 0)] : List (Int × Nat))]
theorem s_un {YS : List Fp} {x : Fp} {k N : Nat} (hk : k = 4 ∨ k = 5 ∨ k = 6) : stepF (YS ++ [x]) k N = YS ++ [f1 k x] := by
  have h1 : (YS ++ [x]).length - 1 = YS.length := by simp
  have h2 : (YS ++ [x]).getD YS.length 0 = x := by simp
  unfold stepF
  rw [if_neg (by omega), if_neg (by omega), if_neg (by omega), if_neg (by omega), if_pos hk, h1, h2]
  simp
theorem s_drop {YS : List Fp} {x : Fp} {N : Nat} : stepF (YS ++ [x]) 9 N = YS := by
  show (YS ++ [x]).take ((YS ++ [x]).length - 1) = YS
  simp
theorem s_two {YS : List Fp} {y x : Fp} : (YS ++ [y, x]).length - 2 = YS.length ∧ (YS ++ [y, x]).length - 1 = YS.length + 1 ∧ (YS ++ [y, x]).getD YS.length 0 = y ∧ (YS ++ [y, x]).getD (YS.length + 1) 0 = x := by
  refine ⟨by simp, by simp, by simp, ?_⟩
  rw [List.getD_eq_getElem?_getD, List.getElem?_append_right (by omega), show YS.length + 1 - YS.length = 1 by omega]; rfl
theorem s_bin {YS : List Fp} {y x : Fp} {k N : Nat} (hk : k = 1 ∨ k = 2 ∨ k = 3 ∨ k = 10) : stepF (YS ++ [y, x]) k N = YS ++ [f2 k y x] := by
  obtain ⟨h1, h2, h3, h4⟩ := s_two (YS := YS) (y := y) (x := x)
  unfold stepF
  rw [if_neg (by omega), if_neg (by omega), if_neg (by omega), if_neg (by omega), if_neg (by omega), h1, h2, h3, h4]
  rw [show (YS ++ [y, x]).set YS.length (f2 k y x) = (YS ++ [f2 k y x]) ++ [x] by simp]
  exact List.take_left' (by simp)
theorem s_swap {YS : List Fp} {y x : Fp} {N : Nat} : stepF (YS ++ [y, x]) 8 N = YS ++ [x, y] := by
  obtain ⟨h1, h2, h3, h4⟩ := s_two (YS := YS) (y := y) (x := x)
  show ((YS ++ [y, x]).set ((YS ++ [y, x]).length - 1) ((YS ++ [y, x]).getD ((YS ++ [y, x]).length - 2) 0)).set ((YS ++ [y, x]).length - 2) ((YS ++ [y, x]).getD ((YS ++ [y, x]).length - 1) 0) = _
  rw [h1, h2, h3, h4]
  simp
theorem s_push {YS : List Fp} {N : Nat} : stepF YS 0 N = YS ++ [fp N] := rfl
theorem s_copy0 {YS : List Fp} {x : Fp} : stepF (YS ++ [x]) 7 0 = YS ++ [x, x] := by
  show (YS ++ [x]) ++ [(YS ++ [x]).getD ((YS ++ [x]).length - 1 - 0) 0] = _
  simp
theorem s_copy1 {YS : List Fp} {y x : Fp} : stepF (YS ++ [y, x]) 7 1 = YS ++ [y, x, y] := by
  obtain ⟨h1, h2, h3, h4⟩ := s_two (YS := YS) (y := y) (x := x)
  show (YS ++ [y, x]) ++ [(YS ++ [y, x]).getD ((YS ++ [y, x]).length - 1 - 1) 0] = _
  rw [show (YS ++ [y, x]).length - 1 - 1 = YS.length by simp, h3]
  simp
theorem er {L : List (Int × Nat)} {XS YS : List Fp} {i k N m : Nat} (hs : stk L XS i = YS) (hL : L.getD i (0, 0) = ((k : Int), N)) (hk : k ≤ 10) (hm : YS.length = m) (hn : needN k N ≤ m) (hr : m ≠ 64) : errAt L XS i = 0 := by
  unfold errAt; rw [hs, hL, hm]; exact errF_0 hk hn (fun h => hr h.1)
theorem undo_all {XS : List Fp} {n v : Nat} (hv : v < 18446744073709551616) (hl : XS.length = n) (h2 : 2 ≤ n) (h60 : n ≤ 60) : ∀ L ∈ undoL n v, L.length ≤ 1000 ∧ (∀ s ∈ L, s.2 < 18446744073709551616) ∧ (∀ i, i < L.length → errAt L XS i = 0) ∧ stk L XS L.length = XS := by
  obtain ⟨YS, y, x, rfl⟩ : ∃ YS y x, XS = YS ++ [y, x] := by
    refine ⟨XS.take (n - 2), XS.getD (n - 2) 0, XS.getD (n - 1) 0, ?_⟩
    conv => lhs; rw [← List.take_append_drop (n - 2) XS]
    congr 1
    rw [List.drop_eq_getElem_cons (by omega), List.drop_eq_getElem_cons (by omega), List.drop_of_length_le (by omega), List.getD_eq_getElem?_getD, List.getElem?_eq_getElem (by omega), List.getD_eq_getElem?_getD, List.getElem?_eq_getElem (by omega)]
    simp only [Option.getD_some, show n - 2 + 1 = n - 1 by omega]
  have hX : YS ++ [y, x] = (YS ++ [y]) ++ [x] := by simp
  have hn : YS.length + 2 = n := by simpa using hl
  have hf1 : fp 1 = 1 := rfl
  intro L hL
  simp only [undoL, List.mem_cons, List.not_mem_nil, or_false] at hL
  rcases hL with rfl | rfl | rfl | rfl | rfl | rfl
  · have s1 : stk [(4, 0), (4, 0)] (YS ++ [y, x]) 1 = (YS ++ [y]) ++ [f1 4 x] := by show stepF (YS ++ [y, x]) 4 0 = _; rw [hX]; exact s_un (.inl rfl)
    have s2 : stk [(4, 0), (4, 0)] (YS ++ [y, x]) 2 = YS ++ [y, x] := by
      show stepF (stk [(4, 0), (4, 0)] (YS ++ [y, x]) 1) 4 0 = _
      rw [s1, s_un (.inl rfl), hX]; show _ ++ [-(-x)] = _; rw [Rg.neg_neg]
    refine ⟨by simp, by simp, fun i hi => ?_, s2⟩
    rcases (by simp at hi; omega : i = 0 ∨ i = 1) with rfl | rfl
    · exact er (k := 4) (N := 0) (m := n) rfl rfl (by decide) hl (by show 1 ≤ n; omega) (by omega)
    · exact er (k := 4) (N := 0) (m := n) s1 rfl (by decide) (by simp; omega) (by show 1 ≤ n; omega) (by omega)
  · have s1 : stk [(8, 0), (8, 0)] (YS ++ [y, x]) 1 = YS ++ [x, y] := s_swap
    have s2 : stk [(8, 0), (8, 0)] (YS ++ [y, x]) 2 = YS ++ [y, x] := by
      show stepF (stk [(8, 0), (8, 0)] (YS ++ [y, x]) 1) 8 0 = _
      rw [s1]; exact s_swap
    refine ⟨by simp, by simp, fun i hi => ?_, s2⟩
    rcases (by simp at hi; omega : i = 0 ∨ i = 1) with rfl | rfl
    · exact er (k := 8) (N := 0) (m := n) rfl rfl (by decide) hl (by show 2 ≤ n; omega) (by omega)
    · exact er (k := 8) (N := 0) (m := n) s1 rfl (by decide) (by simp; omega) (by show 2 ≤ n; omega) (by omega)
  · have hvn : v % n < n := Nat.mod_lt _ (by omega)
    obtain ⟨c, s1⟩ : ∃ c, stk [(7, v % n), (9, 0)] (YS ++ [y, x]) 1 = (YS ++ [y, x]) ++ [c] := ⟨_, rfl⟩
    have s2 : stk [(7, v % n), (9, 0)] (YS ++ [y, x]) 2 = YS ++ [y, x] := by
      show stepF (stk [(7, v % n), (9, 0)] (YS ++ [y, x]) 1) 9 0 = _
      rw [s1]; exact s_drop
    refine ⟨by simp, fun s hs => ?_, fun i hi => ?_, s2⟩
    · simp at hs
      rcases hs with rfl | rfl
      · show v % n < _; omega
      · decide
    rcases (by simp at hi; omega : i = 0 ∨ i = 1) with rfl | rfl
    · refine er (k := 7) (N := v % n) (m := n) rfl rfl (by decide) hl ?_ (by omega)
      show Nat.min (v % n) 64 + 1 ≤ n
      have h9 : Nat.min (v % n) 64 ≤ v % n := Nat.min_le_left ..
      omega
    · exact er (k := 9) (N := 0) (m := n + 1) s1 rfl (by decide) (by simp; omega) (by show 1 ≤ n + 1; omega) (by omega)
  · have s1 : stk [(0, v), (1, 0), (0, v), (2, 0)] (YS ++ [y, x]) 1 = (YS ++ [y]) ++ [x, fp v] := by show (YS ++ [y, x]) ++ [fp v] = _; simp
    have s2 : stk [(0, v), (1, 0), (0, v), (2, 0)] (YS ++ [y, x]) 2 = (YS ++ [y]) ++ [x + fp v] := by
      show stepF (stk [(0, v), (1, 0), (0, v), (2, 0)] (YS ++ [y, x]) 1) 1 0 = _
      rw [s1]; exact s_bin (.inl rfl)
    have s3 : stk [(0, v), (1, 0), (0, v), (2, 0)] (YS ++ [y, x]) 3 = (YS ++ [y]) ++ [x + fp v, fp v] := by
      show stepF (stk [(0, v), (1, 0), (0, v), (2, 0)] (YS ++ [y, x]) 2) 0 v = _
      rw [s2, s_push]; simp
    have s4 : stk [(0, v), (1, 0), (0, v), (2, 0)] (YS ++ [y, x]) 4 = YS ++ [y, x] := by
      show stepF (stk [(0, v), (1, 0), (0, v), (2, 0)] (YS ++ [y, x]) 3) 2 0 = _
      rw [s3, s_bin (.inr (.inl rfl)), hX]
      show _ ++ [(x + fp v) - fp v] = _
      rw [Rg.add_sub]
    refine ⟨by simp, fun s hs => ?_, fun i hi => ?_, s4⟩
    · simp at hs
      rcases hs with rfl | rfl | rfl | rfl <;> first | exact hv | (show (0 : Nat) < _; decide)
    rcases (by simp at hi; omega : i = 0 ∨ i = 1 ∨ i = 2 ∨ i = 3) with rfl | rfl | rfl | rfl
    · exact er (k := 0) (N := v) (m := n) rfl rfl (by decide) hl (Nat.zero_le _) (by omega)
    · exact er (k := 1) (N := 0) (m := n + 1) s1 rfl (by decide) (by simp; omega) (by show 2 ≤ n + 1; omega) (by omega)
    · exact er (k := 0) (N := v) (m := n) s2 rfl (by decide) (by simp; omega) (Nat.zero_le _) (by omega)
    · exact er (k := 2) (N := 0) (m := n + 1) s3 rfl (by decide) (by simp; omega) (by show 2 ≤ n + 1; omega) (by omega)
  · have s1 : stk [(6, 0), (6, 0)] (YS ++ [y, x]) 1 = (YS ++ [y]) ++ [finv x] := by show stepF (YS ++ [y, x]) 6 0 = _; rw [hX]; exact s_un (.inr (.inr rfl))
    have s2 : stk [(6, 0), (6, 0)] (YS ++ [y, x]) 2 = YS ++ [y, x] := by
      show stepF (stk [(6, 0), (6, 0)] (YS ++ [y, x]) 1) 6 0 = _
      rw [s1, s_un (.inr (.inr rfl)), hX]; show _ ++ [finv (finv x)] = _; rw [finv_finv]
    refine ⟨by simp, by simp, fun i hi => ?_, s2⟩
    rcases (by simp at hi; omega : i = 0 ∨ i = 1) with rfl | rfl
    · exact er (k := 6) (N := 0) (m := n) rfl rfl (by decide) hl (by show 1 ≤ n; omega) (by omega)
    · exact er (k := 6) (N := 0) (m := n) s1 rfl (by decide) (by simp; omega) (by show 1 ≤ n; omega) (by omega)
  · obtain ⟨L, hL⟩ : ∃ L : List (Int × Nat), L = [(7, 0), (7, 1), (10, 0), (0, 1), (2, 0), (1, 0)] := ⟨_, rfl⟩
    rw [← hL]
    have s1 : stk L (YS ++ [y, x]) 1 = (YS ++ [y]) ++ [x, x] := by subst hL; show stepF (YS ++ [y, x]) 7 0 = _; rw [hX]; exact s_copy0
    have s2 : stk L (YS ++ [y, x]) 2 = (YS ++ [y, x]) ++ [x, x] := by
      have : stk L (YS ++ [y, x]) 2 = stepF (stk L (YS ++ [y, x]) 1) 7 1 := by subst hL; rfl
      rw [this, s1, s_copy1]; simp
    have s3 : stk L (YS ++ [y, x]) 3 = (YS ++ [y, x]) ++ [1] := by
      have : stk L (YS ++ [y, x]) 3 = stepF (stk L (YS ++ [y, x]) 2) 10 0 := by subst hL; rfl
      rw [this, s2, s_bin (.inr (.inr (.inr rfl))), show f2 10 x x = 1 from if_pos rfl]
    have s4 : stk L (YS ++ [y, x]) 4 = (YS ++ [y, x]) ++ [1, 1] := by
      have : stk L (YS ++ [y, x]) 4 = stepF (stk L (YS ++ [y, x]) 3) 0 1 := by subst hL; rfl
      rw [this, s3, s_push, hf1]; simp
    have s5 : stk L (YS ++ [y, x]) 5 = (YS ++ [y]) ++ [x, 0] := by
      have : stk L (YS ++ [y, x]) 5 = stepF (stk L (YS ++ [y, x]) 4) 2 0 := by subst hL; rfl
      rw [this, s4, s_bin (.inr (.inl rfl)), show f2 2 (1 : Fp) 1 = 0 from Rg.sub_self 1]; simp
    have s6 : stk L (YS ++ [y, x]) 6 = YS ++ [y, x] := by
      have : stk L (YS ++ [y, x]) 6 = stepF (stk L (YS ++ [y, x]) 5) 1 0 := by subst hL; rfl
      rw [this, s5, s_bin (.inl rfl), show f2 1 x 0 = x from Rg.add_zero x, hX]
    have g : ∀ (i k N : Nat), ([(7, 0), (7, 1), (10, 0), (0, 1), (2, 0), (1, 0)] : List (Int × Nat)).getD i (0, 0) = ((k : Int), N) → L.getD i (0, 0) = ((k : Int), N) := fun i k N h => by rw [hL]; exact h
    refine ⟨by rw [hL]; simp, by rw [hL]; simp, fun i hi => ?_, by rw [hL] at s6 ⊢; exact s6⟩
    rcases (by rw [hL] at hi; simp at hi; omega : i = 0 ∨ i = 1 ∨ i = 2 ∨ i = 3 ∨ i = 4 ∨ i = 5) with rfl | rfl | rfl | rfl | rfl | rfl
    · exact er (k := 7) (N := 0) (m := n) rfl (g 0 7 0 rfl) (by decide) hl (by show 1 ≤ n; omega) (by omega)
    · exact er (k := 7) (N := 1) (m := n + 1) s1 (g 1 7 1 rfl) (by decide) (by simp; omega) (by show 2 ≤ n + 1; omega) (by omega)
    · exact er (k := 10) (N := 0) (m := n + 2) s2 (g 2 10 0 rfl) (by decide) (by simp; omega) (by show 2 ≤ n + 2; omega) (by omega)
    · exact er (k := 0) (N := 1) (m := n + 1) s3 (g 3 0 1 rfl) (by decide) (by simp; omega) (Nat.zero_le _) (by omega)
    · exact er (k := 2) (N := 0) (m := n + 2) s4 (g 4 2 0 rfl) (by decide) (by simp; omega) (by show 2 ≤ n + 2; omega) (by omega)
    · exact er (k := 1) (N := 0) (m := n + 1) s5 (g 5 1 0 rfl) (by decide) (by simp; omega) (by show 2 ≤ n + 1; omega) (by omega)
theorem undo_ctr {ns : List Nat} {v : Nat} (hb : bd 18446744073709551616 ns) (hv : v < 18446744073709551616) : GC Try.prog 18 [.slice (some ⟨0, 0, none⟩) ns.length 0, vi .u64 v] [⟨ns.map (vi .u64), false, 1⟩] [.bool true] [⟨ns.map (vi .u64), false, 1⟩] := by
 refine gi Try.func18 ?_
 refine zS ?_
 refine yA ?_
 refine zN (zQ (zS ?_))
 refine yC (cspeaks_ctr) bd78 [] [] ?_
 first | refine AWo.pure ((PureOp.not rfl).mono (v' := .bool false) (congrArg Value.bool (by rfl))) rfl rfl ?_
 refine yM ?_
 refine yM ?_
 refine yP pL ?_
 refine yB (pLt (b := 2)) (fun hb0 => ?_) (fun hb0 => ?_)
 ·
  refine yP pE ?_
  refine yM ?_
  refine yK ?_
  refine yK ?_
  refine yK ?_
  refine yP pT ?_
  refine zN (zC (zS ?_))
  refine yC (cspeaks_ctr) bd78 [] [] ?_
  refine yA ?_
  refine zN (zE (zU ?_))
  exact rq [] [.tmp 4]
 ·
  have hn2 : 2 ≤ ns.length := by simpa using hb0
  refine yP pE ?_
  refine yM ?_
  refine yM ?_
  refine yP pL ?_
  refine yB (pGt (b := 60)) (fun hb1 => ?_) (fun hb1 => ?_)
  ·
   refine yP pE ?_
   refine zN (zC (zS ?_))
   refine yC (cspeaks_ctr) bd78 [] [] ?_
   refine yA ?_
   refine zN (zE (zU ?_))
   exact rq [] [.tmp 4]
  ·
   have hn60 : ns.length ≤ 60 := by simpa using hb1
   have hXl : (ns.map fp).length = ns.length := List.length_map ..
   refine yP pE ?_
   refine zN (zF (zK (zT (zS ?_))))
   refine yM ?_
   refine yC (first_ctr hb (by omega)) bd79 [(0, 0)] [29000, 29001] ?_ (hnew := (.keep rfl (.new (flat_map_ren (by exact flatM flat_vi)) (OkL.flat (by exact flatM flat_vi)) (.new (clo_map_ren (cloM fun _ => rfl)) (OkL.clo (cloM fun _ => rfl)) .nil))))
   refine yM ?_
   refine yP pX ?_
   refine yP pX ?_
   refine yA ?_
   refine yA ?_
   refine zN (zQ (zS ?_))
   refine yP (PureOp.buildStruct [(0, .int .i64 4)] pl105.choose_spec.1 zr105 (by decide) pl105.choose_spec.2 rfl rfl) ?_
   refine yP (PureOp.buildStruct [(0, .int .i64 4)] pl105.choose_spec.1 zr105 (by decide) pl105.choose_spec.2 rfl rfl) ?_
   refine AWo.buildSliceGF tbok 34000 [(0, .agg #[.int .i64 4, .int .u64 0]), (1, .agg #[.int .i64 4, .int .u64 0])] (out := ([(4, 0), (4, 0)] : List (Int × Nat)).flatMap stC) rfl rfl rfl rfl rfl (by decide) rfl rfl rfl rfl (stc_clo _) rfl rfl ?_
   refine yP (PureOp.buildStruct [(0, .int .i64 8)] pl105.choose_spec.1 zr105 (by decide) pl105.choose_spec.2 rfl rfl) ?_
   refine yP (PureOp.buildStruct [(0, .int .i64 8)] pl105.choose_spec.1 zr105 (by decide) pl105.choose_spec.2 rfl rfl) ?_
   refine AWo.buildSliceGF tbok 37000 [(0, .agg #[.int .i64 8, .int .u64 0]), (1, .agg #[.int .i64 8, .int .u64 0])] (out := ([(8, 0), (8, 0)] : List (Int × Nat)).flatMap stC) rfl rfl rfl rfl rfl (by decide) rfl rfl rfl rfl (stc_clo _) rfl rfl ?_
   refine yM ?_
   refine yM ?_
   refine yP pL ?_
   refine yP (PureOp.cvtN tbok 18446744073709551616 rfl rfl rfl (by decide) (by decide) (by omega)) ?_
   refine yP (PureOp.remN (a := v) (b := ns.length) rfl rfl (by omega)) ?_
   refine yP (PureOp.buildStruct [(0, .int .i64 7), (1, vi .u64 (v % ns.length))] pl105.choose_spec.1 zr105 (by decide) pl105.choose_spec.2 rfl rfl) ?_
   refine yP (PureOp.buildStruct [(0, .int .i64 9)] pl105.choose_spec.1 zr105 (by decide) pl105.choose_spec.2 rfl rfl) ?_
   refine AWo.buildSliceGF tbok 45000 [(0, .agg #[.int .i64 7, vi .u64 (v % ns.length)]), (1, .agg #[.int .i64 9, .int .u64 0])] (out := ([(7, v % ns.length), (9, 0)] : List (Int × Nat)).flatMap stC) rfl rfl rfl rfl rfl (by decide) rfl rfl rfl rfl (stc_clo _) rfl rfl ?_
   refine yM ?_
   refine yP (PureOp.buildStruct [(0, .int .i64 0), (1, vi .u64 v)] pl105.choose_spec.1 zr105 (by decide) pl105.choose_spec.2 rfl rfl) ?_
   refine yP (PureOp.buildStruct [(0, .int .i64 1)] pl105.choose_spec.1 zr105 (by decide) pl105.choose_spec.2 rfl rfl) ?_
   refine yM ?_
   refine yP (PureOp.buildStruct [(0, .int .i64 0), (1, vi .u64 v)] pl105.choose_spec.1 zr105 (by decide) pl105.choose_spec.2 rfl rfl) ?_
   refine yP (PureOp.buildStruct [(0, .int .i64 2)] pl105.choose_spec.1 zr105 (by decide) pl105.choose_spec.2 rfl rfl) ?_
   refine AWo.buildSliceGF tbok 52000 [(0, .agg #[.int .i64 0, vi .u64 (v)]), (1, .agg #[.int .i64 1, .int .u64 0]), (2, .agg #[.int .i64 0, vi .u64 (v)]), (3, .agg #[.int .i64 2, .int .u64 0])] (out := ([(0, v), (1, 0), (0, v), (2, 0)] : List (Int × Nat)).flatMap stC) rfl rfl rfl rfl rfl (by decide) rfl rfl rfl rfl (stc_clo _) rfl rfl ?_
   refine yP (PureOp.buildStruct [(0, .int .i64 6)] pl105.choose_spec.1 zr105 (by decide) pl105.choose_spec.2 rfl rfl) ?_
   refine yP (PureOp.buildStruct [(0, .int .i64 6)] pl105.choose_spec.1 zr105 (by decide) pl105.choose_spec.2 rfl rfl) ?_
   refine AWo.buildSliceGF tbok 55000 [(0, .agg #[.int .i64 6, .int .u64 0]), (1, .agg #[.int .i64 6, .int .u64 0])] (out := ([(6, 0), (6, 0)] : List (Int × Nat)).flatMap stC) rfl rfl rfl rfl rfl (by decide) rfl rfl rfl rfl (stc_clo _) rfl rfl ?_
   refine yP (PureOp.buildStruct [(0, .int .i64 7)] pl105.choose_spec.1 zr105 (by decide) pl105.choose_spec.2 rfl rfl) ?_
   refine yP (PureOp.buildStruct [(0, .int .i64 7), (1, .int .u64 1)] pl105.choose_spec.1 zr105 (by decide) pl105.choose_spec.2 rfl rfl) ?_
   refine yP (PureOp.buildStruct [(0, .int .i64 10)] pl105.choose_spec.1 zr105 (by decide) pl105.choose_spec.2 rfl rfl) ?_
   refine yP (PureOp.buildStruct [(0, .int .i64 0), (1, .int .u64 1)] pl105.choose_spec.1 zr105 (by decide) pl105.choose_spec.2 rfl rfl) ?_
   refine yP (PureOp.buildStruct [(0, .int .i64 2)] pl105.choose_spec.1 zr105 (by decide) pl105.choose_spec.2 rfl rfl) ?_
   refine yP (PureOp.buildStruct [(0, .int .i64 1)] pl105.choose_spec.1 zr105 (by decide) pl105.choose_spec.2 rfl rfl) ?_
   refine AWo.buildSliceGF tbok 62000 [(0, .agg #[.int .i64 7, .int .u64 0]), (1, .agg #[.int .i64 7, .int .u64 1]), (2, .agg #[.int .i64 10, .int .u64 0]), (3, .agg #[.int .i64 0, .int .u64 1]), (4, .agg #[.int .i64 2, .int .u64 0]), (5, .agg #[.int .i64 1, .int .u64 0])] (out := ([(7, 0), (7, 1), (10, 0), (0, 1), (2, 0), (1, 0)] : List (Int × Nat)).flatMap stC) rfl rfl rfl rfl rfl (by decide) rfl rfl rfl rfl (stc_clo _) rfl rfl ?_
   refine AWo.buildSlice tbok 63000 [(0, dst ([(4, 0), (4, 0)] : List (Int × Nat))), (1, dst ([(8, 0), (8, 0)] : List (Int × Nat))), (2, dst ([(7, v % ns.length), (9, 0)] : List (Int × Nat))), (3, dst ([(0, v), (1, 0), (0, v), (2, 0)] : List (Int × Nat))), (4, dst ([(6, 0), (6, 0)] : List (Int × Nat))), (5, dst ([(7, 0), (7, 1), (10, 0), (0, 1), (2, 0), (1, 0)] : List (Int × Nat)))] (out := (undoL ns.length v).map dst) rfl rfl (by decide) rfl rfl rfl (by decide) rfl rfl rfl rfl rfl ?_
   refine yP pL ?_
   refine yM ?_
   refine zN (zB ?_)
   refine AW.loopw (fun mm σ => ∃ i, (i ≤ 6) ∧ mm = 6 - i ∧ σ = ⟨(upd (upd (upd (upd emp 5 (.slice (some ⟨29000, 0, none⟩) ns.length 0)) 62 (.slice (some ⟨63000, 0, none⟩) 6 0)) 63 (vi .i64 6)) 64 (vi .i64 i)), (upd (upd (upd emp 0 ⟨ns.map (vi .u64), false, 1⟩) 29000 ⟨(((ns.map fp).map fe).flatten).map (vi .u64), true, 4⟩) 63000 ⟨(undoL ns.length v).map dst, true, 1⟩)⟩) (fm := []) (wk [0, 29000, 63000]) ⟨0, Nat.zero_le _, rfl, rfl⟩ ?_
   rintro mm σ ⟨i, hinv, rfl, rfl⟩
   refine zS ?_
   refine yP pLt ?_
   refine zN (zQ ?_)
   refine zA (fun hb2 => ?_) (fun hb2 => ?_)
   ·
    have hi : i < 6 := by simpa using hb2
    refine zK (zT (zQ (zB (zS ?_))))
    refine yP (PureOp.idx1 tbok (j := i) rfl rfl rfl rfl hi) ?_
    refine AWo.loadM tbok (f := dst) [] rfl rfl rfl hi rfl rfl ?_
    refine yA ?_
    refine zN ?_
    obtain ⟨Lq, hLq⟩ : ∃ l, (undoL ns.length v).getD i [] = l := ⟨_, rfl⟩
    obtain ⟨hq0, hq1, hq2, hq3⟩ := undo_all (XS := ns.map fp) (v := v) (n := ns.length) hv hXl hn2 hn60 _ (getD_mem (show i < (undoL ns.length v).length from hi) : (undoL ns.length v).getD i [] ∈ _)
    rw [hLq] at hq0 hq1 hq2 hq3 ⊢
    refine AW.expose 8 88000 ?_
    refine zS ?_
    refine yM ?_
    refine yM ?_
    refine yC (runK_ctr (L := Lq) (XS := (ns.map fp)) (YS := (ns.map fp)) (n := Lq.length) (x := ns.length) (m := ns.length) rfl hXl hq3 hXl hq1 hq0 (by omega) hq2) bd81 [(88000, 0), (29000, 0)] [72000] ?_ (hfit := (.flat rfl (flatS _) (by intro h; exact h) (.flat rfl (by exact flatM flat_vi) (by intro h; rfl) .nil)))
    refine yM ?_
    refine yP pX ?_
    refine yP pX ?_
    refine yP pX ?_
    refine yA ?_
    refine yA ?_
    refine yA ?_
    refine zN (zQ (zS ?_))
    refine yM ?_
    refine yP ((PureOp.neN (b := 0) rfl rfl).mono (v' := .bool false) (congrArg Value.bool (by rfl))) ?_
    refine yM ?_
    refine yM ?_
    refine yP ((PureOp.bin rfl rfl rfl).mono (v' := .bool false) rfl) ?_
    refine yP pE ?_
    refine yM ?_
    refine yM ?_
    refine yP pL ?_
    refine yM ?_
    refine yP pL ?_
    refine yP ((PureOp.neN rfl rfl).mono (v' := .bool false) (congrArg Value.bool (by (simp; done)))) ?_
    refine yP pE ?_
    refine zN (zF (zK (zT (zS ?_))))
    refine yM ?_
    refine yP pL ?_
    refine yM ?_
    refine zN (zB ?_)
    refine AW.loopw (fun mm σ => ∃ j, (j ≤ ns.length) ∧ mm = ns.length - j ∧ σ = ⟨(upd (upd (upd (upd (upd (upd (upd (upd emp 5 (.slice (some ⟨29000, 0, none⟩) ns.length 0)) 62 (.slice (some ⟨63000, 0, none⟩) 6 0)) 63 (vi .i64 6)) 64 (vi .i64 i)) 9 (.slice (some ⟨72000, 0, none⟩) ns.length 0)) 88 (.slice (some ⟨29000, 0, none⟩) ns.length 0)) 89 (vi .i64 ns.length)) 90 (vi .i64 j)), (upd (upd (upd (upd emp 0 ⟨ns.map (vi .u64), false, 1⟩) 29000 ⟨(((ns.map fp).map fe).flatten).map (vi .u64), true, 4⟩) 63000 ⟨(undoL ns.length v).map dst, true, 1⟩) 72000 ⟨(((ns.map fp).map fe).flatten).map (vi .u64), true, 4⟩)⟩) (fm := []) (wk [0, 29000, 63000, 72000]) ⟨0, Nat.zero_le _, rfl, rfl⟩ ?_
    rintro mm σ ⟨j, hinv, rfl, rfl⟩
    refine zS ?_
    refine yP pLt ?_
    refine zN (zQ ?_)
    refine zA (fun hb3 => ?_) (fun hb3 => ?_)
    ·
     have hj : j < ns.length := by simpa using hb3
     refine zK (zT (zQ (zB (zS ?_))))
     refine yM ?_
     refine yA ?_
     refine zN ?_
     refine AW.seqD mixed ?_
     refine yM ?_
     refine yM ?_
     refine yP (PureOp.idxN tbok (j := j) rfl rfl rfl rfl hj) ?_
     refine yLEi (xs := ns.map fp) (j := j) (hj := by rw [List.length_map]; exact hj) ?_
     refine yM ?_
     refine yM ?_
     refine yP (PureOp.idxN tbok (j := j) rfl rfl rfl rfl hj) ?_
     refine yLEi (xs := ns.map fp) (j := j) (hj := by rw [List.length_map]; exact hj) ?_
     refine AWo.callX (v := .bool true) (equalF_ctr) bd40 [] [] rfl (.cons rfl (.cons rfl .nil)) rfl (.pure (by rfl) (.pure (by rfl) .nil)) .nil rfl .nil frN (by decide) (.cons rfl rfl .nil) (congrArg Value.bool (decide_eq_true (rfl))) rfl rfl rfl ?_
     first | refine AWo.pure ((PureOp.not rfl).mono (v' := .bool false) (congrArg Value.bool (by rfl))) rfl rfl ?_
     refine zD (zF (zK (zL (zT (zR ?_)))))
     refine yP (pAdd (b := 1)) ?_
     refine yM ?_
     refine zN (zT ?_)
     exact ⟨ns.length - (j + 1), [], _, by omega, wk [0, 29000, 63000, 72000], j + 1, by omega, rfl, rfl⟩
    ·
     refine zX (zV (zV (zH (zL (zT (zR ?_))))))
     refine yP (pAdd (b := 1)) ?_
     refine yM ?_
     refine zN (zT ?_)
     exact ⟨6 - (i + 1), [], _, by omega, wk [0, 29000, 63000], i + 1, by omega, rfl, rfl⟩
   ·
    refine zX (zV (zV (zH (zT (zS ?_)))))
    refine yA ?_
    refine zN (zE ?_)
    exact rq [] [.tmp 4]
end Go.Proofs.Ytiikffiembcboaa
namespace Go.Proofs.Ytiikffiembcboaa
open Go
namespace Head
set_option maxRecDepth 100000 in
theorem words : ∃ l, Try.prog.initOrder = String.ofList l ∧ (behindMainWord (wordsSigns l)).head? = some "cut".toList := ⟨_, rfl, by kernel_rfl⟩
theorem head_of {P : Program} (h : ∃ l, P.initOrder = String.ofList l ∧ (behindMainWord (wordsSigns l)).head? = some "cut".toList) :
    ∃ rest, behindMainWord (wordsSigns P.initOrder.toList) = "cut".toList :: rest := by
  obtain ⟨l, h, hh⟩ := h
  rw [h, String.toList_ofList]
  cases hb : behindMainWord (wordsSigns l) with
  | nil => rw [hb] at hh; cases hh
  | cons c r => rw [hb] at hh; simp only [List.head?_cons, Option.some.injEq] at hh; exact ⟨r, by rw [hh]⟩
theorem cut_words : (liftWords.all fun s => !("cut".toList == s.toList)) = true := by decide +kernel
theorem strip_cut (rest : List (List Char)) : stripLifts liftWords ("cut".toList :: rest) = ([], "cut".toList :: rest) := by
  have key : ∀ o : List String, (o.all fun s => !("cut".toList == s.toList)) = true → stripLifts o ("cut".toList :: rest) = ([], "cut".toList :: rest) := by
    intro o
    induction o with
    | nil => intro _; rfl
    | cons s o ih =>
      intro h
      simp only [List.all_cons, Bool.and_eq_true, Bool.not_eq_true'] at h
      rw [stripLifts, if_neg (by rw [h.1]; exact Bool.false_ne_true)]
      exact ih h.2
  exact key liftWords cut_words
theorem mayEnter_of {P : Program} {rest : List (List Char)} (hr : behindMainWord (wordsSigns P.initOrder.toList) = "cut".toList :: rest) (e1 : P.laysLater = false) (e2 : P.bearsReflect = false) (e3 : P.doorFits [] = true) : P.mayEnter = true := by
  unfold Program.mayEnter
  rw [hr]
  simp only [strip_cut, e1, e2, e3]
  simp
theorem headLifts_of {P : Program} {rest : List (List Char)} (hr : behindMainWord (wordsSigns P.initOrder.toList) = "cut".toList :: rest) : P.headLifts = [] := by
  unfold Program.headLifts
  rw [hr, strip_cut]
  simp
theorem cut_ne : ("cut".toList == "carried".toList) = false ∧ ("cut".toList == "gc".toList) = false ∧ ("cut".toList == "spec".toList) = false := by decide +kernel
theorem liftsFinal_of {P : Program} {rest : List (List Char)} (hr : behindMainWord (wordsSigns P.initOrder.toList) = "cut".toList :: rest) : P.liftsFinal = false := by
  unfold Program.liftsFinal
  rw [hr, headLifts_of hr]
  simp
theorem make_of {P : Program} {rest : List (List Char)} (hr : behindMainWord (wordsSigns P.initOrder.toList) = "cut".toList :: rest) : P.make = some .cut := by
  unfold Program.make
  rw [hr]
  simp only [cut_ne.2.1, cut_ne.2.2, beq_self_eq_true]
  simp
theorem laysLater : Try.prog.laysLater = false := by kernel_rfl
theorem bearsReflect : Try.prog.bearsReflect = false := by kernel_rfl
theorem doorFits : Try.prog.doorFits [] = true := by kernel_rfl
theorem mayEnter : Try.prog.mayEnter = true := let ⟨_, hr⟩ := head_of words; mayEnter_of hr laysLater bearsReflect doorFits
theorem liftsFinal : Try.prog.liftsFinal = false := let ⟨_, hr⟩ := head_of words; liftsFinal_of hr
theorem make_cut : Try.prog.make = some .cut := let ⟨_, hr⟩ := head_of words; make_of hr
theorem band {a b : Bool} (ha : a = true) (hb : b = true) : (a && b) = true := by rw [ha, hb]; rfl
end Head
end Go.Proofs.Ytiikffiembcboaa
