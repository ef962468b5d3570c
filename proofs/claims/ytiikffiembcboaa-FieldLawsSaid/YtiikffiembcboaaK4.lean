/- What the proof stands on, part 4: the walk of each function, and plain laws of numbers. -/
import Derived.Test.YtiikffiembcboaaK3
import Derived.Test.YtiikffiembcboaaRows
import Derived.ProofKit
namespace Go.Proofs.Ytiikffiembcboaa
open Go Sim
theorem fromwideY_ctr {b : List Nat} {x : Fp} (hb : bd 256 b) (hlb : b.length ≤ 1000) (hx : x = fp (num 256 b)) : GC Try.prog 85 [.slice (some ⟨0, 0, none⟩) b.length 0] [⟨b.map (vi .u8), false, 1⟩] [.agg ((fe x).map (vi .u64)).toArray] [⟨b.map (vi .u8), false, 1⟩] := by
 subst hx; exact fromwideF_ctr hb hlb
theorem fromu1_ctr : GC Try.prog 82 [vi .u64 (1)] [] [.agg ((fe 1).map (vi .u64)).toArray] [] := fromuF_ctr (v := 1) (by decide)
set_option maxRecDepth 10000 in
theorem flaws_ctr {a b c : List Nat} (ha : bd 256 a) (hb : bd 256 b) (hc : bd 256 c) : GC Try.prog 23 [.slice (some ⟨0, 0, none⟩) a.length 0, .slice (some ⟨1, 0, none⟩) b.length 0, .slice (some ⟨2, 0, none⟩) c.length 0] [⟨a.map (vi .u8), false, 1⟩, ⟨b.map (vi .u8), false, 1⟩, ⟨c.map (vi .u8), false, 1⟩] [.bool true] [⟨a.map (vi .u8), false, 1⟩, ⟨b.map (vi .u8), false, 1⟩, ⟨c.map (vi .u8), false, 1⟩] := by
 refine gi Try.func23 ?_
 refine zS ?_
 refine yA ?_
 refine zN (zQ (zS ?_))
 refine yC (speaks2_ctr) bd84 [] [] ?_
 first | refine AWo.pure ((PureOp.not rfl).mono (v' := .bool false) (congrArg Value.bool (by rfl))) rfl rfl ?_
 refine yM ?_
 refine yM ?_
 refine yP pL ?_
 refine yB (pGt (b := 40)) (fun hb0 => ?_) (fun hb0 => ?_)
 ·
  refine yP pE ?_
  refine yM ?_
  refine yK ?_
  refine yK ?_
  refine yK ?_
  refine yP pT ?_
  refine yM ?_
  refine yK ?_
  refine yK ?_
  refine yK ?_
  refine yP pT ?_
  refine zN (zC (zS ?_))
  refine yC (speaks2_ctr) bd84 [] [] ?_
  refine yA ?_
  refine zN (zE (zU ?_))
  exact rq [] [.tmp 6]
 ·
  have hla : a.length ≤ 40 := by simpa using hb0
  refine yP pE ?_
  refine yM ?_
  refine yM ?_
  refine yP pL ?_
  refine yB (pGt (b := 40)) (fun hb1 => ?_) (fun hb1 => ?_)
  ·
   refine yP pE ?_
   refine yM ?_
   refine yK ?_
   refine yK ?_
   refine yK ?_
   refine yP pT ?_
   refine zN (zC (zS ?_))
   refine yC (speaks2_ctr) bd84 [] [] ?_
   refine yA ?_
   refine zN (zE (zU ?_))
   exact rq [] [.tmp 6]
  ·
   have hlb : b.length ≤ 40 := by simpa using hb1
   refine yP pE ?_
   refine yM ?_
   refine yM ?_
   refine yP pL ?_
   refine yB (pGt (b := 40)) (fun hb2 => ?_) (fun hb2 => ?_)
   ·
    refine yP pE ?_
    refine zN (zC (zS ?_))
    refine yC (speaks2_ctr) bd84 [] [] ?_
    refine yA ?_
    refine zN (zE (zU ?_))
    exact rq [] [.tmp 6]
   ·
    have hlc : c.length ≤ 40 := by simpa using hb2
    obtain ⟨x, ex⟩ : ∃ x, x = fp (num 256 a) := ⟨_, rfl⟩
    obtain ⟨y, ey⟩ : ∃ y, y = fp (num 256 b) := ⟨_, rfl⟩
    obtain ⟨z, ez⟩ : ∃ z, z = fp (num 256 c) := ⟨_, rfl⟩
    refine yP pE ?_
    refine zN (zF (zK (zT (zS ?_))))
    refine yM ?_
    refine yC (fromwideY_ctr (x := x) ha (by omega) ex) bd85 [(0, 0)] [] ?_
    refine yM ?_
    refine yC (fromwideY_ctr (x := y) hb (by omega) ey) bd85 [(1, 0)] [] ?_
    refine yM ?_
    refine yC (fromwideY_ctr (x := z) hc (by omega) ez) bd85 [(2, 0)] [] ?_
    refine yN 8000 1 _ ?_
    refine yN 9000 1 _ ?_
    refine yN 10000 1 _ ?_
    refine ySA ?_
    refine ySA ?_
    refine ySA ?_
    refine zN (zS ?_)
    refine yC (fromu1_ctr) bd82 [] [] ?_
    refine yN 11000 1 _ ?_
    refine ySA ?_
    refine zN (zQ ?_)
    refine AW.seqD mixed ?_
    refine yLE ?_
    refine yLE ?_
    refine yC (addF_ctr) bd92 [] [] ?_
    refine yLE ?_
    refine yLE ?_
    refine yC (addF_ctr) bd92 [] [] ?_
    refine AWo.callX (v := .bool true) (equalF_ctr) bd40 [] [] rfl (.cons rfl (.cons rfl .nil)) rfl (.pure (by rfl) (.pure (by rfl) .nil)) .nil rfl .nil frN (by decide) (.cons rfl rfl .nil) (congrArg Value.bool (decide_eq_true (Rg.add_comm x y))) rfl rfl rfl ?_
    refine yP (PureOp.not rfl) ?_
    refine yM ?_
    refine yLE ?_
    refine yLE ?_
    refine yC (mulF_ctr) bd91 [] [] ?_
    refine yLE ?_
    refine yLE ?_
    refine yC (mulF_ctr) bd91 [] [] ?_
    refine AWo.callX (v := .bool true) (equalF_ctr) bd40 [] [] rfl (.cons rfl (.cons rfl .nil)) rfl (.pure (by rfl) (.pure (by rfl) .nil)) .nil rfl .nil frN (by decide) (.cons rfl rfl .nil) (congrArg Value.bool (decide_eq_true (Rg.mul_comm x y))) rfl rfl rfl ?_
    refine yP (PureOp.not rfl) ?_
    refine yP pE ?_
    refine yM ?_
    refine yLE ?_
    refine yLE ?_
    refine yLE ?_
    refine yC (mulF_ctr) bd91 [] [] ?_
    refine yC (mulF_ctr) bd91 [] [] ?_
    refine yLE ?_
    refine yLE ?_
    refine yC (mulF_ctr) bd91 [] [] ?_
    refine yLE ?_
    refine yC (mulF_ctr) bd91 [] [] ?_
    refine AWo.callX (v := .bool true) (equalF_ctr) bd40 [] [] rfl (.cons rfl (.cons rfl .nil)) rfl (.pure (by rfl) (.pure (by rfl) .nil)) .nil rfl .nil frN (by decide) (.cons rfl rfl .nil) (congrArg Value.bool (decide_eq_true (Rg.mul_assoc x y z))) rfl rfl rfl ?_
    refine yP (PureOp.not rfl) ?_
    refine yP pE ?_
    refine yM ?_
    refine yLE ?_
    refine yLE ?_
    refine yLE ?_
    refine yC (addF_ctr) bd92 [] [] ?_
    refine yC (mulF_ctr) bd91 [] [] ?_
    refine yLE ?_
    refine yLE ?_
    refine yC (mulF_ctr) bd91 [] [] ?_
    refine yLE ?_
    refine yLE ?_
    refine yC (mulF_ctr) bd91 [] [] ?_
    refine yC (addF_ctr) bd92 [] [] ?_
    refine AWo.callX (v := .bool true) (equalF_ctr) bd40 [] [] rfl (.cons rfl (.cons rfl .nil)) rfl (.pure (by rfl) (.pure (by rfl) .nil)) .nil rfl .nil frN (by decide) (.cons rfl rfl .nil) (congrArg Value.bool (decide_eq_true (Rg.mul_add x y z))) rfl rfl rfl ?_
    refine yP (PureOp.not rfl) ?_
    refine yP pE ?_
    refine zD (zF (zK (zT (zQ ?_))))
    refine AW.seqD mixed ?_
    refine yLE ?_
    refine yLE ?_
    refine yC (subF_ctr) bd94 [] [] ?_
    refine yLE ?_
    refine yC (addF_ctr) bd92 [] [] ?_
    refine yLE ?_
    refine AWo.callX (v := .bool true) (equalF_ctr) bd40 [] [] rfl (.cons rfl (.cons rfl .nil)) rfl (.pure (by rfl) (.pure (by rfl) .nil)) .nil rfl .nil frN (by decide) (.cons rfl rfl .nil) (congrArg Value.bool (decide_eq_true (Rg.sub_add x y))) rfl rfl rfl ?_
    refine yP (PureOp.not rfl) ?_
    refine yM ?_
    refine yLE ?_
    refine yLE ?_
    refine yC (negF_ctr) bd95 [] [] ?_
    refine yC (addF_ctr) bd92 [] [] ?_
    refine AWo.callX (v := .bool true) (iszeroF_ctr) bd39 [] [] rfl (.cons rfl .nil) rfl (.pure (by rfl) .nil) .nil rfl .nil frN (by decide) (.cons rfl rfl .nil) (congrArg Value.bool (decide_eq_true (Rg.add_neg x))) rfl rfl rfl ?_
    refine yP (PureOp.not rfl) ?_
    refine yP pE ?_
    refine yM ?_
    refine yLE ?_
    refine yLE ?_
    refine yC (mulF_ctr) bd91 [] [] ?_
    refine yLE ?_
    refine AWo.callX (v := .bool true) (equalF_ctr) bd40 [] [] rfl (.cons rfl (.cons rfl .nil)) rfl (.pure (by rfl) (.pure (by rfl) .nil)) .nil rfl .nil frN (by decide) (.cons rfl rfl .nil) (congrArg Value.bool (decide_eq_true (Rg.mul_one x))) rfl rfl rfl ?_
    refine yP (PureOp.not rfl) ?_
    refine yP pE ?_
    refine yM ?_
    refine yLE ?_
    refine yC (iszeroF_ctr) bd39 [] [] ?_
    refine yLE ?_
    refine yLE ?_
    refine yLE ?_
    refine yC (subF_ctr) bd94 [] [] ?_
    refine yC (equalF_ctr) bd40 [] [] ?_
    first | refine AWo.pure ((PureOp.neqBool Try.underlying4 rfl rfl).mono (v' := .bool false) (congrArg Value.bool (by rw [Rg.sub_self]; simp))) rfl rfl ?_
    refine yP pE ?_
    refine zD (zF (zK (zT (zQ (zS ?_)))))
    refine yLE ?_
    refine yC (iszeroF_ctr) bd39 [] [] ?_
    refine zN ?_
    refine zA (fun hb3 => ?_) (fun hb3 => ?_)
    ·
     have hx0 : x = 0 := by simpa using hb3
     subst hx0
     refine zS ?_
     refine yLE ?_
     refine yC (invF_ctr) bd89 [] [] ?_
     refine AWo.callX (v := .bool true) (iszeroF_ctr) bd39 [] [] rfl (.cons rfl .nil) rfl (.pure (by rfl) .nil) .nil rfl .nil frN (by decide) (.cons rfl rfl .nil) (congrArg Value.bool (decide_eq_true (finv_zero))) rfl rfl rfl ?_
     refine yA ?_
     refine zN (zE (zU ?_))
     exact rq [] [.tmp 6]
    ·
     have hx0 : x ≠ 0 := by simpa using hb3
     refine zK (zT ?_)
     refine AW.seqD mixed ?_
     refine yLE ?_
     refine yLE ?_
     refine yC (invF_ctr) bd89 [] [] ?_
     refine yC (mulF_ctr) bd91 [] [] ?_
     refine yLE ?_
     refine AWo.callX (v := .bool true) (equalF_ctr) bd40 [] [] rfl (.cons rfl (.cons rfl .nil)) rfl (.pure (by rfl) (.pure (by rfl) .nil)) .nil rfl .nil frN (by decide) (.cons rfl rfl .nil) (congrArg Value.bool (decide_eq_true (mul_finv hx0))) rfl rfl rfl ?_
     refine yM ?_
     refine yLE ?_
     refine yLE ?_
     refine yC (mulF_ctr) bd91 [] [] ?_
     refine yLE ?_
     refine yC (invF_ctr) bd89 [] [] ?_
     refine yC (mulF_ctr) bd91 [] [] ?_
     refine yLE ?_
     refine AWo.callX (v := .bool true) (equalF_ctr) bd40 [] [] rfl (.cons rfl (.cons rfl .nil)) rfl (.pure (by rfl) (.pure (by rfl) .nil)) .nil rfl .nil frN (by decide) (.cons rfl rfl .nil) (congrArg Value.bool (decide_eq_true (Rg.inv_one (mul_finv hx0) y))) rfl rfl rfl ?_
     refine yP pT ?_
     refine yM ?_
     refine yLE ?_
     refine yC (invF_ctr) bd89 [] [] ?_
     refine yC (invF_ctr) bd89 [] [] ?_
     refine yLE ?_
     refine AWo.callX (v := .bool true) (equalF_ctr) bd40 [] [] rfl (.cons rfl (.cons rfl .nil)) rfl (.pure (by rfl) (.pure (by rfl) .nil)) .nil rfl .nil frN (by decide) (.cons rfl rfl .nil) (congrArg Value.bool (decide_eq_true (finv_finv x))) rfl rfl rfl ?_
     refine yP pT ?_
     refine yA ?_
     refine zD (zE ?_)
     exact rq [] [.tmp 6]
end Go.Proofs.Ytiikffiembcboaa
namespace Go.Proofs.Ytiikffiembcboaa
open Go
namespace Head
set_option maxRecDepth 100000 in
theorem words : ∃ l, Try.prog.initOrder = String.ofList l ∧ (behindMainWord (wordsSigns l)).head? = some "cut".toList := ⟨_, rfl, by kernel_rfl⟩
theorem head_of {P : Program} (h : ∃ l, P.initOrder = String.ofList l ∧ (behindMainWord (wordsSigns l)).head? = some "cut".toList) :
    ∃ rest, behindMainWord (wordsSigns P.initOrder.toList) = "cut".toList :: rest := by
  obtain ⟨l, h, hh⟩ := h
  rw [h, String.toList_ofList]
  cases hb : behindMainWord (wordsSigns l) with
  | nil => rw [hb] at hh; cases hh
  | cons c r => rw [hb] at hh; simp only [List.head?_cons, Option.some.injEq] at hh; exact ⟨r, by rw [hh]⟩
theorem cut_words : (liftWords.all fun s => !("cut".toList == s.toList)) = true := by decide +kernel
theorem strip_cut (rest : List (List Char)) : stripLifts liftWords ("cut".toList :: rest) = ([], "cut".toList :: rest) := by
  have key : ∀ o : List String, (o.all fun s => !("cut".toList == s.toList)) = true → stripLifts o ("cut".toList :: rest) = ([], "cut".toList :: rest) := by
    intro o
    induction o with
    | nil => intro _; rfl
    | cons s o ih =>
      intro h
      simp only [List.all_cons, Bool.and_eq_true, Bool.not_eq_true'] at h
      rw [stripLifts, if_neg (by rw [h.1]; exact Bool.false_ne_true)]
      exact ih h.2
  exact key liftWords cut_words
theorem mayEnter_of {P : Program} {rest : List (List Char)} (hr : behindMainWord (wordsSigns P.initOrder.toList) = "cut".toList :: rest) (e1 : P.laysLater = false) (e2 : P.bearsReflect = false) (e3 : P.doorFits [] = true) : P.mayEnter = true := by
  unfold Program.mayEnter
  rw [hr]
  simp only [strip_cut, e1, e2, e3]
  simp
theorem headLifts_of {P : Program} {rest : List (List Char)} (hr : behindMainWord (wordsSigns P.initOrder.toList) = "cut".toList :: rest) : P.headLifts = [] := by
  unfold Program.headLifts
  rw [hr, strip_cut]
  simp
theorem cut_ne : ("cut".toList == "carried".toList) = false ∧ ("cut".toList == "gc".toList) = false ∧ ("cut".toList == "spec".toList) = false := by decide +kernel
theorem liftsFinal_of {P : Program} {rest : List (List Char)} (hr : behindMainWord (wordsSigns P.initOrder.toList) = "cut".toList :: rest) : P.liftsFinal = false := by
  unfold Program.liftsFinal
  rw [hr, headLifts_of hr]
  simp
theorem make_of {P : Program} {rest : List (List Char)} (hr : behindMainWord (wordsSigns P.initOrder.toList) = "cut".toList :: rest) : P.make = some .cut := by
  unfold Program.make
  rw [hr]
  simp only [cut_ne.2.1, cut_ne.2.2, beq_self_eq_true]
  simp
theorem laysLater : Try.prog.laysLater = false := by kernel_rfl
theorem bearsReflect : Try.prog.bearsReflect = false := by kernel_rfl
theorem doorFits : Try.prog.doorFits [] = true := by kernel_rfl
theorem mayEnter : Try.prog.mayEnter = true := let ⟨_, hr⟩ := head_of words; mayEnter_of hr laysLater bearsReflect doorFits
theorem liftsFinal : Try.prog.liftsFinal = false := let ⟨_, hr⟩ := head_of words; liftsFinal_of hr
theorem make_cut : Try.prog.make = some .cut := let ⟨_, hr⟩ := head_of words; make_of hr
theorem band {a b : Bool} (ha : a = true) (hb : b = true) : (a && b) = true := by rw [ha, hb]; rfl
end Head
end Go.Proofs.Ytiikffiembcboaa
