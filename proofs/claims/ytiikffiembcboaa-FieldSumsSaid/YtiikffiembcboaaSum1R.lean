/- FieldSums: whatever the input, the statement's function answers true and leaves its arguments as they were. -/
import Derived.Test.YtiikffiembcboaaK3
import Derived.Test.YtiikffiembcboaaRows
import Derived.WalkKit
import Derived.ProofKit
import Derived.OpenShut
import Derived.ChangeOld
import Derived.Carry
import Derived.Laws.IdiomArrays
namespace Go.Proofs.Ytiikffiembcboaa
open Go Sim Go.ChangeShapes Go.WideShapes Go.ChangeAt Go.RowKit

set_option maxRecDepth 100000
namespace FieldSums
theorem own : ownKnob Try.prog.godebug = none := by kernel_rfl
theorem laidOut : laidOutB Try.prog = true := by kernel_rfl

theorem nat_of {n : Int} (h : 0 ≤ n) : ∃ k : Nat, n = k := ⟨n.toNat, by omega⟩

theorem u8_nat {zs : List Int} (h : ∀ z ∈ zs, (Lit.int .u8 z).wf = true) : (∀ z ∈ zs, 0 ≤ z) ∧ bd 256 (zs.map Int.toNat) := by
  refine ⟨fun z hz => (bounds_u8 (h z hz)).1, fun x hx => ?_⟩
  obtain ⟨z, hz, rfl⟩ := List.mem_map.1 hx
  have := bounds_u8 (h z hz)
  omega

theorem deep_nat {L : List (List Int)} (h : ∀ x ∈ L, ∀ z ∈ x, (Lit.int .u8 z).wf = true) : (L.map fun zs => deep zs.length 1 (zs.map (Value.int .u8))) = (L.map fun x => x.map Int.toNat).map db ∧ (∀ b ∈ L.map (fun x => x.map Int.toNat), bd 256 b) ∧ (L.map fun x => x.map Int.toNat).length = L.length := by
  refine ⟨?_, fun b hb => ?_, List.length_map ..⟩
  · rw [List.map_map]
    refine List.map_congr_left fun zs hz => ?_
    show _ = deep (zs.map Int.toNat).length 1 ((zs.map Int.toNat).map (vi .u8))
    rw [List.length_map, nat_map (u8_nat (h zs hz)).1]
  · obtain ⟨y, hy, rfl⟩ := List.mem_map.1 hb
    exact (u8_nat (h y hy)).2

theorem lifted (os : Os) (started : os.Started) (H : Type) (enc : TypeId × Value → H) :
    ReturnsInHanded {} Try.checked os 22 .any (Rows.fieldSumsSpec.pre6 enc Try.prog Try.f22 Rows.fieldSumsRow.domain false) (Rows.fieldSumsSpec.post enc Try.prog Try.f22 false true false false) := by
  refine returnsInHanded_of_change (C := Try.checked) own started (by kernel_rfl) Try.func22
    (ChangeSpec.witness6 (enc := enc) (C := Try.checked) false ⟨#[], #[.slice none 0 0, .int .u8 0], []⟩ 8 (by kernel_rfl) (by kernel_rfl) (by kernel_rfl) (by kernel_rfl)) ?_
  intro W base args ds gs before hval0 hW hcnd _
  have hval : ∀ (j : Nat) t v, Try.f22.params[j]? = some t → args[j]? = some v → Value.okWide Try.prog W .any base t v := hval0
  have hW' := hW
  obtain ⟨p, q, hA0, hV, rfl, hfz, hnd⟩ := hW
  have hA : DataW.TrodAll enc Try.prog W 0 (fun _ => true) true Try.f22.params.toList args.toList ds p := hA0
  rw [Try.params22] at hA hval
  obtain ⟨v0, vs0, d0, ds0, p0, q0, hargs, rfl, rfl, h0, r0⟩ := trodAll_cons hA
  obtain ⟨v1, vs1, d1, ds1, p1, q1, rfl, rfl, rfl, h1, r1⟩ := trodAll_cons r0
  obtain ⟨rfl, rfl, rfl⟩ := trodAll_nil r1
  obtain rfl : args = #[v0, v1] := by cases args; simp_all
  obtain ⟨rfl, rfl⟩ := trodVars_none hV
  have k0 := h0
  have lt0 : ∀ x ∈ p0, x.block < W.heap.size := by obtain ⟨m, hm⟩ := k0; exact DataW.trod_lt m _ _ _ hm
  obtain ⟨p0, z0, ims0, ok0, im0, sl0, wf0⟩ := open_slices Try.underlying66 Try.underlying45 Try.underlying5 (by kernel_rfl) (by kernel_rfl) (hval 0 66 v0 rfl rfl) h0
  obtain ⟨a1, rfl, rfl, rfl, w1⟩ := open_int Try.underlying5 (hval 1 5 v1 rfl rfl) h1
  clear hA0 hval0
  obtain ⟨m, rfl⟩ := nat_of (bounds_u8 w1).1
  have hz0 := deep_nat wf0
  rw [hz0.1] at ok0
  rw [← hz0.2.2] at sl0
  refine (GC.lawD (fsums_ctr hz0.2.1 (by have := bounds_u8 w1; omega)) ims0 [p0] rfl (fun k b hb => ?_) (fun d hd => im0 d hd ims0) (.slice (k := 0) rfl ok0.lim sl0 (.pure rfl .nil))).mono fun e W' ⟨he, bel⟩ => ?_
  · cases k with
    | zero => simp only [List.getElem?_cons_zero, Option.some.injEq] at hb; subst hb; exact ⟨rfl, p0, rfl, ok0⟩
    | succ k => simp at hb
  subst he
  exact ⟨_, rfl, _, _, _, [], _, [], hW', trodAll_mk1 (shut_bool Try.underlying4 _), (trodAll_cons_mk (Below.trod laidOut (by kernel_rfl) (of_decide_eq_true (by kernel_rfl)) k0 bel lt0) (trodAll_cons_mk (shut_int Try.underlying5 w1) trodAll_mk0)), rfl, bel.frame _, fun h => by cases h⟩

theorem closed : joinedFacts Try.pinned.checked.prog 22 Try.f22 Rows.fieldSumsSpec Rows.fieldSumsRow = true := by
  unfold joinedFacts
  refine Head.band (Head.band (Head.band (Head.band (Head.band (Head.band (Head.band (Head.band (Head.band (Head.band (Head.band (Head.band (Head.band (Head.band (Head.band (Head.band (Head.band (Head.band (Head.band (Head.band (Head.band (Head.band (Head.band (Head.band (Head.band (Head.band (Head.band (Head.band (Head.band (Head.band (Head.band ?_ ?_) ?_) ?_) ?_) ?_) ?_) ?_) ?_) ?_) ?_) ?_) ?_) ?_) ?_) ?_) ?_) ?_) ?_) ?_) ?_) ?_) ?_) ?_) ?_) ?_) ?_) ?_) ?_) ?_) ?_) ?_
  · kernel_rfl
  · kernel_rfl
  · kernel_rfl
  · kernel_rfl
  · kernel_rfl
  · kernel_rfl
  · kernel_rfl
  · kernel_rfl
  · kernel_rfl
  · kernel_rfl
  · kernel_rfl
  · kernel_rfl
  · kernel_rfl
  · kernel_rfl
  · kernel_rfl
  · kernel_rfl
  · kernel_rfl
  · kernel_rfl
  · kernel_rfl
  · kernel_rfl
  · kernel_rfl
  · kernel_rfl
  · kernel_rfl
  · kernel_rfl
  · kernel_rfl
  · exact Head.mayEnter
  · show (false == Try.prog.liftsFinal) = true
    rw [Head.liftsFinal]; rfl
  · show (Try.prog.make == some .cut) = true
    rw [Head.make_cut]; rfl
  · kernel_rfl
  · kernel_rfl
  · kernel_rfl
  · kernel_rfl

theorem over : Rows.fieldSumsRow.holds Try.pinned (OpenSpec.ofChange Rows.fieldSumsSpec) :=
  OpenClaim.holds_of_wide 22 Try.f22 rfl rfl rfl rfl rfl rfl rfl ⟨rfl, rfl, rfl, rfl, rfl⟩ rfl rfl rfl rfl rfl (by kernel_rfl) Try.func22 closed
    (of_decide_eq_true (by kernel_rfl)) (by unfold Func.isWrapper; first | (rw [if_pos (by decide +kernel)]; kernel_rfl) | (rw [if_neg (by decide +kernel)]; exact ⟨rfl, rfl⟩))
    (fun os started H enc _ => lifted os started H enc)
end FieldSums

theorem fieldSums_holds : Rows.FieldSumsSaid := FieldSums.over
#print axioms fieldSums_holds
end Go.Proofs.Ytiikffiembcboaa
