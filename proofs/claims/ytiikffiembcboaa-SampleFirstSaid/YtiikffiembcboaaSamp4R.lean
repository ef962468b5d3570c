/- SampleFirst: whatever the input, the statement's function answers true and leaves its arguments as they were. -/
import Derived.Test.YtiikffiembcboaaRows
import Derived.Test.YtiikffiembcboaaSamp4
import Derived.Test.YtiikffiembcboaaHead
import Derived.Test.YtiikffiembcboaaSim26
import Derived.WalkKit
import Derived.ProofKit
import Derived.OpenShut
import Derived.ChangeOld
import Derived.Carry
import Derived.Laws.IdiomArrays
namespace Go.Proofs.Ytiikffiembcboaa
open Go Sim Go.ChangeShapes Go.WideShapes Go.ChangeAt Go.RowKit

set_option maxRecDepth 100000
namespace SampleFirst
theorem own : ownKnob Try.prog.godebug = none := by kernel_rfl
theorem laidOut : laidOutB Try.prog = true := by kernel_rfl

theorem nat_of {n : Int} (h : 0 ≤ n) : ∃ k : Nat, n = k := ⟨n.toNat, by omega⟩

theorem u8_nat {zs : List Int} (h : ∀ z ∈ zs, (Lit.int .u8 z).wf = true) : (∀ z ∈ zs, 0 ≤ z) ∧ bd 256 (zs.map Int.toNat) := by
  refine ⟨fun z hz => (bounds_u8 (h z hz)).1, fun x hx => ?_⟩
  obtain ⟨z, hz, rfl⟩ := List.mem_map.1 hx
  have := bounds_u8 (h z hz)
  omega

def natL (L : List (List Int)) : List (List Nat) := L.map fun x => x.map Int.toNat

theorem blks_nat {L : List (List Int)} (hl : ∀ x ∈ L, x.length = 32) (h : ∀ x ∈ L, ∀ z ∈ x, (Lit.int .u8 z).wf = true) : L.flatten.map (Value.int .u8) = (natL L).flatten.map (vi .u8) ∧ okL (natL L) ∧ (natL L).length = L.length := by
  refine ⟨?_, fun x hx => ?_, by simp [natL]⟩
  · rw [natL, ← List.map_flatten]
    refine nat_map fun z hz => ?_
    obtain ⟨x, hx, hz⟩ := List.mem_flatten.1 hz
    exact (bounds_u8 (h x hx z hz)).1
  · obtain ⟨y, hy, rfl⟩ := List.mem_map.1 hx
    exact ⟨by simpa using hl y hy, (u8_nat (h y hy)).2⟩

theorem lifted (os : Os) (started : os.Started) (H : Type) (enc : TypeId × Value → H) :
    ReturnsInHanded {} Try.checked os 5 .any (Rows.sampleFirstSpec.pre6 enc Try.prog Try.f5 Rows.sampleFirstRow.domain false) (Rows.sampleFirstSpec.post enc Try.prog Try.f5 false true false false) := by
  refine returnsInHanded_of_change (C := Try.checked) own started (by kernel_rfl) Try.func5
    (ChangeSpec.witness6 (enc := enc) (C := Try.checked) false ⟨#[], #[.agg (List.replicate 32 (.int .u8 0)).toArray, .int .u8 0, .agg (List.replicate 32 (.int .u8 0)).toArray], []⟩ 8 (by kernel_rfl) (by kernel_rfl) (by kernel_rfl) (by kernel_rfl)) ?_
  intro W base args ds gs before hval0 hW hcnd _
  have hval : ∀ (j : Nat) t v, Try.f5.params[j]? = some t → args[j]? = some v → Value.okWide Try.prog W .any base t v := hval0
  have hW' := hW
  obtain ⟨p, q, hA0, hV, rfl, hfz, hnd⟩ := hW
  have hA : DataW.TrodAll enc Try.prog W 0 (fun _ => true) true Try.f5.params.toList args.toList ds p := hA0
  rw [Try.params5] at hA hval
  obtain ⟨v0, vs0, d0, ds0, p0, q0, hargs, rfl, rfl, h0, r0⟩ := trodAll_cons hA
  obtain ⟨v1, vs1, d1, ds1, p1, q1, rfl, rfl, rfl, h1, r1⟩ := trodAll_cons r0
  obtain ⟨v2, vs2, d2, ds2, p2, q2, rfl, rfl, rfl, h2, r2⟩ := trodAll_cons r1
  obtain ⟨rfl, rfl, rfl⟩ := trodAll_nil r2
  obtain rfl : args = #[v0, v1, v2] := by cases args; simp_all
  obtain ⟨rfl, rfl⟩ := trodVars_none hV
  have k0 := h0
  have lt0 : ∀ x ∈ p0, x.block < W.heap.size := by obtain ⟨m, hm⟩ := k0; exact DataW.trod_lt m _ _ _ hm
  obtain ⟨z0, rfl, zl0, wf0⟩ := open_arr Try.underlying41 Try.underlying5 (by kernel_rfl) (by kernel_rfl) (hval 0 41 v0 rfl rfl) h0
  have hz0 := u8_nat wf0
  obtain ⟨a1, rfl, rfl, rfl, w1⟩ := open_int Try.underlying5 (hval 1 5 v1 rfl rfl) h1
  have k2 := h2
  have lt2 : ∀ x ∈ p2, x.block < W.heap.size := by obtain ⟨m, hm⟩ := k2; exact DataW.trod_lt m _ _ _ hm
  obtain ⟨z2, rfl, zl2, wf2⟩ := open_arr Try.underlying41 Try.underlying5 (by kernel_rfl) (by kernel_rfl) (hval 2 41 v2 rfl rfl) h2
  have hz2 := u8_nat wf2
  clear hA0 hval0
  obtain ⟨m, rfl⟩ := nat_of (bounds_u8 w1).1
  have key := GC.law (W := W) (first_ctr (b := z0.map Int.toNat) (h := z2.map Int.toNat) (m := m) hz0.2 (by simpa using zl0) hz2.2 (by simpa using zl2) (by have := bounds_u8 w1; omega)) [] rfl (fun k b hb => by simp at hb) (.pure (pure_aggM flat_vi) (.pure rfl (.pure (pure_aggM flat_vi) .nil)))
  rw [← nat_map hz0.1, ← nat_map hz2.1] at key
  refine key.mono fun e W' ⟨he, bel⟩ => ?_
  subst he
  exact ⟨_, rfl, _, _, _, [], _, [], hW', trodAll_mk1 (shut_bool Try.underlying4 _), (trodAll_cons_mk (Below.trod laidOut (by kernel_rfl) (of_decide_eq_true (by kernel_rfl)) k0 bel lt0) (trodAll_cons_mk (shut_int Try.underlying5 w1) (trodAll_cons_mk (Below.trod laidOut (by kernel_rfl) (of_decide_eq_true (by kernel_rfl)) k2 bel lt2) trodAll_mk0))), rfl, bel.frame _, fun h => by cases h⟩

theorem closed : joinedFacts Try.pinned.checked.prog 5 Try.f5 Rows.sampleFirstSpec Rows.sampleFirstRow = true := by
  unfold joinedFacts
  refine Head.band (Head.band (Head.band (Head.band (Head.band (Head.band (Head.band (Head.band (Head.band (Head.band (Head.band (Head.band (Head.band (Head.band (Head.band (Head.band (Head.band (Head.band (Head.band (Head.band (Head.band (Head.band (Head.band (Head.band (Head.band (Head.band (Head.band (Head.band (Head.band (Head.band (Head.band ?_ ?_) ?_) ?_) ?_) ?_) ?_) ?_) ?_) ?_) ?_) ?_) ?_) ?_) ?_) ?_) ?_) ?_) ?_) ?_) ?_) ?_) ?_) ?_) ?_) ?_) ?_) ?_) ?_) ?_) ?_) ?_
  · kernel_rfl
  · kernel_rfl
  · kernel_rfl
  · kernel_rfl
  · kernel_rfl
  · kernel_rfl
  · kernel_rfl
  · kernel_rfl
  · kernel_rfl
  · kernel_rfl
  · kernel_rfl
  · kernel_rfl
  · kernel_rfl
  · kernel_rfl
  · kernel_rfl
  · kernel_rfl
  · kernel_rfl
  · kernel_rfl
  · kernel_rfl
  · kernel_rfl
  · kernel_rfl
  · kernel_rfl
  · kernel_rfl
  · kernel_rfl
  · kernel_rfl
  · exact Head.mayEnter
  · show (false == Try.prog.liftsFinal) = true
    rw [Head.liftsFinal]; rfl
  · show (Try.prog.make == some .cut) = true
    rw [Head.make_cut]; rfl
  · kernel_rfl
  · kernel_rfl
  · kernel_rfl
  · kernel_rfl

theorem over : Rows.sampleFirstRow.holds Try.pinned (OpenSpec.ofChange Rows.sampleFirstSpec) :=
  OpenClaim.holds_of_wide 5 Try.f5 rfl rfl rfl rfl rfl rfl rfl ⟨rfl, rfl, rfl, rfl, rfl⟩ rfl rfl rfl rfl rfl (by kernel_rfl) Try.func5 closed
    (of_decide_eq_true (by kernel_rfl)) (by unfold Func.isWrapper; first | (rw [if_pos (by decide +kernel)]; kernel_rfl) | (rw [if_neg (by decide +kernel)]; exact ⟨rfl, rfl⟩))
    (fun os started H enc _ => lifted os started H enc)
end SampleFirst

theorem sampleFirst_holds : Rows.SampleFirstSaid := SampleFirst.over
#print axioms sampleFirst_holds
end Go.Proofs.Ytiikffiembcboaa
