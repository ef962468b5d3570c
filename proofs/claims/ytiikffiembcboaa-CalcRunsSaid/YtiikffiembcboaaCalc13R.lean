/- CalcRuns: whatever the input, the statement's function answers true and leaves its arguments as they were. -/
import Derived.Test.YtiikffiembcboaaK6
import Derived.Test.YtiikffiembcboaaRows
import Derived.WalkKit
import Derived.ProofKit
import Derived.OpenShut
import Derived.ChangeOld
import Derived.Carry
import Derived.Laws.IdiomArrays
namespace Go.Proofs.Ytiikffiembcboaa
open Go Sim Go.ChangeShapes Go.WideShapes Go.ChangeAt Go.RowKit

set_option maxRecDepth 100000
namespace CalcRuns
theorem own : ownKnob Try.prog.godebug = none := by kernel_rfl
theorem laidOut : laidOutB Try.prog = true := by kernel_rfl

theorem nat_of {n : Int} (h : 0 ≤ n) : ∃ k : Nat, n = k := ⟨n.toNat, by omega⟩

theorem u64_nat {zs : List Int} (h : ∀ z ∈ zs, (Lit.int .u64 z).wf = true) : (∀ z ∈ zs, 0 ≤ z) ∧ bd 18446744073709551616 (zs.map Int.toNat) := by
  refine ⟨fun z hz => (bounds_u64 (h z hz)).1, fun x hx => ?_⟩
  obtain ⟨z, hz, rfl⟩ := List.mem_map.1 hx
  have := bounds_u64 (h z hz)
  omega

theorem steps_nat {L : List (Int × Int)} (h : ∀ x ∈ L, (Lit.int .i64 x.1).wf = true ∧ (Lit.int .u64 x.2).wf = true) :
    (L.flatMap fun y => [Value.int .i64 y.1, .int .u64 y.2]) = (L.map fun y => (y.1, y.2.toNat)).flatMap stC ∧ (∀ s ∈ L.map (fun y => (y.1, y.2.toNat)), s.2 < 18446744073709551616) ∧ (L.map fun y => (y.1, y.2.toNat)).length = L.length := by
  refine ⟨?_, fun s hs => ?_, List.length_map ..⟩
  · rw [List.flatMap_map]
    induction L with
    | nil => rfl
    | cons x L ih =>
      rw [List.flatMap_cons, List.flatMap_cons, ih fun y hy => h y (List.mem_cons_of_mem _ hy)]
      have := bounds_u64 (h x (List.mem_cons_self ..)).2
      congr 1
      show [Value.int .i64 x.1, Value.int .u64 x.2] = [Value.int .i64 x.1, Value.int .u64 (x.2.toNat : Nat)]
      rw [Int.toNat_of_nonneg this.1]
  · obtain ⟨y, hy, rfl⟩ := List.mem_map.1 hs
    have := bounds_u64 (h y hy).2
    show y.2.toNat < 18446744073709551616
    omega

theorem lifted (os : Os) (started : os.Started) (H : Type) (enc : TypeId × Value → H) :
    ReturnsInHanded {} Try.checked os 20 .any (Rows.calcRunsSpec.pre6 enc Try.prog Try.f20 Rows.calcRunsRow.domain false) (Rows.calcRunsSpec.post enc Try.prog Try.f20 false true false false) := by
  refine returnsInHanded_of_change (C := Try.checked) own started (by kernel_rfl) Try.func20
    (ChangeSpec.witness6 (enc := enc) (C := Try.checked) false ⟨#[], #[.slice none 0 0, .slice none 0 0], []⟩ 8 (by kernel_rfl) (by kernel_rfl) (by kernel_rfl) (by kernel_rfl)) ?_
  intro W base args ds gs before hval0 hW hcnd _
  have hval : ∀ (j : Nat) t v, Try.f20.params[j]? = some t → args[j]? = some v → Value.okWide Try.prog W .any base t v := hval0
  have hW' := hW
  obtain ⟨p, q, hA0, hV, rfl, hfz, hnd⟩ := hW
  have hA : DataW.TrodAll enc Try.prog W 0 (fun _ => true) true Try.f20.params.toList args.toList ds p := hA0
  rw [Try.params20] at hA hval
  obtain ⟨v0, vs0, d0, ds0, p0, q0, hargs, rfl, rfl, h0, r0⟩ := trodAll_cons hA
  obtain ⟨v1, vs1, d1, ds1, p1, q1, rfl, rfl, rfl, h1, r1⟩ := trodAll_cons r0
  obtain ⟨rfl, rfl, rfl⟩ := trodAll_nil r1
  obtain rfl : args = #[v0, v1] := by cases args; simp_all
  obtain ⟨rfl, rfl⟩ := trodVars_none hV
  have k0 := h0
  have lt0 : ∀ x ∈ p0, x.block < W.heap.size := by obtain ⟨m, hm⟩ := k0; exact DataW.trod_lt m _ _ _ hm
  obtain ⟨p0, z0, ok0, sl0, wf0⟩ := open_rows (n := 2) (g := fun y : Int × Int => [.int .i64 y.1, .int .u64 y.2]) (good := fun y => (Lit.int .i64 y.1).wf = true ∧ (Lit.int .u64 y.2).wf = true) Try.underlying96 (by kernel_rfl) (by decide) (fun _ => rfl) (fun y v hv => by simp at hv; rcases hv with rfl | rfl <;> rfl) (fun _ _ _ hx => two_cells Try.underlying146 rfl rfl rfl rfl Try.underlying3 Try.underlying33 (by kernel_rfl) (by kernel_rfl) (by kernel_rfl) hx) (hval 0 96 v0 rfl rfl) h0
  have k1 := h1
  have lt1 : ∀ x ∈ p1, x.block < W.heap.size := by obtain ⟨m, hm⟩ := k1; exact DataW.trod_lt m _ _ _ hm
  obtain ⟨pl1, z1, ok1, sl1, wf1⟩ := open_nums Try.underlying43 Try.underlying33 (by kernel_rfl) (hval 1 43 v1 rfl rfl) h1
  clear hA0 hval0
  have hz0 := steps_nat wf0
  rw [hz0.1] at ok0
  rw [← hz0.2.2] at sl0
  have hz1 := u64_nat wf1
  rw [nat_map hz1.1] at ok1
  rw [show z1.length = (z1.map Int.toNat).length from (List.length_map ..).symm] at sl1
  refine (GC.law (runs_ctr hz0.2.1 hz1.2) [p0, pl1] rfl (fun k b hb => ?_) (.slice (k := 0) rfl ok0.lim sl0 (.slice (k := 1) rfl ok1.lim sl1 .nil))).mono fun e W' ⟨he, bel⟩ => ?_
  · rcases k with _ | _ | k
    · obtain rfl := Option.some.inj (show some _ = some b from hb); exact ⟨rfl, p0, rfl, ok0⟩
    · obtain rfl := Option.some.inj (show some _ = some b from hb); exact ⟨rfl, pl1, rfl, ok1⟩
    · simp at hb
  subst he
  exact ⟨_, rfl, _, _, _, [], _, [], hW', trodAll_mk1 (shut_bool Try.underlying4 _), (trodAll_cons_mk (Below.trod laidOut (by kernel_rfl) (of_decide_eq_true (by kernel_rfl)) k0 bel lt0) (trodAll_cons_mk (Below.trod laidOut (by kernel_rfl) (of_decide_eq_true (by kernel_rfl)) k1 bel lt1) trodAll_mk0)), rfl, bel.frame _, fun h => by cases h⟩

theorem closed : joinedFacts Try.pinned.checked.prog 20 Try.f20 Rows.calcRunsSpec Rows.calcRunsRow = true := by
  unfold joinedFacts
  refine Head.band (Head.band (Head.band (Head.band (Head.band (Head.band (Head.band (Head.band (Head.band (Head.band (Head.band (Head.band (Head.band (Head.band (Head.band (Head.band (Head.band (Head.band (Head.band (Head.band (Head.band (Head.band (Head.band (Head.band (Head.band (Head.band (Head.band (Head.band (Head.band (Head.band (Head.band ?_ ?_) ?_) ?_) ?_) ?_) ?_) ?_) ?_) ?_) ?_) ?_) ?_) ?_) ?_) ?_) ?_) ?_) ?_) ?_) ?_) ?_) ?_) ?_) ?_) ?_) ?_) ?_) ?_) ?_) ?_) ?_
  · kernel_rfl
  · kernel_rfl
  · kernel_rfl
  · kernel_rfl
  · kernel_rfl
  · kernel_rfl
  · kernel_rfl
  · kernel_rfl
  · kernel_rfl
  · kernel_rfl
  · kernel_rfl
  · kernel_rfl
  · kernel_rfl
  · kernel_rfl
  · kernel_rfl
  · kernel_rfl
  · kernel_rfl
  · kernel_rfl
  · kernel_rfl
  · kernel_rfl
  · kernel_rfl
  · kernel_rfl
  · kernel_rfl
  · kernel_rfl
  · kernel_rfl
  · exact Head.mayEnter
  · show (false == Try.prog.liftsFinal) = true
    rw [Head.liftsFinal]; rfl
  · show (Try.prog.make == some .cut) = true
    rw [Head.make_cut]; rfl
  · kernel_rfl
  · kernel_rfl
  · kernel_rfl
  · kernel_rfl

theorem over : Rows.calcRunsRow.holds Try.pinned (OpenSpec.ofChange Rows.calcRunsSpec) :=
  OpenClaim.holds_of_wide 20 Try.f20 rfl rfl rfl rfl rfl rfl rfl ⟨rfl, rfl, rfl, rfl, rfl⟩ rfl rfl rfl rfl rfl (by kernel_rfl) Try.func20 closed
    (of_decide_eq_true (by kernel_rfl)) (by unfold Func.isWrapper; first | (rw [if_pos (by decide +kernel)]; kernel_rfl) | (rw [if_neg (by decide +kernel)]; exact ⟨rfl, rfl⟩))
    (fun os started H enc _ => lifted os started H enc)
end CalcRuns

theorem calcRuns_holds : Rows.CalcRunsSaid := CalcRuns.over
#print axioms calcRuns_holds
end Go.Proofs.Ytiikffiembcboaa
