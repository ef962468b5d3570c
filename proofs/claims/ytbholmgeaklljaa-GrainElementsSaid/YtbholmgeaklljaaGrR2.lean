/- GrainElements: whatever the input, the statement's function answers true and leaves its arguments as they were. -/
import Derived.Test.YtbholmgeaklljaaK4
import Derived.Test.YtbholmgeaklljaaRows
import Derived.WalkKit
import Derived.ProofKit
import Derived.OpenShut
import Derived.ChangeOld
import Derived.Carry
import Derived.Laws.IdiomArrays
namespace Go.Proofs.Ytbholmgeaklljaa
open Go Sim Go.ChangeShapes Go.WideShapes Go.ChangeAt Go.RowKit

set_option maxRecDepth 100000
namespace GrainElements
theorem own : ownKnob Try.prog.godebug = none := by kernel_rfl
theorem laidOut : laidOutB Try.prog = true := by kernel_rfl

theorem nat_of {n : Int} (h : 0 ≤ n) : ∃ k : Nat, n = k := ⟨n.toNat, by omega⟩

theorem four_list {α : Type} : ∀ {l : List α}, l.length = 4 → ∃ a b c d, l = [a, b, c, d]
  | [a, b, c, d], _ => ⟨a, b, c, d, rfl⟩

theorem open_four {H : Type} {enc : TypeId × Value → H} {W : World} {base base' : Nat} {spare : Nat → Bool} {held : Bool} {v : Value} {d : DataW H} {ps : List MemPlace}
    (hv : Value.okWide Try.prog W .any base 22 v) (h : DataW.Trod enc Try.prog W base' spare held 22 v d ps) : ∃ b w f p, v = .agg #[.int .i64 b, .int .i64 w, .int .i64 f, .int .i64 p] := by
  simp only [Value.okWide, Try.underlying22] at hv
  obtain ⟨cs, rfl, hsz, _⟩ := hv
  rw [show Try.prog.cellsOf 22 = 4 by kernel_rfl] at hsz
  obtain ⟨fuel, hf⟩ := h
  have e : (Value.agg cs).cells.toList = cs.toList := rfl
  rw [e] at hf
  obtain ⟨c0, c1, c2, c3, hcs⟩ := four_list (l := cs.toList) (by simpa using hsz)
  rw [hcs] at hf
  obtain ⟨y0, y1, y2, y3, n, _, e0, e1, e2, e3⟩ := trod_array4 Try.underlying22 (by kernel_rfl) hf
  obtain ⟨a0, z0, _, _⟩ := DataW.trod_int Try.underlying3 e0
  obtain ⟨a1, z1, _, _⟩ := DataW.trod_int Try.underlying3 e1
  obtain ⟨a2, z2, _, _⟩ := DataW.trod_int Try.underlying3 e2
  obtain ⟨a3, z3, _, _⟩ := DataW.trod_int Try.underlying3 e3
  simp only [List.cons.injEq, and_true] at z0 z1 z2 z3
  subst z0; subst z1; subst z2; subst z3
  refine ⟨a0, a1, a2, a3, ?_⟩
  congr 1
  exact Array.ext' hcs

theorem walk (b w f p a : Int) (ha : 0 ≤ a ∧ a ≤ 255) (W : World) :
    Calls Try.prog 4 #[.agg #[.int .i64 b, .int .i64 w, .int .i64 f, .int .i64 p], .int .u8 a] W fun e W' => e = .returned (.bool true) ∧ Below W.heap.size W W' := by
  have key : GC Try.prog 4 [.agg #[.int .i64 b, .int .i64 w, .int .i64 f, .int .i64 p], .int .u8 a] [] [.bool true] [] := by
    obtain ⟨a, rfl⟩ := nat_of ha.1
    by_cases hg : 1 ≤ b ∧ b ≤ 4095 ∧ 1 ≤ w ∧ w ≤ 4095 ∧ 0 ≤ f ∧ f ≤ 1023 ∧ 0 ≤ p ∧ p ≤ 1023
    · obtain ⟨h1, h2, h3, h4, h5, h6, h7, h8⟩ := hg
      obtain ⟨b, rfl⟩ := nat_of (show 0 ≤ b by omega)
      obtain ⟨w, rfl⟩ := nat_of (show 0 ≤ w by omega)
      obtain ⟨f, rfl⟩ := nat_of h5
      obtain ⟨p, rfl⟩ := nat_of h7
      exact elems_good ⟨by omega, by omega⟩ ⟨by omega, by omega⟩ (by omega) (by omega) (by omega)
    · exact elems_bad hg
  exact Ctr.law (ρ := ⟨fun _ => ⟨0, 0, none, 1⟩, []⟩) key (by simp) MemOk.nil (ImOk.nil rfl) (fun d hd => by cases hd) rfl (rel_pure rfl)

theorem lifted (os : Os) (started : os.Started) (H : Type) (enc : TypeId × Value → H) :
    ReturnsInHanded {} Try.checked os 4 .any (Rows.grainElementsSpec.pre6 enc Try.prog Try.f4 Rows.grainElementsRow.domain false) (Rows.grainElementsSpec.post enc Try.prog Try.f4 false true false false) := by
  refine returnsInHanded_of_change (C := Try.checked) own started (by kernel_rfl) Try.func4
    (ChangeSpec.witness6 (enc := enc) (C := Try.checked) false ⟨#[], #[.agg #[.int .i64 0, .int .i64 0, .int .i64 0, .int .i64 0], .int .u8 0], []⟩ 8 (by kernel_rfl) (by kernel_rfl) (by kernel_rfl) (by kernel_rfl)) ?_
  intro W base args ds gs before hval0 hW hcnd _
  have hval : ∀ (j : Nat) t v, Try.f4.params[j]? = some t → args[j]? = some v → Value.okWide Try.prog W .any base t v := hval0
  have hW' := hW
  obtain ⟨p, q, hA0, hV, rfl, hfz, hnd⟩ := hW
  have hA : DataW.TrodAll enc Try.prog W 0 (fun _ => true) true Try.f4.params.toList args.toList ds p := hA0
  rw [Try.params4] at hA hval
  obtain ⟨v0, vs0, d0, ds0, p0, q0, hargs, rfl, rfl, h0, r0⟩ := trodAll_cons hA
  obtain ⟨v1, vs1, d1, ds1, p1, q1, rfl, rfl, rfl, h1, r1⟩ := trodAll_cons r0
  obtain ⟨rfl, rfl, rfl⟩ := trodAll_nil r1
  obtain rfl : args = #[v0, v1] := by cases args; simp_all
  obtain ⟨rfl, rfl⟩ := trodVars_none hV
  have k0 := h0
  have lt0 : ∀ x ∈ p0, x.block < W.heap.size := by obtain ⟨m, hm⟩ := k0; exact DataW.trod_lt m _ _ _ hm
  obtain ⟨b, w, f, p, rfl⟩ := open_four (hval 0 22 v0 rfl rfl) h0
  obtain ⟨a1, rfl, rfl, rfl, w1⟩ := open_int Try.underlying5 (hval 1 5 v1 rfl rfl) h1
  clear hA0 hval0
  refine (walk b w f p a1 (bounds_u8 w1) W).mono fun e W' ⟨he, bel⟩ => ?_
  subst he
  exact ⟨_, rfl, _, _, _, [], _, [], hW', trodAll_mk1 (shut_bool Try.underlying4 _), (trodAll_cons_mk (Below.trod laidOut (by kernel_rfl) (of_decide_eq_true (by kernel_rfl)) k0 bel lt0) (trodAll_cons_mk (shut_int Try.underlying5 w1) trodAll_mk0)), rfl, bel.frame _, fun h => by cases h⟩

theorem closed : joinedFacts Try.pinned.checked.prog 4 Try.f4 Rows.grainElementsSpec Rows.grainElementsRow = true := by
  unfold joinedFacts
  refine Head.band (Head.band (Head.band (Head.band (Head.band (Head.band (Head.band (Head.band (Head.band (Head.band (Head.band (Head.band (Head.band (Head.band (Head.band (Head.band (Head.band (Head.band (Head.band (Head.band (Head.band (Head.band (Head.band (Head.band (Head.band (Head.band (Head.band (Head.band (Head.band (Head.band (Head.band ?_ ?_) ?_) ?_) ?_) ?_) ?_) ?_) ?_) ?_) ?_) ?_) ?_) ?_) ?_) ?_) ?_) ?_) ?_) ?_) ?_) ?_) ?_) ?_) ?_) ?_) ?_) ?_) ?_) ?_) ?_) ?_
  · kernel_rfl
  · kernel_rfl
  · kernel_rfl
  · kernel_rfl
  · kernel_rfl
  · kernel_rfl
  · kernel_rfl
  · kernel_rfl
  · kernel_rfl
  · kernel_rfl
  · kernel_rfl
  · kernel_rfl
  · kernel_rfl
  · kernel_rfl
  · kernel_rfl
  · kernel_rfl
  · kernel_rfl
  · kernel_rfl
  · kernel_rfl
  · kernel_rfl
  · kernel_rfl
  · kernel_rfl
  · kernel_rfl
  · kernel_rfl
  · kernel_rfl
  · exact Head.mayEnter
  · show (false == Try.prog.liftsFinal) = true
    rw [Head.liftsFinal]; rfl
  · show (Try.prog.make == some .cut) = true
    rw [Head.make_cut]; rfl
  · kernel_rfl
  · kernel_rfl
  · kernel_rfl
  · kernel_rfl

theorem over : Rows.grainElementsRow.holds Try.pinned (OpenSpec.ofChange Rows.grainElementsSpec) :=
  OpenClaim.holds_of_wide 4 Try.f4 rfl rfl rfl rfl rfl rfl rfl ⟨rfl, rfl, rfl, rfl, rfl⟩ rfl rfl rfl rfl rfl (by kernel_rfl) Try.func4 closed
    (of_decide_eq_true (by kernel_rfl)) (by unfold Func.isWrapper; first | (rw [if_pos (by decide +kernel)]; kernel_rfl) | (rw [if_neg (by decide +kernel)]; exact ⟨rfl, rfl⟩))
    (fun os started H enc _ => lifted os started H enc)
end GrainElements

theorem grainElements_holds : Rows.GrainElementsSaid := GrainElements.over
#print axioms grainElements_holds
end Go.Proofs.Ytbholmgeaklljaa
