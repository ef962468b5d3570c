/- EncodeChecks: whatever the input, the statement's function answers true and leaves its arguments as they were. -/
import Derived.Test.YtpahdiljpnfkdaaK6
import Derived.Test.YtpahdiljpnfkdaaRows
import Derived.WalkKit
import Derived.ProofKit
import Derived.OpenShut
import Derived.ChangeOld
import Derived.Carry
import Derived.Laws.IdiomArrays
namespace Go.Proofs.Ytpahdiljpnfkdaa
open Go Sim Go.ChangeShapes Go.WideShapes Go.ChangeAt Go.RowKit

set_option maxRecDepth 100000
namespace EncodeChecks
theorem own : ownKnob Try.prog.godebug = none := by kernel_rfl
theorem laidOut : laidOutB Try.prog = true := by kernel_rfl

theorem nat_of {n : Int} (h : 0 ≤ n) : ∃ k : Nat, n = k := ⟨n.toNat, by omega⟩

theorem u8_nat {zs : List Int} (h : ∀ z ∈ zs, (Lit.int .u8 z).wf = true) : (∀ z ∈ zs, 0 ≤ z) ∧ bd 256 (zs.map Int.toNat) := by
  refine ⟨fun z hz => (bounds_u8 (h z hz)).1, fun x hx => ?_⟩
  obtain ⟨z, hz, rfl⟩ := List.mem_map.1 hx
  have := bounds_u8 (h z hz)
  omega

theorem db_nat {zs : List Int} (h : ∀ z ∈ zs, (Lit.int .u8 z).wf = true) : deep zs.length 1 (zs.map (Value.int .u8)) = db (zs.map Int.toNat) := by
  show _ = deep (zs.map Int.toNat).length 1 ((zs.map Int.toNat).map (vi .u8))
  rw [List.length_map, nat_map (u8_nat h).1]

theorem lifted (os : Os) (started : os.Started) (H : Type) (enc : TypeId × Value → H) :
    ReturnsInHanded {} Try.checked os 13 .any (Rows.encodeChecksSpec.pre6 enc Try.prog Try.f13 Rows.encodeChecksRow.domain false) (Rows.encodeChecksSpec.post enc Try.prog Try.f13 false true false false) := by
  refine returnsInHanded_of_change (C := Try.checked) own started (by kernel_rfl) Try.func13
    (ChangeSpec.witness6 (enc := enc) (C := Try.checked) false ⟨#[], #[.int .i64 0, .slice none 0 0], []⟩ 8 (by kernel_rfl) (by kernel_rfl) (by kernel_rfl) (by kernel_rfl)) ?_
  intro W base args ds gs before hval0 hW hcnd _
  have hval : ∀ (j : Nat) t v, Try.f13.params[j]? = some t → args[j]? = some v → Value.okWide Try.prog W .any base t v := hval0
  have hW' := hW
  obtain ⟨p, q, hA0, hV, rfl, hfz, hnd⟩ := hW
  have hA : DataW.TrodAll enc Try.prog W 0 (fun _ => true) true Try.f13.params.toList args.toList ds p := hA0
  rw [Try.params13] at hA hval
  obtain ⟨v0, vs0, d0, ds0, p0, q0, hargs, rfl, rfl, h0, r0⟩ := trodAll_cons hA
  obtain ⟨v1, vs1, d1, ds1, p1, q1, rfl, rfl, rfl, h1, r1⟩ := trodAll_cons r0
  obtain ⟨rfl, rfl, rfl⟩ := trodAll_nil r1
  obtain rfl : args = #[v0, v1] := by cases args; simp_all
  obtain ⟨rfl, rfl⟩ := trodVars_none hV
  obtain ⟨a0, rfl, rfl, rfl, w0⟩ := open_int Try.underlying3 (hval 0 3 v0 rfl rfl) h0
  have k1 := h1
  have lt1 : ∀ x ∈ p1, x.block < W.heap.size := by obtain ⟨m, hm⟩ := k1; exact DataW.trod_lt m _ _ _ hm
  obtain ⟨z1, ims1, im1, rl1, wf1⟩ := open_db Try.underlying41 Try.underlying5 (by kernel_rfl) (hval 1 41 v1 rfl rfl) h1
  clear hA0 hval0
  have hz1 := u8_nat wf1
  rw [db_nat wf1] at rl1
  have hI1 : ∀ d ∈ ims1, d ∈ (ims1) := fun d hd => hd
  refine (GC.lawD (encchecks_ctr hz1.2) (ims1) [] rfl (fun k b hb => ?_) (fun d hd => ?_) (.pure rfl (.rel (rl1 _ hI1) .nil))).mono fun e W' ⟨he, bel⟩ => ?_
  · simp at hb
  · exact im1 d hd _
  subst he
  exact ⟨_, rfl, _, _, _, [], _, [], hW', trodAll_mk1 (shut_bool Try.underlying4 _), (trodAll_cons_mk (shut_int Try.underlying3 w0) (trodAll_cons_mk (Below.trod laidOut (by kernel_rfl) (of_decide_eq_true (by kernel_rfl)) k1 bel lt1) trodAll_mk0)), rfl, bel.frame _, fun h => by cases h⟩

theorem closed : joinedFacts Try.pinned.checked.prog 13 Try.f13 Rows.encodeChecksSpec Rows.encodeChecksRow = true := by
  unfold joinedFacts
  refine Head.band (Head.band (Head.band (Head.band (Head.band (Head.band (Head.band (Head.band (Head.band (Head.band (Head.band (Head.band (Head.band (Head.band (Head.band (Head.band (Head.band (Head.band (Head.band (Head.band (Head.band (Head.band (Head.band (Head.band (Head.band (Head.band (Head.band (Head.band (Head.band (Head.band (Head.band ?_ ?_) ?_) ?_) ?_) ?_) ?_) ?_) ?_) ?_) ?_) ?_) ?_) ?_) ?_) ?_) ?_) ?_) ?_) ?_) ?_) ?_) ?_) ?_) ?_) ?_) ?_) ?_) ?_) ?_) ?_) ?_
  · kernel_rfl
  · kernel_rfl
  · kernel_rfl
  · kernel_rfl
  · kernel_rfl
  · kernel_rfl
  · kernel_rfl
  · kernel_rfl
  · kernel_rfl
  · kernel_rfl
  · kernel_rfl
  · kernel_rfl
  · kernel_rfl
  · kernel_rfl
  · kernel_rfl
  · kernel_rfl
  · kernel_rfl
  · kernel_rfl
  · kernel_rfl
  · kernel_rfl
  · kernel_rfl
  · kernel_rfl
  · kernel_rfl
  · kernel_rfl
  · kernel_rfl
  · exact Head.mayEnter
  · show (false == Try.prog.liftsFinal) = true
    rw [Head.liftsFinal]; rfl
  · show (Try.prog.make == some .cut) = true
    rw [Head.make_cut]; rfl
  · kernel_rfl
  · kernel_rfl
  · kernel_rfl
  · kernel_rfl

theorem over : Rows.encodeChecksRow.holds Try.pinned (OpenSpec.ofChange Rows.encodeChecksSpec) :=
  OpenClaim.holds_of_wide 13 Try.f13 rfl rfl rfl rfl rfl rfl rfl ⟨rfl, rfl, rfl, rfl, rfl⟩ rfl rfl rfl rfl rfl (by kernel_rfl) Try.func13 closed
    (of_decide_eq_true (by kernel_rfl)) (by unfold Func.isWrapper; first | (rw [if_pos (by decide +kernel)]; kernel_rfl) | (rw [if_neg (by decide +kernel)]; exact ⟨rfl, rfl⟩))
    (fun os started H enc _ => lifted os started H enc)
end EncodeChecks

theorem encodeChecks_holds : Rows.EncodeChecksSaid := EncodeChecks.over
#print axioms encodeChecks_holds
end Go.Proofs.Ytpahdiljpnfkdaa
