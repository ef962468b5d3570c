/- EncodeLists: whatever the input, the statement's function answers true and leaves its arguments as they were. -/
import Derived.Test.YtpahdiljpnfkdaaK6
import Derived.Test.YtpahdiljpnfkdaaRows
import Derived.WalkKit
import Derived.ProofKit
import Derived.OpenShut
import Derived.ChangeOld
import Derived.Carry
import Derived.Laws.IdiomArrays
namespace Go.Proofs.Ytpahdiljpnfkdaa
open Go Sim Go.ChangeShapes Go.WideShapes Go.ChangeAt Go.RowKit

set_option maxRecDepth 100000
namespace EncodeLists
theorem own : ownKnob Try.prog.godebug = none := by kernel_rfl
theorem laidOut : laidOutB Try.prog = true := by kernel_rfl

theorem nat_of {n : Int} (h : 0 ≤ n) : ∃ k : Nat, n = k := ⟨n.toNat, by omega⟩

theorem u8_nat {zs : List Int} (h : ∀ z ∈ zs, (Lit.int .u8 z).wf = true) : (∀ z ∈ zs, 0 ≤ z) ∧ bd 256 (zs.map Int.toNat) := by
  refine ⟨fun z hz => (bounds_u8 (h z hz)).1, fun x hx => ?_⟩
  obtain ⟨z, hz, rfl⟩ := List.mem_map.1 hx
  have := bounds_u8 (h z hz)
  omega

theorem db_nat {zs : List Int} (h : ∀ z ∈ zs, (Lit.int .u8 z).wf = true) : deep zs.length 1 (zs.map (Value.int .u8)) = db (zs.map Int.toNat) := by
  show _ = deep (zs.map Int.toNat).length 1 ((zs.map Int.toNat).map (vi .u8))
  rw [List.length_map, nat_map (u8_nat h).1]

def opn (y : (Int × Int × Int) × List Int) : Opn := ⟨y.1.1, y.1.2.1, y.1.2.2, y.2.map Int.toNat⟩
theorem ops_nat {L : List ((Int × Int × Int) × List Int)} (h : ∀ x ∈ L, (∀ z ∈ x.2, (Lit.int .u8 z).wf = true) ∧ (Lit.int .i64 x.1.1).wf = true ∧ (Lit.int .i64 x.1.2.1).wf = true ∧ (Lit.int .i64 x.1.2.2).wf = true) :
    (L.flatMap fun y => [.int .i64 y.1.1, .int .i64 y.1.2.1, .int .i64 y.1.2.2, deep y.2.length 1 (y.2.map (Value.int .u8))]) = (L.map opn).flatMap opC ∧ (∀ s ∈ L.map opn, bd 256 s.d) ∧ (L.map opn).length = L.length := by
  refine ⟨?_, fun s hs => ?_, List.length_map ..⟩
  · rw [List.flatMap_map]
    induction L with
    | nil => rfl
    | cons x L ih =>
      rw [List.flatMap_cons, List.flatMap_cons, ih fun y hy => h y (List.mem_cons_of_mem _ hy), db_nat (h x (List.mem_cons_self ..)).1]
      rfl
  · obtain ⟨y, hy, rfl⟩ := List.mem_map.1 hs
    exact (u8_nat (h y hy).1).2

theorem lifted (os : Os) (started : os.Started) (H : Type) (enc : TypeId × Value → H) :
    ReturnsInHanded {} Try.checked os 16 .any (Rows.encodeListsSpec.pre6 enc Try.prog Try.f16 Rows.encodeListsRow.domain false) (Rows.encodeListsSpec.post enc Try.prog Try.f16 false true false false) := by
  refine returnsInHanded_of_change (C := Try.checked) own started (by kernel_rfl) Try.func16
    (ChangeSpec.witness6 (enc := enc) (C := Try.checked) false ⟨#[], #[.slice none 0 0], []⟩ 8 (by kernel_rfl) (by kernel_rfl) (by kernel_rfl) (by kernel_rfl)) ?_
  intro W base args ds gs before hval0 hW hcnd _
  have hval : ∀ (j : Nat) t v, Try.f16.params[j]? = some t → args[j]? = some v → Value.okWide Try.prog W .any base t v := hval0
  have hW' := hW
  obtain ⟨p, q, hA0, hV, rfl, hfz, hnd⟩ := hW
  have hA : DataW.TrodAll enc Try.prog W 0 (fun _ => true) true Try.f16.params.toList args.toList ds p := hA0
  rw [Try.params16] at hA hval
  obtain ⟨v0, vs0, d0, ds0, p0, q0, hargs, rfl, rfl, h0, r0⟩ := trodAll_cons hA
  obtain ⟨rfl, rfl, rfl⟩ := trodAll_nil r0
  obtain rfl : args = #[v0] := by cases args; simp_all
  obtain ⟨rfl, rfl⟩ := trodVars_none hV
  have k0 := h0
  have lt0 : ∀ x ∈ p0, x.block < W.heap.size := by obtain ⟨m, hm⟩ := k0; exact DataW.trod_lt m _ _ _ hm
  obtain ⟨p0x, z0, ims0, ok0, im0, sl0, wf0⟩ := open_opns Try.underlying102 Try.underlying93 rfl rfl rfl rfl rfl rfl rfl rfl Try.underlying3 Try.underlying41 Try.underlying5 (by kernel_rfl) (by kernel_rfl) (by kernel_rfl) (by kernel_rfl) (hval 0 102 v0 rfl rfl) h0
  clear hA0 hval0
  have hz0 := ops_nat wf0
  rw [hz0.1] at ok0
  rw [← hz0.2.2] at sl0
  have hI0 : ∀ d ∈ ims0, d ∈ (ims0) := fun d hd => hd
  refine (GC.lawD (enclists_ctr hz0.2.1) (ims0) [p0x] rfl (fun k b hb => ?_) (fun d hd => ?_) (.slice (k := 0) rfl ok0.lim sl0 .nil)).mono fun e W' ⟨he, bel⟩ => ?_
  · rcases k with _ | k
    · obtain rfl := Option.some.inj (show some _ = some b from hb); exact ⟨rfl, p0x, rfl, ok0.mono fun d hd => hI0 d hd⟩
    · simp at hb
  · exact im0 d hd _
  subst he
  exact ⟨_, rfl, _, _, _, [], _, [], hW', trodAll_mk1 (shut_bool Try.underlying4 _), (trodAll_cons_mk (Below.trod laidOut (by kernel_rfl) (of_decide_eq_true (by kernel_rfl)) k0 bel lt0) trodAll_mk0), rfl, bel.frame _, fun h => by cases h⟩

theorem closed : joinedFacts Try.pinned.checked.prog 16 Try.f16 Rows.encodeListsSpec Rows.encodeListsRow = true := by
  unfold joinedFacts
  refine Head.band (Head.band (Head.band (Head.band (Head.band (Head.band (Head.band (Head.band (Head.band (Head.band (Head.band (Head.band (Head.band (Head.band (Head.band (Head.band (Head.band (Head.band (Head.band (Head.band (Head.band (Head.band (Head.band (Head.band (Head.band (Head.band (Head.band (Head.band (Head.band (Head.band (Head.band ?_ ?_) ?_) ?_) ?_) ?_) ?_) ?_) ?_) ?_) ?_) ?_) ?_) ?_) ?_) ?_) ?_) ?_) ?_) ?_) ?_) ?_) ?_) ?_) ?_) ?_) ?_) ?_) ?_) ?_) ?_) ?_
  · kernel_rfl
  · kernel_rfl
  · kernel_rfl
  · kernel_rfl
  · kernel_rfl
  · kernel_rfl
  · kernel_rfl
  · kernel_rfl
  · kernel_rfl
  · kernel_rfl
  · kernel_rfl
  · kernel_rfl
  · kernel_rfl
  · kernel_rfl
  · kernel_rfl
  · kernel_rfl
  · kernel_rfl
  · kernel_rfl
  · kernel_rfl
  · kernel_rfl
  · kernel_rfl
  · kernel_rfl
  · kernel_rfl
  · kernel_rfl
  · kernel_rfl
  · exact Head.mayEnter
  · show (false == Try.prog.liftsFinal) = true
    rw [Head.liftsFinal]; rfl
  · show (Try.prog.make == some .cut) = true
    rw [Head.make_cut]; rfl
  · kernel_rfl
  · kernel_rfl
  · kernel_rfl
  · kernel_rfl

theorem over : Rows.encodeListsRow.holds Try.pinned (OpenSpec.ofChange Rows.encodeListsSpec) :=
  OpenClaim.holds_of_wide 16 Try.f16 rfl rfl rfl rfl rfl rfl rfl ⟨rfl, rfl, rfl, rfl, rfl⟩ rfl rfl rfl rfl rfl (by kernel_rfl) Try.func16 closed
    (of_decide_eq_true (by kernel_rfl)) (by unfold Func.isWrapper; first | (rw [if_pos (by decide +kernel)]; kernel_rfl) | (rw [if_neg (by decide +kernel)]; exact ⟨rfl, rfl⟩))
    (fun os started H enc _ => lifted os started H enc)
end EncodeLists

theorem encodeLists_holds : Rows.EncodeListsSaid := EncodeLists.over
#print axioms encodeLists_holds
end Go.Proofs.Ytpahdiljpnfkdaa
