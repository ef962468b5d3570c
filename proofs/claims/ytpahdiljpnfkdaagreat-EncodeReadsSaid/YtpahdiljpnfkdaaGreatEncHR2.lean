/- EncodeReads: whatever the input, the statement's function answers true and leaves its arguments as they were. -/
import Derived.Test.YtpahdiljpnfkdaaGreatK6
import Derived.Test.YtpahdiljpnfkdaaGreatRows
import Derived.WalkKit
import Derived.ProofKit
import Derived.OpenShut
import Derived.ChangeOld
import Derived.Carry
import Derived.Laws.IdiomArrays
namespace Go.Proofs.YtpahdiljpnfkdaaGreat
open Go Sim Go.ChangeShapes Go.WideShapes Go.ChangeAt Go.RowKit

set_option maxRecDepth 100000
namespace EncodeReads
theorem own : ownKnob Tryz.prog.godebug = none := by kernel_rfl
theorem laidOut : laidOutB Tryz.prog = true := by kernel_rfl

theorem nat_of {n : Int} (h : 0 ≤ n) : ∃ k : Nat, n = k := ⟨n.toNat, by omega⟩

theorem u8_nat {zs : List Int} (h : ∀ z ∈ zs, (Lit.int .u8 z).wf = true) : (∀ z ∈ zs, 0 ≤ z) ∧ bd 256 (zs.map Int.toNat) := by
  refine ⟨fun z hz => (bounds_u8 (h z hz)).1, fun x hx => ?_⟩
  obtain ⟨z, hz, rfl⟩ := List.mem_map.1 hx
  have := bounds_u8 (h z hz)
  omega

theorem db_nat {zs : List Int} (h : ∀ z ∈ zs, (Lit.int .u8 z).wf = true) : deep zs.length 1 (zs.map (Value.int .u8)) = db (zs.map Int.toNat) := by
  show _ = deep (zs.map Int.toNat).length 1 ((zs.map Int.toNat).map (vi .u8))
  rw [List.length_map, nat_map (u8_nat h).1]

theorem deep_nat {L : List (List Int)} (h : ∀ x ∈ L, ∀ z ∈ x, (Lit.int .u8 z).wf = true) : (L.map fun (zs : List Int) => deep zs.length 1 (zs.map (Value.int .u8))) = (L.map fun x => x.map Int.toNat).map db ∧ (∀ b ∈ L.map (fun x => x.map Int.toNat), bd 256 b) ∧ (L.map fun x => x.map Int.toNat).length = L.length := by
  refine ⟨?_, fun b hb => ?_, List.length_map ..⟩
  · rw [List.map_map]
    refine List.map_congr_left fun zs hz => ?_
    show _ = deep (zs.map Int.toNat).length 1 ((zs.map Int.toNat).map (vi .u8))
    rw [List.length_map, nat_map (u8_nat (h zs hz)).1]
  · obtain ⟨y, hy, rfl⟩ := List.mem_map.1 hb
    exact (u8_nat (h y hy)).2

theorem lifted (os : Os) (started : os.Started) (H : Type) (enc : TypeId × Value → H) :
    ReturnsInHanded {} Tryz.checked os 4 .any (Rows.encodeReadsSpec.pre6 enc Tryz.prog Tryz.f4 Rows.encodeReadsRow.domain false) (Rows.encodeReadsSpec.post enc Tryz.prog Tryz.f4 false true false false) := by
  refine returnsInHanded_of_change (C := Tryz.checked) own started (by kernel_rfl) Tryz.func4
    (ChangeSpec.witness6 (enc := enc) (C := Tryz.checked) false ⟨#[], #[.slice none 0 0, .slice none 0 0], []⟩ 8 (by kernel_rfl) (by kernel_rfl) (by kernel_rfl) (by kernel_rfl)) ?_
  intro W base args ds gs before hval0 hW hcnd _
  have hval : ∀ (j : Nat) t v, Tryz.f4.params[j]? = some t → args[j]? = some v → Value.okWide Tryz.prog W .any base t v := hval0
  have hW' := hW
  obtain ⟨p, q, hA0, hV, rfl, hfz, hnd⟩ := hW
  have hA : DataW.TrodAll enc Tryz.prog W 0 (fun _ => true) true Tryz.f4.params.toList args.toList ds p := hA0
  rw [Tryz.params4] at hA hval
  obtain ⟨v0, vs0, d0, ds0, p0, q0, hargs, rfl, rfl, h0, r0⟩ := trodAll_cons hA
  obtain ⟨v1, vs1, d1, ds1, p1, q1, rfl, rfl, rfl, h1, r1⟩ := trodAll_cons r0
  obtain ⟨rfl, rfl, rfl⟩ := trodAll_nil r1
  obtain rfl : args = #[v0, v1] := by cases args; simp_all
  obtain ⟨rfl, rfl⟩ := trodVars_none hV
  have k0 := h0
  have lt0 : ∀ x ∈ p0, x.block < W.heap.size := by obtain ⟨m, hm⟩ := k0; exact DataW.trod_lt m _ _ _ hm
  obtain ⟨z0, ims0, im0, rl0, wf0⟩ := open_db Tryz.underlying22 Tryz.underlying5 (by kernel_rfl) (hval 0 22 v0 rfl rfl) h0
  have k1 := h1
  have lt1 : ∀ x ∈ p1, x.block < W.heap.size := by obtain ⟨m, hm⟩ := k1; exact DataW.trod_lt m _ _ _ hm
  obtain ⟨p1x, z1, ims1, ok1, im1, sl1, wf1⟩ := open_slices Tryz.underlying47 Tryz.underlying22 Tryz.underlying5 (by kernel_rfl) (by kernel_rfl) (hval 1 47 v1 rfl rfl) h1
  clear hA0 hval0
  have hz0 := u8_nat wf0
  rw [db_nat wf0] at rl0
  have hz1 := deep_nat wf1
  rw [hz1.1] at ok1
  rw [← hz1.2.2] at sl1
  have hI0 : ∀ d ∈ ims0, d ∈ (ims0 ++ ims1) := fun d hd => List.mem_append_left _ (hd)
  have hI1 : ∀ d ∈ ims1, d ∈ (ims0 ++ ims1) := fun d hd => List.mem_append_right _ hd
  refine (GC.lawD (encreads_ctr hz0.2 hz1.2.1) (ims0 ++ ims1) [p1x] rfl (fun k b hb => ?_) (fun d hd => ?_) (.rel (rl0 _ hI0) (.slice (k := 0) rfl ok1.lim sl1 .nil))).mono fun e W' ⟨he, bel⟩ => ?_
  · rcases k with _ | k
    · obtain rfl := Option.some.inj (show some _ = some b from hb); exact ⟨rfl, p1x, rfl, ok1.mono fun d hd => hI1 d hd⟩
    · simp at hb
  · simp only [List.mem_append] at hd
    rcases hd with hd | hd
    · exact im0 d hd _
    · exact im1 d hd _
  subst he
  exact ⟨_, rfl, _, _, _, [], _, [], hW', trodAll_mk1 (shut_bool Tryz.underlying4 _), (trodAll_cons_mk (Below.trod laidOut (by kernel_rfl) (of_decide_eq_true (by kernel_rfl)) k0 bel lt0) (trodAll_cons_mk (Below.trod laidOut (by kernel_rfl) (of_decide_eq_true (by kernel_rfl)) k1 bel lt1) trodAll_mk0)), rfl, bel.frame _, fun h => by cases h⟩

theorem closed : joinedFacts Tryz.pinned.checked.prog 4 Tryz.f4 Rows.encodeReadsSpec Rows.encodeReadsRow = true := by
  unfold joinedFacts
  refine Head.band (Head.band (Head.band (Head.band (Head.band (Head.band (Head.band (Head.band (Head.band (Head.band (Head.band (Head.band (Head.band (Head.band (Head.band (Head.band (Head.band (Head.band (Head.band (Head.band (Head.band (Head.band (Head.band (Head.band (Head.band (Head.band (Head.band (Head.band (Head.band (Head.band (Head.band ?_ ?_) ?_) ?_) ?_) ?_) ?_) ?_) ?_) ?_) ?_) ?_) ?_) ?_) ?_) ?_) ?_) ?_) ?_) ?_) ?_) ?_) ?_) ?_) ?_) ?_) ?_) ?_) ?_) ?_) ?_) ?_
  · kernel_rfl
  · kernel_rfl
  · kernel_rfl
  · kernel_rfl
  · kernel_rfl
  · kernel_rfl
  · kernel_rfl
  · kernel_rfl
  · kernel_rfl
  · kernel_rfl
  · kernel_rfl
  · kernel_rfl
  · kernel_rfl
  · kernel_rfl
  · kernel_rfl
  · kernel_rfl
  · kernel_rfl
  · kernel_rfl
  · kernel_rfl
  · kernel_rfl
  · kernel_rfl
  · kernel_rfl
  · kernel_rfl
  · kernel_rfl
  · kernel_rfl
  · exact Head.mayEnter
  · show (false == Tryz.prog.liftsFinal) = true
    rw [Head.liftsFinal]; rfl
  · show (Tryz.prog.make == some .cut) = true
    rw [Head.make_cut]; rfl
  · kernel_rfl
  · kernel_rfl
  · kernel_rfl
  · kernel_rfl

theorem over : Rows.encodeReadsRow.holds Tryz.pinned (OpenSpec.ofChange Rows.encodeReadsSpec) :=
  OpenClaim.holds_of_wide 4 Tryz.f4 rfl rfl rfl rfl rfl rfl rfl ⟨rfl, rfl, rfl, rfl, rfl⟩ rfl rfl rfl rfl rfl (by kernel_rfl) Tryz.func4 closed
    (of_decide_eq_true (by kernel_rfl)) (by unfold Func.isWrapper; first | (rw [if_pos (by decide +kernel)]; kernel_rfl) | (rw [if_neg (by decide +kernel)]; exact ⟨rfl, rfl⟩))
    (fun os started H enc _ => lifted os started H enc)
end EncodeReads

theorem encodeReads_holds : Rows.EncodeReadsSaid := EncodeReads.over
#print axioms encodeReads_holds
end Go.Proofs.YtpahdiljpnfkdaaGreat
