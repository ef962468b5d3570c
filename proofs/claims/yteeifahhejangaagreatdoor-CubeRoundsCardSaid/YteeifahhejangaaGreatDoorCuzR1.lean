/- CubeRounds: whatever the input, the statement's function answers true and leaves its arguments as they were. -/
import Derived.Test.YteeifahhejangaaGreatDoorK6
import Derived.Test.YteeifahhejangaaGreatDoorTie
import Derived.Test.YteeifahhejangaaGreatDoorCards
import Derived.SevenTiedAt
import Derived.LaidMore
import Derived.Stop.Joined
import Derived.Test.YteeifahhejangaaGreatDoorRows
import Derived.WalkKit
import Derived.ProofKit
import Derived.OpenShut
import Derived.ChangeOld
import Derived.Carry
import Derived.Laws.IdiomArrays
namespace Go.Proofs.YteeifahhejangaaGreatDoor
open Go Sim Go.ChangeShapes Go.WideShapes Go.ChangeAt Go.RowKit

set_option maxRecDepth 100000
namespace CubeRounds
theorem own : ownKnob Tryz.prog.godebug = none := by kernel_rfl
theorem laidOut : laidOutB Tryz.prog = true := by kernel_rfl

theorem nat_of {n : Int} (h : 0 ≤ n) : ∃ k : Nat, n = k := ⟨n.toNat, by omega⟩

theorem u8_nat {zs : List Int} (h : ∀ z ∈ zs, (Lit.int .u8 z).wf = true) : (∀ z ∈ zs, 0 ≤ z) ∧ bd 256 (zs.map Int.toNat) := by
  refine ⟨fun z hz => (bounds_u8 (h z hz)).1, fun x hx => ?_⟩
  obtain ⟨z, hz, rfl⟩ := List.mem_map.1 hx
  have := bounds_u8 (h z hz)
  omega

theorem deep_nat {L : List (List Int)} (h : ∀ x ∈ L, ∀ z ∈ x, (Lit.int .u8 z).wf = true) : (L.map fun (zs : List Int) => deep zs.length 1 (zs.map (Value.int .u8))) = (L.map fun x => x.map Int.toNat).map db ∧ (∀ b ∈ L.map (fun x => x.map Int.toNat), bd 256 b) ∧ (L.map fun x => x.map Int.toNat).length = L.length := by
  refine ⟨?_, fun b hb => ?_, List.length_map ..⟩
  · rw [List.map_map]
    refine List.map_congr_left fun zs hz => ?_
    show _ = deep (zs.map Int.toNat).length 1 ((zs.map Int.toNat).map (vi .u8))
    rw [List.length_map, nat_map (u8_nat (h zs hz)).1]
  · obtain ⟨y, hy, rfl⟩ := List.mem_map.1 hb
    exact (u8_nat (h y hy)).2

theorem deep_nat3 {L3 : List (List (List Int))} (h : ∀ L ∈ L3, ∀ x ∈ L, ∀ z ∈ x, (Lit.int .u8 z).wf = true) (hl : ∀ L ∈ L3, L.length ≤ 9223372036854775807) :
    L3.map (dzl .u8) = (L3.map fun L => L.map fun x => x.map Int.toNat).map dlb ∧ (∀ L ∈ L3.map (fun L => L.map fun x => x.map Int.toNat), ∀ b ∈ L, bd 256 b) ∧ (∀ L ∈ L3.map (fun L => L.map fun x => x.map Int.toNat), L.length ≤ 9223372036854775807) ∧ (L3.map fun L => L.map fun x => x.map Int.toNat).length = L3.length := by
  refine ⟨?_, fun L hL => ?_, fun L hL => ?_, List.length_map ..⟩
  · rw [List.map_map]
    refine List.map_congr_left fun L hL => ?_
    have := deep_nat (h L hL)
    show deep L.length 1 (L.map fun zs => deep zs.length 1 (zs.map (Value.int .u8))) = _
    rw [this.1]
    show _ = deep (L.map fun x => x.map Int.toNat).length 1 _
    rw [List.length_map]
  · obtain ⟨y, hy, rfl⟩ := List.mem_map.1 hL
    exact (deep_nat (h y hy)).2.1
  · obtain ⟨y, hy, rfl⟩ := List.mem_map.1 hL
    rw [List.length_map]; exact hl y hy

theorem lifted (os : Os) (started : os.Started) (H : Type) (enc : TypeId × Value → H) :
    ReturnsInHanded {} Tryz.checked os 3 .any (fun w args => (Rows.cubeRoundsSpec.pre enc Tryz.prog Tryz.f3 [] false w args ∧ laidMetH Tryz.prog laids w) ∧ sizedMet enc Tryz.prog Tryz.f3 (OpenSpec.ofChange Rows.cubeRoundsSpec) false w args)
      (Rows.cubeRoundsSpec.post enc Tryz.prog Tryz.f3 false true false false) := by
  refine returnsInHanded_of_change_and (C := Tryz.checked) (X := fun w _ => laidMetH Tryz.prog laids w) (fun _ _ _ hh h => h.of_heap hh) own started (by kernel_rfl) Tryz.func3
    (ChangeSpec.witness_shaped (enc := enc) (C := Tryz.checked) (os := os) (X := fun w _ => laidMetH Tryz.prog laids w) false (World.doorLaid Tryz.prog 4000 os) #[.slice none 0 0] 8 rfl (World.shaped_of_RefB (by kernel_rfl) (by kernel_rfl)) (by kernel_rfl) (by kernel_rfl) (by kernel_rfl) (door_met os _)) ?_
  intro W base args ds gs before hval0 hW hcnd _ hL _
  have hval : ∀ (j : Nat) t v, Tryz.f3.params[j]? = some t → args[j]? = some v → Value.okWide Tryz.prog W .any base t v := hval0
  have hW' := hW
  obtain ⟨p, q, hA0, hV, rfl, hfz, hnd⟩ := hW
  have hA : DataW.TrodAll enc Tryz.prog W 0 (fun _ => true) true Tryz.f3.params.toList args.toList ds p := hA0
  rw [Tryz.params3] at hA hval
  obtain ⟨v0, vs0, d0, ds0, p0, q0, hargs, rfl, rfl, h0, r0⟩ := trodAll_cons hA
  obtain ⟨rfl, rfl, rfl⟩ := trodAll_nil r0
  obtain rfl : args = #[v0] := by cases args; simp_all
  obtain ⟨rfl, rfl⟩ := trodVars_none hV
  have k0 := h0
  have lt0 : ∀ x ∈ p0, x.block < W.heap.size := by obtain ⟨m, hm⟩ := k0; exact DataW.trod_lt m _ _ _ hm
  obtain ⟨p0x, z0, ims0, ok0, im0, sl0, hlz0, wf0⟩ := open_slices3 Tryz.underlying22 Tryz.underlying53 Tryz.underlying66 Tryz.underlying5 (by kernel_rfl) (by kernel_rfl) (by kernel_rfl) (hval 0 22 v0 rfl rfl) h0
  clear hA0 hval0
  have hz0 := deep_nat3 wf0 hlz0
  rw [hz0.1] at ok0
  rw [← hz0.2.2.2] at sl0
  have hlm0 := trod_max Tryz.underlying22 (hval 0 22 v0 rfl rfl) k0 sl0
  have hI0 : ∀ d ∈ ims0, d ∈ (GLB ++ ims0) := fun d hd => List.mem_append_right _ hd
  refine (GC.lawD (crounds_ctr hz0.2.1 hz0.2.2.1 hlm0) (GLB ++ ims0) [p0x] rfl (fun k b hb => ?_) (fun d hd => ?_) (.slice (k := 0) rfl ok0.lim sl0 .nil) (fun d hd => List.mem_append_left _ hd)).mono fun e W' ⟨he, bel⟩ => ?_
  · rcases k with _ | k
    · obtain rfl := Option.some.inj (show some _ = some b from hb); exact ⟨rfl, p0x, rfl, ok0.mono fun d hd => hI0 d hd⟩
    · simp at hb
  · simp only [List.mem_append] at hd
    rcases hd with hd | hd
    · exact of_laid hL d hd _
    · exact im0 d hd _ hI0
  subst he
  exact ⟨_, rfl, _, _, _, [], _, [], hW', trodAll_mk1 (shut_bool Tryz.underlying4 _), (trodAll_cons_mk (Below.trod laidOut (by kernel_rfl) (of_decide_eq_true (by kernel_rfl)) k0 bel lt0) trodAll_mk0), rfl, bel.frame _, fun h => by cases h⟩

theorem closed : joinedFacts Tryz.pinned.checked.prog 3 Tryz.f3 Rows.cubeRoundsSpec Rows.cubeRoundsRow = true := by
  unfold joinedFacts
  refine Head.band (Head.band (Head.band (Head.band (Head.band (Head.band (Head.band (Head.band (Head.band (Head.band (Head.band (Head.band (Head.band (Head.band (Head.band (Head.band (Head.band (Head.band (Head.band (Head.band (Head.band (Head.band (Head.band (Head.band (Head.band (Head.band (Head.band (Head.band (Head.band (Head.band (Head.band ?_ ?_) ?_) ?_) ?_) ?_) ?_) ?_) ?_) ?_) ?_) ?_) ?_) ?_) ?_) ?_) ?_) ?_) ?_) ?_) ?_) ?_) ?_) ?_) ?_) ?_) ?_) ?_) ?_) ?_) ?_) ?_
  · kernel_rfl
  · kernel_rfl
  · kernel_rfl
  · kernel_rfl
  · kernel_rfl
  · kernel_rfl
  · kernel_rfl
  · kernel_rfl
  · kernel_rfl
  · kernel_rfl
  · kernel_rfl
  · kernel_rfl
  · kernel_rfl
  · kernel_rfl
  · kernel_rfl
  · kernel_rfl
  · kernel_rfl
  · kernel_rfl
  · kernel_rfl
  · kernel_rfl
  · kernel_rfl
  · kernel_rfl
  · kernel_rfl
  · kernel_rfl
  · kernel_rfl
  · exact Head.mayEnter
  · show (false == Tryz.prog.liftsFinal) = true
    rw [Head.liftsFinal]; rfl
  · show (Tryz.prog.make == some .cut) = true
    rw [Head.make_cut]; rfl
  · kernel_rfl
  · kernel_rfl
  · kernel_rfl
  · kernel_rfl

theorem over : Rows.cubeRoundsRow.holds Tryz.pinned (OpenSpec.ofChange Rows.cubeRoundsSpec) :=
  OpenClaim.holds_of_wide 3 Tryz.f3 rfl rfl rfl rfl rfl rfl rfl ⟨rfl, rfl, rfl, rfl, rfl⟩ rfl rfl rfl rfl rfl (by kernel_rfl) Tryz.func3 closed
    (of_decide_eq_true (by kernel_rfl)) (by unfold Func.isWrapper; first | (rw [if_pos (by decide +kernel)]; kernel_rfl) | (rw [if_neg (by decide +kernel)]; exact ⟨rfl, rfl⟩))
    (fun os started H enc _ => lifted os started H enc)
end CubeRounds

theorem cubeRounds_holds : Rows.CubeRoundsCardSaid :=
  Claim7.holds_tied_plain_at .later [] [.data, .data] true (true, "08c3a9cff9e45de4fbb71b77f8fb9d300b25a894a208d55bd4a04830def52201") false
    CubeRounds.over (fun _ h => by cases h) (by kernel_rfl) (fun _ h => by cases h) cubeRounds_row_tie rfl ⟨rfl, rfl⟩ (by kernel_rfl) rfl
    (fun f fn hf hfn => by
      obtain rfl : f = 3 := Option.some.inj ((show Tryz.prog.funcNamed "avouch/avouchlaw23.CubeRounds" = some 3 by kernel_rfl).symm.trans hf) |>.symm
      obtain rfl : fn = Tryz.f3 := (Option.some.inj (Tryz.func3.symm.trans hfn)).symm
      exact ⟨by kernel_rfl, fun j t ht => by
        rw [Tryz.params3] at ht
        have hm : t ∈ [22] := by simpa using Array.mem_of_getElem? ht
        have hall : ([22].all fun u => !Tryz.prog.wantsStandIn u) = true := by kernel_rfl
        exact (show Tryz.prog.wantsStandIn t = false by simpa using List.all_eq_true.1 hall t hm)⟩)
    (by kernel_rfl)
#print axioms cubeRounds_holds
end Go.Proofs.YteeifahhejangaaGreatDoor
