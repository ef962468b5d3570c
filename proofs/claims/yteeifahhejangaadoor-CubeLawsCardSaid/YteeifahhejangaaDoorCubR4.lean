/- CubeLaws: whatever the input, the statement's function answers true and leaves its arguments as they were. -/
import Derived.Test.YteeifahhejangaaDoorK5
import Derived.Test.YteeifahhejangaaDoorTie
import Derived.Test.YteeifahhejangaaDoorCards
import Derived.SevenTiedAt
import Derived.LaidMore
import Derived.Stop.Joined
import Derived.Test.YteeifahhejangaaDoorRows
import Derived.WalkKit
import Derived.ProofKit
import Derived.OpenShut
import Derived.ChangeOld
import Derived.Carry
import Derived.Laws.IdiomArrays
namespace Go.Proofs.YteeifahhejangaaDoor
open Go Sim Go.ChangeShapes Go.WideShapes Go.ChangeAt Go.RowKit

set_option maxRecDepth 100000
namespace CubeLaws
theorem own : ownKnob Tryd.prog.godebug = none := by kernel_rfl
theorem laidOut : laidOutB Tryd.prog = true := by kernel_rfl

theorem nat_of {n : Int} (h : 0 ≤ n) : ∃ k : Nat, n = k := ⟨n.toNat, by omega⟩

theorem u8_nat {zs : List Int} (h : ∀ z ∈ zs, (Lit.int .u8 z).wf = true) : (∀ z ∈ zs, 0 ≤ z) ∧ bd 256 (zs.map Int.toNat) := by
  refine ⟨fun z hz => (bounds_u8 (h z hz)).1, fun x hx => ?_⟩
  obtain ⟨z, hz, rfl⟩ := List.mem_map.1 hx
  have := bounds_u8 (h z hz)
  omega

theorem deep_nat {L : List (List Int)} (h : ∀ x ∈ L, ∀ z ∈ x, (Lit.int .u8 z).wf = true) : (L.map fun (zs : List Int) => deep zs.length 1 (zs.map (Value.int .u8))) = (L.map fun x => x.map Int.toNat).map db ∧ (∀ b ∈ L.map (fun x => x.map Int.toNat), bd 256 b) ∧ (L.map fun x => x.map Int.toNat).length = L.length := by
  refine ⟨?_, fun b hb => ?_, List.length_map ..⟩
  · rw [List.map_map]
    refine List.map_congr_left fun zs hz => ?_
    show _ = deep (zs.map Int.toNat).length 1 ((zs.map Int.toNat).map (vi .u8))
    rw [List.length_map, nat_map (u8_nat (h zs hz)).1]
  · obtain ⟨y, hy, rfl⟩ := List.mem_map.1 hb
    exact (u8_nat (h y hy)).2

theorem deep_nat3 {L3 : List (List (List Int))} (h : ∀ L ∈ L3, ∀ x ∈ L, ∀ z ∈ x, (Lit.int .u8 z).wf = true) (hl : ∀ L ∈ L3, L.length ≤ 9223372036854775807) :
    L3.map (dzl .u8) = (L3.map fun L => L.map fun x => x.map Int.toNat).map dlb ∧ (∀ L ∈ L3.map (fun L => L.map fun x => x.map Int.toNat), ∀ b ∈ L, bd 256 b) ∧ (∀ L ∈ L3.map (fun L => L.map fun x => x.map Int.toNat), L.length ≤ 9223372036854775807) ∧ (L3.map fun L => L.map fun x => x.map Int.toNat).length = L3.length := by
  refine ⟨?_, fun L hL => ?_, fun L hL => ?_, List.length_map ..⟩
  · rw [List.map_map]
    refine List.map_congr_left fun L hL => ?_
    have := deep_nat (h L hL)
    show deep L.length 1 (L.map fun zs => deep zs.length 1 (zs.map (Value.int .u8))) = _
    rw [this.1]
    show _ = deep (L.map fun x => x.map Int.toNat).length 1 _
    rw [List.length_map]
  · obtain ⟨y, hy, rfl⟩ := List.mem_map.1 hL
    exact (deep_nat (h y hy)).2.1
  · obtain ⟨y, hy, rfl⟩ := List.mem_map.1 hL
    rw [List.length_map]; exact hl y hy

theorem lifted (os : Os) (started : os.Started) (H : Type) (enc : TypeId × Value → H) :
    ReturnsInHanded {} Tryd.checked os 6 .any (fun w args => (Rows.cubeLawsSpec.pre enc Tryd.prog Tryd.f6 [] false w args ∧ laidMetH Tryd.prog laids w) ∧ sizedMet enc Tryd.prog Tryd.f6 (OpenSpec.ofChange Rows.cubeLawsSpec) false w args)
      (Rows.cubeLawsSpec.post enc Tryd.prog Tryd.f6 false true false false) := by
  refine returnsInHanded_of_change_and (C := Tryd.checked) (X := fun w _ => laidMetH Tryd.prog laids w) (fun _ _ _ hh h => h.of_heap hh) own started (by kernel_rfl) Tryd.func6
    (ChangeSpec.witness_shaped (enc := enc) (C := Tryd.checked) (os := os) (X := fun w _ => laidMetH Tryd.prog laids w) false (World.doorLaid Tryd.prog 4000 os) #[.slice none 0 0, .slice none 0 0] 8 rfl (World.shaped_of_RefB (by kernel_rfl) (by kernel_rfl)) (by kernel_rfl) (by kernel_rfl) (by kernel_rfl) (door_met os _)) ?_
  intro W base args ds gs before hval0 hW hcnd _ hL _
  have hval : ∀ (j : Nat) t v, Tryd.f6.params[j]? = some t → args[j]? = some v → Value.okWide Tryd.prog W .any base t v := hval0
  have hW' := hW
  obtain ⟨p, q, hA0, hV, rfl, hfz, hnd⟩ := hW
  have hA : DataW.TrodAll enc Tryd.prog W 0 (fun _ => true) true Tryd.f6.params.toList args.toList ds p := hA0
  rw [Tryd.params6] at hA hval
  obtain ⟨v0, vs0, d0, ds0, p0, q0, hargs, rfl, rfl, h0, r0⟩ := trodAll_cons hA
  obtain ⟨v1, vs1, d1, ds1, p1, q1, rfl, rfl, rfl, h1, r1⟩ := trodAll_cons r0
  obtain ⟨rfl, rfl, rfl⟩ := trodAll_nil r1
  obtain rfl : args = #[v0, v1] := by cases args; simp_all
  obtain ⟨rfl, rfl⟩ := trodVars_none hV
  have k0 := h0
  have lt0 : ∀ x ∈ p0, x.block < W.heap.size := by obtain ⟨m, hm⟩ := k0; exact DataW.trod_lt m _ _ _ hm
  obtain ⟨p0x, z0, ims0, ok0, im0, sl0, hlz0, wf0⟩ := open_slices3 Tryd.underlying68 Tryd.underlying22 Tryd.underlying56 Tryd.underlying5 (by kernel_rfl) (by kernel_rfl) (by kernel_rfl) (hval 0 68 v0 rfl rfl) h0
  have k1 := h1
  have lt1 : ∀ x ∈ p1, x.block < W.heap.size := by obtain ⟨m, hm⟩ := k1; exact DataW.trod_lt m _ _ _ hm
  obtain ⟨pl1, z1, ok1, sl1, wf1⟩ := open_nums Tryd.underlying56 Tryd.underlying5 (by kernel_rfl) (hval 1 56 v1 rfl rfl) h1
  clear hA0 hval0
  have hz0 := deep_nat3 wf0 hlz0
  rw [hz0.1] at ok0
  rw [← hz0.2.2.2] at sl0
  have hlm0 := trod_max Tryd.underlying68 (hval 0 68 v0 rfl rfl) k0 sl0
  have hz1 := u8_nat wf1
  rw [nat_map hz1.1] at ok1
  rw [show z1.length = (z1.map Int.toNat).length from (List.length_map ..).symm] at sl1
  have hI0 : ∀ d ∈ ims0, d ∈ (GLB ++ ims0) := fun d hd => List.mem_append_right _ hd
  refine (GC.lawD (claws_ctr hz0.2.1 hz0.2.2.1 hlm0 hz1.2) (GLB ++ ims0) [p0x, pl1] rfl (fun k b hb => ?_) (fun d hd => ?_) (.slice (k := 0) rfl ok0.lim sl0 (.slice (k := 1) rfl ok1.lim sl1 .nil)) (fun d hd => List.mem_append_left _ hd)).mono fun e W' ⟨he, bel⟩ => ?_
  · rcases k with _ | _ | k
    · obtain rfl := Option.some.inj (show some _ = some b from hb); exact ⟨rfl, p0x, rfl, ok0.mono fun d hd => hI0 d hd⟩
    · obtain rfl := Option.some.inj (show some _ = some b from hb); exact ⟨rfl, pl1, rfl, ok1.deep _⟩
    · simp at hb
  · simp only [List.mem_append] at hd
    rcases hd with hd | hd
    · exact of_laid hL d hd _
    · exact im0 d hd _ hI0
  subst he
  exact ⟨_, rfl, _, _, _, [], _, [], hW', trodAll_mk1 (shut_bool Tryd.underlying4 _), (trodAll_cons_mk (Below.trod laidOut (by kernel_rfl) (of_decide_eq_true (by kernel_rfl)) k0 bel lt0) (trodAll_cons_mk (Below.trod laidOut (by kernel_rfl) (of_decide_eq_true (by kernel_rfl)) k1 bel lt1) trodAll_mk0)), rfl, bel.frame _, fun h => by cases h⟩

theorem closed : joinedFacts Tryd.pinned.checked.prog 6 Tryd.f6 Rows.cubeLawsSpec Rows.cubeLawsRow = true := by
  unfold joinedFacts
  refine Head.band (Head.band (Head.band (Head.band (Head.band (Head.band (Head.band (Head.band (Head.band (Head.band (Head.band (Head.band (Head.band (Head.band (Head.band (Head.band (Head.band (Head.band (Head.band (Head.band (Head.band (Head.band (Head.band (Head.band (Head.band (Head.band (Head.band (Head.band (Head.band (Head.band (Head.band ?_ ?_) ?_) ?_) ?_) ?_) ?_) ?_) ?_) ?_) ?_) ?_) ?_) ?_) ?_) ?_) ?_) ?_) ?_) ?_) ?_) ?_) ?_) ?_) ?_) ?_) ?_) ?_) ?_) ?_) ?_) ?_
  · kernel_rfl
  · kernel_rfl
  · kernel_rfl
  · kernel_rfl
  · kernel_rfl
  · kernel_rfl
  · kernel_rfl
  · kernel_rfl
  · kernel_rfl
  · kernel_rfl
  · kernel_rfl
  · kernel_rfl
  · kernel_rfl
  · kernel_rfl
  · kernel_rfl
  · kernel_rfl
  · kernel_rfl
  · kernel_rfl
  · kernel_rfl
  · kernel_rfl
  · kernel_rfl
  · kernel_rfl
  · kernel_rfl
  · kernel_rfl
  · kernel_rfl
  · exact Head.mayEnter
  · show (false == Tryd.prog.liftsFinal) = true
    rw [Head.liftsFinal]; rfl
  · show (Tryd.prog.make == some .cut) = true
    rw [Head.make_cut]; rfl
  · kernel_rfl
  · kernel_rfl
  · kernel_rfl
  · kernel_rfl

theorem over : Rows.cubeLawsRow.holds Tryd.pinned (OpenSpec.ofChange Rows.cubeLawsSpec) :=
  OpenClaim.holds_of_wide 6 Tryd.f6 rfl rfl rfl rfl rfl rfl rfl ⟨rfl, rfl, rfl, rfl, rfl⟩ rfl rfl rfl rfl rfl (by kernel_rfl) Tryd.func6 closed
    (of_decide_eq_true (by kernel_rfl)) (by unfold Func.isWrapper; first | (rw [if_pos (by decide +kernel)]; kernel_rfl) | (rw [if_neg (by decide +kernel)]; exact ⟨rfl, rfl⟩))
    (fun os started H enc _ => lifted os started H enc)
end CubeLaws

theorem cubeLaws_holds : Rows.CubeLawsCardSaid :=
  Claim7.holds_tied_plain_at .later [] [.data, .data] true (true, "b8c990d39a5368e1fcc6a859e2deeb83d7c9ee1be9502835ef1b0f6cd51d0613") false
    CubeLaws.over (fun _ h => by cases h) (by kernel_rfl) (fun _ h => by cases h) cubeLaws_row_tie rfl ⟨rfl, rfl⟩ (by kernel_rfl) rfl
    (fun f fn hf hfn => by
      obtain rfl : f = 6 := Option.some.inj ((show Tryd.prog.funcNamed "avouch/avouchlaw23.CubeLaws" = some 6 by kernel_rfl).symm.trans hf) |>.symm
      obtain rfl : fn = Tryd.f6 := (Option.some.inj (Tryd.func6.symm.trans hfn)).symm
      exact ⟨by kernel_rfl, fun j t ht => by
        rw [Tryd.params6] at ht
        have hm : t ∈ [68, 56] := by simpa using Array.mem_of_getElem? ht
        have hall : ([68, 56].all fun u => !Tryd.prog.wantsStandIn u) = true := by kernel_rfl
        exact (show Tryd.prog.wantsStandIn t = false by simpa using List.all_eq_true.1 hall t hm)⟩)
    (by kernel_rfl)
#print axioms cubeLaws_holds
end Go.Proofs.YteeifahhejangaaDoor
