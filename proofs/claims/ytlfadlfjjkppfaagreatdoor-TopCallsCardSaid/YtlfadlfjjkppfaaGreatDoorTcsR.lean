/- TopCalls: whatever the input, the statement's function answers true and leaves its arguments as they were. -/
import Derived.Test.YtlfadlfjjkppfaaGreatDoorK7
import Derived.Test.YtlfadlfjjkppfaaGreatDoorTie
import Derived.Test.YtlfadlfjjkppfaaGreatDoorCards
import Derived.SevenTiedAt
import Derived.LaidMore
import Derived.Stop.Joined
import Derived.Test.YtlfadlfjjkppfaaGreatDoorRows
import Derived.WalkKit
import Derived.ProofKit
import Derived.OpenShut
import Derived.ChangeOld
import Derived.Carry
import Derived.Laws.IdiomArrays
namespace Go.Proofs.YtlfadlfjjkppfaaGreatDoor
open Go Sim Go.ChangeShapes Go.WideShapes Go.ChangeAt Go.RowKit
set_option maxRecDepth 10000

set_option maxRecDepth 100000
namespace TopCalls
theorem own : ownKnob Tryz.prog.godebug = none := by kernel_rfl
theorem laidOut : laidOutB Tryz.prog = true := by kernel_rfl

theorem nat_of {n : Int} (h : 0 ≤ n) : ∃ k : Nat, n = k := ⟨n.toNat, by omega⟩

theorem u8_nat {zs : List Int} (h : ∀ z ∈ zs, (Lit.int .u8 z).wf = true) : (∀ z ∈ zs, 0 ≤ z) ∧ bd 256 (zs.map Int.toNat) := by
  refine ⟨fun z hz => (bounds_u8 (h z hz)).1, fun x hx => ?_⟩
  obtain ⟨z, hz, rfl⟩ := List.mem_map.1 hx
  have := bounds_u8 (h z hz)
  omega

theorem db_nat {zs : List Int} (h : ∀ z ∈ zs, (Lit.int .u8 z).wf = true) : deep zs.length 1 (zs.map (Value.int .u8)) = db (zs.map Int.toNat) := by
  show _ = deep (zs.map Int.toNat).length 1 ((zs.map Int.toNat).map (vi .u8))
  rw [List.length_map, nat_map (u8_nat h).1]

def opn (y : (Int × Int × Int) × List Int) : Opn := ⟨y.1.1, y.1.2.1, y.1.2.2, y.2.map Int.toNat⟩
theorem ops_nat {L : List ((Int × Int × Int) × List Int)} (h : ∀ x ∈ L, (∀ z ∈ x.2, (Lit.int .u8 z).wf = true) ∧ (Lit.int .i64 x.1.1).wf = true ∧ (Lit.int .i64 x.1.2.1).wf = true ∧ (Lit.int .i64 x.1.2.2).wf = true) :
    (L.flatMap fun y => [.int .i64 y.1.1, .int .i64 y.1.2.1, .int .i64 y.1.2.2, deep y.2.length 1 (y.2.map (Value.int .u8))]) = (L.map opn).flatMap opC ∧ (∀ s ∈ L.map opn, bd 256 s.d) ∧ (L.map opn).length = L.length := by
  refine ⟨?_, fun s hs => ?_, List.length_map ..⟩
  · rw [List.flatMap_map]
    induction L with
    | nil => rfl
    | cons x L ih =>
      rw [List.flatMap_cons, List.flatMap_cons, ih fun y hy => h y (List.mem_cons_of_mem _ hy), db_nat (h x (List.mem_cons_self ..)).1]
      rfl
  · obtain ⟨y, hy, rfl⟩ := List.mem_map.1 hs
    exact (u8_nat (h y hy).1).2

theorem lifted (os : Os) (started : os.Started) (H : Type) (enc : TypeId × Value → H) :
    ReturnsInHanded {} Tryz.checked os 8 .any (fun w args => (Rows.topCallsSpec.pre enc Tryz.prog Tryz.f8 [] false w args ∧ laidMetH Tryz.prog laids w) ∧ sizedMet enc Tryz.prog Tryz.f8 (OpenSpec.ofChange Rows.topCallsSpec) false w args)
      (Rows.topCallsSpec.post enc Tryz.prog Tryz.f8 false true false false) := by
  refine returnsInHanded_of_change_and (C := Tryz.checked) (X := fun w _ => laidMetH Tryz.prog laids w) (fun _ _ _ hh h => h.of_heap hh) own started (by kernel_rfl) Tryz.func8
    (ChangeSpec.witness_shaped (enc := enc) (C := Tryz.checked) (os := os) (X := fun w _ => laidMetH Tryz.prog laids w) false (World.doorLaid Tryz.prog 4000 os) #[.slice none 0 0, .slice none 0 0] 8 rfl (World.shaped_of_RefB (by kernel_rfl) (by kernel_rfl)) (by kernel_rfl) (by kernel_rfl) (by kernel_rfl) (door_met os _)) ?_
  intro W base args ds gs before hval0 hW hcnd _ hL _
  have hval : ∀ (j : Nat) t v, Tryz.f8.params[j]? = some t → args[j]? = some v → Value.okWide Tryz.prog W .any base t v := hval0
  have hW' := hW
  obtain ⟨p, q, hA0, hV, rfl, hfz, hnd⟩ := hW
  have hA : DataW.TrodAll enc Tryz.prog W 0 (fun _ => true) true Tryz.f8.params.toList args.toList ds p := hA0
  rw [Tryz.params8] at hA hval
  obtain ⟨v0, vs0, d0, ds0, p0, q0, hargs, rfl, rfl, h0, r0⟩ := trodAll_cons hA
  obtain ⟨v1, vs1, d1, ds1, p1, q1, rfl, rfl, rfl, h1, r1⟩ := trodAll_cons r0
  obtain ⟨rfl, rfl, rfl⟩ := trodAll_nil r1
  obtain rfl : args = #[v0, v1] := by cases args; simp_all
  obtain ⟨rfl, rfl⟩ := trodVars_none hV
  have k0 := h0
  have lt0 : ∀ x ∈ p0, x.block < W.heap.size := by obtain ⟨m, hm⟩ := k0; exact DataW.trod_lt m _ _ _ hm
  obtain ⟨z0, ims0, im0, rl0, wf0⟩ := open_db Tryz.underlying25 Tryz.underlying5 (by kernel_rfl) (hval 0 25 v0 rfl rfl) h0
  have k1 := h1
  have lt1 : ∀ x ∈ p1, x.block < W.heap.size := by obtain ⟨m, hm⟩ := k1; exact DataW.trod_lt m _ _ _ hm
  obtain ⟨p1x, z1, ims1, ok1, im1, sl1, wf1⟩ := open_opns Tryz.underlying69 Tryz.underlying71 rfl rfl rfl rfl rfl rfl rfl rfl Tryz.underlying3 Tryz.underlying25 Tryz.underlying5 (by kernel_rfl) (by kernel_rfl) (by kernel_rfl) (by kernel_rfl) (hval 1 69 v1 rfl rfl) h1
  clear hA0 hval0
  have hz0 := u8_nat wf0
  rw [db_nat wf0] at rl0
  have hz1 := ops_nat wf1
  rw [hz1.1] at ok1
  rw [← hz1.2.2] at sl1
  have hI0 : ∀ d ∈ ims0, d ∈ (GLB ++ ims0 ++ ims1) := fun d hd => List.mem_append_left _ (List.mem_append_right _ hd)
  have hI1 : ∀ d ∈ ims1, d ∈ (GLB ++ ims0 ++ ims1) := fun d hd => List.mem_append_right _ hd
  refine (GC.lawD (tcs_ctr hz0.2 hz1.2.1) (GLB ++ ims0 ++ ims1) [p1x] rfl (fun k b hb => ?_) (fun d hd => ?_) (.rel (rl0 _ hI0) (.slice (k := 0) rfl ok1.lim sl1 .nil)) (fun d hd => List.mem_append_left _ (List.mem_append_left _ hd))).mono fun e W' ⟨he, bel⟩ => ?_
  · rcases k with _ | k
    · obtain rfl := Option.some.inj (show some _ = some b from hb); exact ⟨rfl, p1x, rfl, ok1.mono fun d hd => hI1 d hd⟩
    · simp at hb
  · simp only [List.mem_append] at hd
    rcases hd with (hd | hd) | hd
    · exact of_laid hL d hd _
    · exact im0 d hd _
    · exact im1 d hd _
  subst he
  exact ⟨_, rfl, _, _, _, [], _, [], hW', trodAll_mk1 (shut_bool Tryz.underlying4 _), (trodAll_cons_mk (Below.trod laidOut (by kernel_rfl) (of_decide_eq_true (by kernel_rfl)) k0 bel lt0) (trodAll_cons_mk (Below.trod laidOut (by kernel_rfl) (of_decide_eq_true (by kernel_rfl)) k1 bel lt1) trodAll_mk0)), rfl, bel.frame _, fun h => by cases h⟩

theorem closed : joinedFacts Tryz.pinned.checked.prog 8 Tryz.f8 Rows.topCallsSpec Rows.topCallsRow = true := by
  unfold joinedFacts
  refine Head.band (Head.band (Head.band (Head.band (Head.band (Head.band (Head.band (Head.band (Head.band (Head.band (Head.band (Head.band (Head.band (Head.band (Head.band (Head.band (Head.band (Head.band (Head.band (Head.band (Head.band (Head.band (Head.band (Head.band (Head.band (Head.band (Head.band (Head.band (Head.band (Head.band (Head.band ?_ ?_) ?_) ?_) ?_) ?_) ?_) ?_) ?_) ?_) ?_) ?_) ?_) ?_) ?_) ?_) ?_) ?_) ?_) ?_) ?_) ?_) ?_) ?_) ?_) ?_) ?_) ?_) ?_) ?_) ?_) ?_
  · kernel_rfl
  · kernel_rfl
  · kernel_rfl
  · kernel_rfl
  · kernel_rfl
  · kernel_rfl
  · kernel_rfl
  · kernel_rfl
  · kernel_rfl
  · kernel_rfl
  · kernel_rfl
  · kernel_rfl
  · kernel_rfl
  · kernel_rfl
  · kernel_rfl
  · kernel_rfl
  · kernel_rfl
  · kernel_rfl
  · kernel_rfl
  · kernel_rfl
  · kernel_rfl
  · kernel_rfl
  · kernel_rfl
  · kernel_rfl
  · kernel_rfl
  · exact Head.mayEnter
  · show (false == Tryz.prog.liftsFinal) = true
    rw [Head.liftsFinal]; rfl
  · show (Tryz.prog.make == some .cut) = true
    rw [Head.make_cut]; rfl
  · kernel_rfl
  · kernel_rfl
  · kernel_rfl
  · kernel_rfl

theorem over : Rows.topCallsRow.holds Tryz.pinned (OpenSpec.ofChange Rows.topCallsSpec) :=
  OpenClaim.holds_of_wide 8 Tryz.f8 rfl rfl rfl rfl rfl rfl rfl ⟨rfl, rfl, rfl, rfl, rfl⟩ rfl rfl rfl rfl rfl (by kernel_rfl) Tryz.func8 closed
    (of_decide_eq_true (by kernel_rfl)) (by unfold Func.isWrapper; first | (rw [if_pos (by decide +kernel)]; kernel_rfl) | (rw [if_neg (by decide +kernel)]; exact ⟨rfl, rfl⟩))
    (fun os started H enc _ => lifted os started H enc)
end TopCalls

theorem topCalls_holds : Rows.TopCallsCardSaid :=
  Claim7.holds_tied_plain_at .later [] [.data] true (true, "82c02f82b4990c3db1ed24a0f9f4d09a382b77918d60862eb3d7e0481a061f73") true
    TopCalls.over (fun _ h => by cases h) (by kernel_rfl) (fun _ h => by cases h) topCalls_row_tie rfl ⟨rfl, rfl⟩ (by kernel_rfl) rfl
    (fun f fn hf hfn => by
      obtain rfl : f = 8 := Option.some.inj ((show Tryz.prog.funcNamed "avouch/avouchtop.TopCalls" = some 8 by kernel_rfl).symm.trans hf) |>.symm
      obtain rfl : fn = Tryz.f8 := (Option.some.inj (Tryz.func8.symm.trans hfn)).symm
      exact ⟨by kernel_rfl, fun j t ht => by
        rw [Tryz.params8] at ht
        have hm : t ∈ [25, 69] := by simpa using Array.mem_of_getElem? ht
        have hall : ([25, 69].all fun u => !Tryz.prog.wantsStandIn u) = true := by kernel_rfl
        exact (show Tryz.prog.wantsStandIn t = false by simpa using List.all_eq_true.1 hall t hm)⟩)
    (by kernel_rfl)
#print axioms topCalls_holds
end Go.Proofs.YtlfadlfjjkppfaaGreatDoor
