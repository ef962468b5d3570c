/- From a contract to what a statement's row wants. -/
import Derived.Test.YtiikffiembcboaaSim16
import Derived.Below
namespace Go.Proofs.Ytiikffiembcboaa.Sim
open Go Go.RowKit

theorem Ctr.law {P : Program} {f : FuncId} {args : List Value} {M0 : List Blk} {Mo : List Blk} (S : Ctr P f args M0 (.bool true) Mo) (hro : ∀ b ∈ M0, b.rw = false) {ρ : Rho} {W : World} (hm : MemOk ρ (memL M0) W)
    {rargs : List Value} (hl : args.length = rargs.length) (hr : ∀ (k : Nat) (v u : Value), args[k]? = some v → rargs[k]? = some u → VR .real (dom (memL M0)) ρ v u) :
    Calls P f rargs.toArray W fun e W' => e = .returned (.bool true) ∧ Below W.heap.size W W' := by
  refine (S.2 ρ W rargs hm hl hr).mono fun e W' ⟨u, ρ', he, _, _, hv, _, hf⟩ => ?_
  have hu := flat_inv hv rfl
  subst hu
  refine ⟨he, hf.os, hf.tape, hf.output, hf.size, fun k hk => hf.block k hk fun hRW => ?_⟩
  obtain ⟨i, b, hb, hrw, _⟩ := hRW
  have := hrw.1
  rw [hro b (List.mem_of_getElem? hb)] at this
  cases this

theorem MemOk.nil {ρ : Rho} {W : World} : MemOk ρ (memL []) W := fun i b hb => by simp [memL] at hb

/-- all values plain -/
theorem rel_pure {m : Md} {D : Nat → Prop} {ρ : Rho} {l : List Value} (h : l.all pureV = true) : ∀ (k : Nat) (v u : Value), l[k]? = some v → l[k]? = some u → VR m D ρ v u := by
  intro k v u h1 h2
  rw [h1] at h2
  cases h2
  exact .pure (List.all_eq_true.1 h v (List.mem_of_getElem? h1))

end Go.Proofs.Ytiikffiembcboaa.Sim
