/- A block under another name; parts of slices. -/
import Derived.Test.YtiikffiembcboaaSim18
namespace Go.Proofs.Ytiikffiembcboaa.Sim
open Go

/-- a block goes over to a new name, with the slice that is seen of it -/
theorem AW.move {P : Program} {n m : Nat} {c : Code} {E : Env} {M : Mem} {Q : Exit → ASt → Prop} (id nid t : Nat) {b : Blk} {k o : Nat} (hid : M id = some b) (hn : M nid = none)
    (ht : E t = some (.slice (some ⟨id, o, none⟩) k 0))
    (h : AW P n m c ⟨upd E t (.slice (some ⟨nid, o, none⟩) k 0), upd (upd M id ⟨[], false, b.es⟩) nid b⟩ Q) : AW P n m c ⟨E, M⟩ Q := by
  intro C hC hm ρ a w hR
  obtain ⟨ρ', hR', hρ, hρ'⟩ := hR.move hid hn
  refine h C hC hm ρ' a w ⟨hR'.size, hR'.defers, fun t' v hv => ?_, hR'.mem, hR'.agree, hR'.low, hR'.own, hR'.frame⟩
  simp only [upd] at hv
  by_cases htt : t' = t
  · rw [if_pos htt] at hv; cases hv; subst htt
    obtain ⟨u, hu, hr⟩ := hR.env _ _ ht
    refine ⟨u, hu, ?_⟩
    have hd : dom (upd (upd M id (⟨[], false, b.es⟩ : Blk)) nid b) nid := ⟨b, by simp only [upd, if_true]⟩
    cases hr with
    | flat _ hf => simp [flatV] at hf
    | nilS => exact .nilS _ (by simp)
    | slice _ _ _ c hd0 h1 h2 =>
      have := VR.slice (m := .real) (ρ := ρ') nid o k c hd (by simp) (by rw [hρ]; exact h2)
      rw [hρ] at this
      exact this
  · rw [if_neg htt] at hv
    exact hR'.env t' v hv

end Go.Proofs.Ytiikffiembcboaa.Sim
