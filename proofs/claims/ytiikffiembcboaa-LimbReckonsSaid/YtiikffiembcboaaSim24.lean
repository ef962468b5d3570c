/- Slices and nil; tables of bytes. -/
import Derived.Test.YtiikffiembcboaaSim23
namespace Go.Proofs.Ytiikffiembcboaa.Sim
open Go
section
variable {P : Program} {E : Env}

theorem run_slNil' (d : Nat) {t e : TypeId} (a : Addr) (n c : Nat) (h : P.underlying t = some (.slice e)) (w : World) : (Op.equalIn (d + 1) t (.slice (some a) n c) (.slice none 0 0)).run P w = .ok false w := by
  simp [Op.equalIn, run_underlying h]
theorem run_slNil {t e : TypeId} (a : Addr) (n c : Nat) (h : P.underlying t = some (.slice e)) (w : World) : (Op.equal t (.slice (some a) n c) (.slice none 0 0)).run P w = .ok false w := run_slNil' 9999 a n c h w

theorem PureOp.slEqNil {t t' e : TypeId} {x : Operand} {id o n : Nat} (hu : P.underlying t = some (.slice e)) (h1 : aev E x = some (.slice (some ⟨id, o, none⟩) n 0)) (hn : n ≠ 0) :
    PureOp P (.binOp .eql t x (.const (.slice none 0 0)) t') E (.bool false) := fun D ρ ev hx => by
  have e2 : ev (.const (.slice none 0 0)) = .slice none 0 0 := flat_inv (hx (.const (.slice none 0 0)) (by simp [Op.operands]) _ rfl) rfl
  rcases slice_inv (hx x (by simp [Op.operands]) _ h1) with ⟨c, e1, _, _, _⟩ | ⟨h0, _⟩
  · exact ⟨_, .flat _ rfl, fun _ _ _ _ _ w => by simp [execOp, e1, e2, eqGuard, binOp, run_slNil _ _ _ hu]⟩
  · exact absurd h0 hn
end
end Go.Proofs.Ytiikffiembcboaa.Sim
