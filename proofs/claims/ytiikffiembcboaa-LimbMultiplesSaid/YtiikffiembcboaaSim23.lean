/- Counters that go down; ways that meet again. -/
import Derived.Test.YtiikffiembcboaaSim22
namespace Go.Proofs.Ytiikffiembcboaa.Sim
open Go

/-- a number less one -/
def vp (r : Nat) : Value := .int .i64 ((r : Int) - 1)

theorem vp_succ (q : Nat) : vp (q + 1) = vi .i64 q := by simp only [vp, vi]; congr 1; omega
theorem flat_vp (r : Nat) : flatV (vp r) = true := rfl

section
variable {P : Program} {E : Env} {t t' : TypeId} {x y : Operand}

theorem PureOp.geP {r : Nat} (h1 : aev E x = some (vp r)) (h2 : aev E y = some (.int .i64 0)) : PureOp P (.binOp .geq t x y t') E (.bool (decide (0 < r))) :=
  PureOp.bin h1 h2 (by simp only [evalBin, Option.some.injEq, Value.bool.injEq]; rw [Bool.eq_iff_iff]; simp; omega)

theorem PureOp.subP {a : Nat} (h1 : aev E x = some (vi .i64 a)) (h2 : aev E y = some (.int .i64 1)) (h : a < 9223372036854775808) : PureOp P (.binOp .sub t x y t') E (vp a) :=
  PureOp.bin h1 h2 (by simp only [evalBin, vp]; rw [IntWalk.i64_in _ (by omega)])

/-- a part of a block is looked at: no effect -/
theorem AW.seqJ {n m : Nat} {σ : ASt} {Q : Exit → ASt → Prop} {c y : Code} (I : ASt → Prop) (h : AW P n m c σ (thenA (fun σ' => ∃ fm τ, Wk m fm σ' τ ∧ I τ) Q)) (h2 : ∀ τ, I τ → AW P n m y τ Q) : AW P n m (.seq c y) σ Q :=
  AW.seq (AW.mono h fun e σ' hq => by
    cases e with
    | normal => obtain ⟨fm, τ, hw, hI⟩ := hq; exact AW.weaken hw (h2 τ hI)
    | _ => exact hq)

theorem AW.joinT {n m : Nat} {σ : ASt} {Q : Exit → ASt → Prop} {c y : Code} (I : ASt → Prop) (h : AW P n m c σ (thenA (fun σ' => ∃ fm τ, Wk m fm σ' τ ∧ I τ) Q)) (h2 : ∀ τ, I τ → AW P n m y τ Q) :
    AW P n m c σ (thenA (fun σ' => AW P n m y σ' Q) Q) :=
  AW.mono h fun e σ' hq => by
    cases e with
    | normal => obtain ⟨fm, τ, hw, hI⟩ := hq; exact AW.weaken hw (h2 τ hI)
    | _ => exact hq
end

end Go.Proofs.Ytiikffiembcboaa.Sim
