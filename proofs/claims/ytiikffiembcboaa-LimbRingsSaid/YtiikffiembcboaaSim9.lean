/- Short cuts for the walk. -/
import Derived.Test.YtiikffiembcboaaSim8
namespace Go.Proofs.Ytiikffiembcboaa.Sim
open Go

section
variable {P : Program} {n m : Nat} {σ : ASt} {Q : Exit → ASt → Prop}

theorem AW.seqR {id : Nat} {ops : Array Oper} {y : Code} (h : AWo P ops n 0 ops.toList σ (fun _ => True) (fun σ' => AW P n m y σ' Q)) : AW P n m (.seq (.region id ops false) y) σ Q :=
  AW.seq (AW.region h)

theorem AW.seqD (hm : P.follows .mixedOrders = true) {id : Nat} {ops : Array Oper} {y : Code}
    (h : AWo P ops n 0 ops.toList σ (fun es => drawB ops (es.map dat) = true) (fun σ' => AW P n m y σ' Q)) : AW P n m (.seq (.region id ops true) y) σ Q :=
  AW.seq (AW.draw hm h)

theorem roundsA_succ {c : Code} {k : Nat} (h : AW P n m c σ (thenA (roundsA P n m c Q k) Q)) : roundsA P n m c Q (k + 1) σ := h

theorem thenA_normal {Y : ASt → Prop} (h : Y σ) : thenA Y Q .normal σ := h
theorem thenA_exit {Y : ASt → Prop} {id : Nat} (h : Q (.exit id) σ) : thenA Y Q (.exit id) σ := h
theorem thenA_ret {Y : ASt → Prop} (h : Q .ret σ) : thenA Y Q .ret σ := h
theorem thenA_goto {Y : ASt → Prop} {l : Nat} (h : Q (.goto l) σ) : thenA Y Q (.goto l) σ := h
theorem inBlockA_normal {id : Nat} (h : Q .normal σ) : inBlockA id Q .normal σ := h
theorem inBlockA_ret {id : Nat} (h : Q .ret σ) : inBlockA id Q .ret σ := h
theorem inBlockA_goto {id l : Nat} (h : Q (.goto l) σ) : inBlockA id Q (.goto l) σ := h
theorem inBlockA_hit {id : Nat} (h : Q .normal σ) : inBlockA id Q (.exit id) σ := by simp only [inBlockA, if_true]; exact h
theorem inBlockA_miss {id id' : Nat} (hne : id' ≠ id) (h : Q (.exit id') σ) : inBlockA id Q (.exit id') σ := by simp only [inBlockA, if_neg hne]; exact h

theorem AW.condT {c : Operand} {x y : Code} (hc : aev σ.env c = some (.bool true)) (h : AW P n m x σ Q) : AW P n m (.cond c x y) σ Q := AW.cond hc (fun _ => h) (fun h => by cases h)
theorem AW.condF {c : Operand} {x y : Code} (hc : aev σ.env c = some (.bool false)) (h : AW P n m y σ Q) : AW P n m (.cond c x y) σ Q := AW.cond hc (fun h => by cases h) (fun _ => h)

theorem AW.condB {c : Operand} {x y : Code} {b b' : Bool} (hc : aev σ.env c = some (.bool b)) (hb : b = b') (h : AW P n m (if b' then x else y) σ Q) : AW P n m (.cond c x y) σ Q := by
  subst hb
  exact AW.cond hc (fun h1 => by subst h1; exact h) (fun h1 => by subst h1; exact h)
end
end Go.Proofs.Ytiikffiembcboaa.Sim
