/- Arrays of numbers, and structs of one such, compared. -/
import Derived.Test.YtiikffiembcboaaSim24
import Derived.Laws.StructEq
import Derived.ChangeKeysEq
namespace Go.Proofs.Ytiikffiembcboaa.Sim
open Go
section
variable {P : Program}

theorem run_eqItems_ints (d : Nat) {e : TypeId} {k : IntKind} (he : P.underlying e = some (.int k)) (hc : P.cellsOf e = 1) (l l' : List Nat) (w : World) : ∀ (is : List Nat), (∀ i ∈ is, i < l.length ∧ i < l'.length) →
    (Op.eqItems (d + 1) e (P.cellsOf e) (l.map (vi k)).toArray (l'.map (vi k)).toArray is).run P w = .ok (is.all fun i => l.getD i 0 == l'.getD i 0) w
  | [], _ => by simp [Op.eqItems]
  | i :: is, h => by
    obtain ⟨h1, h2⟩ := h i (List.mem_cons_self ..)
    have ih := run_eqItems_ints d he hc l l' w is fun j hj => h j (List.mem_cons_of_mem _ hj)
    have a1 : ((l.map (vi k)).toArray)[i]? = some (vi k (l.getD i 0)) := by rw [List.getElem?_toArray]; exact getM 0 h1
    have a2 : ((l'.map (vi k)).toArray)[i]? = some (vi k (l'.getD i 0)) := by rw [List.getElem?_toArray]; exact getM 0 h2
    have hp : ∀ (cs : Array Value) (v : Value), cs[i]? = some v → (part e cs i).run P w = .ok v w := fun cs v hv => by simp [part, isAgg, run_underlying he, hv]
    have e3 : (Op.equalIn (d + 1) e (vi k (l.getD i 0)) (vi k (l'.getD i 0))).run P w = .ok (l.getD i 0 == l'.getD i 0) w := by
      simp only [Op.equalIn, vi, Sem.run_bind, run_underlying he, Result.andThen_ok, if_true, Sem.run_pure]
      congr 1
      rw [Bool.eq_iff_iff]; simp; omega
    rw [hc] at ih
    simp only [Op.eqItems, Sem.run_bind, hc, Nat.mul_one, hp _ _ a1, hp _ _ a2, e3, Result.andThen_ok, Sem.run_ite, List.all_cons]
    cases hx : (l.getD i 0 == l'.getD i 0) with
    | true => simpa using ih
    | false => simp

theorem range_all (l l' : List Nat) (n : Nat) (hl : l.length = n) (hl' : l'.length = n) : ((List.range n).all fun i => l.getD i 0 == l'.getD i 0) = decide (l = l') := by
  rw [Bool.eq_iff_iff]
  simp only [List.all_eq_true, List.mem_range, beq_iff_eq, decide_eq_true_eq]
  refine ⟨fun h => ?_, fun h i _ => by rw [h]⟩
  apply List.ext_getElem (by omega)
  intro i h1 h2
  have := h i (by omega)
  rw [List.getD_eq_getElem?_getD, List.getD_eq_getElem?_getD, List.getElem?_eq_getElem h1, List.getElem?_eq_getElem h2] at this
  exact this

theorem run_eqArr (d : Nat) {t e : TypeId} {k : IntKind} {n : Nat} (hu : P.underlying t = some (.array n e)) (he : P.underlying e = some (.int k)) (hs : (P.info? e).map (·.size) = some 1) (hc : P.cellsOf e = 1) {l l' : List Nat} (hl : l.length = n) (hl' : l'.length = n) (w : World) :
    (Op.equalIn (d + 2) t (.agg (l.map (vi k)).toArray) (.agg (l'.map (vi k)).toArray)).run P w = .ok (decide (l = l')) w := by
  obtain ⟨i, hi, _⟩ := info_of hs
  rw [run_equalIn_array w (d + 1) _ _ hu hi, run_eqItems_ints d he hc l l' w _ (fun j hj => by have := List.mem_range.1 hj; omega), range_all l l' n hl hl']

theorem run_eqSt (d : Nat) {s t e : TypeId} {k : IntKind} {n : Nat} {f : Field} (hs : P.underlying s = some (.struct #[f])) (hn : f.name ≠ "_") (hf : f.type = t) (ho : f.offset = 0) (hh : P.stoodInHeld s = false)
    (hu : P.underlying t = some (.array n e)) (he : P.underlying e = some (.int k)) (hsz : (P.info? e).map (·.size) = some 1) (hst : (P.info? t).map (·.size) = some n) (hc : P.cellsOf e = 1) {l l' : List Nat} (hl : l.length = n) (hl' : l'.length = n) (w : World) :
    (Op.equalIn (d + 3) s (.agg (l.map (vi k)).toArray) (.agg (l'.map (vi k)).toArray)).run P w = .ok (decide (l = l')) w := by
  have hfo : P.fieldsOf s = #[f] := by simp [Program.fieldsOf, hs]
  rw [run_equalIn_struct w (d + 2) s _ _ (by rw [hfo]; exact hs) hh, hfo]
  have hp : ∀ (r : List Nat), r.length = n → (part f.type (r.map (vi k)).toArray f.offset).run P w = .ok (.agg (r.map (vi k)).toArray) w := fun r hr => by
    subst hf
    simp only [part, isAgg, Sem.run_bind, run_underlying hu, Result.andThen_ok, Sem.run_pure, if_true, run_size hst, ho, Nat.zero_add]
    congr 2
    apply Array.ext'
    simp
    exact List.take_of_length_le (by simp [hr])
  simp only [Op.eqFields, if_pos hn, Sem.run_bind, hp l hl, hp l' hl', Result.andThen_ok]
  subst hf
  rw [run_eqArr d hu he hsz hc hl hl']
  cases hd : decide (l = l') <;> simp

theorem PureOp.eqSt {E : Env} {x y : Operand} {s s' t e : TypeId} {k : IntKind} {n : Nat} {f : Field} {l l' : List Nat} (h1 : aev E x = some (.agg (l.map (vi k)).toArray)) (h2 : aev E y = some (.agg (l'.map (vi k)).toArray))
    (hs : P.underlying s = some (.struct #[f])) (hn : f.name ≠ "_") (hf : f.type = t) (ho : f.offset = 0) (hh : P.stoodInHeld s = false) (hg : P.eqGuardType P.depth s = false)
    (hu : P.underlying t = some (.array n e)) (he : P.underlying e = some (.int k)) (hsz : (P.info? e).map (·.size) = some 1) (hst : (P.info? t).map (·.size) = some n) (hc : P.cellsOf e = 1) (hl : l.length = n) (hl' : l'.length = n) :
    PureOp P (.binOp .eql s x y s') E (.bool (decide (l = l'))) := fun D ρ ev hx => by
  have e1 := flat_pure_inv (hx x (by simp [Op.operands]) _ h1) (pure_aggM flat_vi)
  have e2 := flat_pure_inv (hx y (by simp [Op.operands]) _ h2) (pure_aggM flat_vi)
  refine ⟨_, .flat _ rfl, fun _ _ _ _ _ w => ?_⟩
  have hr : (Op.equal s (.agg (l.map (vi k)).toArray) (.agg (l'.map (vi k)).toArray)).run P w = .ok (decide (l = l')) w := run_eqSt 9997 hs hn hf ho hh hu he hsz hst hc hl hl' w
  simp [execOp, e1, e2, eqGuard, hg, binOp, hr]

theorem PureOp.eqArr {E : Env} {x y : Operand} {t t' e : TypeId} {k : IntKind} {n : Nat} {l l' : List Nat} (h1 : aev E x = some (.agg (l.map (vi k)).toArray)) (h2 : aev E y = some (.agg (l'.map (vi k)).toArray))
    (hg : P.eqGuardType P.depth t = false) (hu : P.underlying t = some (.array n e)) (he : P.underlying e = some (.int k)) (hsz : (P.info? e).map (·.size) = some 1) (hc : P.cellsOf e = 1) (hl : l.length = n) (hl' : l'.length = n) :
    PureOp P (.binOp .eql t x y t') E (.bool (decide (l = l'))) := fun D ρ ev hx => by
  have e1 := flat_pure_inv (hx x (by simp [Op.operands]) _ h1) (pure_aggM flat_vi)
  have e2 := flat_pure_inv (hx y (by simp [Op.operands]) _ h2) (pure_aggM flat_vi)
  refine ⟨_, .flat _ rfl, fun _ _ _ _ _ w => ?_⟩
  have hr : (Op.equal t (.agg (l.map (vi k)).toArray) (.agg (l'.map (vi k)).toArray)).run P w = .ok (decide (l = l')) w := run_eqArr 9998 hu he hsz hc hl hl' w
  simp [execOp, e1, e2, eqGuard, hg, binOp, hr]
end
end Go.Proofs.Ytiikffiembcboaa.Sim
