/- More operations: parts of arrays and structs that are values. -/
import Derived.Test.YtiikffiembcboaaSim21
namespace Go.Proofs.Ytiikffiembcboaa.Sim
open Go

theorem agg_inv {D : Nat → Prop} {ρ : Rho} {cs : Array Value} {u : Value} (h : VR .real D ρ (.agg cs) u) : ∃ ys, u = .agg ys ∧ cs.size = ys.size ∧ ∀ (k : Nat) (x y : Value), cs[k]? = some x → ys[k]? = some y → VR .real D ρ x y := by
  cases h with
  | flat _ hf => simp [flatV] at hf
  | agg _ ys hs h => exact ⟨ys, rfl, hs, h⟩

section
variable {P : Program} {T : Tab} (H : TabOk P T) {E : Env}
include H

theorem TabOk.isAgg {t : TypeId} {b : Bool} (ht : T.agg.lookup t = some b) (w : World) : (Go.isAgg t).run P w = .ok b w := by
  rw [run_agg (H.agg t _ ht).1, (H.agg t _ ht).2]

/-- an element of an array that is a value -/
theorem PureOp.idxV {x ix : Operand} {t e : TypeId} {n j : Nat} {cs : Array Value} {v : Value} {kd : IntKind} (hx : aev E x = some (.agg cs)) (hi : aev E ix = some (.int kd (j : Nat))) (ht : T.arr.lookup t = some (n, e))
    (hs : T.sz.lookup e = some 1) (ha : T.agg.lookup e = some false) (hj : j < n) (hv : cs[j]? = some v) : PureOp P (.index t x ix) E v := fun D ρ ev hev => by
  obtain ⟨ys, e1, hsz, hrel⟩ := agg_inv (hev x (by simp [Op.operands]) _ hx)
  have e2 := flat_inv (hev ix (by simp [Op.operands]) _ hi) rfl
  have hlt : j < cs.size := get_lt hv
  obtain ⟨y, hy⟩ := exists_get hlt hsz
  refine ⟨y, hrel j v y hv hy, fun _ _ _ _ _ w => ?_⟩
  simp [execOp, e1, e2, Instr.index, asIntOf, run_underlying (H.arr t _ _ ht), hj, run_size (H.sz e _ hs), part, TabOk.isAgg H ha, hy]

theorem PureOp.idxVM {α : Type} {f : α → Value} {l : List α} (dflt : α) {x ix : Operand} {t e : TypeId} {n j : Nat} {kd : IntKind} (hx : aev E x = some (.agg (l.map f).toArray)) (hi : aev E ix = some (.int kd (j : Nat))) (ht : T.arr.lookup t = some (n, e))
    (hs : T.sz.lookup e = some 1) (ha : T.agg.lookup e = some false) (hj : j < n) (hl : l.length = n) : PureOp P (.index t x ix) E (f (l.getD j dflt)) :=
  PureOp.idxV H hx hi ht hs ha hj (by rw [List.getElem?_toArray]; exact getM dflt (by omega))

/-- a part of a struct that is a value: itself an array or a struct -/
theorem PureOp.fldV {x : Operand} {t e : TypeId} {f o sz : Nat} {l l' : List Value} (hx : aev E x = some (.agg l.toArray)) (hf : T.fld.lookup (t, f) = some (o, e)) (hs : T.sz.lookup e = some sz) (ha : T.agg.lookup e = some true)
    (hl : (l.drop o).take sz = l') : PureOp P (.field t x f) E (.agg l'.toArray) := fun D ρ ev hev => by
  subst hl
  obtain ⟨ys, e1, hsz, hrel⟩ := agg_inv (hev x (by simp [Op.operands]) _ hx)
  obtain ⟨fs, fd, h2, h3, h4, h5⟩ := H.fld t f o e hf
  subst h4; subst h5
  have hsz' : l.length = ys.size := by simpa using hsz
  refine ⟨.agg (ys.extract fd.offset (fd.offset + sz)), .agg _ _ (by simp; omega) fun k a b h6 h7 => ?_, fun _ _ _ _ _ w => ?_⟩
  · rw [List.getElem?_toArray] at h6
    have hk : k < sz := by
      rcases Nat.lt_or_ge k sz with h | h
      · exact h
      · rw [List.getElem?_eq_none (by simp; omega)] at h6; cases h6
    rw [List.getElem?_take, if_pos hk, List.getElem?_drop] at h6
    rw [Array.getElem?_extract] at h7
    split at h7
    · exact hrel _ a b (by rw [List.getElem?_toArray]; exact h6) h7
    · cases h7
  · simp [execOp, e1, Instr.field, run_underlying h2, h3, asAgg, part, TabOk.isAgg H ha, run_size (H.sz _ _ hs)]

theorem PureOp.fldV1 {x : Operand} {t e : TypeId} {f o : Nat} {l : List Value} {v : Value} (hx : aev E x = some (.agg l.toArray)) (hf : T.fld.lookup (t, f) = some (o, e)) (ha : T.agg.lookup e = some false)
    (hl : l[o]? = some v) : PureOp P (.field t x f) E v := fun D ρ ev hev => by
  obtain ⟨ys, e1, hsz, hrel⟩ := agg_inv (hev x (by simp [Op.operands]) _ hx)
  obtain ⟨fs, fd, h2, h3, h4, h5⟩ := H.fld t f o e hf
  subst h4; subst h5
  obtain ⟨y, hy⟩ := exists_get (List.getElem?_eq_some_iff.1 hl).1 (show l.length = ys.size by simpa using hsz)
  refine ⟨y, hrel _ v y (by rw [List.getElem?_toArray]; exact hl) hy, fun _ _ _ _ _ w => ?_⟩
  simp [execOp, e1, Instr.field, run_underlying h2, h3, asAgg, part, TabOk.isAgg H ha, hy]

omit H in
/-- a byte of a string -/
theorem PureOp.idxStr {x ix : Operand} {t : TypeId} {s : ByteArray} {j : Nat} {b : UInt8} {kd : IntKind} (hx : aev E x = some (.string s)) (hi : aev E ix = some (.int kd (j : Nat))) (ht : P.underlying t = some .string) (hb : s[j]? = some b) :
    PureOp P (.index t x ix) E (vi .u8 b.toNat) := fun D ρ ev hev => by
  have e1 := flat_inv (hev x (by simp [Op.operands]) _ hx) rfl
  have e2 := flat_inv (hev ix (by simp [Op.operands]) _ hi) rfl
  refine ⟨_, .flat _ rfl, fun _ _ _ _ _ w => ?_⟩
  simp [execOp, e1, e2, Instr.index, asIntOf, run_underlying ht, hb, vi]

omit H in
theorem PureOp.negU {x : Operand} {t : TypeId} {k : IntKind} {a : Nat} (m : Nat) (hx : aev E x = some (vi k a)) (hs : k.signed = false) (hm : 2 ^ k.bits = m) (ha : a ≤ m) : PureOp P (.unOp .neg t x) E (vi k ((m - a) % m)) :=
  (PureOp.neg hx).mono (by
    simp only [vi, Value.int.injEq, true_and]
    rw [← wrap_uns hs hm]
    subst hm
    simp only [IntKind.wrap, hs, Bool.false_and, Bool.false_eq_true, if_false]
    rw [Int.natCast_sub ha]
    have e : (((2 ^ k.bits : Nat) : Int) - a) = (0 - a) + (2 ^ k.bits : Int) := by simp; omega
    rw [e, Int.add_emod_right])

end
end Go.Proofs.Ytiikffiembcboaa.Sim
