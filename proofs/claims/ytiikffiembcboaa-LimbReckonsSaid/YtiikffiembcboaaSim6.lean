/- The operations that touch no memory. -/
import Derived.Test.YtiikffiembcboaaSim5
import Derived.IntWalk
namespace Go.Proofs.Ytiikffiembcboaa.Sim
open Go

/-- an operation that touches no memory -/
def PureOp (P : Program) (o : Op) (E : Env) (v : Value) : Prop :=
  ∀ (D : Nat → Prop) (ρ : Rho) (e : Operand → Value), (∀ x ∈ o.operands, ∀ v', aev E x = some v' → VR .real D ρ v' (e x)) →
    ∃ u, VR .real D ρ v u ∧ ∀ (d : Option Tmp) (ty : TypeId) (ps : String) (af : Array Edge) (g : Option (Nat × Bool)) (w : World), (execOp e ⟨d, o, ty, ps, af, g⟩).run P w = .ok (.value u) w

theorem PureOp.step {P : Program} {o : Op} {E : Env} {M : Mem} {v : Value} (h : PureOp P o E v) {d : Option Tmp} {ty : TypeId} {ps : String} {af : Array Edge} {g : Option (Nat × Bool)} :
    FStep P ⟨d, o, ty, ps, af, g⟩ E M v ⟨[], []⟩ := by
  intro E' M' h1 _ _ C ρ a w hR
  obtain ⟨u, hu, hrun⟩ := h (dom M') ρ a.eval (fun x hx v' hv => hR.eval (by rw [h1 x hx]; exact hv))
  unfold StepTo Oper.wp
  rw [hrun d ty ps af g w]
  exact ⟨u, rfl, ρ, hR, hu⟩

def dstB (n : Nat) : Option Tmp → Bool
  | some d => Nat.blt d n
  | none => true

theorem dstB_spec {n : Nat} {d : Option Tmp} (h : dstB n d = true) : ∀ k, d = some k → k < n := by
  rintro k rfl
  simpa [dstB] using h

section
variable {P : Program} {ops : Array Oper} {n i : Nat} {os : List Oper} {E : Env} {M : Mem} {D : List Eff → Prop} {K : ASt → Prop}
  {d : Option Tmp} {o : Op} {ty : TypeId} {ps : String} {af : Array Edge} {g : Option (Nat × Bool)}

theorem AWo.step {v : Value} {e : Eff} (hs : FStep P ⟨d, o, ty, ps, af, g⟩ E M v e) (hw : wantA ops E ⟨d, o, ty, ps, af, g⟩ = some true) (hd : dstB n d = true)
    (hn : ∀ p ∈ e.new, p.1 ∉ e.fp → M p.1 = none) (hr : AWo P ops n (i + 1) os ⟨putE E d v, upds M e.new⟩ (fun es => D (e :: es)) K) :
    AWo P ops n i (⟨d, o, ty, ps, af, g⟩ :: os) ⟨E, M⟩ D K :=
  AWo.cons v e ⟨dstB_spec hd, .inl ⟨hw, hs, hn⟩⟩ hr

theorem AWo.pure {d : Tmp} {v : Value} (hs : PureOp P o E v) (hw : wantA ops E ⟨some d, o, ty, ps, af, g⟩ = some true) (hd : Nat.blt d n = true)
    (hr : AWo P ops n (i + 1) os ⟨upd E d v, M⟩ (fun es => D (⟨[], []⟩ :: es)) K) : AWo P ops n i (⟨some d, o, ty, ps, af, g⟩ :: os) ⟨E, M⟩ D K :=
  AWo.step hs.step hw hd (fun p hp => by cases hp) hr

theorem AWo.skipped {d : Tmp} (hw : wantA ops E ⟨some d, o, ty, ps, af, g⟩ = some false) (hd : Nat.blt d n = true)
    (hr : AWo P ops n (i + 1) os ⟨upd E d undef, M⟩ (fun es => D (⟨[], []⟩ :: es)) K) : AWo P ops n i (⟨some d, o, ty, ps, af, g⟩ :: os) ⟨E, M⟩ D K :=
  AWo.cons undef ⟨[], []⟩ ⟨dstB_spec hd, .inr ⟨hw, rfl, rfl⟩⟩ hr

theorem AWo.skipped0 (hw : wantA ops E ⟨none, o, ty, ps, af, g⟩ = some false)
    (hr : AWo P ops n (i + 1) os ⟨E, M⟩ (fun es => D (⟨[], []⟩ :: es)) K) : AWo P ops n i (⟨none, o, ty, ps, af, g⟩ :: os) ⟨E, M⟩ D K :=
  AWo.cons undef ⟨[], []⟩ ⟨dstB_spec rfl, .inr ⟨hw, rfl, rfl⟩⟩ hr

end

/-! ### one by one -/
section
variable {P : Program} {E : Env}

theorem PureOp.move {x : Operand} {v : Value} (h : aev E x = some v) : PureOp P (.move x) E v := fun D ρ e hx =>
  ⟨e x, hx x (by simp [Op.operands]) v h, fun _ _ _ _ _ _ => rfl⟩

theorem PureOp.assign {x : Operand} {v : Value} (h : aev E x = some v) : PureOp P (.assign x) E v := fun D ρ e hx =>
  ⟨e x, hx x (by simp [Op.operands]) v h, fun _ _ _ _ _ _ => rfl⟩

theorem PureOp.pickT {c a b : Operand} {v : Value} (hc : aev E c = some (.bool true)) (h : aev E a = some v) : PureOp P (.pick c a b) E v := fun D ρ e hx => by
  have h1 := flat_inv (hx c (by simp [Op.operands]) _ hc) rfl
  exact ⟨e a, hx a (by simp [Op.operands]) v h, fun _ _ _ _ _ _ => by simp [execOp, h1, asBool, Bind.bind, Sem.bind, Pure.pure]⟩

theorem PureOp.pickF {c a b : Operand} {v : Value} (hc : aev E c = some (.bool false)) (h : aev E b = some v) : PureOp P (.pick c a b) E v := fun D ρ e hx => by
  have h1 := flat_inv (hx c (by simp [Op.operands]) _ hc) rfl
  exact ⟨e b, hx b (by simp [Op.operands]) v h, fun _ _ _ _ _ _ => by simp [execOp, h1, asBool, Bind.bind, Sem.bind, Pure.pure]⟩

theorem PureOp.extract {t : Operand} {ix : Nat} {vs : Array Value} {v : Value} (ht : aev E t = some (.tuple vs)) (h : vs[ix]? = some v) : PureOp P (.extract t ix) E v := fun D ρ e hx => by
  have h1 := hx t (by simp [Op.operands]) _ ht
  generalize hu : e t = u at h1
  cases h1 with
  | flat _ hf =>
    simp only [flatV, Array.isEmpty_iff] at hf
    subst hf; simp at h
  | tuple _ ys hs hh =>
    have hlt : ix < vs.size := get_lt h
    obtain ⟨y, hy⟩ := exists_get hlt hs
    exact ⟨y, hh ix v y h hy, fun _ _ _ _ _ _ => by simp [execOp, hu, Instr.extract, hy, Bind.bind, Sem.bind, Pure.pure]⟩

def evalBin : BinOp → IntKind → Int → Int → Option Value
  | .add, k, a, b => some (.int k (k.wrap (a + b)))
  | .sub, k, a, b => some (.int k (k.wrap (a - b)))
  | .mul, k, a, b => some (.int k (k.wrap (a * b)))
  | .and, k, a, b => some (.int k (k.wrap (BitVec.ofInt k.bits a &&& BitVec.ofInt k.bits b).toNat))
  | .or, k, a, b => some (.int k (k.wrap (BitVec.ofInt k.bits a ||| BitVec.ofInt k.bits b).toNat))
  | .xor, k, a, b => some (.int k (k.wrap (BitVec.ofInt k.bits a ^^^ BitVec.ofInt k.bits b).toNat))
  | .andNot, k, a, b => some (.int k (k.wrap (BitVec.ofInt k.bits a &&& ~~~BitVec.ofInt k.bits b).toNat))
  | .eql, _, a, b => some (.bool (a == b))
  | .neq, _, a, b => some (.bool (a != b))
  | .lss, _, a, b => some (.bool (decide (a < b)))
  | .leq, _, a, b => some (.bool (decide (a ≤ b)))
  | .gtr, _, a, b => some (.bool (decide (a > b)))
  | .geq, _, a, b => some (.bool (decide (a ≥ b)))
  | _, _, _, _ => none

theorem PureOp.bin {op : BinOp} {t t' : TypeId} {x y : Operand} {k : IntKind} {a b : Int} {v : Value} (h1 : aev E x = some (.int k a)) (h2 : aev E y = some (.int k b))
    (h : evalBin op k a b = some v) : PureOp P (.binOp op t x y t') E v := fun D ρ e hx => by
  have e1 := flat_inv (hx x (by simp [Op.operands]) _ h1) rfl
  have e2 := flat_inv (hx y (by simp [Op.operands]) _ h2) rfl
  refine ⟨v, ?_, fun _ _ _ _ _ w => ?_⟩
  · cases op <;> simp only [evalBin, Option.some.injEq, reduceCtorEq] at h <;> subst h <;> exact .flat _ rfl
  · cases op <;> simp only [evalBin, Option.some.injEq, reduceCtorEq] at h <;> subst h <;>
      simp [execOp, e1, e2, eqGuard, binOp, Op.intArith, Op.intBits, Op.intCmp, Bind.bind, Sem.bind, Pure.pure]

theorem PureOp.quo {t t' : TypeId} {x y : Operand} {k : IntKind} {a b : Int} (h1 : aev E x = some (.int k a)) (h2 : aev E y = some (.int k b)) (hb : b ≠ 0) :
    PureOp P (.binOp .quo t x y t') E (.int k (k.wrap (a.tdiv b))) := fun D ρ e hx => by
  have e1 := flat_inv (hx x (by simp [Op.operands]) _ h1) rfl
  have e2 := flat_inv (hx y (by simp [Op.operands]) _ h2) rfl
  exact ⟨_, .flat _ rfl, fun _ _ _ _ _ w => by simp [execOp, e1, e2, eqGuard, binOp, Op.intDiv, hb, Bind.bind, Sem.bind, Pure.pure]⟩

theorem PureOp.rem {t t' : TypeId} {x y : Operand} {k : IntKind} {a b : Int} (h1 : aev E x = some (.int k a)) (h2 : aev E y = some (.int k b)) (hb : b ≠ 0) :
    PureOp P (.binOp .rem t x y t') E (.int k (a.tmod b)) := fun D ρ e hx => by
  have e1 := flat_inv (hx x (by simp [Op.operands]) _ h1) rfl
  have e2 := flat_inv (hx y (by simp [Op.operands]) _ h2) rfl
  exact ⟨_, .flat _ rfl, fun _ _ _ _ _ w => by simp [execOp, e1, e2, eqGuard, binOp, Op.intDiv, hb, Bind.bind, Sem.bind, Pure.pure]⟩

theorem PureOp.shl {t t' : TypeId} {x y : Operand} {k k' : IntKind} {a b : Int} (h1 : aev E x = some (.int k a)) (h2 : aev E y = some (.int k' b)) (hb : 0 ≤ b) :
    PureOp P (.binOp .shl t x y t') E (.int k (k.wrap (a * 2 ^ (min b.toNat k.bits)))) := fun D ρ e hx => by
  have e1 := flat_inv (hx x (by simp [Op.operands]) _ h1) rfl
  have e2 := flat_inv (hx y (by simp [Op.operands]) _ h2) rfl
  have hb' : ¬ b < 0 := by omega
  exact ⟨_, .flat _ rfl, fun _ _ _ _ _ w => by simp [execOp, e1, e2, eqGuard, binOp, Op.shift, hb', Bind.bind, Sem.bind, Pure.pure]⟩

theorem PureOp.shr {t t' : TypeId} {x y : Operand} {k k' : IntKind} {a b : Int} (h1 : aev E x = some (.int k a)) (h2 : aev E y = some (.int k' b)) (hb : 0 ≤ b) :
    PureOp P (.binOp .shr t x y t') E (.int k (a.fdiv (2 ^ (min b.toNat k.bits)))) := fun D ρ e hx => by
  have e1 := flat_inv (hx x (by simp [Op.operands]) _ h1) rfl
  have e2 := flat_inv (hx y (by simp [Op.operands]) _ h2) rfl
  have hb' : ¬ b < 0 := by omega
  exact ⟨_, .flat _ rfl, fun _ _ _ _ _ w => by simp [execOp, e1, e2, eqGuard, binOp, Op.shift, hb', Bind.bind, Sem.bind, Pure.pure]⟩

theorem run_size {t : TypeId} {sz : Nat} (h : (P.info? t).map (·.size) = some sz) (w : World) : (sizeOf t).run P w = .ok sz w := by
  cases hi : P.info? t with
  | none => rw [hi] at h; cases h
  | some i =>
    rw [hi] at h
    simp only [Option.map_some, Option.some.injEq] at h
    simp [sizeOf, typeInfo, hi, h]

def aggB (P : Program) (t : TypeId) : Bool :=
  match P.underlying t with
  | some (.struct _) => true
  | some (.array _ _) => true
  | _ => false

theorem run_agg {t : TypeId} (h : (P.underlying t).isSome = true) (w : World) : (isAgg t).run P w = .ok (aggB P t) w := by
  obtain ⟨dsc, hd⟩ := Option.isSome_iff_exists.mp h
  simp only [isAgg, aggB, Sem.run_bind, run_underlying hd, Result.andThen_ok, hd]
  cases dsc <;> rfl

theorem slice_inv {D : Nat → Prop} {ρ : Rho} {i o n : Nat} {u : Value} (h : VR .real D ρ (.slice (some ⟨i, o, none⟩) n 0) u) :
    (∃ c, u = .slice (some ⟨(ρ i).blk, (ρ i).off + o, none⟩) n c ∧ n ≤ c ∧ D i ∧ ∀ L, (ρ i).lim = some L → (ρ i).off + o + c * (ρ i).es ≤ L) ∨ (n = 0 ∧ u = .slice none 0 0) := by
  cases h with
  | flat _ hf => simp [flatV] at hf
  | slice _ _ _ c hd h1 h2 => exact .inl ⟨c, rfl, (h2 rfl).1, hd, (h2 rfl).2⟩
  | nilS => exact .inr ⟨rfl, rfl⟩

theorem ptr_inv {D : Nat → Prop} {ρ : Rho} {i o : Nat} {u : Value} (h : VR .real D ρ (.pointer (some ⟨i, o, none⟩)) u) :
    u = .pointer (some ⟨(ρ i).blk, (ρ i).off + o, none⟩) ∧ D i := by
  cases h with
  | flat _ hf => simp [flatV] at hf
  | ptr _ _ hd => exact ⟨rfl, hd⟩

theorem any_slice_inv {D : Nat → Prop} {ρ : Rho} {p : Option Addr} {n c : Nat} {u : Value} (h : VR .real D ρ (.slice p n c) u) : ∃ q c', u = .slice q n c' := by
  cases h with
  | flat => exact ⟨_, _, rfl⟩
  | slice => exact ⟨_, _, rfl⟩
  | nilS => exact ⟨_, _, rfl⟩
  | dead => exact ⟨_, _, rfl⟩

theorem PureOp.conv {s t : TypeId} {x : Operand} {k k' : IntKind} {a : Int} (h1 : aev E x = some (.int k a)) (hs : (P.underlying s).isSome = true) (ht : P.underlying t = some (.int k')) :
    PureOp P (.convert s t x) E (.int k' (k'.wrap a)) := fun D ρ e hx => by
  have e1 := flat_inv (hx x (by simp [Op.operands]) _ h1) rfl
  obtain ⟨ds, hds⟩ := Option.isSome_iff_exists.mp hs
  exact ⟨_, .flat _ rfl, fun _ _ _ _ _ w => by simp [execOp, e1, convert, run_underlying ht, run_underlying hds, Conv.intToInt]⟩

theorem PureOp.not {t : TypeId} {x : Operand} {b : Bool} (h1 : aev E x = some (.bool b)) : PureOp P (.unOp .not t x) E (.bool (!b)) := fun D ρ e hx => by
  have e1 := flat_inv (hx x (by simp [Op.operands]) _ h1) rfl
  exact ⟨_, .flat _ rfl, fun _ _ _ _ _ w => by simp [execOp, e1, Op.unary]⟩

theorem PureOp.neg {t : TypeId} {x : Operand} {k : IntKind} {a : Int} (h1 : aev E x = some (.int k a)) : PureOp P (.unOp .neg t x) E (.int k (k.wrap (0 - a))) := fun D ρ e hx => by
  have e1 := flat_inv (hx x (by simp [Op.operands]) _ h1) rfl
  exact ⟨_, .flat _ rfl, fun _ _ _ _ _ w => by simp [execOp, e1, Op.unary, Op.intArith]⟩

theorem PureOp.len {x : Operand} {t e : TypeId} {p : Option Addr} {n c : Nat} (h1 : aev E x = some (.slice p n c)) (ht : P.underlying t = some (.slice e)) :
    PureOp P (.call ⟨.builtin .len, #[x], #[t]⟩) E (.int .i64 n) := fun D ρ ev hx => by
  obtain ⟨q, c', e1⟩ := any_slice_inv (hx x (by simp [Op.operands, Call.operands]) _ h1)
  exact ⟨_, .flat _ rfl, fun _ _ _ _ _ w => by simp [execOp, resolve, e1, invoke, builtin, Builtin.len_, run_underlying ht, goInt]⟩

theorem PureOp.lenStr {x : Operand} {t : TypeId} {b : ByteArray} (h1 : aev E x = some (.string b)) (ht : P.underlying t = some .string) :
    PureOp P (.call ⟨.builtin .len, #[x], #[t]⟩) E (.int .i64 b.size) := fun D ρ ev hx => by
  have e1 := flat_inv (hx x (by simp [Op.operands, Call.operands]) _ h1) rfl
  exact ⟨_, .flat _ rfl, fun _ _ _ _ _ w => by simp [execOp, resolve, e1, invoke, builtin, Builtin.len_, run_underlying ht, goInt]⟩

theorem PureOp.max {x y : Operand} {ts : Array TypeId} {k : IntKind} {a b : Int} (h1 : aev E x = some (.int k a)) (h2 : aev E y = some (.int k b)) :
    PureOp P (.call ⟨.builtin .max, #[x, y], ts⟩) E (.int k (if b > a then b else a)) := fun D ρ ev hx => by
  have e1 := flat_inv (hx x (by simp [Op.operands, Call.operands]) _ h1) rfl
  have e2 := flat_inv (hx y (by simp [Op.operands, Call.operands]) _ h2) rfl
  exact ⟨_, .flat _ rfl, fun _ _ _ _ _ w => by simp [execOp, resolve, e1, e2, invoke, builtin, Builtin.max_, Builtin.max2]⟩

theorem PureOp.min {x y : Operand} {ts : Array TypeId} {k : IntKind} {a b : Int} (h1 : aev E x = some (.int k a)) (h2 : aev E y = some (.int k b)) :
    PureOp P (.call ⟨.builtin .min, #[x, y], ts⟩) E (.int k (if b < a then b else a)) := fun D ρ ev hx => by
  have e1 := flat_inv (hx x (by simp [Op.operands, Call.operands]) _ h1) rfl
  have e2 := flat_inv (hx y (by simp [Op.operands, Call.operands]) _ h2) rfl
  exact ⟨_, .flat _ rfl, fun _ _ _ _ _ w => by simp [execOp, resolve, e1, e2, invoke, builtin, Builtin.min_, Builtin.min2]⟩

theorem addr_add (b o n : Nat) : (⟨b, o, none⟩ : Addr).add n = ⟨b, o + n, none⟩ := by
  unfold Addr.add
  split
  · rename_i h; subst h; rfl
  · rfl

theorem PureOp.indexAddr {x ix : Operand} {t e : TypeId} {id o n sz : Nat} {k : IntKind} {i : Int} (h1 : aev E x = some (.slice (some ⟨id, o, none⟩) n 0)) (h2 : aev E ix = some (.int k i))
    (ht : P.underlying t = some (.slice e)) (hs : (P.info? e).map (·.size) = some sz) (hi : 0 ≤ i ∧ i < n) :
    PureOp P (.indexAddr t x ix) E (.pointer (some ⟨id, o + i.toNat * sz, none⟩)) := fun D ρ ev hx => by
  obtain ⟨c, e1, _, hd, _⟩ | ⟨hn0, _⟩ := slice_inv (hx x (by simp [Op.operands]) _ h1)
  case inr => omega
  have e2 := flat_inv (hx ix (by simp [Op.operands]) _ h2) rfl
  refine ⟨_, .ptr id (o + i.toNat * sz) hd, fun _ _ _ _ _ w => ?_⟩
  simp [execOp, e1, e2, Instr.indexAt, asIntOf, run_underlying ht, run_size hs, hi, addr_add, Nat.add_assoc]

theorem PureOp.indexAddrArr {x ix : Operand} {t e : TypeId} {id o n sz : Nat} {k : IntKind} {i : Int} (h1 : aev E x = some (.pointer (some ⟨id, o, none⟩))) (h2 : aev E ix = some (.int k i))
    (ht : P.underlying t = some (.array n e)) (hs : (P.info? e).map (·.size) = some sz) (hi : 0 ≤ i ∧ i < n) :
    PureOp P (.indexAddr t x ix) E (.pointer (some ⟨id, o + i.toNat * sz, none⟩)) := fun D ρ ev hx => by
  obtain ⟨e1, hd⟩ := ptr_inv (hx x (by simp [Op.operands]) _ h1)
  have e2 := flat_inv (hx ix (by simp [Op.operands]) _ h2) rfl
  refine ⟨_, .ptr id (o + i.toNat * sz) hd, fun _ _ _ _ _ w => ?_⟩
  simp [execOp, e1, e2, Instr.indexAt, asIntOf, Instr.sureAddr, run_underlying ht, run_size hs, hi, addr_add, Nat.add_assoc]

theorem PureOp.fieldAddr {x : Operand} {t : TypeId} {id o f sz : Nat} {fs : Array Field} {fd : Field} (h1 : aev E x = some (.pointer (some ⟨id, o, none⟩)))
    (ht : P.underlying t = some (.struct fs)) (hf : fs[f]? = some fd) (hs : (P.info? fd.type).map (·.size) = some sz) (h0 : sz ≠ 0) :
    PureOp P (.fieldAddr t x f) E (.pointer (some ⟨id, o + fd.offset, none⟩)) := fun D ρ ev hx => by
  obtain ⟨e1, hd⟩ := ptr_inv (hx x (by simp [Op.operands]) _ h1)
  refine ⟨_, .ptr id (o + fd.offset) hd, fun _ _ _ _ _ w => ?_⟩
  simp [execOp, e1, Instr.fieldAt, Instr.sureAddr, run_underlying ht, hf, fieldPlace, run_size hs, h0, addr_add, Nat.add_assoc]

theorem PureOp.nilCheck {x : Operand} {id o : Nat} (h1 : aev E x = some (.pointer (some ⟨id, o, none⟩))) : PureOp P (.nilCheck x) E (.pointer (some ⟨id, o, none⟩)) := fun D ρ ev hx => by
  obtain ⟨e1, hd⟩ := ptr_inv (hx x (by simp [Op.operands]) _ h1)
  exact ⟨_, .ptr id o hd, fun _ _ _ _ _ w => by simp [execOp, e1]⟩

theorem PureOp.nilCheckF {x : Operand} {f : FuncId} {xs ys : Array Value} (h1 : aev E x = some (.func (.func f) xs ys)) : PureOp P (.nilCheck x) E (.func (.func f) xs ys) := fun D ρ ev hx => by
  have h := hx x (by simp [Op.operands]) _ h1
  generalize hu : ev x = u at h
  refine ⟨u, h, fun _ _ _ _ _ w => ?_⟩
  cases h <;> simp [execOp, hu]

theorem PureOp.makeFunc {fn : Fn} {first captured : Array Operand} {xs ys : Array Value} (hf : okFn fn = true)
    (h1 : first.map (aev E) = xs.map some) (h2 : captured.map (aev E) = ys.map some) : PureOp P (.makeFunc fn first captured) E (.func fn xs ys) := fun D ρ ev hx => by
  have hrel : ∀ (ops : Array Operand) (vs : Array Value), ops.map (aev E) = vs.map some → (∀ x ∈ ops, x ∈ first ++ captured) →
      vs.size = (ops.map ev).size ∧ ∀ (k : Nat) (x y : Value), vs[k]? = some x → (ops.map ev)[k]? = some y → VR .real D ρ x y := by
    intro ops vs h hm
    have hs : ops.size = vs.size := by simpa using congrArg Array.size h
    refine ⟨by simp [hs], fun k x y hx' hy => ?_⟩
    have hk : k < vs.size := get_lt hx'
    have e0 : (ops.map (aev E))[k]? = (vs.map some)[k]? := by rw [h]
    simp only [Array.getElem?_map, hx', Option.map_some] at e0 hy
    rw [Array.getElem?_eq_getElem (by omega)] at e0 hy
    simp only [Option.map_some, Option.some.injEq] at e0 hy
    rw [← hy]
    exact hx _ (by simpa [Op.operands] using hm _ (Array.getElem_mem (by omega))) x e0
  obtain ⟨a1, a2⟩ := hrel first xs h1 (fun x hx => by simp [hx])
  obtain ⟨b1, b2⟩ := hrel captured ys h2 (fun x hx => by simp [hx])
  exact ⟨_, .func fn xs _ ys _ hf a1 b1 a2 b2, fun _ _ _ _ _ w => by simp [execOp, Instr.makeFunc]⟩

end
end Go.Proofs.Ytiikffiembcboaa.Sim
