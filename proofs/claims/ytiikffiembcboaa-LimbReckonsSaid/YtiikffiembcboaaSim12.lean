/- Helpers for printed walks. -/
import Derived.Test.YtiikffiembcboaaSim11
namespace Go.Proofs.Ytiikffiembcboaa.Sim
open Go

def vi (k : IntKind) (n : Nat) : Value := .int k n

theorem flat_vi {k : IntKind} (n : Nat) : flatV (vi k n) = true := rfl
theorem flat_bool (b : Bool) : flatV (.bool b) = true := rfl

inductive RVs (P : Program) (σ : ASt) : List ResultVar → List Value → Prop
  | nil : RVs P σ [] []
  | tmp {t : Nat} {v : Value} {r : List ResultVar} {vs : List Value} (h : σ.env t = some v) (hr : RVs P σ r vs) : RVs P σ (.tmp t :: r) (v :: vs)
  | val {r0 : ResultVar} {v : Value} {r : List ResultVar} {vs : List Value} (h : RVal P σ r0 v) (hr : RVs P σ r vs) : RVs P σ (r0 :: r) (v :: vs)

theorem RVs.get {P : Program} {σ : ASt} {rs : List ResultVar} {vs : List Value} (h : RVs P σ rs vs) : rs.length = vs.length ∧ ∀ (k : Nat) (r : ResultVar) (v : Value), rs[k]? = some r → vs[k]? = some v → RVal P σ r v := by
  induction h with
  | nil => exact ⟨rfl, fun k r v h => by simp at h⟩
  | tmp h _ ih =>
    refine ⟨by simp [ih.1], fun k r v hr hv => ?_⟩
    cases k with
    | zero => simp at hr hv; subst hr; subst hv; exact RVal.tmp h
    | succ k => exact ih.2 k r v (by simpa using hr) (by simpa using hv)
  | val h _ ih =>
    refine ⟨by simp [ih.1], fun k r v hr hv => ?_⟩
    cases k with
    | zero => simp at hr hv; subst hr; subst hv; exact h
    | succ k => exact ih.2 k r v (by simpa using hr) (by simpa using hv)

theorem RVal.cellAll {P : Program} {T : Tab} (H : TabOk P T) {σ : ASt} {x id sz : Nat} {t : TypeId} {cells : List Value} {rw : Bool} {es : Nat} (h : σ.env x = some (.pointer (some ⟨id, 0, none⟩))) (hb : σ.mem id = some ⟨cells, rw, es⟩)
    (ht : T.agg.lookup t = some true) (hs : T.sz.lookup t = some sz) (hl : cells.length = sz) : RVal P σ (.cell x t) (.agg cells.toArray) := by
  have := RVal.cellAgg (P := P) (σ := σ) (x := x) (o := 0) (sz := sz) h hb (H.agg t _ ht).1 (H.agg t _ ht).2 (H.sz t _ hs) (by simp only; omega)
  simp only [List.drop_zero] at this
  rwa [List.take_of_length_le (by omega)] at this

theorem RVal.cell1 {P : Program} {T : Tab} (H : TabOk P T) {σ : ASt} {x id o : Nat} {t : TypeId} {b : Blk} {v : Value} (h : σ.env x = some (.pointer (some ⟨id, o, none⟩))) (hb : σ.mem id = some b)
    (ht : T.agg.lookup t = some false) (hv : b.cells[o]? = some v) : RVal P σ (.cell x t) v := RVal.cell h hb (H.agg t _ ht).1 (H.agg t _ ht).2 hv

def FlatBs : List Blk → Prop
  | [] => True
  | b :: r => (∀ x ∈ b.cells, flatV x = true) ∧ FlatBs r

theorem FlatBs.get : ∀ {l : List Blk}, FlatBs l → ∀ b ∈ l, ∀ x ∈ b.cells, flatV x = true
  | [], _, b, hb => by cases hb
  | c :: r, h, b, hb => by
    rcases List.mem_cons.1 hb with rfl | hb
    · exact h.1
    · exact FlatBs.get h.2 b hb

theorem flatM {α : Type} {f : α → Value} {l : List α} (hf : ∀ x, flatV (f x) = true) : ∀ x ∈ l.map f, flatV x = true := by
  intro x hx
  obtain ⟨y, _, rfl⟩ := List.mem_map.1 hx
  exact hf y

theorem RetQ.fc {P : Program} {fn : Func} {e : Exit} {σ : ASt} {as rs : List FA} (vs : List Value) (ids : List Nat) (rvs : List ResultVar) (he : e = .ret ∨ e = .normal)
    (hr : fn.results = rvs.toArray) (hv : RVs P σ rvs vs) (hh : Has σ.mem 0 (outBlks as)) (hf : FlatBs (outBlks as)) (hg : Gives (argBlks as).length σ.mem rs vs ids)
    (hnd : ids.Nodup) (hfar : (ids.all fun i => Nat.ble (argBlks as).length i) = true) :
    RetQ P fn (argBlks as).length (oneV (argVals (argBlks as).length rs)) (outBlks as ++ argBlks rs) e σ :=
  RetQ.of he hr hv.get.1 hv.get.2 hh hf.get hg hnd fun i hi => Nat.le_of_ble_eq_true (List.all_eq_true.1 hfar i hi)

theorem FArgs.whole {E : Env} {M : Mem} {x : Operand} {id n es : Nat} {cells : List Value} {rw : Bool} {r : List FA} {xs : List Operand} {vs : List Value} {gs : List (Nat × Nat)} (h1 : aev E x = some (.slice (some ⟨id, 0, none⟩) n 0))
    (h2 : M id = some ⟨cells, rw, es⟩) (h5 : ∀ x ∈ cells, flatV x = true) (h : FArgs E M r xs vs gs) : FArgs E M (.s cells es n false :: r) (x :: xs) (.slice (some ⟨id, 0, none⟩) n 0 :: vs) ((id, 0) :: gs) :=
  FArgs.s h1 h2 (by simp) (by simp) rfl h5 h

theorem pure_aggM {α : Type} {f : α → Value} {l : List α} (hf : ∀ x, flatV (f x) = true) : pureV (.agg (l.map f).toArray) = true := by
  show (l.map f).all flatV = true
  rw [List.all_eq_true]
  exact flatM hf

theorem pure_vi {k : IntKind} {l : List Nat} : pureV (.agg (l.map (vi k)).toArray) = true := pure_aggM flat_vi

theorem VR.aggM {m : Md} {D : Nat → Prop} {ρ : Rho} {α : Type} {f : α → Value} {l : List α} (hf : ∀ x, flatV (f x) = true) : VR m D ρ (.agg (l.map f).toArray) (.agg (l.map f).toArray) := VR.pure (pure_aggM hf)

theorem PureOp.mono {P : Program} {o : Op} {E : Env} {v v' : Value} (h : PureOp P o E v) (he : v = v') : PureOp P o E v' := he ▸ h

section
variable {P : Program} {T : Tab} (H : TabOk P T)
variable {ops : Array Oper} {n i : Nat} {os : List Oper} {E : Env} {M : Mem} {D : List Eff → Prop} {K : ASt → Prop}
  {d : Tmp} {ty : TypeId} {ps : String} {af : Array Edge} {g : Option (Nat × Bool)}
include H

theorem AWo.makeI {t e : TypeId} {x y : Operand} {k by' : Nat} {kd : IntKind} (id : Nat) (hx : aev E x = some (.int .i64 (k : Nat))) (hy : aev E y = some (.int .i64 (k : Nat)))
    (ht : T.sl.lookup t = some e) (hs : T.sz.lookup e = some 1) (hz : T.zero.lookup e = some (.int kd 0))
    (hby : T.by'.lookup e = some by') (hlen : by' * k ≤ 281474976710656) (hn : k < 9223372036854775808) (hid : M id = none)
    (hw : wantA ops E ⟨some d, .makeSlice t x y, ty, ps, af, g⟩ = some true) (hd : Nat.blt d n = true)
    (hr : AWo P ops n (i + 1) os ⟨upd E d (.slice (some ⟨id, 0, none⟩) k 0), upd M id ⟨(List.replicate k 0).map (vi kd), true, 1⟩⟩ (fun es' => D (⟨[], [(id, ⟨(List.replicate k 0).map (vi kd), true, 1⟩)]⟩ :: es')) K) :
    AWo P ops n i (⟨some d, .makeSlice t x y, ty, ps, af, g⟩ :: os) ⟨E, M⟩ D K :=
  AWo.makeSlice H id _ hx hy ht hs (by decide) hz (c := .int kd 0) rfl rfl hby hlen hn (by simp [vi]) hid hw hd hr
end

end Go.Proofs.Ytiikffiembcboaa.Sim
