/- Helpers for printed walks, the second kind. -/
import Derived.Test.YtiikffiembcboaaSim15
namespace Go.Proofs.Ytiikffiembcboaa.Sim
open Go

def GC (P : Program) (f : FuncId) (vs : List Value) (M0 : List Blk) (rv : List Value) (Mo : List Blk) : Prop := Ctr P f vs M0 (oneV rv) Mo

theorem GC.intro {P : Program} {f : FuncId} {fn : Func} {c : Code} {vs rv : List Value} {M0 Mo : List Blk} (hf : P.funcs[f]? = some fn) (hb : fn.body = some c) (hlen : vs.length ≤ fn.ntmps) (hM : M0.length ≤ Mo.length)
    (h : AW P fn.ntmps M0.length c ⟨envL vs, memL M0⟩ (RetQ P fn M0.length (oneV rv) Mo)) : GC P f vs M0 rv Mo := Ctr.intro hf hb hlen hM h

theorem FC.gc {P : Program} {f : FuncId} {as rs : List FA} (h : FC P f as rs) : GC P f (argVals 0 as) (argBlks as) (argVals (argBlks as).length rs) (outBlks as ++ argBlks rs) := h

section
variable {P : Program} {ops : Array Oper} {n i : Nat} {os : List Oper} {E : Env} {M : Mem} {D : List Eff → Prop} {K : ASt → Prop}
  {d : Tmp} {o : Op} {ty : TypeId} {ps : String} {af : Array Edge} {g : Option (Nat × Bool)}

/-- a bool that decides what is done next -/
theorem AWo.pureB {b : Bool} (hs : PureOp P o E (.bool b)) (hw : wantA ops E ⟨some d, o, ty, ps, af, g⟩ = some true) (hd : Nat.blt d n = true)
    (hT : b = true → AWo P ops n (i + 1) os ⟨upd E d (.bool true), M⟩ (fun es => D (⟨[], []⟩ :: es)) K)
    (hF : b = false → AWo P ops n (i + 1) os ⟨upd E d (.bool false), M⟩ (fun es => D (⟨[], []⟩ :: es)) K) : AWo P ops n i (⟨some d, o, ty, ps, af, g⟩ :: os) ⟨E, M⟩ D K := by
  refine AWo.pure hs hw hd ?_
  cases b with
  | true => exact hT rfl
  | false => exact hF rfl
end

/-- a store of one cell -/
theorem AWo.store1 {P : Program} {T : Tab} (H : TabOk P T) {ops : Array Oper} {n i : Nat} {os : List Oper} {E : Env} {M : Mem} {D : List Eff → Prop} {K : ASt → Prop} {ty : TypeId} {ps : String} {af : Array Edge} {g : Option (Nat × Bool)}
    {t : TypeId} {a x : Operand} {id o es : Nat} {cells c' : List Value} {v : Value} (ha : aev E a = some (.pointer (some ⟨id, o, none⟩))) (hx : aev E x = some v)
    (hb : M id = some ⟨cells, true, es⟩) (hs : T.sz.lookup t = some 1) (hc : v.oneCell' = true) (ho : o < cells.length) (hn : cells.set o v = c')
    (hw : wantA ops E ⟨none, .store t a x, ty, ps, af, g⟩ = some true)
    (hr' : AWo P ops n (i + 1) os ⟨E, upd M id ⟨c', true, es⟩⟩ (fun es' => D (⟨[id], [(id, ⟨c', true, es⟩)]⟩ :: es')) K) :
    AWo P ops n i (⟨none, .store t a x, ty, ps, af, g⟩ :: os) ⟨E, M⟩ D K :=
  AWo.store H ha hx hb rfl (by rw [one_cells hc]; exact hs) (by rw [one_cells hc]; exact ho) (by rw [one_cells hc]; simpa using hc) (by rw [one_cells hc]; exact hn) hw hr'

section
variable {P : Program} {n m : Nat} {σ : ASt} {Q : Exit → ASt → Prop} {l : Nat} {J : ASt → Prop}

theorem jumpA_normal (h : Q .normal σ) : jumpA l J Q .normal σ := h
theorem jumpA_ret (h : Q .ret σ) : jumpA l J Q .ret σ := h
theorem jumpA_exit {id : Nat} (h : Q (.exit id) σ) : jumpA l J Q (.exit id) σ := h
theorem jumpA_goto (h : J σ) : jumpA l J Q (.goto l) σ := ⟨rfl, h⟩

/-- a scope that begins with its one label -/
theorem AW.scopew {X : Code} (l : Nat) (I : Nat → ASt → Prop) {k0 : Nat} {fm : List (Nat × Nat)} {τ : ASt} (hw : Wk m fm σ τ) (h0 : I k0 τ)
    (pass : ∀ k σ, I k σ → AW P n m X σ (jumpA l (fun σ' => ∃ k' fm' τ', k' < k ∧ Wk m fm' σ' τ' ∧ I k' τ') Q)) : AW P n m (.scope (.seq (.label l) X)) σ Q := by
  have h1 : ∀ k σ, I k σ → AW P n m X σ (jumpA l (fun σ' => ∃ k' σ0, k' < k ∧ (∃ fm', Wk m fm' σ' σ0) ∧ I k' σ0) Q) := fun k σ hk => AW.mono (pass k σ hk) fun e σ' h => by
    cases e with
    | goto l' => obtain ⟨e, k', fm', τ', a, b, c⟩ := h; exact ⟨e, k', τ', a, ⟨fm', b⟩, c⟩
    | _ => exact h
  refine AW.weaken hw ?_
  refine AW.scope (k0 := k0) l (fun k σ => ∃ σ0, (∃ fm', Wk m fm' σ σ0) ∧ ∃ k', k' ≤ k ∧ I k' σ0) (rest := .seq .skip X) (by simp [findLabel]) ?_ ?_
  · refine AW.seq (AW.label ?_)
    refine thenA_normal (AW.mono (h1 k0 τ h0) fun e σ' h => ?_)
    cases e with
    | goto l' => obtain ⟨e, k', σ0, a, b, c⟩ := h; exact ⟨e, σ0, b, k', by omega, c⟩
    | _ => exact h
  · rintro k σ1 ⟨σ0, ⟨fm', hwk⟩, k', hle, hI⟩
    refine AW.weaken hwk (AW.seq (AW.skip (thenA_normal (AW.mono (h1 k' σ0 hI) fun e σ' h => ?_))))
    cases e with
    | goto l' => obtain ⟨e, k2, σ2, a, b, c⟩ := h; exact ⟨e, k2, by omega, σ2, b, k2, Nat.le_refl _, c⟩
    | _ => exact h
end

theorem Evs.rfl1 {E : Env} {x : Operand} {v : Value} (h : aev E x = some v) : Evs E [x] [v] := .cons h .nil

/-- a block of plain cells in the relation of a loop -/
theorem WkM.refl {Dm : Nat → Prop} {fm : List (Nat × Nat)} {M N : Mem} {i : Nat} {cells : List Value} {rw rw' : Bool} {es : Nat} (h1 : M ((fm.lookup i).getD i) = some ⟨cells, rw', es⟩)
    (hf : ∀ x ∈ cells, flatV x = true) (h3 : rw = true → rw' = true) (h : WkM Dm fm M N) : WkM Dm fm M (Sim.upd N i ⟨cells, rw, es⟩) := WkM.flat h1 hf h3 h

/-- a block that holds a pointer -/
theorem WkM.ptr {Dm : Nat → Prop} {fm : List (Nat × Nat)} {M N : Mem} {i j o : Nat} {rw rw' : Bool} {es : Nat} (h1 : M ((fm.lookup i).getD i) = some ⟨[.pointer (some ⟨(fm.lookup j).getD j, o, none⟩)], rw', es⟩)
    (hd : Dm j) (h3 : rw = true → rw' = true) (h : WkM Dm fm M N) : WkM Dm fm M (Sim.upd N i ⟨[.pointer (some ⟨j, o, none⟩)], rw, es⟩) :=
  WkM.upd h1 (fun c x hx => by
    cases c with
    | zero =>
      simp at hx; subst hx
      refine ⟨_, rfl, ?_⟩
      have := VR.ptr (m := .arg) (ρ := idm fm) j o hd
      simp only [idm, Nat.zero_add] at this
      exact this
    | succ c => simp at hx) h3 rfl (Nat.le_refl _) h

theorem flat1 {v : Value} (h : flatV v = true) : ∀ x ∈ [v], flatV x = true := fun x hx => by simp at hx; subst hx; exact h

end Go.Proofs.Ytiikffiembcboaa.Sim
