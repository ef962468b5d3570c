/- More operations: comparisons of other values, composite values, new functions. -/
import Derived.Test.YtiikffiembcboaaSim13
import Derived.Laws.Small
namespace Go.Proofs.Ytiikffiembcboaa.Sim
open Go

section
variable {P : Program} {E : Env}

theorem run_ptrNil' (d : Nat) {t s : TypeId} (p : Option Addr) (h : P.underlying t = some (.pointer s)) (w : World) : (Op.equalIn (d + 1) t (.pointer p) (.pointer none)).run P w = .ok p.isNone w := by
  cases p <;> simp [Op.equalIn, run_underlying h]
theorem run_ptrNil {t s : TypeId} (p : Option Addr) (h : P.underlying t = some (.pointer s)) (w : World) : (Op.equal t (.pointer p) (.pointer none)).run P w = .ok p.isNone w := run_ptrNil' 9999 p h w

theorem PureOp.eqlBool {t t' : TypeId} {x y : Operand} {a b : Bool} (hu : P.underlying t = some .bool) (h1 : aev E x = some (.bool a)) (h2 : aev E y = some (.bool b)) :
    PureOp P (.binOp .eql t x y t') E (.bool (a == b)) := fun D ρ e hx => by
  have e1 := flat_inv (hx x (by simp [Op.operands]) _ h1) rfl
  have e2 := flat_inv (hx y (by simp [Op.operands]) _ h2) rfl
  exact ⟨_, .flat _ rfl, fun _ _ _ _ _ w => by simp [execOp, e1, e2, eqGuard, binOp, run_equal_bool _ _ _ _ hu]⟩

theorem PureOp.neqBool {t t' : TypeId} {x y : Operand} {a b : Bool} (hu : P.underlying t = some .bool) (h1 : aev E x = some (.bool a)) (h2 : aev E y = some (.bool b)) :
    PureOp P (.binOp .neq t x y t') E (.bool (!(a == b))) := fun D ρ e hx => by
  have e1 := flat_inv (hx x (by simp [Op.operands]) _ h1) rfl
  have e2 := flat_inv (hx y (by simp [Op.operands]) _ h2) rfl
  exact ⟨_, .flat _ rfl, fun _ _ _ _ _ w => by simp [execOp, e1, e2, eqGuard, binOp, run_equal_bool _ _ _ _ hu]⟩

/-- a pointer and the literal nil -/
theorem PureOp.ptrEqNil {t t' s : TypeId} {x : Operand} {id o : Nat} (hu : P.underlying t = some (.pointer s)) (h1 : aev E x = some (.pointer (some ⟨id, o, none⟩))) :
    PureOp P (.binOp .eql t x (.const (.pointer none)) t') E (.bool false) := fun D ρ e hx => by
  obtain ⟨e1, _⟩ := ptr_inv (hx x (by simp [Op.operands]) _ h1)
  have e2 : e (.const (.pointer none)) = .pointer none := flat_inv (hx (.const (.pointer none)) (by simp [Op.operands]) _ rfl) rfl
  exact ⟨_, .flat _ rfl, fun _ _ _ _ _ w => by simp [execOp, e1, e2, eqGuard, binOp, run_ptrNil _ hu]⟩

theorem PureOp.ptrNeNil {t t' s : TypeId} {x : Operand} {id o : Nat} (hu : P.underlying t = some (.pointer s)) (h1 : aev E x = some (.pointer (some ⟨id, o, none⟩))) :
    PureOp P (.binOp .neq t x (.const (.pointer none)) t') E (.bool true) := fun D ρ e hx => by
  obtain ⟨e1, _⟩ := ptr_inv (hx x (by simp [Op.operands]) _ h1)
  have e2 : e (.const (.pointer none)) = .pointer none := flat_inv (hx (.const (.pointer none)) (by simp [Op.operands]) _ rfl) rfl
  exact ⟨_, .flat _ rfl, fun _ _ _ _ _ w => by simp [execOp, e1, e2, eqGuard, binOp, run_ptrNil _ hu]⟩

theorem PureOp.nilEqNil {t t' s : TypeId} {x y : Operand} (hu : P.underlying t = some (.pointer s)) (h1 : aev E x = some (.pointer none)) (h2 : aev E y = some (.pointer none)) :
    PureOp P (.binOp .eql t x y t') E (.bool true) := fun D ρ e hx => by
  have e1 := flat_inv (hx x (by simp [Op.operands]) _ h1) rfl
  have e2 := flat_inv (hx y (by simp [Op.operands]) _ h2) rfl
  exact ⟨_, .flat _ rfl, fun _ _ _ _ _ w => by simp [execOp, e1, e2, eqGuard, binOp, run_ptrNil _ hu]⟩

theorem PureOp.nilNeNil {t t' s : TypeId} {x y : Operand} (hu : P.underlying t = some (.pointer s)) (h1 : aev E x = some (.pointer none)) (h2 : aev E y = some (.pointer none)) :
    PureOp P (.binOp .neq t x y t') E (.bool false) := fun D ρ e hx => by
  have e1 := flat_inv (hx x (by simp [Op.operands]) _ h1) rfl
  have e2 := flat_inv (hx y (by simp [Op.operands]) _ h2) rfl
  exact ⟨_, .flat _ rfl, fun _ _ _ _ _ w => by simp [execOp, e1, e2, eqGuard, binOp, run_ptrNil _ hu]⟩

theorem PureOp.eqlStr {t t' : TypeId} {x y : Operand} {a b : ByteArray} (h1 : aev E x = some (.string a)) (h2 : aev E y = some (.string b)) {v : Value} (hv : ∀ w, (Op.stringOp .eql a b).run P w = .ok v w) (hf : flatV v = true) :
    PureOp P (.binOp .eql t x y t') E v := fun D ρ e hx => by
  have e1 := flat_inv (hx x (by simp [Op.operands]) _ h1) rfl
  have e2 := flat_inv (hx y (by simp [Op.operands]) _ h2) rfl
  exact ⟨_, .flat _ hf, fun _ _ _ _ _ w => by simp [execOp, e1, e2, eqGuard, binOp, hv]⟩

/-- a new function, its captured values in a list -/
theorem PureOp.fn {f : FuncId} {captured : Array Operand} {vs : List Value} (h : Evs E captured.toList vs) : PureOp P (.makeFunc (.func f) #[] captured) E (.func (.func f) #[] vs.toArray) :=
  PureOp.makeFunc rfl (by simp) (by
    apply Array.ext'
    rw [Array.toList_map, h.map]
    simp)

/-! ### composite values -/

def fillL (place : Nat → Option (Nat × Nat)) (cells : List Value) : List (Nat × Value) → Option (List Value)
  | [] => some cells
  | (i, v) :: rest =>
    match place i with
    | none => none
    | some (off, size) => if v.cells.size ≠ size ∨ off + v.cells.size > cells.length then none else fillL place (setL cells off v.cells.toList) rest

theorem setL_length : ∀ (vs cells : List Value) (o : Nat), (setL cells o vs).length = cells.length
  | [], _, _ => rfl
  | v :: vs, cells, o => by simp [setL, setL_length vs]

theorem setL_foldl : ∀ (vs : List Value) (o i : Nat) (cs : Array Value), ((vs.zipIdx i).foldl (fun cs (p : Value × Nat) => cs.setIfInBounds (o + p.2) p.1) cs).toList = setL cs.toList (o + i) vs
  | [], _, _, _ => rfl
  | v :: vs, o, i, cs => by
    rw [List.zipIdx_cons, List.foldl_cons, setL_foldl vs o (i + 1)]
    simp only [setL, Array.toList_setIfInBounds, Nat.add_assoc]

def RL (D : Nat → Prop) (ρ : Rho) (xs ys : List Value) : Prop := xs.length = ys.length ∧ ∀ (k : Nat) (x y : Value), xs[k]? = some x → ys[k]? = some y → VR .real D ρ x y

theorem RL.set {D : Nat → Prop} {ρ : Rho} {xs ys : List Value} (h : RL D ρ xs ys) {x y : Value} (hxy : VR .real D ρ x y) (o : Nat) : RL D ρ (xs.set o x) (ys.set o y) := by
  refine ⟨by simp [h.1], fun k x' y' hx hy => ?_⟩
  by_cases hk : o = k
  · subst hk
    have h1 : o < xs.length := by
      have := (List.getElem?_eq_some_iff.1 hx).1
      simpa using this
    rw [List.getElem?_set_self h1] at hx
    rw [List.getElem?_set_self (by rw [← h.1]; exact h1)] at hy
    cases hx; cases hy; exact hxy
  · rw [List.getElem?_set_ne hk] at hx hy
    exact h.2 k x' y' hx hy

theorem RL_setL {D : Nat → Prop} {ρ : Rho} : ∀ {vs us xs ys : List Value} {o : Nat}, RL D ρ xs ys → RL D ρ vs us → RL D ρ (setL xs o vs) (setL ys o us)
  | [], us, xs, ys, o, h, hv => by
    obtain rfl : us = [] := by simpa using hv.1.symm
    exact h
  | v :: vs, us, xs, ys, o, h, hv => by
    obtain ⟨u, us, rfl⟩ : ∃ u r, us = u :: r := by cases us with
      | nil => have := hv.1; simp at this
      | cons u r => exact ⟨u, r, rfl⟩
    show RL D ρ (setL (xs.set o v) (o + 1) vs) (setL (ys.set o u) (o + 1) us)
    exact RL_setL (h.set (hv.2 0 v u rfl rfl) o) ⟨by have := hv.1; simpa using this, fun k x y hx hy => hv.2 (k + 1) x y hx hy⟩

theorem fill_rel {D : Nat → Prop} {ρ : Rho} {place : Nat → Option (Nat × Nat)} {ev : Operand → Value} : ∀ (parts : List (Nat × Operand)) (vals : List (Nat × Value)) {cs : List Value} {rs : Array Value} {out : List Value},
    (∀ p ∈ parts, ∀ v', aev E p.2 = some v' → VR .real D ρ v' (ev p.2)) → parts.map (fun p => (p.1, aev E p.2)) = vals.map (fun p => (p.1, some p.2)) → RL D ρ cs rs.toList → fillL place cs vals = some out →
    ∃ out', Instr.fill place rs (parts.map fun p => (p.1, ev p.2)) = some out' ∧ RL D ρ out out'.toList
  | [], vals, cs, rs, out, _, hp, hr, hf => by
    obtain rfl : vals = [] := by simpa using hp.symm
    simp only [fillL, Option.some.injEq] at hf
    subst hf
    exact ⟨rs, rfl, hr⟩
  | (i, x) :: parts, vals, cs, rs, out, hev, hp, hr, hf => by
    obtain ⟨⟨j, v⟩, vals, rfl⟩ : ∃ u r, vals = u :: r := by cases vals with
      | nil => simp at hp
      | cons u r => exact ⟨u, r, rfl⟩
    simp only [List.map_cons, List.cons.injEq, Prod.mk.injEq] at hp
    obtain ⟨⟨rfl, hxv⟩, hp⟩ := hp
    have hv := hev (i, x) (List.mem_cons_self ..) v hxv
    obtain ⟨c1, c2⟩ := cells_rel hv
    simp only [fillL] at hf
    simp only [List.map_cons, Instr.fill]
    cases hpl : place i with
    | none => rw [hpl] at hf; simp at hf
    | some q =>
      obtain ⟨off, size⟩ := q
      rw [hpl] at hf
      simp only at hf ⊢
      split at hf
      · cases hf
      · rename_i hc
        have hrl : cs.length = rs.size := by simpa using hr.1
        rw [if_neg (by rw [← c1, ← hrl]; simpa using hc)]
        refine fill_rel parts vals (fun p hp' => hev p (List.mem_cons_of_mem _ hp')) hp ?_ hf
        have h9 := setL_foldl (ev x).cells.toList off 0 rs
        rw [← Array.toList_zipIdx, Array.foldl_toList] at h9
        rw [h9]
        exact RL_setL hr ⟨by simpa using c1, fun k a b ha hb => c2 k a b (by simpa using ha) (by simpa using hb)⟩

theorem run_mapA {α β : Type} (f : α → Sem β) (w : World) (as : Array α) (bs : List β) (hl : as.size = bs.length) (h : ∀ (k : Nat) (x : α) (u : β), as[k]? = some x → bs[k]? = some u → (f x).run P w = .ok u w) : (as.mapM f).run P w = .ok bs.toArray w := by
  rw [Array.mapM_eq_mapM_toList]
  have := run_mapM (P := P) f w as.toList bs (by simpa using hl) (fun k x u h1 h2 => h k x u (by simpa using h1) h2)
  simp [this]

/-- where the parts of a struct lie -/
def placesOf (P : Program) (fs : Array Field) (pl : List (Nat × Nat)) : Prop := fs.size = pl.length ∧ ∀ (k : Nat) (f : Field) (q : Nat × Nat), fs[k]? = some f → pl[k]? = some q → f.offset = q.1 ∧ (P.info? f.type).map (·.size) = some q.2

theorem PureOp.buildStruct {t : TypeId} {parts : Array (Nat × Operand)} {fs : Array Field} {pl : List (Nat × Nat)} {z : Value} (vals : List (Nat × Value)) {out : List Value} (hu : P.underlying t = some (.struct fs))
    (hz : (P.info? t).map (·.zero) = some (some z)) (hzf : z.cells.toList.all flatV = true) (hpl : placesOf P fs pl) (hp : parts.toList.map (fun p => (p.1, aev E p.2)) = vals.map (fun p => (p.1, some p.2)))
    (hf : fillL (pl[·]?) z.cells.toList vals = some out) : PureOp P (.build t parts) E (.agg out.toArray) := fun D ρ ev hx => by
  obtain ⟨out', h1, h2⟩ := fill_rel (D := D) (ρ := ρ) (ev := ev) parts.toList vals (rs := z.cells) (fun p hp v' hv => hx p.2 (by simp only [Op.operands, List.mem_toArray, List.mem_map]; exact ⟨p, hp, rfl⟩) v' hv) hp
    ⟨rfl, fun k x y h1 h2 => by rw [h1] at h2; cases h2; exact .flat _ (List.all_eq_true.1 hzf x (List.mem_of_getElem? h1))⟩ hf
  refine ⟨.agg out', .agg _ _ (by simpa using h2.1) fun k x y h3 h4 => h2.2 k x y (by simpa using h3) (by simpa using h4), fun _ _ _ _ _ w => ?_⟩
  have hm : (fs.mapM fun f => (do pure (f.offset, ← sizeOf f.type) : Sem (Nat × Nat))).run P w = .ok pl.toArray w := by
    refine run_mapA _ w fs pl hpl.1 fun k f q hf hq => ?_
    obtain ⟨a1, a2⟩ := hpl.2 k f q hf hq
    simp [run_size a2, a1]
  have hpt : (parts.map fun p => (p.1, ev p.2)).toList = parts.toList.map fun p => (p.1, ev p.2) := by simp
  simp only [execOp, Instr.build, Sem.run_bind, run_zero hz, Result.andThen_ok, run_underlying hu, hm]
  have h5 : (fun x : Nat => pl.toArray[x]?) = fun x => pl[x]? := by funext x; simp
  have h6 : Instr.fill (fun x : Nat => pl.toArray[x]?) z.cells (parts.map fun p => (p.1, ev p.2)).toList = some out' := by rw [h5, hpt]; exact h1
  simp only [h6]
  simp

theorem FStep.buildSlice {M : Mem} {d : Option Tmp} {ty : TypeId} {ps : String} {af : Array Edge} {g : Option (Nat × Bool)} {t e : TypeId} {len sz : Nat} {parts : Array (Nat × Operand)} {c z : Value} (id : Nat) (vals : List (Nat × Value)) {out : List Value}
    (hu : P.underlying t = some (.slice e)) (hs : (P.info? e).map (·.size) = some sz) (h0 : sz ≠ 0) (hz : (P.info? e).map (·.zero) = some (some z)) (hzc : z.cells = Array.replicate sz c) (hc : flatV c = true) (hle : len * sz ≤ 16777216)
    (hp : parts.toList.map (fun p => (p.1, aev E p.2)) = vals.map (fun p => (p.1, some p.2))) (hf : fillL (fun i => some (i * sz, sz)) (List.replicate (len * sz) c) vals = some out) :
    FStep P ⟨d, .buildSlice t len parts, ty, ps, af, g⟩ E M (.slice (some ⟨id, 0, none⟩) len 0) ⟨[], [(id, ⟨out, true, sz⟩)]⟩ := by
  intro E' M' h1 _ h3 C ρ ac w hR
  have hid : M' id = none := h3 _ (List.mem_singleton_self _) (by simp)
  have hmem : ∀ p ∈ parts.toList, p.2 ∈ (Op.buildSlice t len parts).operands := fun p hp => by simp only [Op.operands, List.mem_toArray, List.mem_map]; exact ⟨p, hp, rfl⟩
  obtain ⟨out', f1, f2⟩ := fill_rel (D := dom M') (ρ := ρ) (ev := ac.eval) parts.toList vals (rs := Array.replicate (len * sz) c) (fun p hp v' hv => hR.eval (by rw [h1 p.2 (hmem p hp)]; exact hv)) hp
    ⟨by simp, fun k x y a1 a2 => by
      have b1 := (List.getElem?_eq_some_iff.1 a1).2
      have b2 := (List.getElem?_eq_some_iff.1 a2).2
      simp at b1 b2
      rw [← b1, ← b2]; exact .flat _ hc⟩ hf
  have hlen : ∀ (vals : List (Nat × Value)) (cs out : List Value) (place : Nat → Option (Nat × Nat)), fillL place cs vals = some out → out.length = cs.length := by
    intro vals
    induction vals with
    | nil => intro cs out place h; simp only [fillL, Option.some.injEq] at h; rw [h]
    | cons p r ih =>
      intro cs out place h
      obtain ⟨i, v⟩ := p
      simp only [fillL] at h
      split at h
      · cases h
      · split at h
        · cases h
        · rw [ih _ _ _ h, setL_length]
  have hol : out.length = len * sz := by rw [hlen _ _ _ _ hf]; simp
  have hol' : out'.size = len * sz := by rw [← hol, f2.1]; simp
  obtain ⟨ρ', hR', hρ, _⟩ := hR.alloc hid (cells := out) (rcells := out') (elem := e) sz (by rw [hol, hol']; exact Nat.le_refl _) (fun k y u a1 a2 => f2.2 k y u a1 (by simpa using a2))
  unfold StepTo Oper.wp
  have : (execOp ac.eval ⟨d, .buildSlice t len parts, ty, ps, af, g⟩).run P w = .ok (.value (.slice (some ⟨w.heap.size, 0, none⟩) len len)) (pushW w (.cells out' e)) := by
    have hpt : (parts.map fun p => (p.1, ac.eval p.2)).toList = parts.toList.map fun p => (p.1, ac.eval p.2) := by simp
    have hng : ¬ len * sz > 16777216 := by omega
    simp only [execOp, Instr.buildSlice, Sem.run_bind, run_underlying hu, Result.andThen_ok, run_size hs, show (2 : Nat) ^ 24 = 16777216 from rfl, if_neg hng]
    by_cases hz0 : len * sz = 0
    · have h9 : out' = #[] := Array.eq_empty_of_size_eq_zero (by rw [hol', hz0])
      have f1' : Instr.fill (fun i => some (i * sz, sz)) #[] (parts.map fun p => (p.1, ac.eval p.2)).toList = some out' := by
        rw [hpt]; rw [hz0] at f1; exact f1
      have h8 : ∀ f : Nat → Value, (Array.range 0).map f = #[] := fun f => by
        rw [show Array.range 0 = #[] from rfl]; exact Array.map_empty
      simp only [hz0, Sem.run_pure, h8, f1']
      simp [newRow, pushW]
    · have hm := mod_replicate sz len c (.inr h0)
      rw [← hzc] at hm
      have f1' : Instr.fill (fun i => some (i * sz, sz)) ((Array.range (len * sz)).map fun i => z.cells[i % z.cells.size]!) (parts.map fun p => (p.1, ac.eval p.2)).toList = some out' := by
        rw [hpt, hm]; exact f1
      simp only [if_neg hz0, Sem.run_bind, run_zero hz, Result.andThen_ok, Sem.run_pure, f1']
      simp [newRow, pushW]
  rw [this]
  refine ⟨_, rfl, ρ', hR', ?_⟩
  have := VR.slice (m := .real) (ρ := ρ') (D := dom (upds M' [(id, ⟨out, true, sz⟩)])) id 0 len len dom_upd (by simp) (fun _ => ⟨Nat.le_refl _, fun L hL => by
    rw [hρ] at hL ⊢
    simp only [Option.some.injEq] at hL
    simp only; omega⟩)
  rw [hρ] at this
  exact this

end

section
variable {P : Program} {T : Tab} (H : TabOk P T)
variable {ops : Array Oper} {n i : Nat} {os : List Oper} {E : Env} {M : Mem} {D : List Eff → Prop} {K : ASt → Prop}
  {d : Tmp} {ty : TypeId} {ps : String} {af : Array Edge} {g : Option (Nat × Bool)}
include H

theorem AWo.buildSlice {t e : TypeId} {len sz : Nat} {parts : Array (Nat × Operand)} {c z : Value} (id : Nat) (vals : List (Nat × Value)) {out : List Value}
    (ht : T.sl.lookup t = some e) (hs : T.sz.lookup e = some sz) (h0 : sz ≠ 0) (hz : T.zero.lookup e = some z) (hzc : z.cells = Array.replicate sz c) (hc : flatV c = true) (hle : len * sz ≤ 16777216)
    (hp : parts.toList.map (fun p => (p.1, aev E p.2)) = vals.map (fun p => (p.1, some p.2))) (hf : fillL (fun i => some (i * sz, sz)) (List.replicate (len * sz) c) vals = some out) (hid : M id = none)
    (hw : wantA ops E ⟨some d, .buildSlice t len parts, ty, ps, af, g⟩ = some true) (hd : Nat.blt d n = true)
    (hr : AWo P ops n (i + 1) os ⟨upd E d (.slice (some ⟨id, 0, none⟩) len 0), upd M id ⟨out, true, sz⟩⟩ (fun es' => D (⟨[], [(id, ⟨out, true, sz⟩)]⟩ :: es')) K) :
    AWo P ops n i (⟨some d, .buildSlice t len parts, ty, ps, af, g⟩ :: os) ⟨E, M⟩ D K :=
  AWo.step (FStep.buildSlice id vals (H.sl t _ ht) (H.sz e _ hs) h0 (H.zero e _ hz) hzc hc hle hp hf) hw hd (fun p hp _ => by simp at hp; subst hp; exact hid) hr

end
end Go.Proofs.Ytiikffiembcboaa.Sim
