/- Calls, results, slicing. -/
import Derived.Test.YtiikffiembcboaaSim7
namespace Go.Proofs.Ytiikffiembcboaa.Sim
open Go

variable {P : Program} {E : Env} {M : Mem} {d : Option Tmp} {ty : TypeId} {ps : String} {af : Array Edge} {gd : Option (Nat × Bool)}

/-- a function with a body -/
def Bodied (P : Program) (f : FuncId) : Prop := ∃ fn, P.funcs[f]? = some fn ∧ (fn.name == "runtime.NumGoroutine") = false ∧ fn.body.isNone = false

theorem run_callFunc {f : FuncId} (h : Bodied P f) (args : Array Value) (w : World) : (callFunc f args).run P w = .ok (.enter f args) w := by
  obtain ⟨fn, h1, h2, h3⟩ := h
  simp only [callFunc, Sem.run_bind, run_program, Result.andThen_ok, h1, h2, h3, Bool.false_eq_true, if_false]
  rfl

theorem map_some_get {l : List Operand} {vs : List Value} (h : l.map (aev E) = vs.map some) {k : Nat} {x : Operand} (hk : l[k]? = some x) : ∃ v, vs[k]? = some v ∧ aev E x = some v := by
  have h1 : (l.map (aev E))[k]? = (vs.map some)[k]? := by rw [h]
  rw [List.getElem?_map, List.getElem?_map, hk] at h1
  cases hv : vs[k]? with
  | none => rw [hv] at h1; simp at h1
  | some v => rw [hv] at h1; exact ⟨v, rfl, by simpa using h1⟩

theorem FStep.callv {f : FuncId} {args : List Value} {M0 : List Blk} {res : Value} {Mo : List Blk} (S : Ctr P f args M0 res Mo) (hb : Bodied P f)
    {g : List (Nat × Nat)} {nids : List Nat} {new : List (Nat × Blk)} (F : Fits M M0 Mo g nids new)
    {fop : Operand} {aops : Array Operand} {tys : Array TypeId} {xs ys : Array Value} {vals : List Value}
    (hf : aev E fop = some (.func (.func f) xs ys)) (hv : aops.toList.map (aev E) = vals.map some)
    (hl : args.length = (xs.toList ++ vals ++ ys.toList).length)
    (hav : ∀ (k : Nat) (x y : Value), args[k]? = some x → (xs.toList ++ vals ++ ys.toList)[k]? = some y → VR .arg (dom (memL M0)) (gmap g nids) x y)
    {vres : Value} (hres : VR .res (dom (memL Mo)) (gmap g nids) res vres) :
    FStep P ⟨d, .call ⟨.value fop, aops, tys⟩, ty, ps, af, gd⟩ E M vres ⟨g.map (·.1), new⟩ := by
  intro E' M' h1 h2 h3 C ρ ac w hR
  have hfr : ∀ i ∈ nids, M' i = none := by
    intro i hi
    obtain ⟨hk, hg⟩ := F.hnids i hi
    obtain ⟨p, hp, rfl⟩ := List.mem_map.1 hk
    exact h3 p hp hg
  have hfv := hR.eval (x := fop) (by rw [h1 fop (by simp [Op.operands, Call.operands])]; exact hf)
  obtain ⟨xs', ys', hfe, hxs, hxr, hys, hyr⟩ : ∃ xs' ys', ac.eval fop = .func (.func f) xs' ys' ∧ xs.size = xs'.size ∧ (∀ (k : Nat) (x y : Value), xs[k]? = some x → xs'[k]? = some y → VR .real (dom M') ρ x y) ∧
      ys.size = ys'.size ∧ (∀ (k : Nat) (x y : Value), ys[k]? = some x → ys'[k]? = some y → VR .real (dom M') ρ x y) := by
    generalize hu : ac.eval fop = u at hfv
    cases hfv with
    | flat _ hfl =>
      simp only [flatV, Bool.and_eq_true, Array.isEmpty_iff] at hfl
      obtain ⟨⟨_, e1⟩, e2⟩ := hfl
      subst e1; subst e2
      exact ⟨#[], #[], rfl, rfl, fun k x y hx => by simp at hx, rfl, fun k x y hx => by simp at hx⟩
    | func _ _ zs _ zs' _ a1 a2 a3 a4 => exact ⟨zs, zs', rfl, a1, a3, a2, a4⟩
  have hrel : ∀ (k : Nat) (y u : Value), (xs.toList ++ vals ++ ys.toList)[k]? = some y → (xs'.toList ++ (aops.map ac.eval).toList ++ ys'.toList)[k]? = some u → VR .real (dom M') ρ y u := by
    have hvl : vals.length = aops.size := by simpa using (congrArg List.length hv).symm
    intro k y u hy hu
    rcases Nat.lt_or_ge k xs.size with hk | hk
    · rw [List.append_assoc, List.getElem?_append_left (by simpa using hk)] at hy
      rw [List.append_assoc, List.getElem?_append_left (by simpa [← hxs] using hk)] at hu
      exact hxr k y u (by simpa using hy) (by simpa using hu)
    · rw [List.append_assoc, List.getElem?_append_right (by simpa using hk)] at hy
      rw [List.append_assoc, List.getElem?_append_right (by simpa [← hxs] using hk)] at hu
      simp only [Array.length_toList, ← hxs] at hy hu
      rcases Nat.lt_or_ge (k - xs.size) vals.length with hk2 | hk2
      · rw [List.getElem?_append_left hk2] at hy
        rw [List.getElem?_append_left (by simpa [← hvl] using hk2)] at hu
        have hlt : k - xs.size < aops.size := by omega
        obtain ⟨v, hv1, hv2⟩ := map_some_get hv (k := k - xs.size) (x := aops[k - xs.size]) (by simp [hlt])
        rw [hy] at hv1; cases hv1
        have hu' : u = ac.eval aops[k - xs.size] := by
          simp only [Array.toList_map, List.getElem?_map] at hu
          rw [Array.getElem?_toList, Array.getElem?_eq_getElem hlt] at hu
          simpa using hu.symm
        rw [hu']
        refine hR.eval ?_
        show aev E' aops[k - xs.size] = some y
        rw [h1 aops[k - xs.size] (by simp [Op.operands, Call.operands])]
        exact hv2
      · rw [List.getElem?_append_right hk2] at hy
        rw [List.getElem?_append_right (by simpa [← hvl] using hk2)] at hu
        simp only [Array.toList_map, List.length_map, Array.length_toList, ← hvl] at hu
        exact hyr _ y u (by simpa using hy) (by simpa using hu)
  have hlen : (xs.toList ++ vals ++ ys.toList).length = (xs'.toList ++ (aops.map ac.eval).toList ++ ys'.toList).length := by
    have hvl : vals.length = aops.size := by simpa using (congrArg List.length hv).symm
    simp [hxs, hys, hvl]
  have hcall := call_sound S F h2 hfr hR hl hlen hav hrel hres
  unfold StepTo Oper.wp
  have : (execOp ac.eval ⟨d, .call ⟨.value fop, aops, tys⟩, ty, ps, af, gd⟩).run P w = .ok (.enter f (xs'.toList ++ (aops.map ac.eval).toList ++ ys'.toList).toArray) w := by
    have e0 : (xs'.toList ++ (aops.map ac.eval).toList ++ ys'.toList).toArray = xs' ++ aops.map ac.eval ++ ys' := by
      apply Array.ext'; simp
    rw [e0]
    simp only [execOp, resolve, hfe, Deferred.ofValue, Sem.run_bind, Sem.run_pure, Result.andThen_ok, invoke, run_callFunc hb]
  rw [this]
  refine Calls.mono hcall ?_
  rintro e w' ⟨u, ρ', rfl, hR', hv'⟩
  exact ⟨u, rfl, ρ', hR', hv'⟩

/-- a function that the model stands in for: its entry reckons on the arguments alone -/
theorem PureOp.extern {f : FuncId} {aops : Array Operand} {tys : Array TypeId} {vals : List Value} {v : Value} {fop : Operand} (hf : aev E fop = some (.func (.func f) #[] #[]))
    (hv : aops.toList.map (aev E) = vals.map some) (hfl : vals.all flatV = true) (hr : flatV v = true ∨ pureV v = true)
    (hrun : ∀ w, (callFunc f vals.toArray).run P w = .ok (.value v) w) : PureOp P (.call ⟨.value fop, aops, tys⟩) E v := by
  intro D ρ e hx
  have e0 : e fop = .func (.func f) #[] #[] := flat_inv (hx fop (by simp [Op.operands, Call.operands]) _ hf) rfl
  have e1 : aops.map e = vals.toArray := by
    apply Array.ext'
    simp only [Array.toList_map]
    apply List.ext_getElem?
    intro k
    rw [List.getElem?_map]
    rcases Nat.lt_or_ge k aops.size with hk | hk
    · obtain ⟨y, hy1, hy2⟩ := map_some_get hv (k := k) (x := aops[k]) (by simp [hk])
      rw [hy1, Array.getElem?_toList, Array.getElem?_eq_getElem hk]
      simp only [Option.map_some, Option.some.injEq]
      refine flat_inv (hx _ (by simp [Op.operands, Call.operands]) _ hy2) ?_
      exact List.all_eq_true.1 hfl y (List.mem_of_getElem? hy1)
    · have hvl : vals.length = aops.size := by simpa using (congrArg List.length hv).symm
      rw [List.getElem?_eq_none (by simpa using hk), List.getElem?_eq_none (by omega)]
      rfl
  refine ⟨v, ?_, fun _ _ _ _ _ w => ?_⟩
  · rcases hr with h | h
    · exact .flat _ h
    · exact .pure h
  · simp [execOp, resolve, e0, e1, Deferred.ofValue, invoke, hrun w]

/-! ### results -/

def RVal (P : Program) (σ : ASt) (r : ResultVar) (v : Value) : Prop :=
  ∀ C ρ a w, Rep C ρ σ a w → ∃ u, (match r with | .tmp t => (Pure.pure (a.tmps.getD t undef) : Sem Value) | .cell x t => do loadVar t (← asAddr (a.tmps.getD x undef))).run P w = .ok u w ∧ VR .real (dom σ.mem) ρ v u

theorem run_mapM {α β : Type} (f : α → Sem β) (w : World) : ∀ (l : List α) (us : List β), l.length = us.length → (∀ (k : Nat) (x : α) (u : β), l[k]? = some x → us[k]? = some u → (f x).run P w = .ok u w) → (l.mapM f).run P w = .ok us w
  | [], us, hl, _ => by
    obtain rfl : us = [] := by simpa using hl.symm
    rfl
  | x :: l, us, hl, h => by
    obtain ⟨u, us, rfl⟩ : ∃ u r, us = u :: r := by cases us with
      | nil => simp at hl
      | cons u r => exact ⟨u, r, rfl⟩
    rw [List.mapM_cons]
    simp only [Sem.run_bind, h 0 x u rfl rfl, Result.andThen_ok]
    rw [run_mapM f w l us (by simpa using hl) fun k y z hy hz => h (k + 1) y z (by simpa using hy) (by simpa using hz)]
    rfl

theorem ARes.of {fn : Func} {σ : ASt} {rs : List ResultVar} {vs : List Value} (hr : fn.results = rs.toArray) (hl : rs.length = vs.length)
    (h : ∀ (k : Nat) (r : ResultVar) (v : Value), rs[k]? = some r → vs[k]? = some v → RVal P σ r v) {v : Value} (hv : v = if h : vs.length = 1 then vs[0] else .tuple vs.toArray) : ARes P fn σ v := by
  intro C ρ a w hR
  have : ∃ us : List Value, vs.length = us.length ∧ (∀ (k : Nat) (r : ResultVar) (u : Value), rs[k]? = some r → us[k]? = some u →
      (match r with | .tmp t => (Pure.pure (a.tmps.getD t undef) : Sem Value) | .cell x t => do loadVar t (← asAddr (a.tmps.getD x undef))).run P w = .ok u w) ∧
      ∀ (k : Nat) (v u : Value), vs[k]? = some v → us[k]? = some u → VR .real (dom σ.mem) ρ v u := by
    clear hr hv
    induction rs generalizing vs with
    | nil =>
      obtain rfl : vs = [] := by simpa using hl.symm
      exact ⟨[], rfl, fun k r u h => by simp at h, fun k v u h => by simp at h⟩
    | cons r rs ih =>
      obtain ⟨v, vs, rfl⟩ : ∃ u q, vs = u :: q := by cases vs with
        | nil => simp at hl
        | cons u q => exact ⟨u, q, rfl⟩
      obtain ⟨us, h1, h2, h3⟩ := ih (vs := vs) (by simpa using hl) (fun k r v hr hv => h (k + 1) r v (by simpa using hr) (by simpa using hv))
      obtain ⟨u, hu, hvu⟩ := h 0 r v rfl rfl C ρ a w hR
      refine ⟨u :: us, by simp [h1], fun k r' u' hr' hu' => ?_, fun k v' u' hv' hu' => ?_⟩
      · cases k with
        | zero => simp at hr' hu'; subst hr'; subst hu'; exact hu
        | succ k => exact h2 k r' u' (by simpa using hr') (by simpa using hu')
      · cases k with
        | zero => simp at hv' hu'; subst hv'; subst hu'; exact hvu
        | succ k => exact h3 k v' u' (by simpa using hv') (by simpa using hu')
  obtain ⟨us, h1, h2, h3⟩ := this
  have hm := run_mapM (P := P) (fun r => match r with | .tmp t => (Pure.pure (a.tmps.getD t undef) : Sem Value) | .cell x t => do loadVar t (← asAddr (a.tmps.getD x undef))) w rs us (hl.trans h1) h2
  have hm2 : (results fn a.tmps).run P w = .ok (if h : us.toArray.size = 1 then us.toArray[0] else .tuple us.toArray) w := by
    unfold results
    rw [hr, List.mapM_toArray]
    simp only [Sem.run_bind, Sem.run_map]
    exact congrArg (fun (r : Result (List Value)) => (r.andThen fun a w' => Result.ok a.toArray w').andThen fun a w' => Sem.run P (Pure.pure (if h : a.size = 1 then a[0] else Value.tuple a)) w') hm
  refine ⟨_, hm2, ?_⟩
  rw [hv]
  by_cases h1' : vs.length = 1
  · have h2' : us.toArray.size = 1 := by simp [← h1, h1']
    rw [dif_pos h1', dif_pos h2']
    refine h3 0 _ _ (List.getElem?_eq_getElem (by omega)) ?_
    have : 0 < us.length := by omega
    simp [this]
  · have h2' : ¬ us.toArray.size = 1 := by simp [← h1, h1']
    rw [dif_neg h1', dif_neg h2']
    exact .tuple _ _ (by simp [h1]) fun k x y hx hy => h3 k x y (by simpa using hx) (by simpa using hy)

theorem RVal.tmp {σ : ASt} {t : Nat} {v : Value} (h : σ.env t = some v) : RVal P σ (.tmp t) v := by
  intro C ρ a w hR
  obtain ⟨u, hu, hv⟩ := hR.env t v h
  refine ⟨u, ?_, hv⟩
  simp only [Array.getD_eq_getD_getElem?, hu, Option.getD_some]
  rfl

theorem RVal.cell {σ : ASt} {x id o : Nat} {t : TypeId} {b : Blk} {v : Value} (h : σ.env x = some (.pointer (some ⟨id, o, none⟩))) (hb : σ.mem id = some b)
    (hu : (P.underlying t).isSome = true) (hg : aggB P t = false) (hv : b.cells[o]? = some v) : RVal P σ (.cell x t) v := by
  intro C ρ a w hR
  obtain ⟨u, hu', hv'⟩ := hR.env x _ h
  obtain ⟨rfl, _⟩ := ptr_inv hv'
  obtain ⟨z, hz, hvz⟩ := (hR.mem id b hb).cells o v hv
  refine ⟨z, ?_, hvz⟩
  simp [hu', asAddr, loadVar, run_agg hu, hg, hz]

theorem RVal.cellAgg {σ : ASt} {x id o sz : Nat} {t : TypeId} {b : Blk} (h : σ.env x = some (.pointer (some ⟨id, o, none⟩))) (hb : σ.mem id = some b)
    (hu : (P.underlying t).isSome = true) (hg : aggB P t = true) (hs : (P.info? t).map (·.size) = some sz) (hl : o + sz ≤ b.cells.length) :
    RVal P σ (.cell x t) (.agg ((b.cells.drop o).take sz).toArray) := by
  intro C ρ a w hR
  obtain ⟨u, hu', hv'⟩ := hR.env x _ h
  obtain ⟨rfl, _⟩ := ptr_inv hv'
  obtain ⟨us, hul, hus, hrel⟩ := pick_list (o := o) (hR.mem id b hb).cells sz hl
  have hrun : (loadCells ⟨(ρ id).blk, (ρ id).off + o, none⟩ sz).run P w = .ok us.toArray w := by
    rw [← hul]
    exact run_loadCells_list w _ us fun j v hv => by rw [addr_add]; exact hus j v hv
  refine ⟨.agg us.toArray, ?_, .agg _ _ ?_ fun k y z hy hz => hrel k y z (by simpa using hy) (by simpa using hz)⟩
  · simp [hu', asAddr, loadVar, run_agg hu, hg, run_size hs, hrun]
  · simp [hul]; omega

end Go.Proofs.Ytiikffiembcboaa.Sim
