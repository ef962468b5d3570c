/- Blocks and values with pointers in the relation of a loop; arguments that are arrays. -/
import Derived.Test.YtiikffiembcboaaSim25
namespace Go.Proofs.Ytiikffiembcboaa.Sim
open Go Go.RowKit Go.ChangeShapes Go.WideShapes

def okI (ids : List Nat) : Value → Bool
  | .pointer (some ⟨i, _, none⟩) => ids.contains i
  | .slice (some ⟨i, _, none⟩) _ 0 => ids.contains i
  | v => flatV v

def okVI (ids : List Nat) : Value → Bool
  | .agg xs => xs.toList.all (okI ids)
  | .func f xs ys => okFn f && xs.toList.all (okI ids) && ys.toList.all (okI ids)
  | v => okI ids v

theorem okI_rel {m : Md} (hm : m ≠ .real) {D : Nat → Prop} {h : Rho} {ids : List Nat} {v : Value} (hv : okI ids v = true) (hD : ∀ i ∈ ids, D i) : VR m D h v (ren1 h v) := by
  unfold okI at hv
  split at hv
  · exact .ptr _ _ (hD _ (List.contains_iff_mem.1 hv))
  · exact .slice _ _ _ 0 (hD _ (List.contains_iff_mem.1 hv)) (fun _ => rfl) (fun e => absurd e hm)
  · rw [flat_ren1 hv]; exact .flat _ hv

theorem okVI_rel {m : Md} (hm : m ≠ .real) {D : Nat → Prop} {h : Rho} {ids : List Nat} {v v' : Value} (hv : okVI ids v = true) (hD : ∀ i ∈ ids, D i) (he : ren h v = v') : VR m D h v v' := by
  subst he
  have key : ∀ (xs : Array Value), xs.toList.all (okI ids) = true → ∀ (k : Nat) (x y : Value), xs[k]? = some x → ((xs.toList.map (ren1 h)).toArray)[k]? = some y → VR m D h x y := by
    intro xs ha k x y hx hy
    rw [List.all_eq_true] at ha
    rw [List.getElem?_toArray, List.getElem?_map, Array.getElem?_toList, hx] at hy
    cases hy
    exact okI_rel hm (ha x (by rw [Array.mem_toList_iff]; exact Array.mem_of_getElem? hx)) hD
  unfold okVI at hv
  split at hv
  · exact .agg _ _ (by simp) (key _ hv)
  · simp only [Bool.and_eq_true] at hv
    exact .func _ _ _ _ _ hv.1.1 (by simp) (by simp) (key _ hv.1.2) (key _ hv.2)
  · rename_i h1 h2
    have : ∀ t x, v = .iface t x → ren h v = ren1 h x ∨ True := fun _ _ _ => .inr trivial
    cases v with
    | iface t x => simp [okI, flatV] at hv
    | tuple xs =>
      simp only [okI, flatV, Array.isEmpty_iff] at hv
      subst hv
      exact .flat _ rfl
    | agg xs => exact absurd rfl (h1 _)
    | func f xs ys => exact absurd rfl (h2 _ _ _)
    | _ => exact okI_rel hm hv hD

theorem dom_all {N : Mem} {ids : List Nat} (h : (ids.all fun i => (N i).isSome) = true) : ∀ i ∈ ids, dom N i := fun i hi => by
  have := List.all_eq_true.1 h i hi
  exact Option.isSome_iff_exists.1 this

/-- a block with pointers -/
theorem WkM.ren {Dm : Nat → Prop} {fm : List (Nat × Nat)} {M N : Mem} {i : Nat} {cells c' : List Value} {rw rw' : Bool} {es : Nat} (ids : List Nat) (h1 : M ((fm.lookup i).getD i) = some ⟨c', rw', es⟩) (hc : cells.map (ren1 (idm fm)) = c')
    (hok : cells.all (okI ids) = true) (hD : ∀ i ∈ ids, Dm i) (h3 : rw = true → rw' = true) (h : WkM Dm fm M N) : WkM Dm fm M (Sim.upd N i ⟨cells, rw, es⟩) := by
  subst hc
  exact WkM.upd h1 (fun c x hx => ⟨ren1 (idm fm) x, by rw [List.getElem?_map, hx]; rfl, okI_rel (by simp) (List.all_eq_true.1 hok x (List.mem_of_getElem? hx)) hD⟩) h3 rfl (by simp) h

/-! ### blocks of blocks -/

theorem flat_take {α : Type} {n : Nat} : ∀ {L : List (List α)} {i : Nat}, (∀ x ∈ L, x.length = n) → i < L.length → (L.flatten.drop (i * n)).take n = L.getD i []
  | [], i, _, hi => by simp at hi
  | x :: L, i, h, hi => by
    have hx := h x (List.mem_cons_self ..)
    cases i with
    | zero => simp [List.flatten_cons, ← hx]
    | succ i =>
      have e1 : (x ++ L.flatten).drop n = L.flatten := by rw [← hx]; exact List.drop_left
      rw [List.flatten_cons, Nat.add_mul, Nat.one_mul, Nat.add_comm, ← List.drop_drop, e1, List.getD_cons_succ]
      exact flat_take (fun y hy => h y (List.mem_cons_of_mem _ hy)) (by simpa using hi)

theorem flat_len {α : Type} {n : Nat} : ∀ {L : List (List α)}, (∀ x ∈ L, x.length = n) → L.flatten.length = L.length * n
  | [], _ => by simp
  | x :: L, h => by
    rw [List.flatten_cons, List.length_append, flat_len fun y hy => h y (List.mem_cons_of_mem _ hy), h x (List.mem_cons_self ..), List.length_cons, Nat.add_mul, Nat.one_mul, Nat.add_comm]

theorem flat_take_map {α β : Type} {f : α → β} {n : Nat} {L : List (List α)} {i : Nat} (h : ∀ x ∈ L, x.length = n) (hi : i < L.length) : ((L.flatten.map f).drop (i * n)).take n = (L.getD i []).map f := by
  rw [← List.map_drop, ← List.map_take, flat_take h hi]

theorem flat_get {α : Type} {n : Nat} {L : List (List α)} (h : ∀ x ∈ L, x.length = n) {j : Nat} (hj : j < L.flatten.length) : L.flatten[j]? = (L.getD (j / n) [])[j % n]? := by
  have hl := flat_len h
  have hn : 0 < n := by
    rcases Nat.eq_zero_or_pos n with h0 | h0
    · subst h0; omega
    · exact h0
  have hi : j / n < L.length := by rw [Nat.div_lt_iff_lt_mul hn]; omega
  have := flat_take h hi
  rw [← this, List.getElem?_take, if_pos (Nat.mod_lt _ hn), List.getElem?_drop]
  congr 1
  have := Nat.div_add_mod j n
  rw [Nat.mul_comm] at this
  omega

/-! ### arguments -/

def numV : Value → Int
  | .int _ n => n
  | _ => 0

section
variable {H : Type} {enc : TypeId × Value → H} {P : Program} {W : World} {base : Nat} {spare : Nat → Bool} {held : Bool}

theorem arr_cells {t e : TypeId} {k : IntKind} {n fuel : Nat} {cs : List Value} {x : DataW H × List MemPlace} (ht : P.underlying t = some (.array n e)) (he : P.underlying e = some (.int k)) (hc : P.cellsOf e = 1) (hct : P.cellsOf t = n)
    (h : DataW.trod enc P W base spare held fuel t cs = some x) : cs = (cs.map numV).map (Value.int k) ∧ cs.length = n ∧ ∀ z ∈ cs.map numV, (Lit.int k z).wf = true := by
  obtain ⟨xs, m, _, _, hl, hxl, hx⟩ := DataW.trod_array ht h
  rw [hct] at hl
  have key : ∀ (i : Nat) (v : Value), cs[i]? = some v → ∃ z, v = Value.int k z ∧ (Lit.int k z).wf = true := by
    intro i v hv
    have hi : i < cs.length := (List.getElem?_eq_some_iff.1 hv).1
    have h1 := hx i (by omega)
    rw [hc, Nat.mul_one, List.getElem?_eq_getElem (by omega)] at h1
    obtain ⟨z, hz, _, hw⟩ := DataW.trod_int he h1
    rw [List.drop_eq_getElem_cons hi, List.take_succ_cons, List.take_zero] at hz
    rw [List.getElem?_eq_getElem hi] at hv
    cases hv
    exact ⟨z, by simpa using hz, hw⟩
  refine ⟨?_, hl, fun z hz => ?_⟩
  · apply List.ext_getElem?
    intro i
    rw [List.map_map, List.getElem?_map]
    cases hv : cs[i]? with
    | none => rfl
    | some v => obtain ⟨z, rfl, _⟩ := key i v hv; rfl
  · obtain ⟨v, hv, rfl⟩ := List.mem_map.1 hz
    obtain ⟨i, hi⟩ := List.mem_iff_getElem?.1 hv
    obtain ⟨z, rfl, hw⟩ := key i v hi
    exact hw

theorem okWide_arr {t e : TypeId} {n : Nat} {r : Reach} {base : Nat} {v : Value} (ht : P.underlying t = some (.array n e)) (h : Value.okWide P W r base t v) : ∃ cs, v = .agg cs := by
  simp only [Value.okWide, ht] at h
  obtain ⟨cs, rfl, _⟩ := h
  exact ⟨cs, rfl⟩

/-- an argument that is an array of numbers -/
theorem open_arr {t e : TypeId} {k : IntKind} {n : Nat} {r : Reach} {base' : Nat} {v : Value} {d : DataW H} {pl : List MemPlace} (ht : P.underlying t = some (.array n e)) (he : P.underlying e = some (.int k)) (hc : P.cellsOf e = 1) (hct : P.cellsOf t = n)
    (hv : Value.okWide P W r base' t v) (h : DataW.Trod enc P W base spare held t v d pl) : ∃ zs : List Int, v = .agg (zs.map (Value.int k)).toArray ∧ zs.length = n ∧ ∀ z ∈ zs, (Lit.int k z).wf = true := by
  obtain ⟨cs, rfl⟩ := okWide_arr ht hv
  obtain ⟨fuel, hf⟩ := h
  obtain ⟨h1, h2, h3⟩ := arr_cells ht he hc hct hf
  refine ⟨(Value.agg cs).cells.toList.map numV, ?_, by simpa using h2, h3⟩
  congr 1
  apply Array.ext'
  exact h1

/-- an argument that is a slice of arrays of numbers -/
theorem open_arrs {s t e : TypeId} {k : IntKind} {n : Nat} {r : Reach} {base' : Nat} {v : Value} {d : DataW H} {pl : List MemPlace} (hs : P.underlying s = some (.slice t)) (ht : P.underlying t = some (.array n e)) (he : P.underlying e = some (.int k)) (hc : P.cellsOf e = 1) (hct : P.cellsOf t = n)
    (hn : 0 < n) (hv : Value.okWide P W r base' s v) (h : DataW.Trod enc P W base spare held s v d pl) :
    ∃ (p : Pl) (L : List (List Int)), ROk W p (L.flatten.map (Value.int k)) n ∧ SlArg p L.length v ∧ (∀ x ∈ L, x.length = n) ∧ ∀ x ∈ L, ∀ z ∈ x, (Lit.int k z).wf = true := by
  obtain ⟨a0, len0, cap0, rfl⟩ := okWide_slice hs hv
  obtain ⟨fuel, hf⟩ := h
  rcases DataW.trod_slice hs hf with ⟨hcs, _⟩ | ⟨a, len, cap, elems, rest, m, _, hcs, _, _, hl, _, hlen, hel, _, _⟩
  · have hcs' : Value.slice a0 len0 cap0 = .slice none 0 0 := by simpa [Value.cells] using hcs
    exact ⟨⟨0, 0, none, n⟩, [], ⟨rfl, rfl, fun i v h => by simp at h, fun v h => by simp at h⟩, .inr ⟨rfl, hcs'⟩, fun x h => by simp at h, fun x h => by simp at h⟩
  · have hcs' : Value.slice a0 len0 cap0 = .slice (some a) len cap := by simpa [Value.cells] using hcs
    rw [hcs'] at hv ⊢
    have hsp := spot_none hs hv
    obtain ⟨b, o, sp⟩ := a
    simp only at hsp; subst hsp
    rw [hct] at hel
    have each : ∀ i, i < len → ∃ cs, W.cells? base ((⟨b, o, none⟩ : Addr).add (i * n)) n = some cs ∧ cs = (cs.map numV).map (Value.int k) ∧ cs.length = n ∧ ∀ z ∈ cs.map numV, (Lit.int k z).wf = true := by
      intro i hi
      have h1 := hel i hi
      rw [List.getElem?_eq_getElem (by omega), Option.bind_eq_some_iff] at h1
      obtain ⟨cs, h2, h3⟩ := h1
      obtain ⟨h4, h5, h6⟩ := arr_cells ht he hc hct h3
      exact ⟨cs, h2, h4, h5, h6⟩
    let L : List (List Int) := (List.range len).map fun i => ((W.cells? base ((⟨b, o, none⟩ : Addr).add (i * n)) n).getD []).map numV
    have hL : ∀ i, i < len → ∃ cs, W.cells? base ((⟨b, o, none⟩ : Addr).add (i * n)) n = some cs ∧ L.getD i [] = cs.map numV := by
      intro i hi
      obtain ⟨cs, h1, _⟩ := each i hi
      refine ⟨cs, h1, ?_⟩
      simp only [L, List.getD_eq_getElem?_getD, List.getElem?_map, List.getElem?_range hi, Option.map_some, Option.getD_some, h1]
    have hLl : L.length = len := by simp [L]
    have hmem : ∀ x ∈ L, ∃ i, i < len ∧ x = L.getD i [] := by
      intro x hx
      obtain ⟨i, hi, rfl⟩ := List.mem_iff_getElem.1 hx
      exact ⟨i, by omega, by rw [List.getD_eq_getElem?_getD, List.getElem?_eq_getElem hi]; rfl⟩
    have hln : ∀ x ∈ L, x.length = n := by
      intro x hx
      obtain ⟨i, hi, rfl⟩ := hmem x hx
      obtain ⟨cs, h1, h2⟩ := hL i hi
      obtain ⟨cs', h3, _, h4, _⟩ := each i hi
      rw [h1] at h3; cases h3
      rw [h2, List.length_map, h4]
    refine ⟨⟨b, o, none, n⟩, L, ⟨rfl, rfl, fun j v hj => ?_, fun v hv => ?_⟩, .inl ⟨cap, by rw [hLl], by rw [hLl]; exact hl⟩, hln, fun x hx => ?_⟩
    · have hjl : j < L.flatten.length := by
        have := (List.getElem?_eq_some_iff.1 hj).1
        rwa [List.length_map] at this
      have hjn : j / n < len := by
        rw [Nat.div_lt_iff_lt_mul hn]
        have := flat_len hln
        rw [hLl] at this
        omega
      rw [List.getElem?_map, flat_get hln hjl] at hj
      obtain ⟨cs, h1, h2⟩ := hL _ hjn
      obtain ⟨cs', h3, h4, h5, _⟩ := each _ hjn
      rw [h1] at h3; cases h3
      rw [h2, ← List.getElem?_map, ← h4] at hj
      obtain ⟨_, _, h8⟩ := World.cells?_some h1
      have h9 := h8 (j % n) (by have := Nat.mod_lt j hn; omega)
      rw [addr_add, addr_add] at h9
      have e : o + j / n * n + j % n = o + j := by
        have := Nat.div_add_mod j n
        rw [Nat.mul_comm] at this
        omega
      rw [e] at h9
      rw [h9]
      exact hj
    · obtain ⟨z, _, rfl⟩ := List.mem_map.1 hv; rfl
    · obtain ⟨i, hi, rfl⟩ := hmem x hx
      obtain ⟨cs, h1, h2⟩ := hL i hi
      obtain ⟨cs', h3, _, _, h6⟩ := each i hi
      rw [h1] at h3; cases h3
      rw [h2]; exact h6
end

/-- an element of a slice of larger elements, at a counter -/
theorem PureOp.idxN {P : Program} {T : Tab} (H : TabOk P T) {E : Env} {x ix : Operand} {t e : TypeId} {id o n sz : Nat} {kd : IntKind} {j : Nat} (h1 : aev E x = some (.slice (some ⟨id, o, none⟩) n 0)) (h2 : aev E ix = some (.int kd (j : Nat)))
    (ht : T.sl.lookup t = some e) (hs : T.sz.lookup e = some sz) (hi : j < n) : PureOp P (.indexAddr t x ix) E (.pointer (some ⟨id, o + j * sz, none⟩)) := by
  have := PureOp.idx H h1 h2 ht hs (by omega)
  simpa using this

theorem nat_map {k : IntKind} {zs : List Int} (h : ∀ z ∈ zs, 0 ≤ z) : zs.map (Value.int k) = (zs.map Int.toNat).map (vi k) := by
  rw [List.map_map]
  refine List.map_congr_left fun z hz => ?_
  have := h z hz
  simp only [Function.comp, vi]
  congr 1
  omega

end Go.Proofs.Ytiikffiembcboaa.Sim
