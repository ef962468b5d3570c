/- Steps with tables of types; typed blocks. -/
import Derived.Test.YtiikffiembcboaaSim9
namespace Go.Proofs.Ytiikffiembcboaa.Sim
open Go

structure Tab where
  sl : List (Nat × Nat)
  arr : List (Nat × Nat × Nat)
  int : List (Nat × IntKind)
  sz : List (Nat × Nat)
  agg : List (Nat × Bool)
  zero : List (Nat × Value)
  by' : List (Nat × Nat)
  fld : List ((Nat × Nat) × Nat × Nat)

structure TabOk (P : Program) (T : Tab) : Prop where
  sl : ∀ t e, T.sl.lookup t = some e → P.underlying t = some (.slice e)
  arr : ∀ t n e, T.arr.lookup t = some (n, e) → P.underlying t = some (.array n e)
  int : ∀ t k, T.int.lookup t = some k → P.underlying t = some (.int k)
  sz : ∀ t s, T.sz.lookup t = some s → (P.info? t).map (·.size) = some s
  agg : ∀ t b, T.agg.lookup t = some b → (P.underlying t).isSome = true ∧ aggB P t = b
  zero : ∀ t z, T.zero.lookup t = some z → (P.info? t).map (·.zero) = some (some z)
  by' : ∀ t b, T.by'.lookup t = some b → (P.info? t).map (·.bytes) = some b
  fld : ∀ t f o t', T.fld.lookup (t, f) = some (o, t') → ∃ fs fd, P.underlying t = some (.struct fs) ∧ fs[f]? = some fd ∧ fd.offset = o ∧ fd.type = t'

theorem lookup_all {α β : Type} [BEq α] [LawfulBEq α] {p : α → β → Prop} : ∀ {l : List (α × β)}, (∀ x ∈ l, p x.1 x.2) → ∀ a b, l.lookup a = some b → p a b
  | [], _, a, b, h => by simp at h
  | (x, y) :: l, hl, a, b, h => by
    rw [List.lookup_cons] at h
    split at h
    · rename_i he
      have := eq_of_beq he
      subst this
      cases h
      exact hl (a, y) (List.mem_cons_self ..)
    · exact lookup_all (fun z hz => hl z (List.mem_cons_of_mem _ hz)) a b h

def emp {α : Type} : Nat → Option α := fun _ => none

section
variable {P : Program} {T : Tab} (H : TabOk P T)
variable {ops : Array Oper} {n i : Nat} {os : List Oper} {E : Env} {M : Mem} {D : List Eff → Prop} {K : ASt → Prop}
  {d : Tmp} {ty : TypeId} {ps : String} {af : Array Edge} {g : Option (Nat × Bool)}

theorem getM {α : Type} {f : α → Value} {l : List α} {j : Nat} (dflt : α) (h : j < l.length) : (l.map f)[j]? = some (f (l.getD j dflt)) := by
  rw [List.getElem?_map, List.getElem?_eq_getElem h, List.getD_eq_getElem?_getD, List.getElem?_eq_getElem h]
  rfl

/-- a counter goes on -/
theorem PureOp.inc {t t' : TypeId} {x y : Operand} {k : Nat} (h1 : aev E x = some (.int .i64 (k : Nat))) (h2 : aev E y = some (.int .i64 1)) (hk : k < 4611686018427387904) :
    PureOp P (.binOp .add t x y t') E (.int .i64 ((k + 1 : Nat) : Int)) := by
  have h := PureOp.bin (P := P) (op := .add) (t := t) (t' := t') h1 h2 (v := .int .i64 ((k + 1 : Nat) : Int)) (by
    simp only [evalBin, Option.some.injEq]
    rw [IntWalk.i64_in _ (by omega)]
    rfl)
  exact h

include H

theorem AWo.load {t : TypeId} {a : Operand} {id o : Nat} {b : Blk} {v : Value} (ha : aev E a = some (.pointer (some ⟨id, o, none⟩))) (hb : M id = some b) (ht : T.agg.lookup t = some false)
    (hv : b.cells[o]? = some v) (hw : wantA ops E ⟨some d, .load t a, ty, ps, af, g⟩ = some true) (hd : Nat.blt d n = true)
    (hr : AWo P ops n (i + 1) os ⟨upd E d v, M⟩ (fun es => D (⟨[id], []⟩ :: es)) K) : AWo P ops n i (⟨some d, .load t a, ty, ps, af, g⟩ :: os) ⟨E, M⟩ D K :=
  AWo.step (FStep.load ha hb (H.agg t _ ht).1 (H.agg t _ ht).2 hv) hw hd (fun p hp => by cases hp) hr

theorem AWo.loadM {α : Type} {f : α → Value} {l : List α} (dflt : α) {rw : Bool} {es : Nat} {t : TypeId} {a : Operand} {id o : Nat} (ha : aev E a = some (.pointer (some ⟨id, o, none⟩)))
    (hb : M id = some ⟨l.map f, rw, es⟩) (ht : T.agg.lookup t = some false)
    (ho : o < l.length) (hw : wantA ops E ⟨some d, .load t a, ty, ps, af, g⟩ = some true) (hd : Nat.blt d n = true)
    (hr : AWo P ops n (i + 1) os ⟨upd E d (f (l.getD o dflt)), M⟩ (fun es => D (⟨[id], []⟩ :: es)) K) : AWo P ops n i (⟨some d, .load t a, ty, ps, af, g⟩ :: os) ⟨E, M⟩ D K :=
  AWo.load H ha hb ht (getM dflt ho) hw hd hr

/-- a whole array or struct -/
theorem AWo.loadAgg {t : TypeId} {a : Operand} {id o sz : Nat} {b : Blk} {vs : List Value} (ha : aev E a = some (.pointer (some ⟨id, o, none⟩))) (hb : M id = some b)
    (ht : T.agg.lookup t = some true) (hs : T.sz.lookup t = some sz) (hl : o + sz ≤ b.cells.length) (hv : (b.cells.drop o).take sz = vs) (hw : wantA ops E ⟨some d, .load t a, ty, ps, af, g⟩ = some true) (hd : Nat.blt d n = true)
    (hr : AWo P ops n (i + 1) os ⟨upd E d (.agg vs.toArray), M⟩ (fun es => D (⟨[id], []⟩ :: es)) K) :
    AWo P ops n i (⟨some d, .load t a, ty, ps, af, g⟩ :: os) ⟨E, M⟩ D K := by
  subst hv
  exact AWo.step (FStep.loadAgg ha hb (H.agg t _ ht).1 (H.agg t _ ht).2 (H.sz t _ hs) hl) hw hd (fun p hp => by cases hp) hr

/-- all of a block -/
theorem AWo.loadAll {t : TypeId} {a : Operand} {id sz : Nat} {cells : List Value} {rw : Bool} {es : Nat} (ha : aev E a = some (.pointer (some ⟨id, 0, none⟩))) (hb : M id = some ⟨cells, rw, es⟩)
    (ht : T.agg.lookup t = some true) (hs : T.sz.lookup t = some sz) (hl : cells.length = sz) (hw : wantA ops E ⟨some d, .load t a, ty, ps, af, g⟩ = some true) (hd : Nat.blt d n = true)
    (hr : AWo P ops n (i + 1) os ⟨upd E d (.agg cells.toArray), M⟩ (fun es => D (⟨[id], []⟩ :: es)) K) :
    AWo P ops n i (⟨some d, .load t a, ty, ps, af, g⟩ :: os) ⟨E, M⟩ D K :=
  AWo.loadAgg H ha hb ht hs (by simp only; omega) (by simp only [List.drop_zero]; exact List.take_of_length_le (by omega)) hw hd hr

theorem AWo.store {t : TypeId} {a x : Operand} {id o : Nat} {b : Blk} {v : Value} {cells : List Value} (ha : aev E a = some (.pointer (some ⟨id, o, none⟩))) (hx : aev E x = some v) (hb : M id = some b)
    (hr : b.rw = true) (hs : T.sz.lookup t = some v.cells.size) (ho : o + v.cells.size ≤ b.cells.length) (hc : v.cells.toList.all (·.oneCell') = true) (hn : setL b.cells o v.cells.toList = cells)
    (hw : wantA ops E ⟨none, .store t a x, ty, ps, af, g⟩ = some true)
    (hr' : AWo P ops n (i + 1) os ⟨E, upd M id ⟨cells, true, b.es⟩⟩ (fun es => D (⟨[id], [(id, ⟨cells, true, b.es⟩)]⟩ :: es)) K) :
    AWo P ops n i (⟨none, .store t a x, ty, ps, af, g⟩ :: os) ⟨E, M⟩ D K := by
  subst hn
  exact AWo.step (FStep.store ha hx hb hr (H.sz t _ hs) ho hc) hw rfl (fun p hp hq => by simp at hp; subst hp; simp at hq) hr'

theorem AWo.storeM {α : Type} {f : α → Value} {l : List α} {y : α} {es : Nat} {t : TypeId} {a x : Operand} {id o : Nat} (ha : aev E a = some (.pointer (some ⟨id, o, none⟩))) (hx : aev E x = some (f y))
    (hb : M id = some ⟨l.map f, true, es⟩) (hs : T.sz.lookup t = some 1) (ho : o < l.length) (hc : (f y).oneCell' = true)
    (hw : wantA ops E ⟨none, .store t a x, ty, ps, af, g⟩ = some true)
    (hr' : AWo P ops n (i + 1) os ⟨E, upd M id ⟨(l.set o y).map f, true, es⟩⟩ (fun es' => D (⟨[id], [(id, ⟨(l.set o y).map f, true, es⟩)]⟩ :: es')) K) :
    AWo P ops n i (⟨none, .store t a x, ty, ps, af, g⟩ :: os) ⟨E, M⟩ D K :=
  AWo.store H ha hx hb rfl (by rw [one_cells hc]; exact hs) (by rw [one_cells hc]; simp; omega) (by rw [one_cells hc]; simpa using hc) (by rw [one_cells hc]; simp [setL, List.map_set]) hw hr'

/-- all of a block -/
theorem AWo.storeAll {t : TypeId} {a x : Operand} {id : Nat} {cells : List Value} {es : Nat} {vs : List Value} (ha : aev E a = some (.pointer (some ⟨id, 0, none⟩))) (hx : aev E x = some (.agg vs.toArray))
    (hb : M id = some ⟨cells, true, es⟩) (hs : T.sz.lookup t = some vs.length) (ho : vs.length = cells.length) (hc : vs.all (·.oneCell') = true)
    (hw : wantA ops E ⟨none, .store t a x, ty, ps, af, g⟩ = some true)
    (hr' : AWo P ops n (i + 1) os ⟨E, upd M id ⟨vs, true, es⟩⟩ (fun es' => D (⟨[id], [(id, ⟨vs, true, es⟩)]⟩ :: es')) K) :
    AWo P ops n i (⟨none, .store t a x, ty, ps, af, g⟩ :: os) ⟨E, M⟩ D K :=
  AWo.store H ha hx hb rfl (by simpa [Value.cells] using hs) (by simp [Value.cells]; omega) (by simpa [Value.cells] using hc) (by
    have key : ∀ (vs cells : List Value) (o : Nat), o + vs.length ≤ cells.length → setL cells o vs = cells.take o ++ vs ++ cells.drop (o + vs.length) := by
      intro vs
      induction vs with
      | nil => intro cells o _; simp [setL]
      | cons v vs ih =>
        intro cells o h
        simp only [List.length_cons] at h
        simp only [setL]
        rw [ih (cells.set o v) (o + 1) (by simp; omega)]
        rw [List.drop_set_of_lt (by omega)]
        have h1 : (cells.set o v).take (o + 1) = cells.take o ++ [v] := by
          rw [List.take_add_one, List.take_set_of_le (by omega), List.getElem?_set_self (by omega)]
          rfl
        rw [h1]
        simp [Nat.add_assoc, Nat.add_comm 1]
    have := key vs cells 0 (by omega)
    simp only [List.take_zero, List.nil_append, Nat.zero_add] at this
    rw [List.drop_of_length_le (by omega)] at this
    simpa [Value.cells] using this) hw hr'

theorem AWo.alloc {t : TypeId} {z : Value} (id es : Nat) (cells : List Value) (hz : T.zero.lookup t = some z) (hf : z.cells.toList.all flatV = true) (hc : z.cells.toList = cells) (hid : M id = none)
    (hw : wantA ops E ⟨some d, .alloc t, ty, ps, af, g⟩ = some true) (hd : Nat.blt d n = true)
    (hr : AWo P ops n (i + 1) os ⟨upd E d (.pointer (some ⟨id, 0, none⟩)), upd M id ⟨cells, true, es⟩⟩ (fun es' => D (⟨[], [(id, ⟨cells, true, es⟩)]⟩ :: es')) K) :
    AWo P ops n i (⟨some d, .alloc t, ty, ps, af, g⟩ :: os) ⟨E, M⟩ D K := by
  subst hc
  exact AWo.step (FStep.alloc id es (H.zero t _ hz) hf) hw hd (fun p hp _ => by simp at hp; subst hp; exact hid) hr

omit H in
theorem AWo.box {t : TypeId} {x : Operand} {v : Value} (id es : Nat) (cells : List Value) (hx : aev E x = some v) (hc : v.cells.toList = cells) (hid : M id = none)
    (hw : wantA ops E ⟨some d, .box t x, ty, ps, af, g⟩ = some true) (hd : Nat.blt d n = true)
    (hr : AWo P ops n (i + 1) os ⟨upd E d (.pointer (some ⟨id, 0, none⟩)), upd M id ⟨cells, true, es⟩⟩ (fun es' => D (⟨[], [(id, ⟨cells, true, es⟩)]⟩ :: es')) K) :
    AWo P ops n i (⟨some d, .box t x, ty, ps, af, g⟩ :: os) ⟨E, M⟩ D K := by
  subst hc
  exact AWo.step (FStep.box id es hx) hw hd (fun p hp _ => by simp at hp; subst hp; exact hid) hr

theorem AWo.makeSlice {t e : TypeId} {x y : Operand} {k sz by' : Nat} {c z : Value} (id : Nat) (cells : List Value) (hx : aev E x = some (.int .i64 k)) (hy : aev E y = some (.int .i64 k))
    (ht : T.sl.lookup t = some e) (hs : T.sz.lookup e = some sz) (h0 : sz ≠ 0) (hz : T.zero.lookup e = some z) (hzc : z.cells = Array.replicate sz c) (hc : flatV c = true)
    (hby : T.by'.lookup e = some by') (hlen : by' * k ≤ 281474976710656) (hn : k < 9223372036854775808) (hcl : List.replicate (k * sz) c = cells) (hid : M id = none)
    (hw : wantA ops E ⟨some d, .makeSlice t x y, ty, ps, af, g⟩ = some true) (hd : Nat.blt d n = true)
    (hr : AWo P ops n (i + 1) os ⟨upd E d (.slice (some ⟨id, 0, none⟩) k 0), upd M id ⟨cells, true, sz⟩⟩ (fun es' => D (⟨[], [(id, ⟨cells, true, sz⟩)]⟩ :: es')) K) :
    AWo P ops n i (⟨some d, .makeSlice t x y, ty, ps, af, g⟩ :: os) ⟨E, M⟩ D K := by
  subst hcl
  exact AWo.step (FStep.makeSlice id hx hy (H.sl t _ ht) (H.sz e _ hs) h0 (H.zero e _ hz) hzc hc (H.by' e _ hby) hlen hn) hw hd (fun p hp _ => by simp at hp; subst hp; exact hid) hr

theorem PureOp.idx {x ix : Operand} {t e : TypeId} {id o k sz : Nat} {kd : IntKind} {j : Int} (h1 : aev E x = some (.slice (some ⟨id, o, none⟩) k 0)) (h2 : aev E ix = some (.int kd j))
    (ht : T.sl.lookup t = some e) (hs : T.sz.lookup e = some sz) (hi : 0 ≤ j ∧ j < k) : PureOp P (.indexAddr t x ix) E (.pointer (some ⟨id, o + j.toNat * sz, none⟩)) :=
  PureOp.indexAddr h1 h2 (H.sl t e ht) (H.sz e sz hs) hi

/-- a slice of single cells from a block's begin, at a counter -/
theorem PureOp.idx1 {x ix : Operand} {t e : TypeId} {id k : Nat} {kd : IntKind} {j : Nat} (h1 : aev E x = some (.slice (some ⟨id, 0, none⟩) k 0)) (h2 : aev E ix = some (.int kd (j : Nat)))
    (ht : T.sl.lookup t = some e) (hs : T.sz.lookup e = some 1) (hi : j < k) : PureOp P (.indexAddr t x ix) E (.pointer (some ⟨id, j, none⟩)) := by
  have := PureOp.idx H h1 h2 ht hs (by omega)
  simpa using this

theorem PureOp.arr {x ix : Operand} {t e : TypeId} {id o k sz : Nat} {kd : IntKind} {j : Int} (h1 : aev E x = some (.pointer (some ⟨id, o, none⟩))) (h2 : aev E ix = some (.int kd j))
    (ht : T.arr.lookup t = some (k, e)) (hs : T.sz.lookup e = some sz) (hi : 0 ≤ j ∧ j < k) : PureOp P (.indexAddr t x ix) E (.pointer (some ⟨id, o + j.toNat * sz, none⟩)) :=
  PureOp.indexAddrArr h1 h2 (H.arr t k e ht) (H.sz e sz hs) hi

theorem PureOp.arr1 {x ix : Operand} {t e : TypeId} {id k : Nat} {kd : IntKind} {j : Nat} (h1 : aev E x = some (.pointer (some ⟨id, 0, none⟩))) (h2 : aev E ix = some (.int kd (j : Nat)))
    (ht : T.arr.lookup t = some (k, e)) (hs : T.sz.lookup e = some 1) (hi : j < k) : PureOp P (.indexAddr t x ix) E (.pointer (some ⟨id, j, none⟩)) := by
  have := PureOp.arr H h1 h2 ht hs (by omega)
  simpa using this

theorem PureOp.fld {x : Operand} {t t' : TypeId} {id o f off sz : Nat} (h1 : aev E x = some (.pointer (some ⟨id, o, none⟩)))
    (hf : T.fld.lookup (t, f) = some (off, t')) (hs : T.sz.lookup t' = some sz) (h0 : sz ≠ 0) : PureOp P (.fieldAddr t x f) E (.pointer (some ⟨id, o + off, none⟩)) := by
  obtain ⟨fs, fd, h2, h3, rfl, rfl⟩ := H.fld t f off t' hf
  exact PureOp.fieldAddr h1 h2 h3 (H.sz _ _ hs) h0

theorem PureOp.lenS {x : Operand} {t e : TypeId} {p : Option Addr} {k c : Nat} (h1 : aev E x = some (.slice p k c)) (ht : T.sl.lookup t = some e) :
    PureOp P (.call ⟨.builtin .len, #[x], #[t]⟩) E (.int .i64 k) := PureOp.len h1 (H.sl t e ht)

theorem PureOp.cvt {s t : TypeId} {x : Operand} {k k' : IntKind} {a : Int} (h1 : aev E x = some (.int k a)) (hs : T.int.lookup s = some k) (ht : T.int.lookup t = some k') :
    PureOp P (.convert s t x) E (.int k' (k'.wrap a)) := PureOp.conv h1 (by rw [H.int s k hs]; rfl) (H.int t k' ht)

end

/-! ### forgetting, in pieces -/

def idm (fm : List (Nat × Nat)) : Rho := fun k => ⟨(fm.lookup k).getD k, 0, none, 1⟩

def WkE (Dm : Nat → Prop) (fm : List (Nat × Nat)) (E F : Env) : Prop := ∀ t v, F t = some v → ∃ v', E t = some v' ∧ VR .arg Dm (idm fm) v v'

theorem WkE.emp {Dm : Nat → Prop} {fm : List (Nat × Nat)} {E : Env} : WkE Dm fm E Sim.emp := fun t v h => by cases h

theorem WkE.upd {Dm : Nat → Prop} {fm : List (Nat × Nat)} {E F : Env} {t : Nat} {v v' : Value} (h1 : E t = some v') (h2 : VR .arg Dm (idm fm) v v') (h : WkE Dm fm E F) : WkE Dm fm E (Sim.upd F t v) := by
  intro t' u hu
  simp only [Sim.upd] at hu
  split at hu
  · rename_i he; subst he; cases hu; exact ⟨v', h1, h2⟩
  · exact h t' u hu

def WkM (Dm : Nat → Prop) (fm : List (Nat × Nat)) (M N : Mem) : Prop := ∀ i b, N i = some b → ∃ b', M ((fm.lookup i).getD i) = some b' ∧
    (∀ (c : Nat) (x : Value), b.cells[c]? = some x → ∃ y, b'.cells[c]? = some y ∧ VR .arg Dm (idm fm) x y) ∧ (b.rw = true → b'.rw = true) ∧ b'.es = b.es ∧ b.cells.length ≤ b'.cells.length

theorem WkM.emp {Dm : Nat → Prop} {fm : List (Nat × Nat)} {M : Mem} : WkM Dm fm M Sim.emp := fun t v h => by cases h

theorem WkM.upd {Dm : Nat → Prop} {fm : List (Nat × Nat)} {M N : Mem} {i : Nat} {b b' : Blk} (h1 : M ((fm.lookup i).getD i) = some b')
    (h2 : ∀ (c : Nat) (x : Value), b.cells[c]? = some x → ∃ y, b'.cells[c]? = some y ∧ VR .arg Dm (idm fm) x y) (h3 : b.rw = true → b'.rw = true) (h4 : b'.es = b.es) (h5 : b.cells.length ≤ b'.cells.length) (h : WkM Dm fm M N) :
    WkM Dm fm M (Sim.upd N i b) := by
  intro t' u hu
  simp only [Sim.upd] at hu
  split at hu
  · rename_i he; subst he; cases hu; exact ⟨b', h1, h2, h3, h4, h5⟩
  · exact h t' u hu

/-- a block of values without pointers -/
theorem WkM.flat {Dm : Nat → Prop} {fm : List (Nat × Nat)} {M N : Mem} {i : Nat} {cells : List Value} {rw rw' : Bool} {es : Nat} (h1 : M ((fm.lookup i).getD i) = some ⟨cells, rw', es⟩)
    (hf : ∀ v ∈ cells, flatV v = true) (h3 : rw = true → rw' = true) (h : WkM Dm fm M N) : WkM Dm fm M (Sim.upd N i ⟨cells, rw, es⟩) :=
  WkM.upd h1 (fun _ x hx => ⟨x, hx, .flat x (hf x (List.mem_of_getElem? hx))⟩) h3 rfl (Nat.le_refl _) h

theorem WkM.flatM {α : Type} {f : α → Value} {l l' : List α} {Dm : Nat → Prop} {fm : List (Nat × Nat)} {M N : Mem} {i : Nat} {rw rw' : Bool} {es : Nat} (h1 : M ((fm.lookup i).getD i) = some ⟨l'.map f, rw', es⟩)
    (he : l = l') (hf : ∀ x, flatV (f x) = true) (h3 : rw = true → rw' = true) (h : WkM Dm fm M N) : WkM Dm fm M (Sim.upd N i ⟨l.map f, rw, es⟩) := by
  subst he
  exact WkM.flat h1 (fun v hv => by obtain ⟨x, _, rfl⟩ := List.mem_map.1 hv; exact hf x) h3 h

theorem VR.eqv {m : Md} {Dm : Nat → Prop} {ρ : Rho} {v v' : Value} (h : v = v') (hf : flatV v = true) : VR m Dm ρ v v' := by subst h; exact .flat v hf

/-- which blocks there are -/
theorem Wk.of {m : Nat} {fm : List (Nat × Nat)} {σ : ASt} {F : Env} {N : Mem} (ids : List Nat) (hE : WkE (dom N) fm σ.env F) (hM : WkM (dom N) fm σ.mem N)
    (hids : ∀ i, dom N i → i ∈ ids) (hnd : (ids.map fun i => (fm.lookup i).getD i).Nodup) (hlow : ((List.range m).all fun i => (N i).isSome && (fm.lookup i).getD i == i) = true) : Wk m fm σ ⟨F, N⟩ := by
  refine ⟨hE, hM, fun i j b b' hi hj he => ?_, fun i hi => ?_⟩
  · obtain ⟨a, ha, ea⟩ := List.mem_iff_getElem.1 (hids i ⟨b, hi⟩)
    obtain ⟨c', hc, ec⟩ := List.mem_iff_getElem.1 (hids j ⟨b', hj⟩)
    have : a = c' := by
      refine (List.getElem_inj (h₀ := by simpa using ha) (h₁ := by simpa using hc) hnd).1 ?_
      simp only [List.getElem_map, ea, ec]
      exact he
    subst this
    rw [← ea, ← ec]
  · have := List.all_eq_true.1 hlow i (List.mem_range.2 hi)
    simp only [Bool.and_eq_true, beq_iff_eq] at this
    obtain ⟨b, hb⟩ := Option.isSome_iff_exists.1 this.1
    exact ⟨⟨b, hb⟩, this.2⟩

theorem dom_emp {ids : List Nat} : ∀ i, dom (emp : Mem) i → i ∈ ids := fun i ⟨_, h⟩ => by cases h
theorem dom_upd_mem {N : Mem} {k : Nat} {b : Blk} {ids : List Nat} (hk : k ∈ ids) (h : ∀ i, dom N i → i ∈ ids) : ∀ i, dom (upd N k b) i → i ∈ ids := by
  rintro i ⟨b', hb⟩
  simp only [upd] at hb
  split at hb
  · rename_i he; rw [he]; exact hk
  · exact h i ⟨b', hb⟩

end Go.Proofs.Ytiikffiembcboaa.Sim
