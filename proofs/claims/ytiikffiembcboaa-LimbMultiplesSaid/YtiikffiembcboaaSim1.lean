/- Abstract states and their relation to the model's frames and worlds. -/
import Derived.Orders
import Derived.LoopN
import Derived.Tactics
namespace Go.Proofs.Ytiikffiembcboaa.Sim
open Go

structure Pl where
  blk : Nat
  off : Nat
  lim : Option Nat
  es : Nat

abbrev Rho := Nat → Pl

def okFn : Fn → Bool
  | .yield _ => false
  | _ => true

/-- values without pointers -/
def flatV : Value → Bool
  | .bool _ => true
  | .int _ _ => true
  | .string _ => true
  | .pointer none => true
  | .slice none 0 0 => true
  | .map none => true
  | .nilFunc => true
  | .nilIface => true
  | .func fn first captured => okFn fn && first.isEmpty && captured.isEmpty
  | .tuple vs => vs.isEmpty
  | _ => false

/-- real: the second is a value of the run; arg, res: it is abstract, too -/
inductive Md
  | real | arg | res

/-- an abstract value and the value that it stands for: pointers go through ρ -/
inductive VR (m : Md) (D : Nat → Prop) (ρ : Rho) : Value → Value → Prop
  | flat (v : Value) (h : flatV v = true) : VR m D ρ v v
  | ptr (i o : Nat) (hd : D i) : VR m D ρ (.pointer (some ⟨i, o, none⟩)) (.pointer (some ⟨(ρ i).blk, (ρ i).off + o, none⟩))
  | slice (i o n c : Nat) (hd : D i) (h1 : m ≠ .real → c = 0) (h2 : m = .real → n ≤ c ∧ ∀ L, (ρ i).lim = some L → (ρ i).off + o + c * (ρ i).es ≤ L) :
      VR m D ρ (.slice (some ⟨i, o, none⟩) n 0) (.slice (some ⟨(ρ i).blk, (ρ i).off + o, none⟩) n c)
  | nilS (p : Addr) (h : m ≠ .res) : VR m D ρ (.slice (some p) 0 0) (.slice none 0 0)
  | dead (p q : Addr) (c : Nat) (h1 : m ≠ .real → c = 1) : VR m D ρ (.slice (some p) 0 1) (.slice (some q) 0 c)
  | agg (xs ys : Array Value) (hs : xs.size = ys.size) (h : ∀ (k : Nat) (x y : Value), xs[k]? = some x → ys[k]? = some y → VR m D ρ x y) : VR m D ρ (.agg xs) (.agg ys)
  | tuple (xs ys : Array Value) (hs : xs.size = ys.size) (h : ∀ (k : Nat) (x y : Value), xs[k]? = some x → ys[k]? = some y → VR m D ρ x y) : VR m D ρ (.tuple xs) (.tuple ys)
  | func (fn : Fn) (xs ys xs' ys' : Array Value) (hf : okFn fn = true) (hs : xs.size = ys.size) (hs' : xs'.size = ys'.size)
      (h : ∀ (k : Nat) (x y : Value), xs[k]? = some x → ys[k]? = some y → VR m D ρ x y)
      (h' : ∀ (k : Nat) (x y : Value), xs'[k]? = some x → ys'[k]? = some y → VR m D ρ x y) : VR m D ρ (.func fn xs xs') (.func fn ys ys')
  | iface (t : TypeId) (x y : Value) (h : VR m D ρ x y) : VR m D ρ (.iface t x) (.iface t y)

def comp (ρ h : Rho) : Rho := fun k => ⟨(ρ (h k).blk).blk, (ρ (h k).blk).off + (h k).off, (ρ (h k).blk).lim, (ρ (h k).blk).es⟩

theorem exists_get {ys : Array Value} {k n : Nat} (h : k < n) (hs : n = ys.size) : ∃ y, ys[k]? = some y :=
  ⟨ys[k]'(by omega), by simp [Array.getElem?_eq_getElem (show k < ys.size by omega)]⟩

theorem get_lt {ys : Array Value} {k : Nat} {y : Value} (h : ys[k]? = some y) : k < ys.size := by
  rcases Nat.lt_or_ge k ys.size with h1 | h1
  · exact h1
  · simp [Array.getElem?_eq_none h1] at h

theorem VR.mono {m : Md} {D D' : Nat → Prop} {ρ ρ' : Rho} {v u : Value} (h : VR m D ρ v u) (hD : ∀ i, D i → D' i) (hρ : ∀ i, D i → ρ' i = ρ i) :
    VR m D' ρ' v u := by
  induction h with
  | flat v h => exact .flat v h
  | ptr i o hd => rw [← hρ i hd]; exact .ptr i o (hD i hd)
  | slice i o n c hd h1 h2 => rw [← hρ i hd]; exact .slice i o n c (hD i hd) h1 (by rw [hρ i hd]; exact h2)
  | nilS p h => exact .nilS p h
  | dead p q c h1 => exact .dead p q c h1
  | agg xs ys hs _ ih => exact .agg xs ys hs ih
  | tuple xs ys hs _ ih => exact .tuple xs ys hs ih
  | func fn xs ys xs' ys' hf hs hs' _ _ ih ih' => exact .func fn xs ys xs' ys' hf hs hs' ih ih'
  | iface t x y _ ih => exact .iface t x y ih

theorem flat_inv {m : Md} {D : Nat → Prop} {ρ : Rho} {v u : Value} (h : VR m D ρ v u) (hf : flatV v = true) : u = v := by
  cases h with
  | flat => rfl
  | ptr => simp [flatV] at hf
  | slice => simp [flatV] at hf
  | nilS => simp [flatV] at hf
  | dead => simp [flatV] at hf
  | agg => simp [flatV] at hf
  | tuple xs ys hs h =>
    simp only [flatV, Array.isEmpty_iff] at hf
    subst hf
    simp only [List.size_toArray, List.length_nil] at hs
    rw [Array.eq_empty_of_size_eq_zero hs.symm]
  | func fn xs ys xs' ys' hf' hs hs' h h' =>
    simp only [flatV, Bool.and_eq_true, Array.isEmpty_iff] at hf
    obtain ⟨⟨_, h1⟩, h2⟩ := hf
    subst h1; subst h2
    simp only [List.size_toArray, List.length_nil] at hs hs'
    rw [Array.eq_empty_of_size_eq_zero hs.symm, Array.eq_empty_of_size_eq_zero hs'.symm]
  | iface => simp [flatV] at hf

theorem VR.comp {m : Md} (hm : m ≠ .real) {D D' : Nat → Prop} {h ρ : Rho} {v vc : Value} (h1 : VR m D h v vc) : ∀ {u : Value}, VR .real D' ρ vc u → VR .real D (comp ρ h) v u := by
  induction h1 with
  | flat v hf => intro u hu; rw [flat_inv hu hf]; exact .flat v hf
  | ptr i o hd =>
    intro u hu
    cases hu with
    | flat _ hf => simp [flatV] at hf
    | ptr j o' hd' =>
      rw [← Nat.add_assoc]
      exact VR.ptr (ρ := Sim.comp ρ h) i o hd
  | slice i o n c hd h1 h2 =>
    intro u hu
    obtain rfl := h1 hm
    cases hu with
    | flat _ hf => simp [flatV] at hf
    | nilS p h => exact .nilS _ (by simp)
    | slice j o' n' c' hd' h1' h2' =>
      rw [← Nat.add_assoc]
      exact VR.slice (ρ := Sim.comp ρ h) i o n c' hd (by simp) (fun _ => ⟨(h2' rfl).1, fun L hL => by
        have := (h2' rfl).2 L hL; simp only [Sim.comp] at *; omega⟩)
  | nilS p h =>
    intro u hu
    rw [flat_inv hu rfl]
    exact .nilS p (by simp)
  | dead p q c h1 =>
    intro u hu
    obtain rfl := h1 hm
    cases hu with
    | flat _ hf => simp [flatV] at hf
    | dead p' q' c' h1' => exact .dead p q' c' (by simp)
  | agg xs ys hs _ ih =>
    intro u hu
    cases hu with
    | flat _ hf => simp [flatV] at hf
    | agg _ zs hs' h' =>
      refine .agg xs zs (hs.trans hs') fun k x z hx hz => ?_
      obtain ⟨y, hy⟩ := exists_get (get_lt hx) hs
      exact ih k x y hx hy (h' k y z hy hz)
  | tuple xs ys hs _ ih =>
    intro u hu
    cases hu with
    | flat _ hf =>
      refine .tuple xs ys hs fun k x z hx hz => ?_
      simp only [flatV, Array.isEmpty_iff] at hf
      subst hf
      simp at hz
    | tuple _ zs hs' h' =>
      refine .tuple xs zs (hs.trans hs') fun k x z hx hz => ?_
      obtain ⟨y, hy⟩ := exists_get (get_lt hx) hs
      exact ih k x y hx hy (h' k y z hy hz)
  | func fn xs ys xs' ys' hf hs hs' _ _ ih ih' =>
    intro u hu
    cases hu with
    | flat _ hf' =>
      simp only [flatV, Bool.and_eq_true, Array.isEmpty_iff] at hf'
      obtain ⟨⟨_, e1⟩, e2⟩ := hf'
      subst e1; subst e2
      exact .func fn xs _ xs' _ hf hs hs' (fun k x z hx hz => by simp at hz) (fun k x z hx hz => by simp at hz)
    | func _ _ zs _ zs' _ hz hz' h1 h1' =>
      refine .func fn xs zs xs' zs' hf (hs.trans hz) (hs'.trans hz') (fun k x z hx hz => ?_) (fun k x z hx hz => ?_)
      · obtain ⟨y, hy⟩ := exists_get (get_lt hx) hs
        exact ih k x y hx hy (h1 k y z hy hz)
      · obtain ⟨y, hy⟩ := exists_get (get_lt hx) hs'
        exact ih' k x y hx hy (h1' k y z hy hz)
  | iface t x y _ ih =>
    intro u hu
    cases hu with
    | flat _ hf => simp [flatV] at hf
    | iface _ _ z hz => exact .iface t x z (ih hz)

theorem VR.push {D D' : Nat → Prop} {h ρ : Rho} {v vc : Value} (h1 : VR .res D h v vc) (hD : ∀ i, D i → D' (h i).blk) :
    ∀ {u : Value}, VR .real D (Sim.comp ρ h) v u → VR .real D' ρ vc u := by
  induction h1 with
  | flat v hf => intro u hu; rw [flat_inv hu hf]; exact .flat v hf
  | ptr i o hd =>
    intro u hu
    cases hu with
    | flat _ hf => simp [flatV] at hf
    | ptr j o' hd' =>
      have := VR.ptr (m := .real) (ρ := ρ) (D := D') (h i).blk ((h i).off + o) (hD i hd)
      rw [← Nat.add_assoc] at this
      exact this
  | slice i o n c hd h1 h2 =>
    intro u hu
    obtain rfl := h1 (by simp)
    cases hu with
    | flat _ hf => simp [flatV] at hf
    | nilS p h => exact .nilS _ (by simp)
    | slice j o' n' c' hd' h1' h2' =>
      have := VR.slice (m := .real) (ρ := ρ) (D := D') (h i).blk ((h i).off + o) n c' (hD i hd) (by simp) (fun _ => ⟨(h2' rfl).1, fun L hL => by
        have := (h2' rfl).2 L hL; simp only [Sim.comp] at *; omega⟩)
      rw [← Nat.add_assoc] at this
      exact this
  | nilS p h => exact absurd rfl h
  | dead p q c h1 =>
    intro u hu
    obtain rfl := h1 (by simp)
    cases hu with
    | flat _ hf => simp [flatV] at hf
    | dead p' q' c' h1' => exact .dead q q' c' (by simp)
  | agg xs ys hs _ ih =>
    intro u hu
    cases hu with
    | flat _ hf => simp [flatV] at hf
    | agg _ zs hs' h' =>
      refine .agg ys zs (hs.symm.trans hs') fun k y z hy hz => ?_
      obtain ⟨x, hx⟩ := exists_get (get_lt hy) hs.symm
      exact ih k x y hx hy (h' k x z hx hz)
  | tuple xs ys hs _ ih =>
    intro u hu
    cases hu with
    | flat _ hf =>
      simp only [flatV, Array.isEmpty_iff] at hf
      subst hf
      simp only [List.size_toArray, List.length_nil] at hs
      rw [Array.eq_empty_of_size_eq_zero hs.symm]
      exact .flat _ rfl
    | tuple _ zs hs' h' =>
      refine .tuple ys zs (hs.symm.trans hs') fun k y z hy hz => ?_
      obtain ⟨x, hx⟩ := exists_get (get_lt hy) hs.symm
      exact ih k x y hx hy (h' k x z hx hz)
  | func fn xs ys xs' ys' hf hs hs' _ _ ih ih' =>
    intro u hu
    cases hu with
    | flat _ hf' =>
      simp only [flatV, Bool.and_eq_true, Array.isEmpty_iff] at hf'
      obtain ⟨⟨e0, e1⟩, e2⟩ := hf'
      subst e1; subst e2
      simp only [List.size_toArray, List.length_nil] at hs hs'
      rw [Array.eq_empty_of_size_eq_zero hs.symm, Array.eq_empty_of_size_eq_zero hs'.symm]
      exact .flat _ (by simp [flatV, hf])
    | func _ _ zs _ zs' _ hz hz' h1 h1' =>
      refine .func fn ys zs ys' zs' hf (hs.symm.trans hz) (hs'.symm.trans hz') (fun k y z hy hz => ?_) (fun k y z hy hz => ?_)
      · obtain ⟨x, hx⟩ := exists_get (get_lt hy) hs.symm
        exact ih k x y hx hy (h1 k x z hx hz)
      · obtain ⟨x, hx⟩ := exists_get (get_lt hy) hs'.symm
        exact ih' k x y hx hy (h1' k x z hx hz)
  | iface t x y _ ih =>
    intro u hu
    cases hu with
    | flat _ hf => simp [flatV] at hf
    | iface _ _ z hz => exact .iface t y z (ih hz)

/-! ### memory -/

structure Blk where
  cells : List Value
  rw : Bool
  es : Nat := 1

/-- a block that may be written; one that has no room at all (nil's) need not be there -/
def Blk.own (p : Pl) (b : Blk) : Prop := b.rw = true ∧ p.lim ≠ some 0

/-- an empty block that is only read need not be there -/
def Blk.solid (p : Pl) (b : Blk) : Prop := b.own p ∨ b.cells ≠ []

theorem Blk.solid_get {p : Pl} {b : Blk} {k : Nat} {v : Value} (h : b.cells[k]? = some v) : b.solid p := .inr fun e => by rw [e] at h; simp at h

abbrev Mem := Nat → Option Blk
abbrev Env := Nat → Option Value

def dom (M : Mem) (i : Nat) : Prop := ∃ b, M i = some b

structure RwOk (ρ : Rho) (M : Mem) (w : World) (i : Nat) : Prop where
  off : (ρ i).off = 0
  soft : ∀ o, w.frozen? ⟨(ρ i).blk, o, none⟩ = false
  lim : ∃ L, (ρ i).lim = some L ∧ ∀ k, k < L → ∃ x, w.cell? ⟨(ρ i).blk, k, none⟩ = some x
  lone : ∀ j bj, M j = some bj → bj.solid (ρ j) → j ≠ i → (ρ j).blk ≠ (ρ i).blk

structure BlkOk (ρ : Rho) (M : Mem) (w : World) (i : Nat) (b : Blk) : Prop where
  lt : b.solid (ρ i) → (ρ i).blk < w.heap.size
  cells : ∀ k v, b.cells[k]? = some v → ∃ u, w.cell? ⟨(ρ i).blk, (ρ i).off + k, none⟩ = some u ∧ VR .real (dom M) ρ v u
  rw : b.own (ρ i) → RwOk ρ M w i
  es : (ρ i).es = b.es
  room : ∀ L, (ρ i).lim = some L → (ρ i).off + b.cells.length ≤ L

def MemOk (ρ : Rho) (M : Mem) (w : World) : Prop := ∀ i b, M i = some b → BlkOk ρ M w i b

theorem BlkOk.owned {ρ : Rho} {M : Mem} {w : World} {i : Nat} {b : Blk} (h : BlkOk ρ M w i b) (hr : b.rw = true) (hc : 0 < b.cells.length) : b.own (ρ i) :=
  ⟨hr, fun e => by have := h.room 0 e; omega⟩

/-- what was there keeps what it held, but for the blocks RW -/
structure Fr (w0 w : World) (RW : Nat → Prop) : Prop where
  os : w.os = w0.os
  tape : w.tape = w0.tape
  output : w.output = w0.output
  size : w0.heap.size ≤ w.heap.size
  block : ∀ k, k < w0.heap.size → ¬ RW k → w.heap[k]? = w0.heap[k]?

theorem Fr.refl (w : World) (RW : Nat → Prop) : Fr w w RW := ⟨rfl, rfl, rfl, Nat.le_refl _, fun _ _ _ => rfl⟩

theorem Fr.trans {w0 w1 w2 : World} {RW RW' : Nat → Prop} (h : Fr w0 w1 RW) (h' : Fr w1 w2 RW') (hR : ∀ k, k < w0.heap.size → RW' k → RW k) : Fr w0 w2 RW :=
  ⟨h'.os.trans h.os, h'.tape.trans h.tape, h'.output.trans h.output, Nat.le_trans h.size h'.size,
    fun k hk hn => (h'.block k (Nat.lt_of_lt_of_le hk h.size) (fun h2 => hn (hR k hk h2))).trans (h.block k hk hn)⟩

structure ASt where
  env : Env
  mem : Mem

structure Ctx where
  n : Nat
  m : Nat
  w0 : World
  ρ0 : Rho
  RW : Nat → Prop

structure Rep (C : Ctx) (ρ : Rho) (σ : ASt) (a : Act) (w : World) : Prop where
  size : a.tmps.size = C.n
  defers : a.defers = []
  env : ∀ t v, σ.env t = some v → ∃ u, a.tmps[t]? = some u ∧ VR .real (dom σ.mem) ρ v u
  mem : MemOk ρ σ.mem w
  agree : ∀ i, i < C.m → ρ i = C.ρ0 i
  low : ∀ i, i < C.m → ∃ b, σ.mem i = some b
  own : ∀ i b, σ.mem i = some b → b.own (ρ i) → C.RW (ρ i).blk ∨ C.w0.heap.size ≤ (ρ i).blk
  frame : Fr C.w0 w C.RW

def upd {α : Type} (f : Nat → Option α) (k : Nat) (v : α) : Nat → Option α := fun t => if t = k then some v else f t

def upds (M : Mem) : List (Nat × Blk) → Mem
  | [] => M
  | (i, b) :: r => upd (upds M r) i b

def putE (E : Env) (d : Option Tmp) (v : Value) : Env := match d with
  | some t => upd E t v
  | none => E

/-- an operand's abstract value -/
def pureV : Value → Bool
  | .agg cs => cs.toList.all flatV
  | .tuple cs => cs.toList.all flatV
  | v => flatV v

def aev (E : Env) : Operand → Option Value
  | .tmp t => E t
  | .const v => if pureV v then some v else none
  | .func f => some (.func (.func f) #[] #[])
  | .global _ => none

theorem VR.pure {m : Md} {D : Nat → Prop} {ρ : Rho} {v : Value} (h : pureV v = true) : VR m D ρ v v := by
  unfold pureV at h
  split at h
  · rename_i cs
    refine .agg cs cs rfl fun k x y hx hy => ?_
    rw [hx] at hy; cases hy
    exact .flat x (by
      rw [List.all_eq_true] at h
      exact h x (Array.mem_toList_iff.2 (Array.mem_of_getElem? hx)))
  · rename_i cs
    refine .tuple cs cs rfl fun k x y hx hy => ?_
    rw [hx] at hy; cases hy
    exact .flat x (by
      rw [List.all_eq_true] at h
      exact h x (Array.mem_toList_iff.2 (Array.mem_of_getElem? hx)))
  · exact .flat _ h

theorem Rep.eval {C : Ctx} {ρ : Rho} {σ : ASt} {a : Act} {w : World} (h : Rep C ρ σ a w) {x : Operand} {v : Value} (hx : aev σ.env x = some v) :
    VR .real (dom σ.mem) ρ v (a.eval x) := by
  cases x with
  | tmp t =>
    obtain ⟨u, hu, hr⟩ := h.env t v hx
    simp only [Act.eval, Array.getD_eq_getD_getElem?, hu, Option.getD_some]
    exact hr
  | const c =>
    simp only [aev] at hx
    split at hx
    · rename_i hp; cases hx; exact VR.pure hp
    · cases hx
  | func f => simp only [aev, Option.some.injEq] at hx; subst hx; exact .flat _ rfl
  | global g => cases hx

theorem flat_pure_inv {m : Md} {D : Nat → Prop} {ρ : Rho} {v u : Value} (h : VR m D ρ v u) (hf : pureV v = true) : u = v := by
  unfold pureV at hf
  split at hf
  · rename_i cs
    cases h with
    | flat => rfl
    | agg _ ys hs hh =>
      congr 1
      refine Array.ext_getElem? fun k => ?_
      rcases Nat.lt_or_ge k cs.size with hk | hk
      · have e1 : cs[k]? = some cs[k] := Array.getElem?_eq_getElem hk
        obtain ⟨y, hy⟩ := exists_get hk hs
        rw [e1, hy]
        rw [List.all_eq_true] at hf
        rw [flat_inv (hh k _ y e1 hy) (hf _ (Array.mem_toList_iff.2 (Array.mem_of_getElem? e1)))]
      · rw [Array.getElem?_eq_none hk, Array.getElem?_eq_none (hs ▸ hk)]
  · rename_i cs
    cases h with
    | flat => rfl
    | tuple _ ys hs hh =>
      congr 1
      refine Array.ext_getElem? fun k => ?_
      rcases Nat.lt_or_ge k cs.size with hk | hk
      · have e1 : cs[k]? = some cs[k] := Array.getElem?_eq_getElem hk
        obtain ⟨y, hy⟩ := exists_get hk hs
        rw [e1, hy]
        rw [List.all_eq_true] at hf
        rw [flat_inv (hh k _ y e1 hy) (hf _ (Array.mem_toList_iff.2 (Array.mem_of_getElem? e1)))]
      · rw [Array.getElem?_eq_none hk, Array.getElem?_eq_none (hs ▸ hk)]
  · exact flat_inv h hf

end Go.Proofs.Ytiikffiembcboaa.Sim
