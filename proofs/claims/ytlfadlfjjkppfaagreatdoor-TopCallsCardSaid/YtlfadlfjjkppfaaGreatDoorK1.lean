/- What the proof stands on, part 1: the walk of each function, and plain laws of numbers. -/
import Derived.Orders
import Derived.LoopN
import Derived.Tactics
import Derived.IntWalk
import Derived.Laws.Cells
import Derived.Laws.Entries
import Derived.ScopeJumps
import Derived.Laws.Small
import Derived.Below
namespace Go.Proofs.YtlfadlfjjkppfaaGreatDoor.Sim
open Go
structure Pl where
  blk : Nat
  off : Nat
  lim : Option Nat
  es : Nat
structure Imm where
  blk : Nat
  off : Nat
  cells : List Value
def GLB : List Imm := [⟨0, 0, [.int .u64 1, .int .u64 32898, .int .u64 9223372036854808714, .int .u64 9223372039002292224, .int .u64 32907, .int .u64 2147483649, .int .u64 9223372039002292353, .int .u64 9223372036854808585, .int .u64 138, .int .u64 136, .int .u64 2147516425, .int .u64 2147483658, .int .u64 2147516555, .int .u64 9223372036854775947, .int .u64 9223372036854808713, .int .u64 9223372036854808579, .int .u64 9223372036854808578, .int .u64 9223372036854775936, .int .u64 32778, .int .u64 9223372039002259466, .int .u64 9223372039002292353, .int .u64 9223372036854808704, .int .u64 2147483649, .int .u64 9223372039002292232]⟩]
structure Rho where
  pl : Nat → Pl
  im : List Imm
instance : CoeFun Rho fun _ => Nat → Pl := ⟨Rho.pl⟩
def okFn : Fn → Bool
  | .yield _ => false
  | _ => true
def flatV : Value → Bool
  | .bool _ => true
  | .int _ _ => true
  | .string _ => true
  | .pointer none => true
  | .slice none 0 0 => true
  | .map none => true
  | .nilFunc => true
  | .nilIface => true
  | .func fn first captured => okFn fn && first.isEmpty && captured.isEmpty
  | .tuple vs => vs.isEmpty
  | .iface t (.agg cs) => cs.isEmpty && t != 987654321
  | _ => false
theorem flat_iface {t : TypeId} {x : Value} (h : flatV (.iface t x) = true) : x = .agg #[] ∧ t ≠ 987654321 := by
  cases x <;> simp only [flatV, Bool.false_eq_true, Bool.and_eq_true, Array.isEmpty_iff, bne_iff_ne] at h
  exact ⟨by rw [h.1], h.2⟩
inductive Md
  | real | arg | res
inductive VR (m : Md) (D : Nat → Prop) (ρ : Rho) : Value → Value → Prop
  | flat (v : Value) (h : flatV v = true) : VR m D ρ v v
  | ptr (i o : Nat) (hd : D i) : VR m D ρ (.pointer (some ⟨i, o, none⟩)) (.pointer (some ⟨(ρ i).blk, (ρ i).off + o, none⟩))
  | slice (i o n c : Nat) (hd : D i) (h1 : m ≠ .real → c = 0) (h2 : m = .real → n ≤ c ∧ ∀ L, (ρ i).lim = some L → (ρ i).off + o + c * (ρ i).es ≤ L) :
      VR m D ρ (.slice (some ⟨i, o, none⟩) n 0) (.slice (some ⟨(ρ i).blk, (ρ i).off + o, none⟩) n c)
  | nilS (p : Addr) (h : m ≠ .res) : VR m D ρ (.slice (some p) 0 0) (.slice none 0 0)
  | zeroS (p a : Addr) (hm : m = .real) : VR m D ρ (.slice (some p) 0 0) (.slice (some a) 0 0)
  | dead (p q : Addr) (c : Nat) (h1 : m ≠ .real → c = 1) : VR m D ρ (.slice (some p) 0 1) (.slice (some q) 0 c)
  | agg (xs ys : Array Value) (hs : xs.size = ys.size) (h : ∀ (k : Nat) (x y : Value), xs[k]? = some x → ys[k]? = some y → VR m D ρ x y) : VR m D ρ (.agg xs) (.agg ys)
  | tuple (xs ys : Array Value) (hs : xs.size = ys.size) (h : ∀ (k : Nat) (x y : Value), xs[k]? = some x → ys[k]? = some y → VR m D ρ x y) : VR m D ρ (.tuple xs) (.tuple ys)
  | func (fn : Fn) (xs ys xs' ys' : Array Value) (hf : okFn fn = true) (hs : xs.size = ys.size) (hs' : xs'.size = ys'.size)
      (h : ∀ (k : Nat) (x y : Value), xs[k]? = some x → ys[k]? = some y → VR m D ρ x y)
      (h' : ∀ (k : Nat) (x y : Value), xs'[k]? = some x → ys'[k]? = some y → VR m D ρ x y) : VR m D ρ (.func fn xs xs') (.func fn ys ys')
  | iface (t : TypeId) (x y : Value) (ht : t ≠ 987654321) (h : VR m D ρ x y) : VR m D ρ (.iface t x) (.iface t y)
  | deepA (n es : Nat) (cs : Array Value) (hm : m ≠ .real) : VR m D ρ (.iface 987654321 (.iface n (.iface es (.agg cs)))) (.iface 987654321 (.iface n (.iface es (.agg cs))))
  | deepR (n es c o : Nat) (cs : Array Value) (d : Imm) (hm : m = .real) (hd : d ∈ ρ.im) (hn : n * es = cs.size) (hcs : (d.cells.drop o).take cs.size = cs.toList) (ho : o + cs.size ≤ d.cells.length) (hc : n ≤ c) :
      VR m D ρ (.iface 987654321 (.iface n (.iface es (.agg cs)))) (.slice (some ⟨d.blk, d.off + o, none⟩) n c)
  | deepN (es : Nat) (hm : m ≠ .res) : VR m D ρ (.iface 987654321 (.iface 0 (.iface es (.agg #[])))) (.slice none 0 0)
  | tight (i o n : Nat) (hd : D i) (hm : m = .real) : VR m D ρ (.iface 987654321 (.slice (some ⟨i, o, none⟩) n 0)) (.slice (some ⟨(ρ i).blk, (ρ i).off + o, none⟩) n n)
  | deepE (es : Nat) (a : Addr) (c : Nat) (hm : m = .real) (ha : a.spot = none ∨ c = 0) : VR m D ρ (.iface 987654321 (.iface 0 (.iface es (.agg #[])))) (.slice (some a) 0 c)
  | ptrA (cs : Array Value) (hm : m ≠ .real) : VR m D ρ (.iface 987654321 (.tuple cs)) (.iface 987654321 (.tuple cs))
  | ptrR (o : Nat) (cs : Array Value) (d : Imm) (hm : m = .real) (hd : d ∈ ρ.im) (hcs : (d.cells.drop o).take cs.size = cs.toList) (ho : o + cs.size ≤ d.cells.length) :
      VR m D ρ (.iface 987654321 (.tuple cs)) (.pointer (some ⟨d.blk, d.off + o, none⟩))
def deepP (cells : List Value) : Value := .iface 987654321 (.tuple cells.toArray)
def deep (n es : Nat) (cells : List Value) : Value := .iface 987654321 (.iface n (.iface es (.agg cells.toArray)))
def comp (ρ h : Rho) : Rho := ⟨fun k => ⟨(ρ (h k).blk).blk, (ρ (h k).blk).off + (h k).off, (ρ (h k).blk).lim, (ρ (h k).blk).es⟩, ρ.im⟩
theorem exists_get {ys : Array Value} {k n : Nat} (h : k < n) (hs : n = ys.size) : ∃ y, ys[k]? = some y :=
  ⟨ys[k]'(by omega), by simp [Array.getElem?_eq_getElem (show k < ys.size by omega)]⟩
theorem get_lt {ys : Array Value} {k : Nat} {y : Value} (h : ys[k]? = some y) : k < ys.size := by
  rcases Nat.lt_or_ge k ys.size with h1 | h1
  · exact h1
  · simp [Array.getElem?_eq_none h1] at h
theorem VR.mono {m : Md} {D D' : Nat → Prop} {ρ ρ' : Rho} {v u : Value} (h : VR m D ρ v u) (hD : ∀ i, D i → D' i) (hρ : ∀ i, D i → ρ' i = ρ i) (hI : ∀ d ∈ ρ.im, d ∈ ρ'.im) :
    VR m D' ρ' v u := by
  induction h with
  | flat v h => exact .flat v h
  | ptr i o hd => rw [← hρ i hd]; exact .ptr i o (hD i hd)
  | slice i o n c hd h1 h2 => rw [← hρ i hd]; exact .slice i o n c (hD i hd) h1 (by rw [hρ i hd]; exact h2)
  | nilS p h => exact .nilS p h
  | zeroS p a hm => exact .zeroS p a hm
  | dead p q c h1 => exact .dead p q c h1
  | agg xs ys hs _ ih => exact .agg xs ys hs ih
  | tuple xs ys hs _ ih => exact .tuple xs ys hs ih
  | func fn xs ys xs' ys' hf hs hs' _ _ ih ih' => exact .func fn xs ys xs' ys' hf hs hs' ih ih'
  | iface t x y ht _ ih => exact .iface t x y ht ih
  | deepA n es cs hm => exact .deepA n es cs hm
  | deepR n es c o cs d hm hd hn hcs ho hc => exact .deepR n es c o cs d hm (hI d hd) hn hcs ho hc
  | deepN es hm => exact .deepN es hm
  | deepE es a c hm ha => exact .deepE es a c hm ha
  | tight i o n hd hm => rw [← hρ i hd]; exact .tight i o n (hD i hd) hm
  | ptrA cs hm => exact .ptrA cs hm
  | ptrR o cs d hm hd hcs ho => exact .ptrR o cs d hm (hI d hd) hcs ho
theorem flat_inv {m : Md} {D : Nat → Prop} {ρ : Rho} {v u : Value} (h : VR m D ρ v u) (hf : flatV v = true) : u = v := by
  cases h with
  | flat => rfl
  | ptr => simp [flatV] at hf
  | slice => simp [flatV] at hf
  | nilS => simp [flatV] at hf
  | zeroS => simp [flatV] at hf
  | dead => simp [flatV] at hf
  | agg => simp [flatV] at hf
  | tuple xs ys hs h =>
    simp only [flatV, Array.isEmpty_iff] at hf
    subst hf
    simp only [List.size_toArray, List.length_nil] at hs
    rw [Array.eq_empty_of_size_eq_zero hs.symm]
  | func fn xs ys xs' ys' hf' hs hs' h h' =>
    simp only [flatV, Bool.and_eq_true, Array.isEmpty_iff] at hf
    obtain ⟨⟨_, h1⟩, h2⟩ := hf
    subst h1; subst h2
    simp only [List.size_toArray, List.length_nil] at hs hs'
    rw [Array.eq_empty_of_size_eq_zero hs.symm, Array.eq_empty_of_size_eq_zero hs'.symm]
  | iface t x y ht hxy =>
    obtain ⟨rfl, _⟩ := flat_iface hf
    cases hxy with
    | flat => rfl
    | agg xs ys hs h =>
      simp only [List.size_toArray, List.length_nil] at hs
      rw [Array.eq_empty_of_size_eq_zero hs.symm]
  | deepA => simp [flatV] at hf
  | deepR => simp [flatV] at hf
  | deepN => simp [flatV] at hf
  | deepE => simp [flatV] at hf
  | tight => simp [flatV] at hf
  | ptrA => simp [flatV] at hf
  | ptrR => simp [flatV] at hf
theorem VR.comp {m : Md} (hm : m ≠ .real) {D D' : Nat → Prop} {h ρ : Rho} {v vc : Value} (h1 : VR m D h v vc) : ∀ {u : Value}, VR .real D' ρ vc u → VR .real D (comp ρ h) v u := by
  induction h1 with
  | flat v hf => intro u hu; rw [flat_inv hu hf]; exact .flat v hf
  | ptr i o hd =>
    intro u hu
    cases hu with
    | flat _ hf => simp [flatV] at hf
    | ptr j o' hd' =>
      rw [← Nat.add_assoc]
      exact VR.ptr (ρ := Sim.comp ρ h) i o hd
  | slice i o n c hd h1 h2 =>
    intro u hu
    obtain rfl := h1 hm
    cases hu with
    | flat _ hf => simp [flatV] at hf
    | nilS p h => exact .nilS _ (by simp)
    | zeroS p a => exact .zeroS _ a rfl
    | slice j o' n' c' hd' h1' h2' =>
      rw [← Nat.add_assoc]
      exact VR.slice (ρ := Sim.comp ρ h) i o n c' hd (by simp) (fun _ => ⟨(h2' rfl).1, fun L hL => by
        have := (h2' rfl).2 L hL; simp only [Sim.comp] at *; omega⟩)
  | nilS p h =>
    intro u hu
    rw [flat_inv hu rfl]
    exact .nilS p (by simp)
  | zeroS _ _ h => exact absurd h hm
  | dead p q c h1 =>
    intro u hu
    obtain rfl := h1 hm
    cases hu with
    | flat _ hf => simp [flatV] at hf
    | dead p' q' c' h1' => exact .dead p q' c' (by simp)
  | agg xs ys hs _ ih =>
    intro u hu
    cases hu with
    | flat _ hf => simp [flatV] at hf
    | agg _ zs hs' h' =>
      refine .agg xs zs (hs.trans hs') fun k x z hx hz => ?_
      obtain ⟨y, hy⟩ := exists_get (get_lt hx) hs
      exact ih k x y hx hy (h' k y z hy hz)
  | tuple xs ys hs _ ih =>
    intro u hu
    cases hu with
    | flat _ hf =>
      refine .tuple xs ys hs fun k x z hx hz => ?_
      simp only [flatV, Array.isEmpty_iff] at hf
      subst hf
      simp at hz
    | tuple _ zs hs' h' =>
      refine .tuple xs zs (hs.trans hs') fun k x z hx hz => ?_
      obtain ⟨y, hy⟩ := exists_get (get_lt hx) hs
      exact ih k x y hx hy (h' k y z hy hz)
  | func fn xs ys xs' ys' hf hs hs' _ _ ih ih' =>
    intro u hu
    cases hu with
    | flat _ hf' =>
      simp only [flatV, Bool.and_eq_true, Array.isEmpty_iff] at hf'
      obtain ⟨⟨_, e1⟩, e2⟩ := hf'
      subst e1; subst e2
      exact .func fn xs _ xs' _ hf hs hs' (fun k x z hx hz => by simp at hz) (fun k x z hx hz => by simp at hz)
    | func _ _ zs _ zs' _ hz hz' h1 h1' =>
      refine .func fn xs zs xs' zs' hf (hs.trans hz) (hs'.trans hz') (fun k x z hx hz => ?_) (fun k x z hx hz => ?_)
      · obtain ⟨y, hy⟩ := exists_get (get_lt hx) hs
        exact ih k x y hx hy (h1 k y z hy hz)
      · obtain ⟨y, hy⟩ := exists_get (get_lt hx) hs'
        exact ih' k x y hx hy (h1' k y z hy hz)
  | iface t x y ht _ ih =>
    intro u hu
    cases hu with
    | flat _ hf =>
      obtain ⟨rfl, _⟩ := flat_iface hf
      exact .iface t x _ ht (ih (.agg _ _ rfl fun k a b ha => by simp at ha))
    | iface _ _ z _ hz => exact .iface t x z ht (ih hz)
    | deepA => exact absurd rfl ht
    | deepR => exact absurd rfl ht
    | deepN => exact absurd rfl ht
    | deepE => exact absurd rfl ht
    | tight => exact absurd rfl ht
    | ptrA => exact absurd rfl ht
    | ptrR => exact absurd rfl ht
  | deepA n es cs hm' =>
    intro u hu
    cases hu with
    | flat _ hf => simp [flatV] at hf
    | iface _ _ _ ht => exact absurd rfl ht
    | deepA _ _ _ h => exact absurd rfl h
    | deepR _ _ c o _ d hm hd hn hcs ho hc => exact .deepR n es c o cs d rfl hd hn hcs ho hc
    | deepN => exact .deepN es (by simp)
    | deepE _ a c _ ha => exact .deepE es a c rfl ha
  | deepR _ _ _ _ _ _ h => exact absurd h hm
  | deepN es _ =>
    intro u hu
    rw [flat_inv hu rfl]
    exact .deepN es (by simp)
  | deepE _ _ _ h _ => exact absurd h hm
  | tight _ _ _ _ h => exact absurd h hm
  | ptrA cs hm' =>
    intro u hu
    cases hu with
    | flat _ hf => simp [flatV] at hf
    | iface _ _ _ ht => exact absurd rfl ht
    | ptrA _ h => exact absurd rfl h
    | ptrR o _ d hm hd hcs ho => exact .ptrR o cs d rfl hd hcs ho
  | ptrR _ _ _ h => exact absurd h hm
theorem VR.push {D D' : Nat → Prop} {h ρ : Rho} {v vc : Value} (h1 : VR .res D h v vc) (hD : ∀ i, D i → D' (h i).blk) :
    ∀ {u : Value}, VR .real D (Sim.comp ρ h) v u → VR .real D' ρ vc u := by
  induction h1 with
  | flat v hf => intro u hu; rw [flat_inv hu hf]; exact .flat v hf
  | ptr i o hd =>
    intro u hu
    cases hu with
    | flat _ hf => simp [flatV] at hf
    | ptr j o' hd' =>
      have := VR.ptr (m := .real) (ρ := ρ) (D := D') (h i).blk ((h i).off + o) (hD i hd)
      rw [← Nat.add_assoc] at this
      exact this
  | slice i o n c hd h1 h2 =>
    intro u hu
    obtain rfl := h1 (by simp)
    cases hu with
    | flat _ hf => simp [flatV] at hf
    | nilS p h => exact .nilS _ (by simp)
    | zeroS p a => exact .zeroS _ a rfl
    | slice j o' n' c' hd' h1' h2' =>
      have := VR.slice (m := .real) (ρ := ρ) (D := D') (h i).blk ((h i).off + o) n c' (hD i hd) (by simp) (fun _ => ⟨(h2' rfl).1, fun L hL => by
        have := (h2' rfl).2 L hL; simp only [Sim.comp] at *; omega⟩)
      rw [← Nat.add_assoc] at this
      exact this
  | nilS p h => exact absurd rfl h
  | zeroS _ _ h => cases h
  | dead p q c h1 =>
    intro u hu
    obtain rfl := h1 (by simp)
    cases hu with
    | flat _ hf => simp [flatV] at hf
    | dead p' q' c' h1' => exact .dead q q' c' (by simp)
  | agg xs ys hs _ ih =>
    intro u hu
    cases hu with
    | flat _ hf => simp [flatV] at hf
    | agg _ zs hs' h' =>
      refine .agg ys zs (hs.symm.trans hs') fun k y z hy hz => ?_
      obtain ⟨x, hx⟩ := exists_get (get_lt hy) hs.symm
      exact ih k x y hx hy (h' k x z hx hz)
  | tuple xs ys hs _ ih =>
    intro u hu
    cases hu with
    | flat _ hf =>
      simp only [flatV, Array.isEmpty_iff] at hf
      subst hf
      simp only [List.size_toArray, List.length_nil] at hs
      rw [Array.eq_empty_of_size_eq_zero hs.symm]
      exact .flat _ rfl
    | tuple _ zs hs' h' =>
      refine .tuple ys zs (hs.symm.trans hs') fun k y z hy hz => ?_
      obtain ⟨x, hx⟩ := exists_get (get_lt hy) hs.symm
      exact ih k x y hx hy (h' k x z hx hz)
  | func fn xs ys xs' ys' hf hs hs' _ _ ih ih' =>
    intro u hu
    cases hu with
    | flat _ hf' =>
      simp only [flatV, Bool.and_eq_true, Array.isEmpty_iff] at hf'
      obtain ⟨⟨e0, e1⟩, e2⟩ := hf'
      subst e1; subst e2
      simp only [List.size_toArray, List.length_nil] at hs hs'
      rw [Array.eq_empty_of_size_eq_zero hs.symm, Array.eq_empty_of_size_eq_zero hs'.symm]
      exact .flat _ (by simp [flatV, hf])
    | func _ _ zs _ zs' _ hz hz' h1 h1' =>
      refine .func fn ys zs ys' zs' hf (hs.symm.trans hz) (hs'.symm.trans hz') (fun k y z hy hz => ?_) (fun k y z hy hz => ?_)
      · obtain ⟨x, hx⟩ := exists_get (get_lt hy) hs.symm
        exact ih k x y hx hy (h1 k x z hx hz)
      · obtain ⟨x, hx⟩ := exists_get (get_lt hy) hs'.symm
        exact ih' k x y hx hy (h1' k x z hx hz)
  | iface t x y ht _ ih =>
    intro u hu
    cases hu with
    | flat _ hf =>
      obtain ⟨rfl, _⟩ := flat_iface hf
      exact .iface t y _ ht (ih (.agg _ _ rfl fun k a b ha => by simp at ha))
    | iface _ _ z _ hz => exact .iface t y z ht (ih hz)
    | deepA => exact absurd rfl ht
    | deepR => exact absurd rfl ht
    | deepN => exact absurd rfl ht
    | deepE => exact absurd rfl ht
    | tight => exact absurd rfl ht
    | ptrA => exact absurd rfl ht
    | ptrR => exact absurd rfl ht
  | deepA n es cs hm' =>
    intro u hu
    cases hu with
    | flat _ hf => simp [flatV] at hf
    | iface _ _ _ ht => exact absurd rfl ht
    | deepA _ _ _ h => exact absurd rfl h
    | deepR _ _ c o _ d hm hd hn hcs ho hc => exact .deepR n es c o cs d rfl hd hn hcs ho hc
    | deepN => exact .deepN es (by simp)
    | deepE _ a c _ ha => exact .deepE es a c rfl ha
  | deepR _ _ _ _ _ _ h => cases h
  | deepN _ h => exact absurd rfl h
  | deepE _ _ _ h _ => cases h
  | tight _ _ _ _ h => cases h
  | ptrA cs hm' =>
    intro u hu
    cases hu with
    | flat _ hf => simp [flatV] at hf
    | iface _ _ _ ht => exact absurd rfl ht
    | ptrA _ h => exact absurd rfl h
    | ptrR o _ d hm hd hcs ho => exact .ptrR o cs d rfl hd hcs ho
  | ptrR _ _ _ h => cases h
structure Blk where
  cells : List Value
  rw : Bool
  es : Nat := 1
def Blk.own (p : Pl) (b : Blk) : Prop := b.rw = true ∧ p.lim ≠ some 0
def Blk.solid (p : Pl) (b : Blk) : Prop := b.own p ∨ b.cells ≠ []
theorem Blk.solid_get {p : Pl} {b : Blk} {k : Nat} {v : Value} (h : b.cells[k]? = some v) : b.solid p := .inr fun e => by rw [e] at h; simp at h
abbrev Mem := Nat → Option Blk
abbrev Env := Nat → Option Value
def dom (M : Mem) (i : Nat) : Prop := ∃ b, M i = some b
structure RwOk (ρ : Rho) (M : Mem) (w : World) (i : Nat) : Prop where
  off : (ρ i).off = 0
  soft : ∀ o, w.frozen? ⟨(ρ i).blk, o, none⟩ = false
  lim : ∃ L, (ρ i).lim = some L ∧ ∀ k, k < L → ∃ x, w.cell? ⟨(ρ i).blk, k, none⟩ = some x
  lone : ∀ j bj, M j = some bj → bj.solid (ρ j) → j ≠ i → (ρ j).blk ≠ (ρ i).blk
structure BlkOk (ρ : Rho) (M : Mem) (w : World) (i : Nat) (b : Blk) : Prop where
  lt : b.solid (ρ i) → (ρ i).blk < w.heap.size
  cells : ∀ k v, b.cells[k]? = some v → ∃ u, w.cell? ⟨(ρ i).blk, (ρ i).off + k, none⟩ = some u ∧ VR .real (dom M) ρ v u
  rw : b.own (ρ i) → RwOk ρ M w i
  es : (ρ i).es = b.es
  room : ∀ L, (ρ i).lim = some L → (ρ i).off + b.cells.length ≤ L
def MemOk (ρ : Rho) (M : Mem) (w : World) : Prop := ∀ i b, M i = some b → BlkOk ρ M w i b
structure ImD (ρ : Rho) (M : Mem) (w : World) (d : Imm) : Prop where
  lt : d.cells ≠ [] → d.blk < w.heap.size
  cells : ∀ k v, d.cells[k]? = some v → ∃ u, w.cell? ⟨d.blk, d.off + k, none⟩ = some u ∧ VR .real (fun _ => False) ρ v u
  own : d.cells ≠ [] → ∀ i b, M i = some b → b.own (ρ i) → (ρ i).blk ≠ d.blk
def ImOk (ρ : Rho) (M : Mem) (w : World) : Prop := ∀ d ∈ ρ.im, ImD ρ M w d
theorem BlkOk.owned {ρ : Rho} {M : Mem} {w : World} {i : Nat} {b : Blk} (h : BlkOk ρ M w i b) (hr : b.rw = true) (hc : 0 < b.cells.length) : b.own (ρ i) :=
  ⟨hr, fun e => by have := h.room 0 e; omega⟩
structure Fr (w0 w : World) (RW : Nat → Prop) : Prop where
  os : w.os = w0.os
  tape : w.tape = w0.tape
  output : w.output = w0.output
  size : w0.heap.size ≤ w.heap.size
  block : ∀ k, k < w0.heap.size → ¬ RW k → w.heap[k]? = w0.heap[k]?
theorem Fr.refl (w : World) (RW : Nat → Prop) : Fr w w RW := ⟨rfl, rfl, rfl, Nat.le_refl _, fun _ _ _ => rfl⟩
theorem Fr.trans {w0 w1 w2 : World} {RW RW' : Nat → Prop} (h : Fr w0 w1 RW) (h' : Fr w1 w2 RW') (hR : ∀ k, k < w0.heap.size → RW' k → RW k) : Fr w0 w2 RW :=
  ⟨h'.os.trans h.os, h'.tape.trans h.tape, h'.output.trans h.output, Nat.le_trans h.size h'.size,
    fun k hk hn => (h'.block k (Nat.lt_of_lt_of_le hk h.size) (fun h2 => hn (hR k hk h2))).trans (h.block k hk hn)⟩
structure ASt where
  env : Env
  mem : Mem
structure Ctx where
  n : Nat
  m : Nat
  w0 : World
  ρ0 : Rho
  RW : Nat → Prop
structure Rep (C : Ctx) (ρ : Rho) (σ : ASt) (a : Act) (w : World) : Prop where
  size : a.tmps.size = C.n
  defers : a.defers = []
  env : ∀ t v, σ.env t = some v → ∃ u, a.tmps[t]? = some u ∧ VR .real (dom σ.mem) ρ v u
  mem : MemOk ρ σ.mem w
  agree : ∀ i, i < C.m → ρ i = C.ρ0 i
  low : ∀ i, i < C.m → ∃ b, σ.mem i = some b
  own : ∀ i b, σ.mem i = some b → b.own (ρ i) → C.RW (ρ i).blk ∨ C.w0.heap.size ≤ (ρ i).blk
  frame : Fr C.w0 w C.RW
  im : ImOk ρ σ.mem w
  imsub : ∀ d ∈ C.ρ0.im, d ∈ ρ.im
  imnew : ∀ d ∈ ρ.im, d ∈ C.ρ0.im ∨ d.cells = [] ∨ C.RW d.blk ∨ C.w0.heap.size ≤ d.blk
  gl : ∀ d ∈ GLB, d ∈ ρ.im
def upd {α : Type} (f : Nat → Option α) (k : Nat) (v : α) : Nat → Option α := fun t => if t = k then some v else f t
def upds (M : Mem) : List (Nat × Blk) → Mem
  | [] => M
  | (i, b) :: r => upd (upds M r) i b
def putE (E : Env) (d : Option Tmp) (v : Value) : Env := match d with
  | some t => upd E t v
  | none => E
def pureV : Value → Bool
  | .agg cs => cs.toList.all flatV
  | .tuple cs => cs.toList.all flatV
  | v => flatV v
def aev (E : Env) : Operand → Option Value
  | .tmp t => E t
  | .const v => if pureV v then some v else none
  | .func f => some (.func (.func f) #[] #[])
  | .global _ => none
theorem VR.pure {m : Md} {D : Nat → Prop} {ρ : Rho} {v : Value} (h : pureV v = true) : VR m D ρ v v := by
  unfold pureV at h
  split at h
  · rename_i cs
    refine .agg cs cs rfl fun k x y hx hy => ?_
    rw [hx] at hy; cases hy
    exact .flat x (by
      rw [List.all_eq_true] at h
      exact h x (Array.mem_toList_iff.2 (Array.mem_of_getElem? hx)))
  · rename_i cs
    refine .tuple cs cs rfl fun k x y hx hy => ?_
    rw [hx] at hy; cases hy
    exact .flat x (by
      rw [List.all_eq_true] at h
      exact h x (Array.mem_toList_iff.2 (Array.mem_of_getElem? hx)))
  · exact .flat _ h
theorem Rep.eval {C : Ctx} {ρ : Rho} {σ : ASt} {a : Act} {w : World} (h : Rep C ρ σ a w) {x : Operand} {v : Value} (hx : aev σ.env x = some v) :
    VR .real (dom σ.mem) ρ v (a.eval x) := by
  cases x with
  | tmp t =>
    obtain ⟨u, hu, hr⟩ := h.env t v hx
    simp only [Act.eval, Array.getD_eq_getD_getElem?, hu, Option.getD_some]
    exact hr
  | const c =>
    simp only [aev] at hx
    split at hx
    · rename_i hp; cases hx; exact VR.pure hp
    · cases hx
  | func f => simp only [aev, Option.some.injEq] at hx; subst hx; exact .flat _ rfl
  | global g => cases hx
theorem flat_pure_inv {m : Md} {D : Nat → Prop} {ρ : Rho} {v u : Value} (h : VR m D ρ v u) (hf : pureV v = true) : u = v := by
  unfold pureV at hf
  split at hf
  · rename_i cs
    cases h with
    | flat => rfl
    | agg _ ys hs hh =>
      congr 1
      refine Array.ext_getElem? fun k => ?_
      rcases Nat.lt_or_ge k cs.size with hk | hk
      · have e1 : cs[k]? = some cs[k] := Array.getElem?_eq_getElem hk
        obtain ⟨y, hy⟩ := exists_get hk hs
        rw [e1, hy]
        rw [List.all_eq_true] at hf
        rw [flat_inv (hh k _ y e1 hy) (hf _ (Array.mem_toList_iff.2 (Array.mem_of_getElem? e1)))]
      · rw [Array.getElem?_eq_none hk, Array.getElem?_eq_none (hs ▸ hk)]
  · rename_i cs
    cases h with
    | flat => rfl
    | tuple _ ys hs hh =>
      congr 1
      refine Array.ext_getElem? fun k => ?_
      rcases Nat.lt_or_ge k cs.size with hk | hk
      · have e1 : cs[k]? = some cs[k] := Array.getElem?_eq_getElem hk
        obtain ⟨y, hy⟩ := exists_get hk hs
        rw [e1, hy]
        rw [List.all_eq_true] at hf
        rw [flat_inv (hh k _ y e1 hy) (hf _ (Array.mem_toList_iff.2 (Array.mem_of_getElem? e1)))]
      · rw [Array.getElem?_eq_none hk, Array.getElem?_eq_none (hs ▸ hk)]
  · exact flat_inv h hf
end Go.Proofs.YtlfadlfjjkppfaaGreatDoor.Sim
namespace Go.Proofs.YtlfadlfjjkppfaaGreatDoor.Sim
open Go
theorem putE_ne {E : Env} {d : Option Tmp} {v : Value} {t : Nat} (h : d ≠ some t) : putE E d v t = E t := by
  cases d with
  | none => rfl
  | some k => simp only [putE, upd]; rw [if_neg (fun e => h (by rw [e]))]
theorem putE_comm {E : Env} {d d' : Option Tmp} {v v' : Value} (h : ∀ t, d = some t → d' ≠ some t) :
    putE (putE E d v) d' v' = putE (putE E d' v') d v := by
  cases d with
  | none => rfl
  | some k =>
    cases d' with
    | none => rfl
    | some k' =>
      have hne : k' ≠ k := fun e => h k rfl (by rw [e])
      funext t
      simp only [putE, upd]
      by_cases h1 : t = k'
      · by_cases h2 : t = k
        · exact absurd (h1.symm.trans h2) hne
        · simp [h1, hne]
      · simp [h1]
def keys (l : List (Nat × Blk)) : List Nat := l.map (·.1)
theorem upds_out {M : Mem} {l : List (Nat × Blk)} {i : Nat} (h : i ∉ keys l) : upds M l i = M i := by
  induction l with
  | nil => rfl
  | cons p r ih =>
    obtain ⟨k, b⟩ := p
    simp only [keys, List.map_cons, List.mem_cons, not_or] at h
    simp only [upds, upd]
    rw [if_neg h.1]
    exact ih h.2
theorem upds_in {M M' : Mem} {l : List (Nat × Blk)} {i : Nat} (h : i ∈ keys l) : upds M l i = upds M' l i := by
  induction l with
  | nil => simp [keys] at h
  | cons p r ih =>
    obtain ⟨k, b⟩ := p
    simp only [upds, upd]
    by_cases hk : i = k
    · simp [hk]
    · rw [if_neg hk, if_neg hk]
      simp only [keys, List.map_cons, List.mem_cons] at h
      exact ih (h.resolve_left hk)
theorem upds_comm {M : Mem} {l l' : List (Nat × Blk)} (h : ∀ i, i ∈ keys l → i ∉ keys l') : upds (upds M l) l' = upds (upds M l') l := by
  funext i
  by_cases h1 : i ∈ keys l
  · rw [upds_out (h i h1)]
    exact upds_in h1
  · rw [upds_out h1]
    by_cases h2 : i ∈ keys l'
    · exact upds_in h2
    · rw [upds_out h2, upds_out h1, upds_out h2]
theorem upds_dom {M : Mem} {l : List (Nat × Blk)} {i : Nat} (h : dom M i) : dom (upds M l) i := by
  induction l with
  | nil => exact h
  | cons p r ih =>
    obtain ⟨k, b⟩ := p
    simp only [upds, upd, dom]
    by_cases hk : i = k
    · exact ⟨b, by simp [hk]⟩
    · rw [if_neg hk]; exact ih
structure Eff where
  fp : List Nat
  new : List (Nat × Blk)
def StepTo (P : Program) (o : Oper) (a : Act) (w : World) (R : Value → World → Prop) : Prop :=
  o.wp P a w (fun a' w' => ∃ u, a' = a.put o.dst u ∧ R u w') (fun _ _ _ => False)
def FStep (P : Program) (o : Oper) (E : Env) (M : Mem) (v : Value) (e : Eff) : Prop :=
  ∀ (E' : Env) (M' : Mem), (∀ x ∈ o.op.operands, aev E' x = aev E x) → (∀ i ∈ e.fp, M' i = M i) → (∀ p ∈ e.new, p.1 ∉ e.fp → M' p.1 = none) →
    ∀ C ρ a w, Rep C ρ ⟨E', M'⟩ a w →
      StepTo P o a w fun u w' => ∃ ρ', Rep C ρ' ⟨E', upds M' e.new⟩ a w' ∧ VR .real (dom (upds M' e.new)) ρ' v u
def wantA (ops : Array Oper) (E : Env) (o : Oper) : Option Bool :=
  match o.guard with
  | none => some true
  | some (j, b) =>
    match (ops[j]?).bind (·.dst) with
    | none => some false
    | some t =>
      match E t with
      | some (.bool c) => some (c == b)
      | some (.tuple vs) => if vs.isEmpty then some false else none
      | _ => none
def One (P : Program) (ops : Array Oper) (n : Nat) (o : Oper) (e : Eff) (σ : ASt) (v : Value) : Prop :=
  (∀ d, o.dst = some d → d < n) ∧
  ((wantA ops σ.env o = some true ∧ FStep P o σ.env σ.mem v e ∧ ∀ p ∈ e.new, p.1 ∉ e.fp → σ.mem p.1 = none) ∨
   (wantA ops σ.env o = some false ∧ v = undef ∧ e.new = []))
def ASt.step (σ : ASt) (o : Oper) (v : Value) (e : Eff) : ASt := ⟨putE σ.env o.dst v, upds σ.mem e.new⟩
inductive ARun (P : Program) (ops : Array Oper) (n : Nat) : List (Nat × Oper × Eff) → ASt → ASt → Prop
  | nil (σ : ASt) : ARun P ops n [] σ σ
  | cons {i : Nat} {o : Oper} {e : Eff} {r : List (Nat × Oper × Eff)} {σ σ' : ASt} (v : Value) (h : One P ops n o e σ v) (hr : ARun P ops n r (σ.step o v e) σ') :
      ARun P ops n ((i, o, e) :: r) σ σ'
theorem wantA_congr {ops : Array Oper} {E E' : Env} {o : Oper} (h : ∀ t ∈ o.looksAt ops, E' t = E t) : wantA ops E' o = wantA ops E o := by
  unfold wantA
  cases hg : o.guard with
  | none => rfl
  | some p =>
    obtain ⟨j, b⟩ := p
    simp only
    cases ht : (ops[j]?).bind (·.dst) with
    | none => rfl
    | some t =>
      have : t ∈ o.looksAt ops := by
        unfold Oper.looksAt
        rw [hg]
        exact List.mem_append_right _ (by simp [ht])
      simp only [h t this]
theorem aev_congr {ops : Array Oper} {E E' : Env} {o : Oper} (h : ∀ t ∈ o.looksAt ops, E' t = E t) : ∀ x ∈ o.op.operands, aev E' x = aev E x := by
  intro x hx
  cases x with
  | tmp t =>
    refine h t ?_
    unfold Oper.looksAt
    exact List.mem_append_left _ (List.mem_filterMap.2 ⟨.tmp t, by simpa using hx, rfl⟩)
  | _ => rfl
theorem One.transport {P : Program} {ops : Array Oper} {n : Nat} {o : Oper} {e : Eff} {σ τ : ASt} {v : Value} (h : One P ops n o e σ v)
    (hE : ∀ t ∈ o.looksAt ops, τ.env t = σ.env t) (hM : ∀ i ∈ e.fp, τ.mem i = σ.mem i) (hN : ∀ p ∈ e.new, σ.mem p.1 = none → τ.mem p.1 = none) : One P ops n o e τ v := by
  refine ⟨h.1, ?_⟩
  rw [wantA_congr hE]
  rcases h.2 with ⟨hw, hf, hn⟩ | h2
  · refine .inl ⟨hw, fun E' M' h1 h2 h3 => ?_, fun p hp hq => hN p hp (hn p hp hq)⟩
    exact hf E' M' (fun x hx => (h1 x hx).trans (aev_congr hE x hx)) (fun i hi => (h2 i hi).trans (hM i hi)) h3
  · exact .inr h2
def Comm (ops : Array Oper) (x y : Nat × Oper × Eff) : Prop :=
  x.2.1.apart ops y.2.1 = true ∧ (∀ i ∈ keys x.2.2.new, i ∉ y.2.2.fp ∧ i ∉ keys y.2.2.new) ∧ (∀ i ∈ keys y.2.2.new, i ∉ x.2.2.fp)
theorem mem_keys {l : List (Nat × Blk)} {p : Nat × Blk} (h : p ∈ l) : p.1 ∈ keys l := List.mem_map.2 ⟨p, h, rfl⟩
theorem ARun.swap {P : Program} {ops : Array Oper} {n : Nat} {x y : Nat × Oper × Eff} {r : List (Nat × Oper × Eff)} {σ σ' : ASt}
    (h : ARun P ops n (x :: y :: r) σ σ') (hc : Comm ops x y) : ARun P ops n (y :: x :: r) σ σ' := by
  obtain ⟨ix, ox, ex⟩ := x
  obtain ⟨iy, oy, ey⟩ := y
  obtain ⟨ha, h1, h2⟩ := hc
  obtain ⟨a1, a2, a3⟩ := Oper.apart_spec ha
  cases h with
  | cons vx hx hr =>
    cases hr with
    | cons vy hy hr =>
      refine .cons vy (hy.transport (fun t ht => ?_) (fun i hi => ?_) (fun p hp hq => ?_)) (.cons vx (hx.transport (fun t ht => ?_) (fun i hi => ?_) (fun p hp hq => ?_)) ?_)
      · exact (putE_ne fun e => a1 t e ht).symm
      · exact (upds_out fun hk => (h1 i hk).1 hi).symm
      · simp only [ASt.step] at hq
        rwa [upds_out fun hk => (h1 _ hk).2 (mem_keys hp)] at hq
      · exact putE_ne fun e => a3 t e ht
      · exact upds_out fun hk => h2 i hk hi
      · simp only [ASt.step]
        rwa [upds_out fun hk => (h1 _ (mem_keys hp)).2 hk]
      · have e1 : (σ.step oy vy ey).step ox vx ex = (σ.step ox vx ex).step oy vy ey := by
          simp only [ASt.step]
          rw [putE_comm (d := ox.dst) (d' := oy.dst) a2, upds_comm (l := ex.new) (l' := ey.new) fun i hi => (h1 i hi).2]
        rw [e1]; exact hr
theorem ARun.front {P : Program} {ops : Array Oper} {n : Nat} {y : Nat × Oper × Eff} {post : List (Nat × Oper × Eff)} {σ' : ASt} :
    ∀ (pre : List (Nat × Oper × Eff)) {σ : ASt}, ARun P ops n (pre ++ y :: post) σ σ' → (∀ x ∈ pre, Comm ops x y) → ARun P ops n (y :: (pre ++ post)) σ σ'
  | [], _, h, _ => h
  | x :: pre, σ, h, hc => by
    obtain ⟨ix, ox, ex⟩ := x
    cases h with
    | cons v hx hr =>
      have := ARun.front pre hr fun z hz => hc z (List.mem_cons_of_mem _ hz)
      exact ARun.swap (.cons v hx this) (hc _ (List.mem_cons_self ..))
theorem Rep.put {C : Ctx} {ρ : Rho} {σ : ASt} {a : Act} {w : World} (h : Rep C ρ σ a w) {d : Option Tmp} {v u : Value} (hd : ∀ t, d = some t → t < C.n)
    (hv : VR .real (dom σ.mem) ρ v u) : Rep C ρ ⟨putE σ.env d v, σ.mem⟩ (a.put d u) w := by
  cases d with
  | none => exact h
  | some k =>
    refine ⟨by simp [Act.put, h.size], h.defers, fun t x hx => ?_, h.mem, h.agree, h.low, h.own, h.frame, h.im, h.imsub, h.imnew, h.gl⟩
    simp only [putE, upd] at hx
    by_cases ht : t = k
    · subst ht
      simp only [if_true] at hx
      cases hx
      refine ⟨u, ?_, hv⟩
      have : t < a.tmps.size := by rw [h.size]; exact hd t rfl
      simp [Act.put, this]
    · rw [if_neg ht] at hx
      obtain ⟨y, hy, hr⟩ := h.env t x hx
      refine ⟨y, ?_, hr⟩
      simp only [Act.put]
      rw [Array.getElem?_setIfInBounds_ne (Ne.symm ht)]
      exact hy
theorem wp_noQ {P : Program} {o : Oper} {a : Act} {w : World} {K K' : Act → World → Prop} {Q : Exit → Act → World → Prop}
    (h : o.wp P a w K (fun _ _ _ => False)) (hk : ∀ a w, K a w → K' a w) : o.wp P a w K' Q := by
  unfold Oper.wp at *
  generalize (execOp a.eval o).run P w = r at *
  cases r with
  | ok x w' =>
    cases x <;> simp only [Oper.upon] at h ⊢ <;>
      first
        | exact hk _ _ h
        | exact Calls.mono h (fun e w'' he => by
            cases e with
            | returned v => exact hk _ _ he
            | panicked c => exact he.elim
            | outgrown => obtain ⟨_, _, hf⟩ := he; exact hf.elim)
        | exact Rows.mono h (fun _ _ he => hk _ _ he)
  | halt x w' => cases x <;> simp only [Oper.upon] at h ⊢ <;> exact h.elim
theorem want_real {ops : Array Oper} {C : Ctx} {ρ : Rho} {σ : ASt} {a : Act} {w : World} (hR : Rep C ρ σ a w) {o : Oper} {b : Bool}
    (h : wantA ops σ.env o = some b) : Region.wanted o (yielded ops a.tmps) = b := by
  unfold wantA at h
  unfold Region.wanted
  cases hg : o.guard with
  | none => rw [hg] at h; simpa using h
  | some p =>
    obtain ⟨j, want⟩ := p
    rw [hg] at h
    simp only at h ⊢
    unfold yielded
    cases ht : (ops[j]?).bind (·.dst) with
    | none => rw [ht] at h; simp only [Option.bind_none]; simp at h; subst h; rfl
    | some t =>
      rw [ht] at h
      simp only at h
      cases hE : σ.env t with
      | none => rw [hE] at h; simp at h
      | some v =>
        rw [hE] at h
        obtain ⟨u, hu, hv⟩ := hR.env t v hE
        simp only [Option.bind_some, hu]
        cases v with
        | bool c =>
          obtain rfl := flat_inv hv rfl
          simp only [Option.some.injEq] at h ⊢
          rw [← h]; cases c <;> cases want <;> rfl
        | tuple vs =>
          simp only at h
          split at h
          · rename_i he
            obtain rfl := flat_inv hv (by simpa [flatV] using he)
            cases h; rfl
          · cases h
        | _ => simp at h
theorem One.real {P : Program} {ops : Array Oper} {n : Nat} {o : Oper} {e : Eff} {σ : ASt} {v : Value} (h : One P ops n o e σ v) {C : Ctx} {ρ : Rho} {a : Act} {w : World}
    (hR : Rep C ρ σ a w) (hn : C.n = n) {i : Nat} (hi : ops[i]? = some o) {Q : Exit → Act → World → Prop} {K : Act → World → Prop}
    (hK : ∀ ρ' a' w', Rep C ρ' (σ.step o v e) a' w' → K a' w') : wpOp P ops Q i K a w := by
  unfold wpOp
  simp only [hi]
  rcases h.2 with ⟨hw, hf, hnw⟩ | ⟨hw, rfl, he⟩
  · rw [want_real hR hw]
    simp only [if_true]
    refine .inl (wp_noQ (hf σ.env σ.mem (fun _ _ => rfl) (fun _ _ => rfl) hnw C ρ a w hR) ?_)
    rintro a' w' ⟨u, rfl, ρ', hR', hv⟩
    exact hK ρ' _ w' (hR'.put (fun t ht => by rw [hn]; exact h.1 t ht) hv)
  · rw [want_real hR hw]
    simp only [Bool.false_eq_true, if_false]
    refine hK ρ _ w ?_
    have := hR.put (d := o.dst) (v := undef) (u := undef) (fun t ht => by rw [hn]; exact h.1 t ht) (.flat _ rfl)
    simp only [ASt.step, he, upds]
    exact this
theorem wpOps_of_run {P : Program} {ops : Array Oper} {n : Nat} {Q : Exit → Act → World → Prop} {C : Ctx} (hn : C.n = n) {σ' : ASt}
    (hQ : ∀ ρ a w, Rep C ρ σ' a w → Q .normal a w) :
    ∀ (L : List (Nat × Oper × Eff)) {σ : ASt}, (∀ x ∈ L, ops[x.1]? = some x.2.1) → ARun P ops n L σ σ' →
      ∀ ρ a w, Rep C ρ σ a w → wpOps P ops Q (L.map (·.1)) a w
  | [], σ, _, h, ρ, a, w, hR => by cases h; exact hQ ρ a w hR
  | (i, o, e) :: r, σ, hi, h, ρ, a, w, hR => by
    cases h with
    | cons v h1 hr =>
      rw [List.map_cons, wpOps_cons]
      exact h1.real hR hn (hi _ (List.mem_cons_self ..)) fun ρ' a' w' hR' =>
        wpOps_of_run hn hQ r (fun x hx => hi x (List.mem_cons_of_mem _ hx)) hr ρ' a' w' hR'
def bnd (e : Edge) : Bool := Region.binds .any e
def anc (bf : List Nat) (j i : Nat) : Bool := (bf.getD i 0).testBit j
def certOk (ops : Array Oper) (bf : List Nat) : Bool :=
  (List.range ops.size).all fun i =>
    match ops[i]? with
    | none => true
    | some o => (o.after.toList.all fun e => !bnd e || decide (e.on < i)) &&
      (List.range ops.size).all fun j => !anc bf j i || o.after.toList.any fun e => bnd e && (e.on == j || anc bf j e.on)
def Closed (ops : Array Oper) (listed : Array Bool) : Prop :=
  ∀ j oj, ops[j]? = some oj → listed.getD j false = true → ∀ e ∈ oj.after, bnd e = true → listed.getD e.on false = true
theorem cert_edge {ops : Array Oper} {bf : List Nat} (h : certOk ops bf = true) {i : Nat} {o : Oper} (hi : ops[i]? = some o) :
    (∀ e ∈ o.after, bnd e = true → e.on < i) ∧ (∀ j, j < ops.size → anc bf j i = true → ∃ e ∈ o.after, bnd e = true ∧ (e.on = j ∨ anc bf j e.on = true)) := by
  have hlt : i < ops.size := (Array.getElem?_eq_some_iff.1 hi).1
  unfold certOk at h
  have h1 := List.all_eq_true.1 h i (List.mem_range.2 hlt)
  rw [hi] at h1
  simp only [Bool.and_eq_true] at h1
  refine ⟨fun e he hb => ?_, fun j hj ha => ?_⟩
  · have := List.all_eq_true.1 h1.1 e (Array.mem_toList_iff.2 he)
    simpa [hb] using this
  · have := List.all_eq_true.1 h1.2 j (List.mem_range.2 hj)
    rw [ha] at this
    simp only [Bool.not_true, Bool.false_or] at this
    obtain ⟨e, he, h2⟩ := List.any_eq_true.1 this
    simp only [Bool.and_eq_true, Bool.or_eq_true, beq_iff_eq] at h2
    exact ⟨e, Array.mem_toList_iff.1 he, h2.1, h2.2⟩
theorem anc_listed {ops : Array Oper} {bf : List Nat} (hc : certOk ops bf = true) {listed : Array Bool} (hcl : Closed ops listed) :
    ∀ (N i : Nat), i < N → ∀ o, ops[i]? = some o → (∀ e ∈ o.after, bnd e = true → listed.getD e.on false = true) →
      ∀ j, j < ops.size → anc bf j i = true → listed.getD j false = true := by
  intro N
  induction N with
  | zero => intro i h; omega
  | succ N ih =>
    intro i hiN o hi hall j hj ha
    obtain ⟨e, he, hb, h⟩ := (cert_edge hc hi).2 j hj ha
    have hlt := (cert_edge hc hi).1 e he hb
    have hl := hall e he hb
    rcases h with h | h
    · rw [← h]; exact hl
    · have hsz : e.on < ops.size := by
        have := (Array.getElem?_eq_some_iff.1 hi).1
        omega
      exact ih e.on (by omega) _ (Array.getElem?_eq_getElem hsz) (hcl _ _ (Array.getElem?_eq_getElem hsz) hl) j hj h
def PW (ops : Array Oper) (bf : List Nat) (x y : Nat × Oper × Eff) : Prop := anc bf x.1 y.1 = true ∨ Comm ops x y
theorem getD_neg {listed : Array Bool} {i : Nat} (hi : i < listed.size) : listed.getD i true = listed.getD i false := by
  simp [hi]
theorem wpAny_of_run {P : Program} {ops : Array Oper} {n : Nat} {bf : List Nat} {Q : Exit → Act → World → Prop} {C : Ctx} (hn : C.n = n) {σ' : ASt}
    (hQ : ∀ ρ a w, Rep C ρ σ' a w → Q .normal a w) (hcert : certOk ops bf = true) :
    ∀ (f : Nat) (L : List (Nat × Oper × Eff)) (σ : ASt) (listed : Array Bool), L.length = f → listed.size = ops.size → Closed ops listed →
      (∀ x ∈ L, ops[x.1]? = some x.2.1) → (L.map (·.1)).Pairwise (· < ·) → (∀ i, i < ops.size → (listed.getD i false = false ↔ i ∈ L.map (·.1))) →
      L.Pairwise (PW ops bf) → ARun P ops n L σ σ' → ∀ ρ a w, Rep C ρ σ a w → wpAny P .any ops Q f listed a w := by
  intro f
  induction f with
  | zero =>
    intro L σ listed hlen hsz hcl hi hs hl hp h ρ a w hR
    obtain rfl : L = [] := List.length_eq_zero_iff.1 hlen
    cases h
    refine ⟨?_, hQ ρ a w hR⟩
    refine List.eq_nil_iff_forall_not_mem.2 fun i hi' => ?_
    obtain ⟨h0, o, ho, _⟩ := mem_ready.1 hi'
    have hlt : i < ops.size := (Array.getElem?_eq_some_iff.1 ho).1
    rw [getD_neg (by omega)] at h0
    have := (hl i hlt).1 h0
    simp at this
  | succ f ih =>
    intro L σ listed hlen hsz hcl hi hs hl hp h ρ a w hR
    refine ⟨fun hr => ?_, fun i hri => ?_⟩
    · exfalso
      obtain ⟨x, r, rfl⟩ : ∃ x r, L = x :: r := by cases L with
        | nil => simp at hlen
        | cons x r => exact ⟨x, r, rfl⟩
      have hx := hi x (List.mem_cons_self ..)
      have hlt : x.1 < ops.size := (Array.getElem?_eq_some_iff.1 hx).1
      have : x.1 ∈ Region.ready .any ops listed := by
        refine mem_ready.2 ⟨by rw [getD_neg (by omega)]; exact (hl _ hlt).2 (by simp), x.2.1, hx, fun e he hb => ?_⟩
        have hon := (cert_edge hcert hx).1 e he hb
        cases hv : listed.getD e.on false with
        | true => rfl
        | false =>
          have hm := (hl e.on (by omega)).1 hv
          simp only [List.map_cons, List.mem_cons] at hm
          rcases hm with hm | hm
          · omega
          · have hlt2 : x.1 < e.on := (List.pairwise_cons.1 hs).1 _ hm
            omega
      rw [hr] at this
      cases this
    · obtain ⟨h0, o, ho, hall⟩ := mem_ready.1 hri
      have hlt : i < ops.size := (Array.getElem?_eq_some_iff.1 ho).1
      rw [getD_neg (by omega)] at h0
      have hm := (hl i hlt).1 h0
      obtain ⟨y, hy, hyi⟩ := List.mem_map.1 hm
      obtain ⟨pre, post, rfl⟩ := List.append_of_mem hy
      have hpre : ∀ x ∈ pre, Comm ops x y := by
        intro x hx
        have h1 := (List.pairwise_append.1 hp).2.2 x hx y (List.mem_cons_self ..)
        rcases h1 with h1 | h1
        · exfalso
          have hxlt : x.1 < ops.size := (Array.getElem?_eq_some_iff.1 (hi x (List.mem_append_left _ hx))).1
          have := anc_listed hcert hcl (i + 1) i (by omega) o ho hall x.1 hxlt (by rw [← hyi]; exact h1)
          have h2 := (hl x.1 hxlt).2 (List.mem_map.2 ⟨x, List.mem_append_left _ hx, rfl⟩)
          rw [this] at h2
          cases h2
        · exact h1
      have hrun := ARun.front pre h hpre
      obtain ⟨iy, oy, ey⟩ := y
      obtain rfl : iy = i := hyi
      have hoy : oy = o := by
        have := hi (iy, oy, ey) hy
        rw [ho] at this
        exact (Option.some.inj this).symm
      subst hoy
      cases hrun with
      | cons v h1 hr =>
        have hsub : ∀ x, x ∈ pre ++ post → x ∈ pre ++ (iy, oy, ey) :: post := by
          intro x hx
          rcases List.mem_append.1 hx with hx | hx
          · exact List.mem_append_left _ hx
          · exact List.mem_append_right _ (List.mem_cons_of_mem _ hx)
        have hsl : (pre ++ post).Sublist (pre ++ (iy, oy, ey) :: post) := (List.Sublist.refl pre).append (List.sublist_cons_self _ _)
        have hnd := hs
        refine h1.real hR hn ho fun ρ' a' w' hR' => ih (pre ++ post) _ _ ?_ ?_ ?_ (fun x hx => hi x (hsub x hx)) ?_ ?_ (hp.sublist hsl) hr ρ' a' w' hR'
        · simp only [List.length_append, List.length_cons] at hlen ⊢; omega
        · simp [hsz]
        · intro j oj hj hlj e he hb
          by_cases hji : iy = j
          · subst hji
            rw [ho] at hj; cases hj
            exact getD_set_true (hall e he hb)
          · rw [getD_set_ne false hji] at hlj
            exact getD_set_true (hcl j oj hj hlj e he hb)
        · exact hnd.sublist (hsl.map _)
        · intro k hk
          by_cases hki : iy = k
          · subst hki
            simp only [List.map_append, List.mem_append]
            constructor
            · intro h2; simp [hsz, hlt] at h2
            · intro h2
              exfalso
              rw [List.map_append, List.map_cons, List.pairwise_append] at hnd
              rcases h2 with h2 | h2
              · have := hnd.2.2 _ h2 _ (List.mem_cons_self ..)
                simp at this
              · have := (List.pairwise_cons.1 hnd.2.1).1 _ h2
                simp at this
          · rw [getD_set_ne false hki, hl k hk]
            simp only [List.map_append, List.map_cons, List.mem_append, List.mem_cons]
            constructor
            · rintro (h2 | h2 | h2)
              · exact .inl h2
              · exact absurd h2.symm hki
              · exact .inr h2
            · rintro (h2 | h2)
              · exact .inl h2
              · exact .inr (.inr h2)
end Go.Proofs.YtlfadlfjjkppfaaGreatDoor.Sim
namespace Go.Proofs.YtlfadlfjjkppfaaGreatDoor.Sim
open Go
def zipL : Nat → List Oper → List Eff → List (Nat × Oper × Eff)
  | i, o :: os, e :: es => (i, o, e) :: zipL (i + 1) os es
  | _, _, _ => []
def AWo (P : Program) (ops : Array Oper) (n : Nat) (i : Nat) (os : List Oper) (σ : ASt) (D : List Eff → Prop) (K : ASt → Prop) : Prop :=
  ∃ es σ', es.length = os.length ∧ ARun P ops n (zipL i os es) σ σ' ∧ D es ∧ K σ'
theorem AWo.nil {P : Program} {ops : Array Oper} {n i : Nat} {σ : ASt} {D : List Eff → Prop} {K : ASt → Prop} (hD : D []) (hK : K σ) : AWo P ops n i [] σ D K :=
  ⟨[], σ, rfl, .nil σ, hD, hK⟩
theorem AWo.cons {P : Program} {ops : Array Oper} {n i : Nat} {o : Oper} {os : List Oper} {σ : ASt} {D : List Eff → Prop} {K : ASt → Prop} (v : Value) (e : Eff)
    (h : One P ops n o e σ v) (hr : AWo P ops n (i + 1) os (σ.step o v e) (fun es => D (e :: es)) K) : AWo P ops n i (o :: os) σ D K := by
  obtain ⟨es, σ', hl, hrun, hD, hK⟩ := hr
  exact ⟨e :: es, σ', by simp [hl], .cons v h hrun, hD, hK⟩
theorem zipL_map {os : List Oper} : ∀ {i : Nat} {es : List Eff}, es.length = os.length → (zipL i os es).map (fun x => (x.1, x.2.1)) = (os.zipIdx i).map (fun p => (p.2, p.1)) := by
  induction os with
  | nil => intro i es h; simp [zipL]
  | cons o os ih =>
    intro i es h
    cases es with
    | nil => simp at h
    | cons e es =>
      simp only [List.length_cons, Nat.add_right_cancel_iff] at h
      simp only [zipL, List.map_cons, List.zipIdx_cons, ih h]
theorem zipL_idx {os : List Oper} {i : Nat} {es : List Eff} (h : es.length = os.length) : (zipL i os es).map (·.1) = List.range' i os.length := by
  have h1 : (zipL i os es).map (·.1) = ((zipL i os es).map (fun x => (x.1, x.2.1))).map (·.1) := by rw [List.map_map]; rfl
  rw [h1, zipL_map h, List.map_map]
  have : ((fun (p : Nat × Oper) => p.1) ∘ fun (p : Oper × Nat) => (p.2, p.1)) = fun (p : Oper × Nat) => p.2 := rfl
  rw [this]
  rw [show (fun (p : Oper × Nat) => p.2) = Prod.snd from rfl, List.zipIdx_map_snd]
theorem zipL_get {ops : Array Oper} {es : List Eff} (h : es.length = ops.toList.length) : ∀ x ∈ zipL 0 ops.toList es, ops[x.1]? = some x.2.1 := by
  intro x hx
  have h1 : (x.1, x.2.1) ∈ (zipL 0 ops.toList es).map (fun x => (x.1, x.2.1)) := List.mem_map.2 ⟨x, hx, rfl⟩
  rw [zipL_map h] at h1
  obtain ⟨p, hp, he⟩ := List.mem_map.1 h1
  obtain ⟨o, k⟩ := p
  simp only [Prod.mk.injEq] at he
  have := List.mem_zipIdx hp
  obtain ⟨rfl, rfl⟩ := he
  have h2 := this.2.1
  have h3 := this.2.2
  simp only [Nat.zero_add, Nat.sub_zero] at h2 h3
  rw [h3]
  simp only [Array.length_toList] at h2
  rw [Array.getElem?_eq_getElem h2]
  simp
def RQ (C : Ctx) (Q : Exit → ASt → Prop) : Exit → Act → World → Prop := fun e a w => ∃ ρ σ, Rep C ρ σ a w ∧ Q e σ
def AW (P : Program) (n m : Nat) (c : Code) (σ : ASt) (Q : Exit → ASt → Prop) : Prop :=
  ∀ C : Ctx, C.n = n → C.m = m → ∀ ρ a w, Rep C ρ σ a w → c.wp P (RQ C Q) a w
def thenA (Y : ASt → Prop) (Q : Exit → ASt → Prop) : Exit → ASt → Prop
  | .normal, σ => Y σ
  | e, σ => Q e σ
def inBlockA (id : Nat) (Q : Exit → ASt → Prop) : Exit → ASt → Prop
  | .exit id', σ => if id' = id then Q .normal σ else Q (.exit id') σ
  | e, σ => Q e σ
section rules
variable {P : Program} {n m : Nat} {σ : ASt} {Q : Exit → ASt → Prop}
theorem AW.mono {c : Code} {Q' : Exit → ASt → Prop} (h : AW P n m c σ Q') (hq : ∀ e σ, Q' e σ → Q e σ) : AW P n m c σ Q :=
  fun C hn hm ρ a w hR => wp_mono (h C hn hm ρ a w hR) fun _ _ _ ⟨ρ', σ', hR', hQ⟩ => ⟨ρ', σ', hR', hq _ _ hQ⟩
theorem AW.skip (h : Q .normal σ) : AW P n m .skip σ Q := fun _ _ _ ρ _ _ hR => wp_skip ⟨ρ, σ, hR, h⟩
theorem AW.exit {id : Nat} (h : Q (.exit id) σ) : AW P n m (.exit id) σ Q := fun _ _ _ ρ _ _ hR => wp_exit ⟨ρ, σ, hR, h⟩
theorem AW.goto {l : Nat} (h : Q (.goto l) σ) : AW P n m (.goto l) σ Q := fun _ _ _ ρ _ _ hR => wp_goto ⟨ρ, σ, hR, h⟩
theorem AW.ret (h : Q .ret σ) : AW P n m .ret σ Q := fun _ _ _ ρ _ _ hR => wp_ret ⟨ρ, σ, hR, h⟩
theorem AW.seq {x y : Code} (h : AW P n m x σ (thenA (fun σ' => AW P n m y σ' Q) Q)) : AW P n m (.seq x y) σ Q :=
  fun C hn hm ρ a w hR => wp_seq (wp_mono (h C hn hm ρ a w hR) fun e a' w' ⟨ρ', σ', hR', hQ⟩ => by
    cases e with
    | normal => exact hQ C hn hm ρ' a' w' hR'
    | _ => exact ⟨ρ', σ', hR', hQ⟩)
theorem AW.cond {c : Operand} {x y : Code} {b : Bool} (hc : aev σ.env c = some (.bool b)) (ht : b = true → AW P n m x σ Q) (hf : b = false → AW P n m y σ Q) :
    AW P n m (.cond c x y) σ Q :=
  fun C hn hm ρ a w hR => wp_cond_split (flat_inv (hR.eval hc) rfl) (fun h => ht h C hn hm ρ a w hR) (fun h => hf h C hn hm ρ a w hR)
theorem AW.block {id : Nat} {c : Code} (h : AW P n m c σ (inBlockA id Q)) : AW P n m (.block id c) σ Q :=
  fun C hn hm ρ a w hR => wp_block (wp_mono (h C hn hm ρ a w hR) fun e a' w' ⟨ρ', σ', hR', hQ⟩ => by
    cases e with
    | exit id' =>
      simp only [inBlockA, Exit.inBlock] at hQ ⊢
      split
      · rename_i h1; rw [if_pos h1] at hQ; exact ⟨ρ', σ', hR', hQ⟩
      · rename_i h1; rw [if_neg h1] at hQ; exact ⟨ρ', σ', hR', hQ⟩
    | _ => exact ⟨ρ', σ', hR', hQ⟩)
theorem AW.region {id : Nat} {ops : Array Oper} (h : AWo P ops n 0 ops.toList σ (fun _ => True) (Q .normal)) : AW P n m (.region id ops false) σ Q := by
  intro C hn hm ρ a w hR
  obtain ⟨es, σ', hl, hrun, _, hK⟩ := h
  refine wp_region ?_
  have h1 := wpOps_of_run (Q := RQ C Q) hn (fun ρ a w hR => ⟨ρ, σ', hR, hK⟩) _ (zipL_get hl) hrun ρ a w hR
  rw [zipL_idx hl] at h1
  rwa [List.range_eq_range', ← Array.length_toList]
def bfOf (ops : Array Oper) : List Nat :=
  ops.toList.foldl (fun acc o => acc ++ [o.after.toList.foldl (fun s e => if bnd e then s ||| 2 ^ e.on ||| acc.getD e.on 0 else s) 0]) []
abbrev Dat := List Nat × List Nat
def dat (e : Eff) : Dat := (e.fp, keys e.new)
def commB (ops : Array Oper) (o o' : Oper) (d d' : Dat) : Bool :=
  o.apart ops o' && d.2.all (fun i => !d'.1.contains i && !d'.2.contains i) && d'.2.all (fun i => !d.1.contains i)
def rowB (ops : Array Oper) (bf : List Nat) (i : Nat) (o : Oper) (d : Dat) : Nat → List Oper → List Dat → Bool
  | j, o' :: os, d' :: ds => (anc bf i j || commB ops o o' d d') && rowB ops bf i o d (j + 1) os ds
  | _, _, _ => true
def pwB (ops : Array Oper) (bf : List Nat) : Nat → List Oper → List Dat → Bool
  | i, o :: os, d :: ds => rowB ops bf i o d (i + 1) os ds && pwB ops bf (i + 1) os ds
  | _, _, _ => true
def drawB (ops : Array Oper) (ds : List Dat) : Bool := certOk ops (bfOf ops) && pwB ops (bfOf ops) 0 ops.toList ds
theorem commB_spec {ops : Array Oper} {i j : Nat} {o o' : Oper} {e e' : Eff} (h : commB ops o o' (dat e) (dat e') = true) : Comm ops (i, o, e) (j, o', e') := by
  simp only [commB, dat, Bool.and_eq_true, List.all_eq_true, Bool.not_eq_true', List.contains_eq_mem, decide_eq_false_iff_not] at h
  exact ⟨h.1.1, fun k hk => h.1.2 k hk, fun k hk => h.2 k hk⟩
theorem rowB_spec {ops : Array Oper} {bf : List Nat} {i : Nat} {o : Oper} {e : Eff} : ∀ {os : List Oper} {es : List Eff} {j : Nat},
    rowB ops bf i o (dat e) j os (es.map dat) = true → ∀ y ∈ zipL j os es, PW ops bf (i, o, e) y := by
  intro os
  induction os with
  | nil => intro es j _ y hy; simp [zipL] at hy
  | cons o' os ih =>
    intro es j h y hy
    cases es with
    | nil => simp [zipL] at hy
    | cons e' es =>
      simp only [List.map_cons, rowB, Bool.and_eq_true, Bool.or_eq_true] at h
      simp only [zipL, List.mem_cons] at hy
      rcases hy with rfl | hy
      · rcases h.1 with h1 | h1
        · exact .inl h1
        · exact .inr (commB_spec h1)
      · exact ih h.2 y hy
theorem pwB_spec {ops : Array Oper} {bf : List Nat} : ∀ {os : List Oper} {es : List Eff} {i : Nat},
    pwB ops bf i os (es.map dat) = true → (zipL i os es).Pairwise (PW ops bf) := by
  intro os
  induction os with
  | nil => intro es i _; simp [zipL]
  | cons o os ih =>
    intro es i h
    cases es with
    | nil => simp [zipL]
    | cons e es =>
      simp only [List.map_cons, pwB, Bool.and_eq_true] at h
      simp only [zipL]
      exact List.pairwise_cons.2 ⟨rowB_spec h.1, ih h.2⟩
theorem getD_replicate (m j : Nat) : (Array.replicate m false).getD j false = false := by
  rcases Nat.lt_or_ge j m with h | h
  · simp [h]
  · simp [h]
theorem Rep.drew {C : Ctx} {ρ : Rho} {a : Act} {w : World} (h : Rep C ρ σ a w) : Rep C ρ σ a { w with drawn := w.drawn + 1 } :=
  ⟨h.size, h.defers, h.env, fun i b hb => by
    have := h.mem i b hb
    exact ⟨this.lt, this.cells, fun hr => ⟨(this.rw hr).off, (this.rw hr).soft, (this.rw hr).lim, (this.rw hr).lone⟩, this.es, this.room⟩, h.agree, h.low, h.own,
    ⟨h.frame.os, h.frame.tape, h.frame.output, h.frame.size, h.frame.block⟩, fun d hd => ⟨(h.im d hd).lt, (h.im d hd).cells, (h.im d hd).own⟩, h.imsub, h.imnew, h.gl⟩
theorem AW.draw (hm : P.follows .mixedOrders = true) {id : Nat} {ops : Array Oper}
    (h : AWo P ops n 0 ops.toList σ (fun es => drawB ops (es.map dat) = true) (Q .normal)) : AW P n m (.region id ops true) σ Q := by
  intro C hn hm' ρ a w hR
  obtain ⟨es, σ', hl, hrun, hD, hK⟩ := h
  simp only [drawB, Bool.and_eq_true] at hD
  refine wp_region_any hm ?_
  have hlen : (zipL 0 ops.toList es).length = ops.size := by
    have := congrArg List.length (zipL_idx (i := 0) hl)
    simpa using this
  refine wpAny_of_run (Q := RQ C Q) hn (fun ρ a w hR => ⟨ρ, σ', hR, hK⟩) hD.1 ops.size (zipL 0 ops.toList es) σ _ hlen (by simp) ?_ (zipL_get hl) ?_ ?_ (pwB_spec hD.2) hrun ρ a _ hR.drew
  · intro j oj _ hlj
    rw [getD_replicate] at hlj
    cases hlj
  · rw [zipL_idx hl]; exact List.pairwise_lt_range'
  · intro i hi
    rw [zipL_idx hl]
    constructor
    · intro _; simp [hi]
    · intro _; exact getD_replicate _ _
theorem AW.loop {c : Code} (I : Nat → ASt → Prop) {k : Nat} (h0 : I k σ)
    (round : ∀ k σ, I k σ → AW P n m c σ (thenA (fun σ' => ∃ k', k' < k ∧ I k' σ') Q)) : AW P n m (.loop c) σ Q := by
  intro C hn hm ρ a w hR b k' cs
  have key : ∀ N k σ ρ a w, k < N → I k σ → Rep C ρ σ a w →
      ∃ e a' w', RQ C Q e a' w' ∧ Arrives P (lone (b.at a (.code c :: .inLoop c :: k')) cs w) b k' cs e a' w' := by
    intro N
    induction N with
    | zero => intro k σ ρ a w h; omega
    | succ N ih =>
      intro k σ ρ a w hk hI hR
      obtain ⟨e, a₁, w₁, ⟨ρ1, σ1, hR1, hq⟩, harr⟩ := round k σ hI C hn hm ρ a w hR b (.inLoop c :: k') cs
      cases e with
      | normal =>
        obtain ⟨k1, hlt, hI1⟩ := hq
        obtain ⟨e₂, a₂, w₂, hq₂, harr₂⟩ := ih k1 σ1 ρ1 a₁ w₁ (by omega) hI1 hR1
        exact ⟨e₂, a₂, w₂, hq₂, .of_steps (Steps.trans harr (.one step_inLoop)) harr₂⟩
      | exit id => exact ⟨_, a₁, w₁, ⟨ρ1, σ1, hR1, hq⟩, .pass (x := .inLoop c) rfl (fun _ _ => .inl (by simp)) harr⟩
      | goto l => exact ⟨_, a₁, w₁, ⟨ρ1, σ1, hR1, hq⟩, .pass (x := .inLoop c) rfl (fun _ _ => .inl (by simp)) harr⟩
      | ret => exact ⟨_, a₁, w₁, ⟨ρ1, σ1, hR1, hq⟩, .pass (x := .inLoop c) rfl (fun _ _ => .inl (by simp)) harr⟩
      | panic ch => exact ⟨_, a₁, w₁, ⟨ρ1, σ1, hR1, hq⟩, .pass (x := .inLoop c) rfl (fun _ _ => .inl (by simp)) harr⟩
      | outgrown => exact ⟨_, a₁, w₁, ⟨ρ1, σ1, hR1, hq⟩, .pass (x := .inLoop c) rfl (fun _ _ => .inl (by simp)) harr⟩
  obtain ⟨e, a', w', hq, harr⟩ := key (k + 1) k σ ρ a w (by omega) h0 hR
  exact ⟨e, a', w', hq, .of_steps (.one step_loop) harr⟩
def roundsA (P : Program) (n m : Nat) (c : Code) (Q : Exit → ASt → Prop) : Nat → ASt → Prop
  | 0, _ => False
  | k + 1, σ => AW P n m c σ (thenA (roundsA P n m c Q k) Q)
theorem AW.rounds {c : Code} (k : Nat) (h : roundsA P n m c Q k σ) : AW P n m (.loop c) σ Q := by
  refine AW.loop (fun k σ => roundsA P n m c Q k σ) h fun k σ hk => ?_
  cases k with
  | zero => exact hk.elim
  | succ k =>
    refine AW.mono hk fun e σ' h' => ?_
    cases e with
    | normal => exact ⟨k, by omega, h'⟩
    | _ => exact h'
end rules
end Go.Proofs.YtlfadlfjjkppfaaGreatDoor.Sim
namespace Go.Proofs.YtlfadlfjjkppfaaGreatDoor.Sim
open Go
def memL (l : List Blk) : Mem := fun i => l[i]?
theorem dom_memL {l : List Blk} {i : Nat} : dom (memL l) i ↔ i < l.length := by
  unfold dom memL
  constructor
  · rintro ⟨b, hb⟩; exact (List.getElem?_eq_some_iff.1 hb).1
  · intro h; exact ⟨l[i], List.getElem?_eq_getElem h⟩
def RWof (M0 : List Blk) (ρ : Rho) (k : Nat) : Prop := ∃ i b, M0[i]? = some b ∧ b.own (ρ i) ∧ (ρ i).blk = k
structure ImStep (M0 Mo : List Blk) (ρ ρ' : Rho) (w w' : World) : Prop where
  sub : ∀ d ∈ ρ.im, d ∈ ρ'.im
  new : ∀ d ∈ ρ'.im, d ∈ ρ.im ∨ d.cells = [] ∨ RWof M0 ρ d.blk ∨ w.heap.size ≤ d.blk
  ok : ImOk ρ' (memL Mo) w'
theorem VR.closed {m : Md} {D : Nat → Prop} {ρ ρ' : Rho} {v u : Value} (h : VR m (fun _ => False) ρ v u) (hI : ∀ d ∈ ρ.im, d ∈ ρ'.im) : VR m D ρ' v u :=
  h.mono (fun _ h => h.elim) (fun _ h => h.elim) hI
def Ctr (P : Program) (f : FuncId) (args : List Value) (M0 : List Blk) (res : Value) (Mo : List Blk) : Prop :=
  M0.length ≤ Mo.length ∧
  ∀ (ρ : Rho) (w : World) (rargs : List Value), MemOk ρ (memL M0) w → ImOk ρ (memL M0) w → (∀ d ∈ GLB, d ∈ ρ.im) → args.length = rargs.length →
    (∀ (k : Nat) (v u : Value), args[k]? = some v → rargs[k]? = some u → VR .real (dom (memL M0)) ρ v u) →
    Calls P f rargs.toArray w fun e w' => ∃ u ρ', e = .returned u ∧ (∀ i, i < M0.length → ρ' i = ρ i) ∧
      (∀ i b, M0.length ≤ i → Mo[i]? = some b → b.solid (ρ' i) → w.heap.size ≤ (ρ' i).blk ∨ RWof M0 ρ (ρ' i).blk) ∧ VR .real (dom (memL Mo)) ρ' res u ∧ MemOk ρ' (memL Mo) w' ∧ Fr w w' (RWof M0 ρ) ∧ ImStep M0 Mo ρ ρ' w w'
theorem cell?_of_heap {w w' : World} {b o : Nat} (h : w'.heap[b]? = w.heap[b]?) : w'.cell? ⟨b, o, none⟩ = w.cell? ⟨b, o, none⟩ := by
  simp only [World.cell?, h]
theorem frozen?_of_heap {w w' : World} {b o : Nat} (h : w'.heap[b]? = w.heap[b]?) : w'.frozen? ⟨b, o, none⟩ = w.frozen? ⟨b, o, none⟩ := by
  simp only [World.frozen?, h]
def hmap (m : Nat) (nids : List Nat) : Rho := ⟨fun k => if k < m then ⟨k, 0, none, 1⟩ else ⟨nids.getD (k - m) 0, 0, none, 1⟩, []⟩
def ARes (P : Program) (fn : Func) (σ : ASt) (v : Value) : Prop :=
  ∀ C ρ a w, Rep C ρ σ a w → ∃ u, (results fn a.tmps).run P w = .ok u w ∧ VR .real (dom σ.mem) ρ v u
structure Out (m : Nat) (σ : ASt) (v : Value) (res : Value) (Mo : List Blk) (nids : List Nat) : Prop where
  len : Mo.length = m + nids.length
  res : VR .arg (dom (memL Mo)) (hmap m nids) res v
  blk : ∀ k b, Mo[k]? = some b → ∃ b', σ.mem (hmap m nids k).blk = some b' ∧
    (∀ (c : Nat) (x : Value), b.cells[c]? = some x → ∃ y, b'.cells[c]? = some y ∧ VR .arg (dom (memL Mo)) (hmap m nids) x y) ∧
    (b.rw = true ∨ (m ≤ k ∧ b.cells ≠ []) → b'.rw = true) ∧ b'.es = b.es ∧ b.cells.length ≤ b'.cells.length
  nodup : nids.Nodup
  far : ∀ i ∈ nids, m ≤ i
def RetQ (P : Program) (fn : Func) (m : Nat) (res : Value) (Mo : List Blk) : Exit → ASt → Prop := fun e σ =>
  (e = .ret ∨ e = .normal) ∧ ∃ nids v, ARes P fn σ v ∧ Out m σ v res Mo nids
def envL (l : List Value) : Env := fun t => l[t]?
theorem hmap_inj {m : Nat} {nids : List Nat} (hn : nids.Nodup) (hf : ∀ i ∈ nids, m ≤ i) {k k' : Nat} (hk : k < m + nids.length) (hk' : k' < m + nids.length)
    (h : (hmap m nids k).blk = (hmap m nids k').blk) : k = k' := by
  simp only [hmap] at h
  by_cases h1 : k < m <;> by_cases h2 : k' < m
  · simpa [h1, h2] using h
  · rw [if_pos h1, if_neg h2] at h
    have : nids.getD (k' - m) 0 ∈ nids := by
      rw [List.getD_eq_getElem?_getD, List.getElem?_eq_getElem (by omega)]
      exact List.getElem_mem _
    have := hf _ this
    simp only at h
    omega
  · rw [if_neg h1, if_pos h2] at h
    have : nids.getD (k - m) 0 ∈ nids := by
      rw [List.getD_eq_getElem?_getD, List.getElem?_eq_getElem (by omega)]
      exact List.getElem_mem _
    have := hf _ this
    simp only at h
    omega
  · rw [if_neg h1, if_neg h2] at h
    simp only [List.getD_eq_getElem?_getD, List.getElem?_eq_getElem (show k - m < nids.length by omega), List.getElem?_eq_getElem (show k' - m < nids.length by omega), Option.getD_some] at h
    have := (List.getElem_inj hn).1 h
    omega
theorem Ctr.intro {P : Program} {f : FuncId} {fn : Func} {c : Code} {args : List Value} {M0 : List Blk} {res : Value} {Mo : List Blk}
    (hf : P.funcs[f]? = some fn) (hb : fn.body = some c) (hlen : args.length ≤ fn.ntmps) (hM : M0.length ≤ Mo.length)
    (h : AW P fn.ntmps M0.length c ⟨envL args, memL M0⟩ (RetQ P fn M0.length res Mo)) : Ctr P f args M0 res Mo := by
  refine ⟨hM, fun ρ w rargs hmem him hgl hl hargs => ?_⟩
  refine calls_of_wp hf hb ?_
  let C : Ctx := { n := fn.ntmps, m := M0.length, w0 := w, ρ0 := ρ, RW := RWof M0 ρ }
  have hR : Rep C ρ ⟨envL args, memL M0⟩ { tmps := rargs.toArray ++ Array.replicate (fn.ntmps - rargs.toArray.size) undef, defers := [] } w := by
    refine ⟨?_, rfl, fun t v hv => ?_, hmem, fun _ _ => rfl, fun i hi => ⟨M0[i], List.getElem?_eq_getElem hi⟩, fun i b hb hr => .inl ⟨i, b, hb, hr, rfl⟩, Fr.refl _ _, him, fun _ h => h, fun _ h => .inl h, hgl⟩
    · show (rargs.toArray ++ Array.replicate (fn.ntmps - rargs.toArray.size) undef).size = fn.ntmps
      simp only [Array.size_append, Array.size_replicate, List.size_toArray]
      omega
    · simp only [envL] at hv
      have ht : t < rargs.length := by rw [← hl]; exact (List.getElem?_eq_some_iff.1 hv).1
      refine ⟨rargs[t], ?_, hargs t v _ hv (List.getElem?_eq_getElem ht)⟩
      rw [Array.getElem?_append_left (by simpa using ht)]
      simp [ht]
  refine wp_mono (h C rfl rfl ρ _ w hR) fun e a' w' ⟨ρ', σ, hR', he, nids, v, hres, ho⟩ => ?_
  have goal : a'.defers = [] ∧ ∃ v, (results fn a'.tmps).run P w' = .ok v w' ∧ ∃ u ρ', Ending.returned v = .returned u ∧ (∀ i, i < M0.length → ρ' i = ρ i) ∧
      (∀ i b, M0.length ≤ i → Mo[i]? = some b → b.solid (ρ' i) → w.heap.size ≤ (ρ' i).blk ∨ RWof M0 ρ (ρ' i).blk) ∧ VR .real (dom (memL Mo)) ρ' res u ∧ MemOk ρ' (memL Mo) w' ∧ Fr w w' (RWof M0 ρ) ∧ ImStep M0 Mo ρ ρ' w w' := by
    refine ⟨hR'.defers, ?_⟩
    obtain ⟨u, hu, hv⟩ := hres C ρ' a' w' hR'
    have hold : ∀ i, i < M0.length → comp ρ' (hmap M0.length nids) i = ρ i := by
      intro i hi
      have h1 : ρ' i = ρ i := hR'.agree i hi
      rw [← h1]
      simp only [comp, hmap, hi, if_true, Nat.add_zero]
    have hmid : ∀ k b, Mo[k]? = some b → k < Mo.length := fun k b hk => (List.getElem?_eq_some_iff.1 hk).1
    have hoff : ∀ k, (hmap M0.length nids k).off = 0 := fun k => by simp only [hmap]; split <;> rfl
    have hfresh : ∀ i b, M0.length ≤ i → Mo[i]? = some b → b.solid (comp ρ' (hmap M0.length nids) i) → w.heap.size ≤ (comp ρ' (hmap M0.length nids) i).blk ∨ RWof M0 ρ (comp ρ' (hmap M0.length nids) i).blk := by
      intro i b h1 hib hsol
      obtain ⟨b', hb', _, hrw0, _, hroom0⟩ := ho.blk i b hib
      have hrw : b'.own (ρ' (hmap M0.length nids i).blk) := by
        rcases hsol with h | h
        · exact ⟨hrw0 (.inl h.1), h.2⟩
        · exact (hR'.mem _ _ hb').owned (hrw0 (.inr ⟨h1, h⟩)) (Nat.lt_of_lt_of_le (List.length_pos_iff.2 h) hroom0)
      exact (hR'.own _ _ hb' hrw).symm
    refine ⟨u, hu, u, comp ρ' (hmap M0.length nids), rfl, hold, hfresh, VR.comp (by simp) ho.res hv, ?_, ?_, ?_⟩
    · intro k b hk
      obtain ⟨b', hb', hcells, hrw, hes, hroom⟩ := ho.blk k b hk
      have hB := hR'.mem _ _ hb'
      refine ⟨fun hs => hB.lt (hs.imp (fun h => ⟨hrw (.inl h.1), h.2⟩) fun h e => h (List.length_eq_zero_iff.1 (by rw [e] at hroom; simpa using hroom))), fun c x hc => ?_, fun hr => ?_, hB.es.trans hes, fun L hL => by
        have := hB.room L hL
        simp only [comp, hoff, Nat.add_zero]
        omega⟩
      · obtain ⟨y, hy, hxy⟩ := hcells c x hc
        obtain ⟨u', hu', hv'⟩ := hB.cells c y hy
        refine ⟨u', ?_, VR.comp (by simp) hxy hv'⟩
        simp only [comp, hoff, Nat.add_zero]
        exact hu'
      · have hW := hB.rw ⟨hrw (.inl hr.1), hr.2⟩
        refine ⟨by simp only [comp, hoff, hW.off], hW.soft, hW.lim, fun j bj hj hsj hne => ?_⟩
        obtain ⟨b'', hb'', _, hrw'', _, hroom''⟩ := ho.blk j bj hj
        refine hW.lone _ b'' hb'' (hsj.imp (fun h => ⟨hrw'' (.inl h.1), h.2⟩) fun h e => h (List.length_eq_zero_iff.1 (by rw [e] at hroom''; simpa using hroom''))) fun e => hne ?_
        exact hmap_inj ho.nodup ho.far (by have := ho.len; have := hmid j bj hj; omega) (by have := ho.len; have := hmid k b hk; omega) e
    · exact hR'.frame
    · refine ⟨fun d hd => hR'.imsub d hd, fun d hd => hR'.imnew d hd, fun d hd => ?_⟩
      have hd' := hR'.im d hd
      refine ⟨hd'.lt, fun k v hk => ?_, fun hc i b hi hr => ?_⟩
      · obtain ⟨u', h1, h2⟩ := hd'.cells k v hk
        exact ⟨u', h1, h2.closed fun _ h => h⟩
      · obtain ⟨b', hb', _, hrw, _⟩ := ho.blk i b hi
        exact hd'.own hc _ b' hb' ⟨hrw (.inl hr.1), hr.2⟩
  rcases he with rfl | rfl <;> exact goal
def gmap (g : List (Nat × Nat)) (nids : List Nat) : Rho := ⟨fun k =>
  if k < g.length then ⟨(g.getD k (0, 0)).1, (g.getD k (0, 0)).2, none, 1⟩ else ⟨nids.getD (k - g.length) 0, 0, none, 1⟩, []⟩
structure Fits (M : Mem) (M0 Mo : List Blk) (g : List (Nat × Nat)) (nids : List Nat) (new : List (Nat × Blk)) : Prop where
  glen : g.length = M0.length
  nlen : Mo.length = M0.length + nids.length
  fit : ∀ k b0, M0[k]? = some b0 → ∃ b, M (gmap g nids k).blk = some b ∧
    (∀ (c : Nat) (x : Value), b0.cells[c]? = some x → ∃ y, b.cells[(gmap g nids k).off + c]? = some y ∧ VR .arg (dom (memL M0)) (gmap g nids) x y) ∧
    b.es = b0.es ∧ (gmap g nids k).off + b0.cells.length ≤ b.cells.length ∧
    (b0.rw = true → b.rw = true ∧ (gmap g nids k).off = 0 ∧ (∀ k' b', M0[k']? = some b' → k' ≠ k → (gmap g nids k').blk ≠ (gmap g nids k).blk) ∧ (gmap g nids k).blk ∈ keys new)
  hnew : ∀ p ∈ new, ∃ k b0, Mo[k]? = some b0 ∧ p.1 = (gmap g nids k).blk ∧ (M0.length ≤ k ∨ ∃ bi, M0[k]? = some bi ∧ bi.rw = true) ∧
    (∀ (c : Nat) (y : Value), p.2.cells[c]? = some y → ∃ x, b0.cells[c]? = some x ∧ VR .res (dom (memL Mo)) (gmap g nids) x y) ∧ (p.2.rw = true → b0.rw = true) ∧ p.2.es = b0.es ∧ p.2.cells.length ≤ b0.cells.length
  hnids : ∀ i ∈ nids, i ∈ keys new ∧ i ∉ g.map (·.1)
  nodup : nids.Nodup
theorem upds_get {M : Mem} {new : List (Nat × Blk)} {i : Nat} {b : Blk} (h : upds M new i = some b) (hi : i ∈ keys new) : ∃ p ∈ new, p.1 = i ∧ p.2 = b := by
  induction new with
  | nil => simp [keys] at hi
  | cons p r ih =>
    obtain ⟨k, b'⟩ := p
    simp only [upds, upd] at h
    by_cases hk : i = k
    · rw [if_pos hk] at h; cases h; exact ⟨_, List.mem_cons_self .., hk.symm, rfl⟩
    · rw [if_neg hk] at h
      simp only [keys, List.map_cons, List.mem_cons] at hi
      obtain ⟨p, hp, h1⟩ := ih h (hi.resolve_left hk)
      exact ⟨p, List.mem_cons_of_mem _ hp, h1⟩
theorem keys_dom {M : Mem} {new : List (Nat × Blk)} {i : Nat} (hi : i ∈ keys new) : dom (upds M new) i := by
  induction new with
  | nil => simp [keys] at hi
  | cons p r ih =>
    obtain ⟨k, b'⟩ := p
    simp only [dom, upds, upd]
    by_cases hk : i = k
    · exact ⟨b', by simp [hk]⟩
    · rw [if_neg hk]
      simp only [keys, List.map_cons, List.mem_cons] at hi
      exact ih (hi.resolve_left hk)
theorem gmap_new {g : List (Nat × Nat)} {nids : List Nat} {j : Nat} (hj : ¬ j < g.length) : (gmap g nids j).blk = nids.getD (j - g.length) 0 := by
  simp only [gmap, hj, if_false]
theorem call_sound {P : Program} {f : FuncId} {args : List Value} {M0 : List Blk} {res : Value} {Mo : List Blk} (S : Ctr P f args M0 res Mo)
    {g : List (Nat × Nat)} {nids : List Nat} {new : List (Nat × Blk)} {M : Mem} (F : Fits M M0 Mo g nids new)
    {E' : Env} {M' : Mem} (hfp : ∀ i ∈ g.map (·.1), M' i = M i) (hfr : ∀ i ∈ nids, M' i = none) {C : Ctx} {ρ : Rho} {a : Act} {w : World} (hR : Rep C ρ ⟨E', M'⟩ a w)
    {vals rargs : List Value} (hl : args.length = vals.length) (hl' : vals.length = rargs.length)
    (hav : ∀ (k : Nat) (x y : Value), args[k]? = some x → vals[k]? = some y → VR .arg (dom (memL M0)) (gmap g nids) x y)
    (hvu : ∀ (k : Nat) (y u : Value), vals[k]? = some y → rargs[k]? = some u → VR .real (dom M') ρ y u)
    {vres : Value} (hres : VR .res (dom (memL Mo)) (gmap g nids) res vres) :
    Calls P f rargs.toArray w fun e w' => ∃ u ρ', e = .returned u ∧ Rep C ρ' ⟨E', upds M' new⟩ a w' ∧ VR .real (dom (upds M' new)) ρ' vres u := by
  have hgl : ∀ k, k < M0.length → (gmap g nids k).blk ∈ g.map (·.1) := by
    intro k hk
    have hk' : k < g.length := by rw [F.glen]; exact hk
    simp only [gmap, hk', if_true, List.getD_eq_getElem?_getD, List.getElem?_eq_getElem hk', Option.getD_some]
    exact List.mem_map.2 ⟨_, List.getElem_mem _, rfl⟩
  have hgM : ∀ k, k < M0.length → M' (gmap g nids k).blk = M (gmap g nids k).blk := fun k hk => hfp _ (hgl k hk)
  have hnew : ∀ k, M0.length ≤ k → k < Mo.length → (gmap g nids k).blk ∈ nids := by
    intro k h1 h2
    have hk' : ¬ k < g.length := by rw [F.glen]; omega
    have hk2 : k - g.length < nids.length := by rw [F.glen]; have := F.nlen; omega
    simp only [gmap, hk', if_false, List.getD_eq_getElem?_getD, List.getElem?_eq_getElem hk2, Option.getD_some]
    exact List.getElem_mem _
  have hnoff : ∀ k, M0.length ≤ k → (gmap g nids k).off = 0 := by
    intro k h1
    have hk' : ¬ k < g.length := by rw [F.glen]; omega
    simp only [gmap, hk', if_false]
  have hninj : ∀ k k', M0.length ≤ k → k < Mo.length → M0.length ≤ k' → k' < Mo.length → (gmap g nids k).blk = (gmap g nids k').blk → k = k' := by
    intro k k' h1 h2 h3 h4 he
    have hk' : ¬ k < g.length := by rw [F.glen]; omega
    have hk2 : k - g.length < nids.length := by rw [F.glen]; have := F.nlen; omega
    have hj' : ¬ k' < g.length := by rw [F.glen]; omega
    have hj2 : k' - g.length < nids.length := by rw [F.glen]; have := F.nlen; omega
    simp only [gmap, hk', hj', if_false, List.getD_eq_getElem?_getD, List.getElem?_eq_getElem hk2, List.getElem?_eq_getElem hj2, Option.getD_some] at he
    have := (List.getElem_inj F.nodup).1 he
    omega
  have hmem0 : MemOk (comp ρ (gmap g nids)) (memL M0) w := by
    intro k b0 hk
    have hklt : k < M0.length := (List.getElem?_eq_some_iff.1 hk).1
    obtain ⟨b, hb, hcells, hes, hrm, hrw⟩ := F.fit k b0 hk
    have hb' : M' (gmap g nids k).blk = some b := by rw [hgM k hklt]; exact hb
    have hB := hR.mem _ _ hb'
    refine ⟨fun hs => hB.lt (hs.imp (fun h => ⟨(hrw h.1).1, h.2⟩) fun h e => h (List.length_eq_zero_iff.1 (by rw [e] at hrm; simp only [List.length_nil] at hrm; omega))), fun c x hc => ?_, fun hr => ?_, hB.es.trans hes, fun L hL => by
      have := hB.room L hL
      simp only [comp]
      omega⟩
    · obtain ⟨y, hy, hxy⟩ := hcells c x hc
      obtain ⟨u', hu', hv'⟩ := hB.cells _ y hy
      refine ⟨u', ?_, VR.comp (by simp) hxy hv'⟩
      simp only [comp]
      rw [Nat.add_assoc]
      exact hu'
    · obtain ⟨h1, h2, h3, _⟩ := hrw hr.1
      have hW := hB.rw ⟨h1, hr.2⟩
      refine ⟨by simp only [comp, h2, hW.off], hW.soft, hW.lim, fun j bj hj hsj hne => ?_⟩
      obtain ⟨b2, hb2, _, _, hrm2, hrw2⟩ := F.fit j bj hj
      have hjlt : j < M0.length := (List.getElem?_eq_some_iff.1 hj).1
      have hb2' : M' (gmap g nids j).blk = some b2 := by rw [hgM j hjlt]; exact hb2
      exact hW.lone _ b2 hb2' (hsj.imp (fun h => ⟨(hrw2 h.1).1, h.2⟩) fun h e => h (List.length_eq_zero_iff.1 (by rw [e] at hrm2; simp only [List.length_nil] at hrm2; omega))) (h3 j bj hj hne)
  have him0 : ImOk (comp ρ (gmap g nids)) (memL M0) w := by
    intro d hd
    have hd' := hR.im d hd
    refine ⟨hd'.lt, fun k v hk => ?_, fun hc i b hi hr => ?_⟩
    · obtain ⟨u', h1, h2⟩ := hd'.cells k v hk
      exact ⟨u', h1, h2.closed fun _ h => h⟩
    · have hilt : i < M0.length := (List.getElem?_eq_some_iff.1 hi).1
      obtain ⟨b', hb', _, _, _, hrw⟩ := F.fit i b hi
      have hb'' : M' (gmap g nids i).blk = some b' := by rw [hgM i hilt]; exact hb'
      exact hd'.own hc _ b' hb'' ⟨(hrw hr.1).1, hr.2⟩
  refine (S.2 (comp ρ (gmap g nids)) w rargs hmem0 him0 hR.gl (hl.trans hl') (fun k v u hv hu => ?_)).mono ?_
  · have hkv : k < vals.length := by rw [← hl]; exact (List.getElem?_eq_some_iff.1 hv).1
    exact VR.comp (by simp) (hav k v _ hv (List.getElem?_eq_getElem hkv)) (hvu k _ u (List.getElem?_eq_getElem hkv) hu)
  rintro e w' ⟨u, ρc, rfl, hold, hfar, hvres, hmo, hfrm, himc⟩
  let ρ2 : Rho := ⟨fun id => if id ∈ nids then ρc (M0.length + nids.idxOf id) else ρ id, ρc.im⟩
  have hρ2old : ∀ id, dom M' id → ρ2 id = ρ id := by
    rintro id ⟨b, hb⟩
    have : id ∉ nids := fun h => by rw [hfr id h] at hb; cases hb
    simp only [ρ2, this, if_false]
  have hρ2new : ∀ k, M0.length ≤ k → k < Mo.length → ρ2 (gmap g nids k).blk = ρc k := by
    intro k h1 h2
    have hin := hnew k h1 h2
    simp only [ρ2, hin, if_true]
    congr 1
    have hidx : nids.idxOf (gmap g nids k).blk < nids.length := List.idxOf_lt_length_of_mem hin
    have hlt : M0.length + nids.idxOf (gmap g nids k).blk < Mo.length := by have := F.nlen; omega
    refine hninj _ _ (by omega) hlt h1 h2 ?_
    have hk' : ¬ M0.length + nids.idxOf (gmap g nids k).blk < g.length := by rw [F.glen]; omega
    have e1 : (gmap g nids (M0.length + nids.idxOf (gmap g nids k).blk)).blk = nids.getD (nids.idxOf (gmap g nids k).blk) 0 := by
      rw [gmap_new hk', F.glen, Nat.add_sub_cancel_left]
    rw [e1, List.getD_eq_getElem?_getD, List.getElem?_eq_getElem hidx, Option.getD_some]
    exact List.getElem_idxOf hidx
  have hcomp : ∀ k, k < Mo.length → (comp ρ2 (gmap g nids)) k = ρc k := by
    intro k hk
    rcases Nat.lt_or_ge k M0.length with h1 | h1
    · rw [hold k h1]
      obtain ⟨b, hb, _⟩ := F.fit k _ (List.getElem?_eq_getElem h1)
      have : ρ2 (gmap g nids k).blk = ρ (gmap g nids k).blk := hρ2old _ ⟨b, by rw [hgM k h1]; exact hb⟩
      simp only [comp, this]
    · simp only [comp, hρ2new k h1 hk, hnoff k h1, Nat.add_zero]
  have hdomNew : ∀ i, dom M' i → dom (upds M' new) i := fun i hi => upds_dom hi
  have hkeydom : ∀ i, i ∈ keys new → dom (upds M' new) i := fun i hi => keys_dom hi
  have hdomMo : ∀ k, dom (memL Mo) k → dom (upds M' new) (gmap g nids k).blk := by
    intro k hk
    have hk := dom_memL.1 hk
    rcases Nat.lt_or_ge k M0.length with h1 | h1
    · obtain ⟨b, hb, _⟩ := F.fit k _ (List.getElem?_eq_getElem h1)
      exact hdomNew _ ⟨b, by rw [hgM k h1]; exact hb⟩
    · exact hkeydom _ (F.hnids _ (hnew k h1 hk)).1
  have hpush : ∀ {x y u : Value}, VR .res (dom (memL Mo)) (gmap g nids) x y → VR .real (dom (memL Mo)) ρc x u → VR .real (dom (upds M' new)) ρ2 y u := by
    intro x y u h1 h2
    exact VR.push h1 hdomMo (h2.mono (fun _ h => h) (fun i hi => hcomp i (dom_memL.1 hi)) fun _ h => h)
  have hmono : ∀ {x u : Value}, VR .real (dom M') ρ x u → VR .real (dom (upds M' new)) ρ2 x u := fun h => h.mono hdomNew hρ2old himc.sub
  have hkeep : ∀ id b, M' id = some b → b.solid (ρ id) → id ∉ keys new → w'.heap[(ρ id).blk]? = w.heap[(ρ id).blk]? := by
    intro id b hb hsb hk
    have hB := hR.mem id b hb
    refine hfrm.block _ (hB.lt hsb) ?_
    rintro ⟨i, b0, hi, hr, he⟩
    have hilt : i < M0.length := (List.getElem?_eq_some_iff.1 hi).1
    obtain ⟨b1, hb1, _, _, _, hrw⟩ := F.fit i b0 hi
    obtain ⟨h1, h2, h3, h4⟩ := hrw hr.1
    have hb1' : M' (gmap g nids i).blk = some b1 := by rw [hgM i hilt]; exact hb1
    have hne : id ≠ (gmap g nids i).blk := fun e => hk (e ▸ h4)
    exact ((hR.mem _ _ hb1').rw ⟨h1, hr.2⟩).lone id b hb hsb hne he.symm
  refine ⟨u, ρ2, rfl, ?_, hpush hres hvres⟩
  refine ⟨hR.size, hR.defers, fun t v hv => ?_, ?_, fun i hi => ?_, fun i hi => ?_, ?_, ?_, fun d hd => ?_, fun d hd => himc.sub d (hR.imsub d hd), fun d hd => ?_, fun d hd => himc.sub d (hR.gl d hd)⟩
  · obtain ⟨x, hx, hv'⟩ := hR.env t v hv
    exact ⟨x, hx, hmono hv'⟩
  · 
    intro id b hb
    by_cases hk : id ∈ keys new
    · obtain ⟨p, hp, rfl, rfl⟩ := upds_get hb hk
      obtain ⟨k, b0, hkb, hpk, hkind, hcells, hprw, hpes, hprm⟩ := F.hnew p hp
      have hklt : k < Mo.length := (List.getElem?_eq_some_iff.1 hkb).1
      have hB := hmo k b0 hkb
      have hoff0 : (gmap g nids k).off = 0 := by
        rcases hkind with h1 | ⟨bi, hbi, hbr⟩
        · exact hnoff k h1
        · obtain ⟨_, _, _, _, _, hrw⟩ := F.fit k bi hbi
          exact (hrw hbr).2.1
      have hρk : ρ2 p.1 = ρc k := by
        have := hcomp k hklt
        simp only [comp, hoff0, Nat.add_zero] at this
        rw [hpk]; exact this
      refine ⟨fun hs => by rw [hρk]; exact hB.lt (hs.imp (fun h => ⟨hprw h.1, by rw [← hρk]; exact h.2⟩) fun h e => h (List.length_eq_zero_iff.1 (by rw [e] at hprm; simpa using hprm))), fun c y hy => ?_, fun hr => ?_, by rw [hρk]; exact hB.es.trans hpes.symm, fun L hL => by
        rw [hρk] at hL ⊢
        have := hB.room L hL
        omega⟩
      · obtain ⟨x, hx, hxy⟩ := hcells c y hy
        obtain ⟨u', hu', hv'⟩ := hB.cells c x hx
        exact ⟨u', by rw [hρk]; exact hu', hpush hxy hv'⟩
      · have hW := hB.rw ⟨hprw hr.1, by rw [← hρk]; exact hr.2⟩
        refine ⟨by rw [hρk]; exact hW.off, by rw [hρk]; exact hW.soft, by rw [hρk]; exact hW.lim, fun j bj hj hsj hne => ?_⟩
        rw [hρk]
        by_cases hjk : j ∈ keys new
        · obtain ⟨p', hp', rfl, rfl⟩ := upds_get hj hjk
          obtain ⟨k', b0', hkb', hpk', hkind', _, hprw', _, hprm'⟩ := F.hnew p' hp'
          have hklt' : k' < Mo.length := (List.getElem?_eq_some_iff.1 hkb').1
          have hoff0' : (gmap g nids k').off = 0 := by
            rcases hkind' with h1 | ⟨bi, hbi, hbr⟩
            · exact hnoff k' h1
            · obtain ⟨_, _, _, _, _, hrw⟩ := F.fit k' bi hbi
              exact (hrw hbr).2.1
          have hρk' : ρ2 p'.1 = ρc k' := by
            have := hcomp k' hklt'
            simp only [comp, hoff0', Nat.add_zero] at this
            rw [hpk']; exact this
          rw [hρk']
          exact hW.lone k' b0' hkb' (hsj.imp (fun h => ⟨hprw' h.1, by rw [← hρk']; exact h.2⟩) fun h e => h (List.length_eq_zero_iff.1 (by rw [e] at hprm'; simpa using hprm'))) fun e => hne (by rw [hpk', hpk, e])
        · change upds M' new j = some bj at hj
          rw [upds_out hjk] at hj
          rw [hρ2old j ⟨bj, hj⟩] at hsj ⊢
          rcases hkind with h1 | ⟨bi, hbi, hbr⟩
          · have h3 := (hR.mem j bj hj).lt hsj
            rcases hfar k b0 h1 hkb (.inl ⟨hprw hr.1, by rw [← hρk]; exact hr.2⟩) with h2 | ⟨ir, br, hir, hbr, he⟩
            · omega
            · have hirl : ir < M0.length := (List.getElem?_eq_some_iff.1 hir).1
              obtain ⟨b1, hb1, _, _, _, hrw⟩ := F.fit ir br hir
              obtain ⟨g1, _, _, g4⟩ := hrw hbr.1
              have hb1' : M' (gmap g nids ir).blk = some b1 := by rw [hgM ir hirl]; exact hb1
              have h5 := ((hR.mem _ _ hb1').rw ⟨g1, hbr.2⟩).lone j bj hj hsj (fun e => hjk (e ▸ g4))
              rw [← he]
              exact h5
          · have hki : k < M0.length := (List.getElem?_eq_some_iff.1 hbi).1
            obtain ⟨b1, hb1, _, _, _, hrw⟩ := F.fit k bi hbi
            obtain ⟨g1, g2, g3, g4⟩ := hrw hbr
            have hb1' : M' (gmap g nids k).blk = some b1 := by rw [hgM k hki]; exact hb1
            have := ((hR.mem _ _ hb1').rw ⟨g1, by rw [← hρ2old _ ⟨b1, hb1'⟩, ← hpk]; exact hr.2⟩).lone j bj hj hsj (fun e => hne (by rw [e, hpk]))
            rw [← hρk, hpk, hρ2old _ ⟨b1, hb1'⟩]
            exact this
    · change upds M' new id = some b at hb
      rw [upds_out hk] at hb
      have hB := hR.mem id b hb
      have hρo := hρ2old id ⟨b, hb⟩
      have hheap := fun hs => hkeep id b hb hs hk
      refine ⟨fun hs => by rw [hρo]; exact Nat.lt_of_lt_of_le (hB.lt (by rw [← hρo]; exact hs)) hfrm.size, fun c y hy => ?_, fun hr => ?_, by rw [hρo]; exact hB.es, by rw [hρo]; exact hB.room⟩
      · obtain ⟨u', hu', hv'⟩ := hB.cells c y hy
        rw [hρo]
        exact ⟨u', by rw [cell?_of_heap (hheap (Blk.solid_get hy))]; exact hu', hmono hv'⟩
      · rw [hρo] at hr
        have hW := hB.rw hr
        have hheap := hheap (.inl hr)
        refine ⟨by rw [hρo]; exact hW.off, fun o => by rw [hρo, frozen?_of_heap hheap]; exact hW.soft o, ?_, fun j bj hj hsj hne => ?_⟩
        · obtain ⟨L, hL, hc⟩ := hW.lim
          rw [hρo]
          exact ⟨L, hL, fun k hk => by rw [cell?_of_heap hheap]; exact hc k hk⟩
        · rw [hρo]
          by_cases hjk : j ∈ keys new
          · obtain ⟨p', hp', rfl, rfl⟩ := upds_get hj hjk
            obtain ⟨k', b0', hkb', hpk', hkind', _, hprw', _, hprm'⟩ := F.hnew p' hp'
            have hklt' : k' < Mo.length := (List.getElem?_eq_some_iff.1 hkb').1
            rcases hkind' with h1 | ⟨bi, hbi, hbr⟩
            · have : ρ2 p'.1 = ρc k' := by rw [hpk']; exact hρ2new k' h1 hklt'
              rw [this]
              have h3 := hB.lt (.inl hr)
              rcases hfar k' b0' h1 hkb' (hsj.imp (fun h => ⟨hprw' h.1, by rw [← this]; exact h.2⟩) fun h e => h (List.length_eq_zero_iff.1 (by rw [e] at hprm'; simpa using hprm'))) with h2 | ⟨ir, br, hir, hbr, he⟩
              · omega
              · have hirl : ir < M0.length := (List.getElem?_eq_some_iff.1 hir).1
                obtain ⟨b1, hb1, _, _, _, hrw⟩ := F.fit ir br hir
                obtain ⟨g1, _, _, g4⟩ := hrw hbr.1
                have hb1' : M' (gmap g nids ir).blk = some b1 := by rw [hgM ir hirl]; exact hb1
                have h5 := ((hR.mem _ _ hb1').rw ⟨g1, hbr.2⟩).lone id b hb (.inl hr) (fun e => hk (e ▸ g4))
                rw [← he]
                exact Ne.symm h5
            · have hki : k' < M0.length := (List.getElem?_eq_some_iff.1 hbi).1
              obtain ⟨b1, hb1, _, _, _, hrw⟩ := F.fit k' bi hbi
              have hb1' : M' (gmap g nids k').blk = some b1 := by rw [hgM k' hki]; exact hb1
              have hlm : (ρ (gmap g nids k').blk).lim ≠ some 0 := by
                rcases hsj with h | h
                · rw [← hρ2old _ ⟨b1, hb1'⟩, ← hpk']; exact h.2
                · intro e
                  have hc := hcomp k' hklt'
                  have := (hmo k' b0' hkb').room 0 (by rw [← hc]; simp only [comp, hρ2old _ ⟨b1, hb1'⟩]; exact e)
                  exact h (List.length_eq_zero_iff.1 (by omega))
              rw [hpk', hρ2old _ ⟨b1, hb1'⟩]
              exact hW.lone _ b1 hb1' (.inl ⟨(hrw hbr).1, hlm⟩) (fun e => hne (by rw [hpk', e]))
          · change upds M' new j = some bj at hj
            rw [upds_out hjk] at hj
            rw [hρ2old j ⟨bj, hj⟩] at hsj ⊢
            exact hW.lone j bj hj hsj hne
  · obtain ⟨b, hb⟩ := hR.low i hi
    rw [hρ2old i ⟨b, hb⟩]
    exact hR.agree i hi
  · exact upds_dom (hR.low i hi)
  · intro id b hb hr
    by_cases hk : id ∈ keys new
    · obtain ⟨p, hp, rfl, rfl⟩ := upds_get hb hk
      obtain ⟨k, b0, hkb, hpk, hkind, _, hprw, _⟩ := F.hnew p hp
      have hklt : k < Mo.length := (List.getElem?_eq_some_iff.1 hkb).1
      rcases hkind with h1 | ⟨bi, hbi, hbr⟩
      · rw [hpk, hρ2new k h1 hklt]
        rcases hfar k b0 h1 hkb (.inl ⟨hprw hr.1, by rw [← hρ2new k h1 hklt, ← hpk]; exact hr.2⟩) with h2 | ⟨ir, br, hir, hbr, he⟩
        · exact .inr (Nat.le_trans hR.frame.size h2)
        · have hirl : ir < M0.length := (List.getElem?_eq_some_iff.1 hir).1
          obtain ⟨b1, hb1, _, _, _, hrw⟩ := F.fit ir br hir
          have hb1' : M' (gmap g nids ir).blk = some b1 := by rw [hgM ir hirl]; exact hb1
          rw [← he]
          exact hR.own _ _ hb1' ⟨(hrw hbr.1).1, hbr.2⟩
      · have hki : k < M0.length := (List.getElem?_eq_some_iff.1 hbi).1
        obtain ⟨b1, hb1, _, _, _, hrw⟩ := F.fit k bi hbi
        have hb1' : M' (gmap g nids k).blk = some b1 := by rw [hgM k hki]; exact hb1
        have hlm : (ρ (gmap g nids k).blk).lim ≠ some 0 := by rw [← hρ2old _ ⟨b1, hb1'⟩, ← hpk]; exact hr.2
        rw [hpk, hρ2old _ ⟨b1, hb1'⟩]
        exact hR.own _ _ hb1' ⟨(hrw hbr).1, hlm⟩
    · change upds M' new id = some b at hb
      rw [upds_out hk] at hb
      rw [hρ2old id ⟨b, hb⟩] at hr ⊢
      exact hR.own id b hb hr
  · refine hR.frame.trans hfrm fun k hk => ?_
    rintro ⟨i, b0, hi, hr, he⟩
    have hilt : i < M0.length := (List.getElem?_eq_some_iff.1 hi).1
    obtain ⟨b1, hb1, _, _, _, hrw⟩ := F.fit i b0 hi
    have hb1' : M' (gmap g nids i).blk = some b1 := by rw [hgM i hilt]; exact hb1
    have h1 : (ρ (gmap g nids i).blk).blk = k := he
    rcases hR.own _ _ hb1' ⟨(hrw hr.1).1, hr.2⟩ with h2 | h2
    · rw [h1] at h2; exact h2
    · rw [h1] at h2; omega
  · have hd' := himc.ok d hd
    refine ⟨hd'.lt, fun k v hk => ?_, fun hc id b hb hr => ?_⟩
    · obtain ⟨u', h1, h2⟩ := hd'.cells k v hk
      exact ⟨u', h1, h2.closed fun _ h => h⟩
    · by_cases hk : id ∈ keys new
      · obtain ⟨p, hp, rfl, rfl⟩ := upds_get hb hk
        obtain ⟨k, b0, hkb, hpk, hkind, _, hprw, _⟩ := F.hnew p hp
        have hklt : k < Mo.length := (List.getElem?_eq_some_iff.1 hkb).1
        have hoff0 : (gmap g nids k).off = 0 := by
          rcases hkind with h1 | ⟨bi, hbi, hbr⟩
          · exact hnoff k h1
          · obtain ⟨_, _, _, _, _, hrw⟩ := F.fit k bi hbi
            exact (hrw hbr).2.1
        have hρk : ρ2 p.1 = ρc k := by
          have := hcomp k hklt
          simp only [comp, hoff0, Nat.add_zero] at this
          rw [hpk]; exact this
        rw [hρk]
        exact hd'.own hc k b0 hkb ⟨hprw hr.1, by rw [← hρk]; exact hr.2⟩
      · change upds M' new id = some b at hb
        rw [upds_out hk] at hb
        rw [hρ2old id ⟨b, hb⟩] at hr ⊢
        rcases himc.new d hd with h1 | h1 | ⟨ir, br, hir, hbr, he⟩ | h1
        · exact (hR.im d h1).own hc id b hb hr
        · exact absurd h1 hc
        · have hirl : ir < M0.length := (List.getElem?_eq_some_iff.1 hir).1
          obtain ⟨b1, hb1, _, _, _, hrw⟩ := F.fit ir br hir
          obtain ⟨g1, _, _, g4⟩ := hrw hbr.1
          have hb1' : M' (gmap g nids ir).blk = some b1 := by rw [hgM ir hirl]; exact hb1
          have h5 := ((hR.mem _ _ hb1').rw ⟨g1, hbr.2⟩).lone id b hb (.inl hr) (fun e => hk (e ▸ g4))
          rw [← he]
          exact h5
        · have := (hR.mem id b hb).lt (.inl hr)
          omega
  · rcases himc.new d hd with h1 | h1 | ⟨ir, br, hir, hbr, he⟩ | h1
    · exact hR.imnew d h1
    · exact .inr (.inl h1)
    · have hirl : ir < M0.length := (List.getElem?_eq_some_iff.1 hir).1
      obtain ⟨b1, hb1, _, _, _, hrw⟩ := F.fit ir br hir
      have hb1' : M' (gmap g nids ir).blk = some b1 := by rw [hgM ir hirl]; exact hb1
      rw [← he]
      exact .inr (.inr (hR.own _ _ hb1' ⟨(hrw hbr.1).1, hbr.2⟩))
    · exact .inr (.inr (.inr (Nat.le_trans hR.frame.size h1)))
end Go.Proofs.YtlfadlfjjkppfaaGreatDoor.Sim
namespace Go.Proofs.YtlfadlfjjkppfaaGreatDoor.Sim
open Go
def pushW (w : World) (o : Obj) : World := { w with heap := w.heap.push o }
theorem pushW_old {w : World} {o : Obj} {k : Nat} (h : k < w.heap.size) : (pushW w o).heap[k]? = w.heap[k]? := by
  simp only [pushW, Array.getElem?_push]
  rw [if_neg (by omega)]
theorem pushW_new {w : World} {o : Obj} : (pushW w o).heap[w.heap.size]? = some o := by
  show (w.heap.push o)[w.heap.size]? = some o
  simp
theorem Rep.alloc {C : Ctx} {ρ : Rho} {E : Env} {M : Mem} {a : Act} {w : World} (h : Rep C ρ ⟨E, M⟩ a w) {id : Nat} (hid : M id = none)
    {cells : List Value} {rcells : Array Value} {elem : TypeId} (es : Nat) (hl : cells.length ≤ rcells.size)
    (hc : ∀ (k : Nat) (v u : Value), cells[k]? = some v → rcells[k]? = some u → VR .real (dom M) ρ v u) :
    ∃ ρ', Rep C ρ' ⟨E, upd M id ⟨cells, true, es⟩⟩ a (pushW w (.cells rcells elem)) ∧ ρ' id = ⟨w.heap.size, 0, some rcells.size, es⟩ ∧ (∀ i, i ≠ id → ρ' i = ρ i) ∧ ∀ d ∈ ρ.im, d ∈ ρ'.im := by
  let ρ' : Rho := ⟨fun i => if i = id then ⟨w.heap.size, 0, some rcells.size, es⟩ else ρ i, ρ.im⟩
  have hne : ∀ i, i ≠ id → ρ' i = ρ i := fun i hi => by simp only [ρ', hi, if_false]
  have hid' : ρ' id = ⟨w.heap.size, 0, some rcells.size, es⟩ := by simp only [ρ', if_true]
  have hold : ∀ i, dom M i → ρ' i = ρ i := by
    rintro i ⟨b, hb⟩
    refine hne i fun e => ?_
    rw [e, hid] at hb; cases hb
  have hdom : ∀ i, dom M i → dom (upd M id ⟨cells, true, es⟩) i := by
    rintro i ⟨b, hb⟩
    by_cases hi : i = id
    · exact ⟨⟨cells, true, es⟩, by simp only [upd, hi, if_true]⟩
    · exact ⟨b, by simp only [upd, hi, if_false]; exact hb⟩
  have hcell : ∀ k u, rcells[k]? = some u → (pushW w (.cells rcells elem)).cell? ⟨w.heap.size, k, none⟩ = some u := by
    intro k u hu
    simp only [World.cell?, pushW_new]
    simpa using hu
  refine ⟨ρ', ⟨h.size, h.defers, fun t v hv => ?_, fun i b hb => ?_, fun i hi => ?_, fun i hi => ?_, fun i b hb hr => ?_, ?_, fun d hd => ?_, h.imsub, h.imnew, h.gl⟩, hid', hne, fun _ h => h⟩
  · obtain ⟨u, hu, hv'⟩ := h.env t v hv
    exact ⟨u, hu, hv'.mono hdom hold fun _ h => h⟩
  · simp only [upd] at hb
    by_cases hi : i = id
    · rw [if_pos hi] at hb; cases hb
      subst hi
      refine ⟨fun _ => by rw [hid']; simp [pushW], fun k v hk => ?_, fun _ => ⟨by rw [hid'], fun o => ?_, ?_, fun j bj hj hsj hne' => ?_⟩, by rw [hid'], by rw [hid']; intro L hL; simp only [Option.some.injEq] at hL; simp only; omega⟩
      · have hlt : k < rcells.size := Nat.lt_of_lt_of_le (List.getElem?_eq_some_iff.1 hk).1 hl
        have hu := Array.getElem?_eq_getElem hlt
        refine ⟨rcells[k], ?_, (hc k v _ hk hu).mono hdom hold fun _ h => h⟩
        rw [hid']
        simp only [Nat.zero_add]
        exact hcell k _ hu
      · rw [hid']
        simp only [World.frozen?, pushW_new]
        simp
      · rw [hid']
        refine ⟨_, rfl, fun k hk => ?_⟩
        exact ⟨_, hcell k _ (Array.getElem?_eq_getElem hk)⟩
      · simp only [upd] at hj
        rw [if_neg hne'] at hj
        rw [hne j hne'] at hsj
        rw [hid', hne j hne']
        have := (h.mem j bj hj).lt hsj
        simp only
        omega
    · rw [if_neg hi] at hb
      have hB := h.mem i b hb
      have hheap : b.solid (ρ i) → (pushW w (.cells rcells elem)).heap[(ρ i).blk]? = w.heap[(ρ i).blk]? := fun hs => pushW_old (hB.lt hs)
      refine ⟨fun hs => by rw [hne i hi]; rw [hne i hi] at hs; simp only [pushW, Array.size_push]; have := hB.lt hs; omega, fun k v hk => ?_, fun hr => ?_, by rw [hne i hi]; exact hB.es, by rw [hne i hi]; exact hB.room⟩
      · obtain ⟨u, hu, hv⟩ := hB.cells k v hk
        rw [hne i hi]
        exact ⟨u, by rw [cell?_of_heap (hheap (Blk.solid_get hk))]; exact hu, hv.mono hdom hold fun _ h => h⟩
      · rw [hne i hi] at hr
        have hW := hB.rw hr
        have hheap := hheap (.inl hr)
        refine ⟨by rw [hne i hi]; exact hW.off, fun o => by rw [hne i hi, frozen?_of_heap hheap]; exact hW.soft o, ?_, fun j bj hj hsj hne' => ?_⟩
        · obtain ⟨L, hL, hx⟩ := hW.lim
          rw [hne i hi]
          exact ⟨L, hL, fun k hk => by rw [cell?_of_heap hheap]; exact hx k hk⟩
        · rw [hne i hi]
          simp only [upd] at hj
          by_cases hji : j = id
          · rw [hji, hid']; have := hB.lt (.inl hr); simp only; omega
          · rw [if_neg hji] at hj
            rw [hne j hji] at hsj ⊢
            exact hW.lone j bj hj hsj hne'
  · obtain ⟨b, hb⟩ := h.low i hi
    rw [hold i ⟨b, hb⟩]; exact h.agree i hi
  · exact hdom i (h.low i hi)
  · simp only [upd] at hb
    by_cases hi : i = id
    · right; rw [hi, hid']; exact h.frame.size
    · rw [if_neg hi] at hb
      rw [hne i hi] at hr ⊢; exact h.own i b hb hr
  · exact h.frame.trans (RW' := fun _ => False) ⟨rfl, rfl, rfl, by simp [pushW], fun k hk _ => pushW_old hk⟩ (fun _ _ h => h.elim)
  · have hd' := h.im d hd
    refine ⟨fun hc => by have := hd'.lt hc; simp only [pushW, Array.size_push]; omega, fun k v hk => ?_, fun hc i b hb hr => ?_⟩
    · obtain ⟨u', h1, h2⟩ := hd'.cells k v hk
      have hc : d.cells ≠ [] := fun e => by rw [e] at hk; simp at hk
      exact ⟨u', by rw [cell?_of_heap (pushW_old (hd'.lt hc))]; exact h1, h2.closed fun _ h => h⟩
    · simp only [upd] at hb
      by_cases hi : i = id
      · rw [hi, hid']; have := hd'.lt hc; simp only; omega
      · rw [if_neg hi] at hb
        rw [hne i hi] at hr ⊢
        exact hd'.own hc i b hb hr
theorem setCell_heap_ne {w : World} {a : Addr} {u : Value} {k : Nat} (h : k ≠ a.block) : (w.setCell a u).heap[k]? = w.heap[k]? := by
  simp only [World.setCell, Array.getElem?_modify]
  rw [if_neg (by omega)]
theorem setCell_cell {w : World} {b o j : Nat} {u x : Value} (h : w.cell? ⟨b, o, none⟩ = some x) :
    (w.setCell ⟨b, o, none⟩ u).cell? ⟨b, j, none⟩ = if j = o then some u else w.cell? ⟨b, j, none⟩ := by
  simp only [World.cell?, World.setCell, Array.getElem?_modify, if_true] at h ⊢
  cases hb : w.heap[b]? with
  | none => rw [hb] at h; simp at h
  | some ob =>
    rw [hb] at h
    cases ob <;> simp at h ⊢
    rename_i c e fr
    by_cases hj : j = o
    · subst hj
      have : j < c.size := get_lt h
      simp [this]
    · rw [if_neg hj, Array.getElem?_setIfInBounds_ne (Ne.symm hj)]
theorem setCell_frozen {w : World} {a : Addr} {u : Value} {b o : Nat} : (w.setCell a u).frozen? ⟨b, o, none⟩ = w.frozen? ⟨b, o, none⟩ := by
  simp only [World.frozen?, World.setCell, Array.getElem?_modify]
  by_cases hb : a.block = b
  · rw [if_pos hb]
    cases h : w.heap[b]? with
    | none => rfl
    | some ob => cases ob <;> rfl
  · rw [if_neg hb]
theorem Rep.write {C : Ctx} {ρ : Rho} {E : Env} {M : Mem} {a : Act} {w : World} (h : Rep C ρ ⟨E, M⟩ a w) {id o L : Nat} {b : Blk} (hid : M id = some b) (hr : b.rw = true)
    (hL : (ρ id).lim = some L) (ho : o < L) {v u : Value} (hv : VR .real (dom M) ρ v u) {cells : List Value}
    (hc : ∀ (k : Nat) (y : Value), cells[k]? = some y → (k = o ∧ y = v) ∨ (k ≠ o ∧ b.cells[k]? = some y)) (hlen : cells.length ≤ L) :
    Rep C ρ ⟨E, upd M id ⟨cells, true, b.es⟩⟩ a (w.setCell ⟨(ρ id).blk, (ρ id).off + o, none⟩ u) := by
  have hdom : ∀ i, dom M i → dom (upd M id ⟨cells, true, b.es⟩) i := by
    rintro i ⟨b', hb'⟩
    by_cases hi : i = id
    · exact ⟨⟨cells, true, b.es⟩, by simp only [upd, hi, if_true]⟩
    · exact ⟨b', by simp only [upd, hi, if_false]; exact hb'⟩
  have hB := h.mem id b hid
  have ho' : b.own (ρ id) := ⟨hr, by rw [hL]; simp only [ne_eq, Option.some.injEq]; omega⟩
  have hW := hB.rw ho'
  have hoff := hW.off
  obtain ⟨L', hL', hx⟩ := hW.lim
  obtain rfl : L' = L := by rw [hL] at hL'; exact (Option.some.inj hL').symm
  obtain ⟨x0, hx0⟩ := hx o ho
  have hx0' : w.cell? ⟨(ρ id).blk, (ρ id).off + o, none⟩ = some x0 := by rw [hoff, Nat.zero_add]; exact hx0
  have hset := fun j => setCell_cell (j := j) (u := u) hx0'
  refine ⟨h.size, h.defers, fun t y hy => ?_, fun i b' hb' => ?_, h.agree, fun i hi => hdom i (h.low i hi), fun i b' hb' hr' => ?_, ?_, fun d hd => ?_, h.imsub, h.imnew, h.gl⟩
  · obtain ⟨z, hz, hv'⟩ := h.env t y hy
    exact ⟨z, hz, hv'.mono hdom (fun _ _ => rfl) fun _ h => h⟩
  · simp only [upd] at hb'
    by_cases hi : i = id
    · rw [if_pos hi] at hb'; cases hb'
      subst hi
      refine ⟨fun _ => by simp only [World.setCell, Array.size_modify]; exact hB.lt (.inl ho'), fun k y hk => ?_, fun _ => ⟨hoff, fun o' => by rw [setCell_frozen]; exact hW.soft o', ⟨L', hL, fun k hk => ?_⟩, fun j bj hj hsj hne => ?_⟩, hB.es, fun L2 h2 => ?_⟩
      · rw [hset]
        rcases hc k y hk with ⟨rfl, rfl⟩ | ⟨hko, hk'⟩
        · exact ⟨u, by simp, hv.mono hdom (fun _ _ => rfl) fun _ h => h⟩
        · obtain ⟨z, hz, hv'⟩ := hB.cells k y hk'
          exact ⟨z, by rw [if_neg (by omega)]; exact hz, hv'.mono hdom (fun _ _ => rfl) fun _ h => h⟩
      · rw [hset]
        split
        · exact ⟨u, rfl⟩
        · exact hx k hk
      · simp only [upd] at hj
        rw [if_neg hne] at hj
        exact hW.lone j bj hj hsj hne
      · rw [hL] at h2; cases h2; rw [hoff, Nat.zero_add]; exact hlen
    · rw [if_neg hi] at hb'
      have hB' := h.mem i b' hb'
      have hne : b'.solid (ρ i) → (ρ i).blk ≠ (ρ id).blk := fun hs => hW.lone i b' hb' hs hi
      have hheap : b'.solid (ρ i) → (w.setCell ⟨(ρ id).blk, (ρ id).off + o, none⟩ u).heap[(ρ i).blk]? = w.heap[(ρ i).blk]? := fun hs => setCell_heap_ne (hne hs)
      refine ⟨fun hs => by simp only [World.setCell, Array.size_modify]; exact hB'.lt hs, fun k y hk => ?_, fun hr' => ?_, hB'.es, hB'.room⟩
      · obtain ⟨z, hz, hv'⟩ := hB'.cells k y hk
        exact ⟨z, by rw [cell?_of_heap (hheap (Blk.solid_get hk))]; exact hz, hv'.mono hdom (fun _ _ => rfl) fun _ h => h⟩
      · have hW' := hB'.rw hr'
        have hheap := hheap (.inl hr')
        refine ⟨hW'.off, fun o' => by rw [setCell_frozen]; exact hW'.soft o', ?_, fun j bj hj hsj hne' => ?_⟩
        · obtain ⟨L2, hL2, hx2⟩ := hW'.lim
          exact ⟨L2, hL2, fun k hk => by rw [cell?_of_heap hheap]; exact hx2 k hk⟩
        · simp only [upd] at hj
          by_cases hji : j = id
          · rw [hji]; exact Ne.symm (hne (.inl hr'))
          · rw [if_neg hji] at hj; exact hW'.lone j bj hj hsj hne'
  · simp only [upd] at hb'
    by_cases hi : i = id
    · rw [hi]; exact h.own id b hid ho'
    · rw [if_neg hi] at hb'; exact h.own i b' hb' hr'
  · refine h.frame.trans (RW' := fun k => k = (ρ id).blk) ⟨rfl, rfl, rfl, by simp [World.setCell], fun k _ hn => setCell_heap_ne hn⟩ fun k hk he => ?_
    rcases h.own id b hid ho' with h2 | h2
    · rw [he]; exact h2
    · rw [he] at hk; omega
  · have hd' := h.im d hd
    refine ⟨fun hc => by simp only [World.setCell, Array.size_modify]; exact hd'.lt hc, fun k v hk => ?_, fun hc i b' hb' hr' => ?_⟩
    · obtain ⟨u', h1, h2⟩ := hd'.cells k v hk
      have hc : d.cells ≠ [] := fun e => by rw [e] at hk; simp at hk
      exact ⟨u', by rw [cell?_of_heap (setCell_heap_ne (Ne.symm (hd'.own hc id b hid ho')))]; exact h1, h2⟩
    · simp only [upd] at hb'
      by_cases hi : i = id
      · rw [hi]; exact hd'.own hc id b hid ho'
      · rw [if_neg hi] at hb'; exact hd'.own hc i b' hb' hr'
theorem Rep.lim {C : Ctx} {ρ : Rho} {E : Env} {M : Mem} {a : Act} {w : World} (h : Rep C ρ ⟨E, M⟩ a w) {id : Nat} {b : Blk} (hid : M id = some b) (hr : b.rw = true) :
    ∃ L, (ρ id).lim = some L ∧ b.cells.length ≤ L := by
  have hB := h.mem id b hid
  by_cases h0 : (ρ id).lim = some 0
  · exact ⟨0, h0, by have := hB.room 0 h0; omega⟩
  · obtain ⟨L, hL, _⟩ := (hB.rw ⟨hr, h0⟩).lim
    have := hB.room L hL
    exact ⟨L, hL, by omega⟩
theorem Rep.store {C : Ctx} {ρ : Rho} {E : Env} {M : Mem} {a : Act} {w : World} (h : Rep C ρ ⟨E, M⟩ a w) {id o : Nat} {b : Blk} (hid : M id = some b) (hr : b.rw = true)
    (ho : o < b.cells.length) {v u : Value} (hv : VR .real (dom M) ρ v u) :
    Rep C ρ ⟨E, upd M id ⟨b.cells.set o v, true, b.es⟩⟩ a (w.setCell ⟨(ρ id).blk, (ρ id).off + o, none⟩ u) := by
  obtain ⟨L, hL, hl⟩ := h.lim hid hr
  refine h.write hid hr hL (by omega) hv (fun k y hk => ?_) (by simpa using hl)
  by_cases hko : k = o
  · subst hko
    simp only [List.getElem?_set_self ho, Option.some.injEq] at hk
    exact .inl ⟨rfl, hk.symm⟩
  · simp only [List.getElem?_set_ne (Ne.symm hko)] at hk
    exact .inr ⟨hko, hk⟩
theorem Rep.push {C : Ctx} {ρ : Rho} {E : Env} {M : Mem} {a : Act} {w : World} (h : Rep C ρ ⟨E, M⟩ a w) {id L : Nat} {b : Blk} (hid : M id = some b) (hr : b.rw = true)
    (hL : (ρ id).lim = some L) (ho : b.cells.length < L) {v u : Value} (hv : VR .real (dom M) ρ v u) :
    Rep C ρ ⟨E, upd M id ⟨b.cells ++ [v], true, b.es⟩⟩ a (w.setCell ⟨(ρ id).blk, (ρ id).off + b.cells.length, none⟩ u) := by
  refine h.write hid hr hL ho hv (fun k y hk => ?_) (by simp; omega)
  rcases Nat.lt_or_ge k b.cells.length with h1 | h1
  · rw [List.getElem?_append_left h1] at hk
    exact .inr ⟨by omega, hk⟩
  · rw [List.getElem?_append_right h1] at hk
    have : k - b.cells.length < 1 := by simpa using (List.getElem?_eq_some_iff.1 hk).1
    have h2 : k = b.cells.length := by omega
    subst h2
    simp at hk
    exact .inl ⟨rfl, hk.symm⟩
theorem Rep.kill {C : Ctx} {ρ : Rho} {E : Env} {M : Mem} {a : Act} {w : World} (h : Rep C ρ ⟨E, M⟩ a w) {id : Nat} {b : Blk} (hid : M id = some b) : Rep C ρ ⟨E, upd M id ⟨[], false, b.es⟩⟩ a w := by
  have hdom : ∀ i, dom M i → dom (upd M id ⟨[], false, b.es⟩) i := by
    rintro i ⟨b', hb'⟩
    by_cases hi : i = id
    · exact ⟨⟨[], false, b.es⟩, by simp only [upd, hi, if_true]⟩
    · exact ⟨b', by simp only [upd, hi, if_false]; exact hb'⟩
  refine ⟨h.size, h.defers, fun t y hy => ?_, fun i b' hb' => ?_, h.agree, fun i hi => hdom i (h.low i hi), fun i b' hb' hr' => ?_, h.frame, fun d hd => ⟨(h.im d hd).lt, (h.im d hd).cells, fun hc i b' hb' hr' => ?_⟩, h.imsub, h.imnew, h.gl⟩
  · obtain ⟨z, hz, hv'⟩ := h.env t y hy
    exact ⟨z, hz, hv'.mono hdom (fun _ _ => rfl) fun _ h => h⟩
  · simp only [upd] at hb'
    by_cases hi : i = id
    · rw [if_pos hi] at hb'; cases hb'
      subst hi
      have hB := h.mem i b hid
      exact ⟨fun hs => by simp [Blk.solid, Blk.own] at hs, fun k v hk => by simp at hk, (fun hr => by cases hr.1), hB.es, fun L hL => by have := hB.room L hL; simp only [List.length_nil]; omega⟩
    · rw [if_neg hi] at hb'
      have hB := h.mem i b' hb'
      refine ⟨hB.lt, fun k y hk => ?_, fun hr' => ?_, hB.es, hB.room⟩
      · obtain ⟨z, hz, hv'⟩ := hB.cells k y hk
        exact ⟨z, hz, hv'.mono hdom (fun _ _ => rfl) fun _ h => h⟩
      · have hW := hB.rw hr'
        refine ⟨hW.off, hW.soft, hW.lim, fun j bj hj hsj hne => ?_⟩
        simp only [upd] at hj
        by_cases hji : j = id
        · rw [if_pos hji] at hj; cases hj; simp [Blk.solid, Blk.own] at hsj
        · rw [if_neg hji] at hj; exact hW.lone j bj hj hsj hne
  · simp only [upd] at hb'
    by_cases hi : i = id
    · rw [if_pos hi] at hb'; cases hb'; cases hr'.1
    · rw [if_neg hi] at hb'; exact h.own i b' hb' hr'
  · simp only [upd] at hb'
    by_cases hi : i = id
    · rw [if_pos hi] at hb'; cases hb'; cases hr'.1
    · rw [if_neg hi] at hb'; exact (h.im d hd).own hc i b' hb' hr'
theorem Rep.move {C : Ctx} {ρ : Rho} {E : Env} {M : Mem} {a : Act} {w : World} (h : Rep C ρ ⟨E, M⟩ a w) {id nid : Nat} {b : Blk} (hid : M id = some b) (hn : M nid = none) :
    ∃ ρ', Rep C ρ' ⟨E, upd (upd M id ⟨[], false, b.es⟩) nid b⟩ a w ∧ ρ' nid = ρ id ∧ (∀ i, i ≠ nid → ρ' i = ρ i) ∧ ∀ d ∈ ρ.im, d ∈ ρ'.im := by
  have hne0 : id ≠ nid := fun e => by rw [e, hn] at hid; cases hid
  let ρ' : Rho := ⟨fun i => if i = nid then ρ id else ρ i, ρ.im⟩
  have hne : ∀ i, i ≠ nid → ρ' i = ρ i := fun i hi => by simp only [ρ', hi, if_false]
  have hnn : ρ' nid = ρ id := by simp only [ρ', if_true]
  have hold : ∀ i, dom M i → ρ' i = ρ i := by
    rintro i ⟨b', hb'⟩
    refine hne i fun e => ?_
    rw [e, hn] at hb'; cases hb'
  have hdom : ∀ i, dom M i → dom (upd (upd M id ⟨[], false, b.es⟩) nid b) i := by
    rintro i ⟨b', hb'⟩
    by_cases hi : i = nid
    · exact ⟨b, by simp only [upd, hi, if_true]⟩
    · by_cases hi2 : i = id
      · exact ⟨⟨[], false, b.es⟩, by simp only [upd, hi2, if_true]; rw [if_neg hne0]⟩
      · exact ⟨b', by simp only [upd, hi, hi2, if_false]; exact hb'⟩
  have hget : ∀ i b', upd (upd M id ⟨[], false, b.es⟩) nid b i = some b' → (i = nid ∧ b' = b) ∨ (i ≠ nid ∧ i = id ∧ b' = ⟨[], false, b.es⟩) ∨ (i ≠ nid ∧ i ≠ id ∧ M i = some b') := by
    intro i b' hb'
    simp only [upd] at hb'
    by_cases hi : i = nid
    · rw [if_pos hi] at hb'; exact .inl ⟨hi, (Option.some.inj hb').symm⟩
    · rw [if_neg hi] at hb'
      by_cases hi2 : i = id
      · rw [if_pos hi2] at hb'; exact .inr (.inl ⟨hi, hi2, (Option.some.inj hb').symm⟩)
      · rw [if_neg hi2] at hb'; exact .inr (.inr ⟨hi, hi2, hb'⟩)
  refine ⟨ρ', ⟨h.size, h.defers, fun t y hy => ?_, fun i b' hb' => ?_, fun i hi => ?_, fun i hi => hdom i (h.low i hi), fun i b' hb' hr' => ?_, h.frame, fun d hd => ⟨(h.im d hd).lt, fun k v hk => ?_, fun hc i b' hb' hr' => ?_⟩, h.imsub, h.imnew, h.gl⟩, hnn, hne, fun _ h => h⟩
  · obtain ⟨z, hz, hv'⟩ := h.env t y hy
    exact ⟨z, hz, hv'.mono hdom hold fun _ h => h⟩
  · rcases hget i b' hb' with ⟨rfl, rfl⟩ | ⟨h1, rfl, rfl⟩ | ⟨h1, h2, h3⟩
    · have hB := h.mem id b' hid
      refine ⟨by rw [hnn]; exact hB.lt, fun k y hk => ?_, fun hr => ?_, by rw [hnn]; exact hB.es, by rw [hnn]; exact hB.room⟩
      · obtain ⟨z, hz, hv'⟩ := hB.cells k y hk
        exact ⟨z, by rw [hnn]; exact hz, hv'.mono hdom hold fun _ h => h⟩
      · rw [hnn] at hr
        have hW := hB.rw hr
        refine ⟨by rw [hnn]; exact hW.off, by rw [hnn]; exact hW.soft, by rw [hnn]; exact hW.lim, fun j bj hj hsj hne' => ?_⟩
        rcases hget j bj hj with ⟨rfl, rfl⟩ | ⟨g1, rfl, rfl⟩ | ⟨g1, g2, g3⟩
        · exact absurd rfl hne'
        · simp [Blk.solid, Blk.own] at hsj
        · rw [hne j g1] at hsj; rw [hnn, hne j g1]; exact hW.lone j bj g3 hsj g2
    · have hB := h.mem i b hid
      exact ⟨fun hs => by simp [Blk.solid, Blk.own] at hs, fun k v hk => by simp at hk, (fun hr => by cases hr.1), by rw [hne i h1]; exact hB.es, fun L hL => by
        rw [hne i h1] at hL ⊢
        have := hB.room L hL; simp only [List.length_nil]; omega⟩
    · have hB := h.mem i b' h3
      refine ⟨by rw [hne i h1]; exact hB.lt, fun k y hk => ?_, fun hr => ?_, by rw [hne i h1]; exact hB.es, by rw [hne i h1]; exact hB.room⟩
      · obtain ⟨z, hz, hv'⟩ := hB.cells k y hk
        exact ⟨z, by rw [hne i h1]; exact hz, hv'.mono hdom hold fun _ h => h⟩
      · rw [hne i h1] at hr
        have hW := hB.rw hr
        refine ⟨by rw [hne i h1]; exact hW.off, by rw [hne i h1]; exact hW.soft, by rw [hne i h1]; exact hW.lim, fun j bj hj hsj hne' => ?_⟩
        rcases hget j bj hj with ⟨rfl, rfl⟩ | ⟨g1, rfl, rfl⟩ | ⟨g1, g2, g3⟩
        · rw [hnn] at hsj; rw [hnn, hne i h1]; exact hW.lone id bj hid hsj (fun e => h2 e.symm)
        · simp [Blk.solid, Blk.own] at hsj
        · rw [hne j g1] at hsj; rw [hne j g1, hne i h1]; exact hW.lone j bj g3 hsj hne'
  · obtain ⟨b', hb'⟩ := h.low i hi
    rw [hold i ⟨b', hb'⟩]; exact h.agree i hi
  · rcases hget i b' hb' with ⟨rfl, rfl⟩ | ⟨h1, rfl, rfl⟩ | ⟨h1, h2, h3⟩
    · rw [hnn] at hr' ⊢; exact h.own id b' hid hr'
    · cases hr'.1
    · rw [hne i h1] at hr' ⊢; exact h.own i b' h3 hr'
  · obtain ⟨u', g1, g2⟩ := (h.im d hd).cells k v hk
    exact ⟨u', g1, g2.closed fun _ h => h⟩
  · rcases hget i b' hb' with ⟨rfl, rfl⟩ | ⟨h1, rfl, rfl⟩ | ⟨h1, h2, h3⟩
    · rw [hnn] at hr' ⊢; exact (h.im d hd).own hc id b' hid hr'
    · cases hr'.1
    · rw [hne i h1] at hr' ⊢; exact (h.im d hd).own hc i b' h3 hr'
structure Wk (m : Nat) (fm : List (Nat × Nat)) (σ τ : ASt) : Prop where
  env : ∀ t v, τ.env t = some v → ∃ v', σ.env t = some v' ∧ VR .arg (dom τ.mem) ⟨fun k => ⟨(fm.lookup k).getD k, 0, none, 1⟩, []⟩ v v'
  mem : ∀ i b, τ.mem i = some b → ∃ b', σ.mem ((fm.lookup i).getD i) = some b' ∧
    (∀ (c : Nat) (x : Value), b.cells[c]? = some x → ∃ y, b'.cells[c]? = some y ∧ VR .arg (dom τ.mem) ⟨fun k => ⟨(fm.lookup k).getD k, 0, none, 1⟩, []⟩ x y) ∧ (b.rw = true → b'.rw = true) ∧ b'.es = b.es ∧ b.cells.length ≤ b'.cells.length
  inj : ∀ i j b b', τ.mem i = some b → τ.mem j = some b' → (fm.lookup i).getD i = (fm.lookup j).getD j → i = j
  low : ∀ i, i < m → (∃ b, τ.mem i = some b) ∧ (fm.lookup i).getD i = i
theorem Rep.weaken {C : Ctx} {ρ : Rho} {σ τ : ASt} {a : Act} {w : World} (h : Rep C ρ σ a w) {m : Nat} (hm : C.m = m) {fm : List (Nat × Nat)} (hw : Wk m fm σ τ) : ∃ ρ', Rep C ρ' τ a w := by
  let f : Rho := ⟨fun k => ⟨(fm.lookup k).getD k, 0, none, 1⟩, []⟩
  refine ⟨comp ρ f, h.size, h.defers, fun t v hv => ?_, fun i b hb => ?_, fun i hi => ?_, fun i hi => (hw.low i (by omega)).1, fun i b hb hr => ?_, h.frame, fun d hd => ⟨(h.im d hd).lt, fun k v hk => ?_, fun hc i b hb hr => ?_⟩, h.imsub, h.imnew, h.gl⟩
  · obtain ⟨v', hv', hr⟩ := hw.env t v hv
    obtain ⟨u, hu, hx⟩ := h.env t v' hv'
    exact ⟨u, hu, VR.comp (by simp) hr hx⟩
  · obtain ⟨b', hb', hc, hrw, hes, hrm⟩ := hw.mem i b hb
    have hB := h.mem _ b' hb'
    refine ⟨fun hs => hB.lt (hs.imp (fun h => ⟨hrw h.1, h.2⟩) fun h e => h (List.length_eq_zero_iff.1 (by rw [e] at hrm; simpa using hrm))), fun k x hk => ?_, fun hr => ?_, hB.es.trans hes, fun L hL => by
      have := hB.room L hL
      simp only [comp, f, Nat.add_zero]
      omega⟩
    · obtain ⟨y, hy, hxy⟩ := hc k x hk
      obtain ⟨u, hu, hx⟩ := hB.cells k y hy
      exact ⟨u, by simp only [comp, f, Nat.add_zero]; exact hu, VR.comp (by simp) hxy hx⟩
    · have hW := hB.rw ⟨hrw hr.1, hr.2⟩
      refine ⟨by simp only [comp, f, Nat.add_zero]; exact hW.off, hW.soft, hW.lim, fun j bj hj hsj hne => ?_⟩
      obtain ⟨bj', hbj', _, hrwj, _, hrmj⟩ := hw.mem j bj hj
      exact hW.lone _ bj' hbj' (hsj.imp (fun h => ⟨hrwj h.1, h.2⟩) fun h e => h (List.length_eq_zero_iff.1 (by rw [e] at hrmj; simpa using hrmj))) fun e => hne (hw.inj j i bj b hj hb e)
  · have : (fm.lookup i).getD i = i := (hw.low i (by omega)).2
    simp only [comp, f, this, Nat.add_zero]
    exact h.agree i hi
  · obtain ⟨b', hb', _, hrw, _⟩ := hw.mem i b hb
    exact h.own _ b' hb' ⟨hrw hr.1, hr.2⟩
  · obtain ⟨u', g1, g2⟩ := (h.im d hd).cells k v hk
    exact ⟨u', g1, g2.closed fun _ h => h⟩
  · obtain ⟨b', hb', _, hrw, _⟩ := hw.mem i b hb
    exact (h.im d hd).own hc _ b' hb' ⟨hrw hr.1, hr.2⟩
theorem AW.weaken {P : Program} {n m : Nat} {c : Code} {σ τ : ASt} {Q : Exit → ASt → Prop} {fm : List (Nat × Nat)} (hw : Wk m fm σ τ) (h : AW P n m c τ Q) : AW P n m c σ Q :=
  fun C hn hm _ a w hR => let ⟨ρ', hR'⟩ := hR.weaken hm hw; h C hn hm ρ' a w hR'
theorem AW.loopw {P : Program} {n m : Nat} {c : Code} {σ : ASt} {Q : Exit → ASt → Prop} (I : Nat → ASt → Prop) {k : Nat} {fm : List (Nat × Nat)} {τ : ASt} (hw : Wk m fm σ τ) (h0 : I k τ)
    (round : ∀ k σ, I k σ → AW P n m c σ (thenA (fun σ' => ∃ k' fm' τ', k' < k ∧ Wk m fm' σ' τ' ∧ I k' τ') Q)) : AW P n m (.loop c) σ Q := by
  refine AW.weaken hw ?_
  intro C hn hm ρ a w hR b kk cs
  have key : ∀ N k σ ρ a w, k < N → I k σ → Rep C ρ σ a w →
      ∃ e a' w', RQ C Q e a' w' ∧ Arrives P (lone (b.at a (.code c :: .inLoop c :: kk)) cs w) b kk cs e a' w' := by
    intro N
    induction N with
    | zero => intro k σ ρ a w h; omega
    | succ N ih =>
      intro k σ ρ a w hk hI hR
      obtain ⟨e, a₁, w₁, ⟨ρ1, σ1, hR1, hq⟩, harr⟩ := round k σ hI C hn hm ρ a w hR b (.inLoop c :: kk) cs
      cases e with
      | normal =>
        obtain ⟨k1, fm1, τ1, hlt, hwk, hI1⟩ := hq
        obtain ⟨ρ2, hR2⟩ := hR1.weaken hm hwk
        obtain ⟨e₂, a₂, w₂, hq₂, harr₂⟩ := ih k1 τ1 ρ2 a₁ w₁ (by omega) hI1 hR2
        exact ⟨e₂, a₂, w₂, hq₂, .of_steps (Steps.trans harr (.one step_inLoop)) harr₂⟩
      | exit id => exact ⟨_, a₁, w₁, ⟨ρ1, σ1, hR1, hq⟩, .pass (x := .inLoop c) rfl (fun _ _ => .inl (by simp)) harr⟩
      | goto l => exact ⟨_, a₁, w₁, ⟨ρ1, σ1, hR1, hq⟩, .pass (x := .inLoop c) rfl (fun _ _ => .inl (by simp)) harr⟩
      | ret => exact ⟨_, a₁, w₁, ⟨ρ1, σ1, hR1, hq⟩, .pass (x := .inLoop c) rfl (fun _ _ => .inl (by simp)) harr⟩
      | panic ch => exact ⟨_, a₁, w₁, ⟨ρ1, σ1, hR1, hq⟩, .pass (x := .inLoop c) rfl (fun _ _ => .inl (by simp)) harr⟩
      | outgrown => exact ⟨_, a₁, w₁, ⟨ρ1, σ1, hR1, hq⟩, .pass (x := .inLoop c) rfl (fun _ _ => .inl (by simp)) harr⟩
  obtain ⟨e, a', w', hq, harr⟩ := key (k + 1) k τ ρ a w (by omega) h0 hR
  exact ⟨e, a', w', hq, .of_steps (.one step_loop) harr⟩
end Go.Proofs.YtlfadlfjjkppfaaGreatDoor.Sim
namespace Go.Proofs.YtlfadlfjjkppfaaGreatDoor.Sim
open Go
def PureOp (P : Program) (o : Op) (E : Env) (v : Value) : Prop :=
  ∀ (D : Nat → Prop) (ρ : Rho) (e : Operand → Value), (∀ x ∈ o.operands, ∀ v', aev E x = some v' → VR .real D ρ v' (e x)) →
    ∃ u, VR .real D ρ v u ∧ ∀ (d : Option Tmp) (ty : TypeId) (ps : String) (af : Array Edge) (g : Option (Nat × Bool)) (w : World), (execOp e ⟨d, o, ty, ps, af, g⟩).run P w = .ok (.value u) w
theorem PureOp.step {P : Program} {o : Op} {E : Env} {M : Mem} {v : Value} (h : PureOp P o E v) {d : Option Tmp} {ty : TypeId} {ps : String} {af : Array Edge} {g : Option (Nat × Bool)} :
    FStep P ⟨d, o, ty, ps, af, g⟩ E M v ⟨[], []⟩ := by
  intro E' M' h1 _ _ C ρ a w hR
  obtain ⟨u, hu, hrun⟩ := h (dom M') ρ a.eval (fun x hx v' hv => hR.eval (by rw [h1 x hx]; exact hv))
  unfold StepTo Oper.wp
  rw [hrun d ty ps af g w]
  exact ⟨u, rfl, ρ, hR, hu⟩
def dstB (n : Nat) : Option Tmp → Bool
  | some d => Nat.blt d n
  | none => true
theorem dstB_spec {n : Nat} {d : Option Tmp} (h : dstB n d = true) : ∀ k, d = some k → k < n := by
  rintro k rfl
  simpa [dstB] using h
section
variable {P : Program} {ops : Array Oper} {n i : Nat} {os : List Oper} {E : Env} {M : Mem} {D : List Eff → Prop} {K : ASt → Prop}
  {d : Option Tmp} {o : Op} {ty : TypeId} {ps : String} {af : Array Edge} {g : Option (Nat × Bool)}
theorem AWo.step {v : Value} {e : Eff} (hs : FStep P ⟨d, o, ty, ps, af, g⟩ E M v e) (hw : wantA ops E ⟨d, o, ty, ps, af, g⟩ = some true) (hd : dstB n d = true)
    (hn : ∀ p ∈ e.new, p.1 ∉ e.fp → M p.1 = none) (hr : AWo P ops n (i + 1) os ⟨putE E d v, upds M e.new⟩ (fun es => D (e :: es)) K) :
    AWo P ops n i (⟨d, o, ty, ps, af, g⟩ :: os) ⟨E, M⟩ D K :=
  AWo.cons v e ⟨dstB_spec hd, .inl ⟨hw, hs, hn⟩⟩ hr
theorem AWo.pure {d : Tmp} {v : Value} (hs : PureOp P o E v) (hw : wantA ops E ⟨some d, o, ty, ps, af, g⟩ = some true) (hd : Nat.blt d n = true)
    (hr : AWo P ops n (i + 1) os ⟨upd E d v, M⟩ (fun es => D (⟨[], []⟩ :: es)) K) : AWo P ops n i (⟨some d, o, ty, ps, af, g⟩ :: os) ⟨E, M⟩ D K :=
  AWo.step hs.step hw hd (fun p hp => by cases hp) hr
theorem AWo.skipped {d : Tmp} (hw : wantA ops E ⟨some d, o, ty, ps, af, g⟩ = some false) (hd : Nat.blt d n = true)
    (hr : AWo P ops n (i + 1) os ⟨upd E d undef, M⟩ (fun es => D (⟨[], []⟩ :: es)) K) : AWo P ops n i (⟨some d, o, ty, ps, af, g⟩ :: os) ⟨E, M⟩ D K :=
  AWo.cons undef ⟨[], []⟩ ⟨dstB_spec hd, .inr ⟨hw, rfl, rfl⟩⟩ hr
end
section
variable {P : Program} {E : Env}
theorem PureOp.move {x : Operand} {v : Value} (h : aev E x = some v) : PureOp P (.move x) E v := fun D ρ e hx =>
  ⟨e x, hx x (by simp [Op.operands]) v h, fun _ _ _ _ _ _ => rfl⟩
theorem PureOp.assign {x : Operand} {v : Value} (h : aev E x = some v) : PureOp P (.assign x) E v := fun D ρ e hx =>
  ⟨e x, hx x (by simp [Op.operands]) v h, fun _ _ _ _ _ _ => rfl⟩
theorem PureOp.pickT {c a b : Operand} {v : Value} (hc : aev E c = some (.bool true)) (h : aev E a = some v) : PureOp P (.pick c a b) E v := fun D ρ e hx => by
  have h1 := flat_inv (hx c (by simp [Op.operands]) _ hc) rfl
  exact ⟨e a, hx a (by simp [Op.operands]) v h, fun _ _ _ _ _ _ => by simp [execOp, h1, asBool, Bind.bind, Sem.bind, Pure.pure]⟩
theorem PureOp.pickF {c a b : Operand} {v : Value} (hc : aev E c = some (.bool false)) (h : aev E b = some v) : PureOp P (.pick c a b) E v := fun D ρ e hx => by
  have h1 := flat_inv (hx c (by simp [Op.operands]) _ hc) rfl
  exact ⟨e b, hx b (by simp [Op.operands]) v h, fun _ _ _ _ _ _ => by simp [execOp, h1, asBool, Bind.bind, Sem.bind, Pure.pure]⟩
theorem PureOp.extract {t : Operand} {ix : Nat} {vs : Array Value} {v : Value} (ht : aev E t = some (.tuple vs)) (h : vs[ix]? = some v) : PureOp P (.extract t ix) E v := fun D ρ e hx => by
  have h1 := hx t (by simp [Op.operands]) _ ht
  generalize hu : e t = u at h1
  cases h1 with
  | flat _ hf =>
    simp only [flatV, Array.isEmpty_iff] at hf
    subst hf; simp at h
  | tuple _ ys hs hh =>
    have hlt : ix < vs.size := get_lt h
    obtain ⟨y, hy⟩ := exists_get hlt hs
    exact ⟨y, hh ix v y h hy, fun _ _ _ _ _ _ => by simp [execOp, hu, Instr.extract, hy, Bind.bind, Sem.bind, Pure.pure]⟩
def evalBin : BinOp → IntKind → Int → Int → Option Value
  | .add, k, a, b => some (.int k (k.wrap (a + b)))
  | .sub, k, a, b => some (.int k (k.wrap (a - b)))
  | .mul, k, a, b => some (.int k (k.wrap (a * b)))
  | .and, k, a, b => some (.int k (k.wrap (BitVec.ofInt k.bits a &&& BitVec.ofInt k.bits b).toNat))
  | .or, k, a, b => some (.int k (k.wrap (BitVec.ofInt k.bits a ||| BitVec.ofInt k.bits b).toNat))
  | .xor, k, a, b => some (.int k (k.wrap (BitVec.ofInt k.bits a ^^^ BitVec.ofInt k.bits b).toNat))
  | .andNot, k, a, b => some (.int k (k.wrap (BitVec.ofInt k.bits a &&& ~~~BitVec.ofInt k.bits b).toNat))
  | .eql, _, a, b => some (.bool (a == b))
  | .neq, _, a, b => some (.bool (a != b))
  | .lss, _, a, b => some (.bool (decide (a < b)))
  | .leq, _, a, b => some (.bool (decide (a ≤ b)))
  | .gtr, _, a, b => some (.bool (decide (a > b)))
  | .geq, _, a, b => some (.bool (decide (a ≥ b)))
  | _, _, _, _ => none
theorem PureOp.bin {op : BinOp} {t t' : TypeId} {x y : Operand} {k : IntKind} {a b : Int} {v : Value} (h1 : aev E x = some (.int k a)) (h2 : aev E y = some (.int k b))
    (h : evalBin op k a b = some v) : PureOp P (.binOp op t x y t') E v := fun D ρ e hx => by
  have e1 := flat_inv (hx x (by simp [Op.operands]) _ h1) rfl
  have e2 := flat_inv (hx y (by simp [Op.operands]) _ h2) rfl
  refine ⟨v, ?_, fun _ _ _ _ _ w => ?_⟩
  · cases op <;> simp only [evalBin, Option.some.injEq, reduceCtorEq] at h <;> subst h <;> exact .flat _ rfl
  · cases op <;> simp only [evalBin, Option.some.injEq, reduceCtorEq] at h <;> subst h <;>
      simp [execOp, e1, e2, eqGuard, binOp, Op.intArith, Op.intBits, Op.intCmp, Bind.bind, Sem.bind, Pure.pure]
theorem PureOp.quo {t t' : TypeId} {x y : Operand} {k : IntKind} {a b : Int} (h1 : aev E x = some (.int k a)) (h2 : aev E y = some (.int k b)) (hb : b ≠ 0) :
    PureOp P (.binOp .quo t x y t') E (.int k (k.wrap (a.tdiv b))) := fun D ρ e hx => by
  have e1 := flat_inv (hx x (by simp [Op.operands]) _ h1) rfl
  have e2 := flat_inv (hx y (by simp [Op.operands]) _ h2) rfl
  exact ⟨_, .flat _ rfl, fun _ _ _ _ _ w => by simp [execOp, e1, e2, eqGuard, binOp, Op.intDiv, hb, Bind.bind, Sem.bind, Pure.pure]⟩
theorem PureOp.rem {t t' : TypeId} {x y : Operand} {k : IntKind} {a b : Int} (h1 : aev E x = some (.int k a)) (h2 : aev E y = some (.int k b)) (hb : b ≠ 0) :
    PureOp P (.binOp .rem t x y t') E (.int k (a.tmod b)) := fun D ρ e hx => by
  have e1 := flat_inv (hx x (by simp [Op.operands]) _ h1) rfl
  have e2 := flat_inv (hx y (by simp [Op.operands]) _ h2) rfl
  exact ⟨_, .flat _ rfl, fun _ _ _ _ _ w => by simp [execOp, e1, e2, eqGuard, binOp, Op.intDiv, hb, Bind.bind, Sem.bind, Pure.pure]⟩
theorem PureOp.shl {t t' : TypeId} {x y : Operand} {k k' : IntKind} {a b : Int} (h1 : aev E x = some (.int k a)) (h2 : aev E y = some (.int k' b)) (hb : 0 ≤ b) :
    PureOp P (.binOp .shl t x y t') E (.int k (k.wrap (a * 2 ^ (min b.toNat k.bits)))) := fun D ρ e hx => by
  have e1 := flat_inv (hx x (by simp [Op.operands]) _ h1) rfl
  have e2 := flat_inv (hx y (by simp [Op.operands]) _ h2) rfl
  have hb' : ¬ b < 0 := by omega
  exact ⟨_, .flat _ rfl, fun _ _ _ _ _ w => by simp [execOp, e1, e2, eqGuard, binOp, Op.shift, hb', Bind.bind, Sem.bind, Pure.pure]⟩
theorem PureOp.shr {t t' : TypeId} {x y : Operand} {k k' : IntKind} {a b : Int} (h1 : aev E x = some (.int k a)) (h2 : aev E y = some (.int k' b)) (hb : 0 ≤ b) :
    PureOp P (.binOp .shr t x y t') E (.int k (a.fdiv (2 ^ (min b.toNat k.bits)))) := fun D ρ e hx => by
  have e1 := flat_inv (hx x (by simp [Op.operands]) _ h1) rfl
  have e2 := flat_inv (hx y (by simp [Op.operands]) _ h2) rfl
  have hb' : ¬ b < 0 := by omega
  exact ⟨_, .flat _ rfl, fun _ _ _ _ _ w => by simp [execOp, e1, e2, eqGuard, binOp, Op.shift, hb', Bind.bind, Sem.bind, Pure.pure]⟩
theorem run_size {t : TypeId} {sz : Nat} (h : (P.info? t).map (·.size) = some sz) (w : World) : (sizeOf t).run P w = .ok sz w := by
  cases hi : P.info? t with
  | none => rw [hi] at h; cases h
  | some i =>
    rw [hi] at h
    simp only [Option.map_some, Option.some.injEq] at h
    simp [sizeOf, typeInfo, hi, h]
def aggB (P : Program) (t : TypeId) : Bool :=
  match P.underlying t with
  | some (.struct _) => true
  | some (.array _ _) => true
  | _ => false
theorem run_agg {t : TypeId} (h : (P.underlying t).isSome = true) (w : World) : (isAgg t).run P w = .ok (aggB P t) w := by
  obtain ⟨dsc, hd⟩ := Option.isSome_iff_exists.mp h
  simp only [isAgg, aggB, Sem.run_bind, run_underlying hd, Result.andThen_ok, hd]
  cases dsc <;> rfl
theorem slice_inv {D : Nat → Prop} {ρ : Rho} {i o n : Nat} {u : Value} (h : VR .real D ρ (.slice (some ⟨i, o, none⟩) n 0) u) :
    (∃ c, u = .slice (some ⟨(ρ i).blk, (ρ i).off + o, none⟩) n c ∧ n ≤ c ∧ D i ∧ ∀ L, (ρ i).lim = some L → (ρ i).off + o + c * (ρ i).es ≤ L) ∨ (n = 0 ∧ (u = .slice none 0 0 ∨ ∃ a, u = .slice (some a) 0 0)) := by
  cases h with
  | flat _ hf => simp [flatV] at hf
  | slice _ _ _ c hd h1 h2 => exact .inl ⟨c, rfl, (h2 rfl).1, hd, (h2 rfl).2⟩
  | nilS => exact .inr ⟨rfl, .inl rfl⟩
  | zeroS _ a => exact .inr ⟨rfl, .inr ⟨a, rfl⟩⟩
theorem ptr_inv {D : Nat → Prop} {ρ : Rho} {i o : Nat} {u : Value} (h : VR .real D ρ (.pointer (some ⟨i, o, none⟩)) u) :
    u = .pointer (some ⟨(ρ i).blk, (ρ i).off + o, none⟩) ∧ D i := by
  cases h with
  | flat _ hf => simp [flatV] at hf
  | ptr _ _ hd => exact ⟨rfl, hd⟩
theorem any_slice_inv {D : Nat → Prop} {ρ : Rho} {p : Option Addr} {n c : Nat} {u : Value} (h : VR .real D ρ (.slice p n c) u) : ∃ q c', u = .slice q n c' := by
  cases h with
  | flat => exact ⟨_, _, rfl⟩
  | slice => exact ⟨_, _, rfl⟩
  | nilS => exact ⟨_, _, rfl⟩
  | zeroS => exact ⟨_, _, rfl⟩
  | dead => exact ⟨_, _, rfl⟩
theorem PureOp.conv {s t : TypeId} {x : Operand} {k k' : IntKind} {a : Int} (h1 : aev E x = some (.int k a)) (hs : (P.underlying s).isSome = true) (ht : P.underlying t = some (.int k')) :
    PureOp P (.convert s t x) E (.int k' (k'.wrap a)) := fun D ρ e hx => by
  have e1 := flat_inv (hx x (by simp [Op.operands]) _ h1) rfl
  obtain ⟨ds, hds⟩ := Option.isSome_iff_exists.mp hs
  exact ⟨_, .flat _ rfl, fun _ _ _ _ _ w => by simp [execOp, e1, convert, run_underlying ht, run_underlying hds, Conv.intToInt]⟩
theorem PureOp.not {t : TypeId} {x : Operand} {b : Bool} (h1 : aev E x = some (.bool b)) : PureOp P (.unOp .not t x) E (.bool (!b)) := fun D ρ e hx => by
  have e1 := flat_inv (hx x (by simp [Op.operands]) _ h1) rfl
  exact ⟨_, .flat _ rfl, fun _ _ _ _ _ w => by simp [execOp, e1, Op.unary]⟩
theorem PureOp.neg {t : TypeId} {x : Operand} {k : IntKind} {a : Int} (h1 : aev E x = some (.int k a)) : PureOp P (.unOp .neg t x) E (.int k (k.wrap (0 - a))) := fun D ρ e hx => by
  have e1 := flat_inv (hx x (by simp [Op.operands]) _ h1) rfl
  exact ⟨_, .flat _ rfl, fun _ _ _ _ _ w => by simp [execOp, e1, Op.unary, Op.intArith]⟩
theorem PureOp.len {x : Operand} {t e : TypeId} {p : Option Addr} {n c : Nat} (h1 : aev E x = some (.slice p n c)) (ht : P.underlying t = some (.slice e)) :
    PureOp P (.call ⟨.builtin .len, #[x], #[t]⟩) E (.int .i64 n) := fun D ρ ev hx => by
  obtain ⟨q, c', e1⟩ := any_slice_inv (hx x (by simp [Op.operands, Call.operands]) _ h1)
  exact ⟨_, .flat _ rfl, fun _ _ _ _ _ w => by simp [execOp, resolve, e1, invoke, builtin, Builtin.len_, run_underlying ht, goInt]⟩
theorem PureOp.lenStr {x : Operand} {t : TypeId} {b : ByteArray} (h1 : aev E x = some (.string b)) (ht : P.underlying t = some .string) :
    PureOp P (.call ⟨.builtin .len, #[x], #[t]⟩) E (.int .i64 b.size) := fun D ρ ev hx => by
  have e1 := flat_inv (hx x (by simp [Op.operands, Call.operands]) _ h1) rfl
  exact ⟨_, .flat _ rfl, fun _ _ _ _ _ w => by simp [execOp, resolve, e1, invoke, builtin, Builtin.len_, run_underlying ht, goInt]⟩
theorem PureOp.max {x y : Operand} {ts : Array TypeId} {k : IntKind} {a b : Int} (h1 : aev E x = some (.int k a)) (h2 : aev E y = some (.int k b)) :
    PureOp P (.call ⟨.builtin .max, #[x, y], ts⟩) E (.int k (if b > a then b else a)) := fun D ρ ev hx => by
  have e1 := flat_inv (hx x (by simp [Op.operands, Call.operands]) _ h1) rfl
  have e2 := flat_inv (hx y (by simp [Op.operands, Call.operands]) _ h2) rfl
  exact ⟨_, .flat _ rfl, fun _ _ _ _ _ w => by simp [execOp, resolve, e1, e2, invoke, builtin, Builtin.max_, Builtin.max2]⟩
theorem PureOp.min {x y : Operand} {ts : Array TypeId} {k : IntKind} {a b : Int} (h1 : aev E x = some (.int k a)) (h2 : aev E y = some (.int k b)) :
    PureOp P (.call ⟨.builtin .min, #[x, y], ts⟩) E (.int k (if b < a then b else a)) := fun D ρ ev hx => by
  have e1 := flat_inv (hx x (by simp [Op.operands, Call.operands]) _ h1) rfl
  have e2 := flat_inv (hx y (by simp [Op.operands, Call.operands]) _ h2) rfl
  exact ⟨_, .flat _ rfl, fun _ _ _ _ _ w => by simp [execOp, resolve, e1, e2, invoke, builtin, Builtin.min_, Builtin.min2]⟩
theorem addr_add (b o n : Nat) : (⟨b, o, none⟩ : Addr).add n = ⟨b, o + n, none⟩ := by
  unfold Addr.add
  split
  · rename_i h; subst h; rfl
  · rfl
theorem PureOp.indexAddr {x ix : Operand} {t e : TypeId} {id o n sz : Nat} {k : IntKind} {i : Int} (h1 : aev E x = some (.slice (some ⟨id, o, none⟩) n 0)) (h2 : aev E ix = some (.int k i))
    (ht : P.underlying t = some (.slice e)) (hs : (P.info? e).map (·.size) = some sz) (hi : 0 ≤ i ∧ i < n) :
    PureOp P (.indexAddr t x ix) E (.pointer (some ⟨id, o + i.toNat * sz, none⟩)) := fun D ρ ev hx => by
  obtain ⟨c, e1, _, hd, _⟩ | ⟨hn0, _⟩ := slice_inv (hx x (by simp [Op.operands]) _ h1)
  case inr => omega
  have e2 := flat_inv (hx ix (by simp [Op.operands]) _ h2) rfl
  refine ⟨_, .ptr id (o + i.toNat * sz) hd, fun _ _ _ _ _ w => ?_⟩
  simp [execOp, e1, e2, Instr.indexAt, asIntOf, run_underlying ht, run_size hs, hi, addr_add, Nat.add_assoc]
theorem PureOp.indexAddrArr {x ix : Operand} {t e : TypeId} {id o n sz : Nat} {k : IntKind} {i : Int} (h1 : aev E x = some (.pointer (some ⟨id, o, none⟩))) (h2 : aev E ix = some (.int k i))
    (ht : P.underlying t = some (.array n e)) (hs : (P.info? e).map (·.size) = some sz) (hi : 0 ≤ i ∧ i < n) :
    PureOp P (.indexAddr t x ix) E (.pointer (some ⟨id, o + i.toNat * sz, none⟩)) := fun D ρ ev hx => by
  obtain ⟨e1, hd⟩ := ptr_inv (hx x (by simp [Op.operands]) _ h1)
  have e2 := flat_inv (hx ix (by simp [Op.operands]) _ h2) rfl
  refine ⟨_, .ptr id (o + i.toNat * sz) hd, fun _ _ _ _ _ w => ?_⟩
  simp [execOp, e1, e2, Instr.indexAt, asIntOf, Instr.sureAddr, run_underlying ht, run_size hs, hi, addr_add, Nat.add_assoc]
theorem PureOp.fieldAddr {x : Operand} {t : TypeId} {id o f sz : Nat} {fs : Array Field} {fd : Field} (h1 : aev E x = some (.pointer (some ⟨id, o, none⟩)))
    (ht : P.underlying t = some (.struct fs)) (hf : fs[f]? = some fd) (hs : (P.info? fd.type).map (·.size) = some sz) (h0 : sz ≠ 0) :
    PureOp P (.fieldAddr t x f) E (.pointer (some ⟨id, o + fd.offset, none⟩)) := fun D ρ ev hx => by
  obtain ⟨e1, hd⟩ := ptr_inv (hx x (by simp [Op.operands]) _ h1)
  refine ⟨_, .ptr id (o + fd.offset) hd, fun _ _ _ _ _ w => ?_⟩
  simp [execOp, e1, Instr.fieldAt, Instr.sureAddr, run_underlying ht, hf, fieldPlace, run_size hs, h0, addr_add, Nat.add_assoc]
theorem PureOp.nilCheck {x : Operand} {id o : Nat} (h1 : aev E x = some (.pointer (some ⟨id, o, none⟩))) : PureOp P (.nilCheck x) E (.pointer (some ⟨id, o, none⟩)) := fun D ρ ev hx => by
  obtain ⟨e1, hd⟩ := ptr_inv (hx x (by simp [Op.operands]) _ h1)
  exact ⟨_, .ptr id o hd, fun _ _ _ _ _ w => by simp [execOp, e1]⟩
theorem PureOp.makeFunc {fn : Fn} {first captured : Array Operand} {xs ys : Array Value} (hf : okFn fn = true)
    (h1 : first.map (aev E) = xs.map some) (h2 : captured.map (aev E) = ys.map some) : PureOp P (.makeFunc fn first captured) E (.func fn xs ys) := fun D ρ ev hx => by
  have hrel : ∀ (ops : Array Operand) (vs : Array Value), ops.map (aev E) = vs.map some → (∀ x ∈ ops, x ∈ first ++ captured) →
      vs.size = (ops.map ev).size ∧ ∀ (k : Nat) (x y : Value), vs[k]? = some x → (ops.map ev)[k]? = some y → VR .real D ρ x y := by
    intro ops vs h hm
    have hs : ops.size = vs.size := by simpa using congrArg Array.size h
    refine ⟨by simp [hs], fun k x y hx' hy => ?_⟩
    have hk : k < vs.size := get_lt hx'
    have e0 : (ops.map (aev E))[k]? = (vs.map some)[k]? := by rw [h]
    simp only [Array.getElem?_map, hx', Option.map_some] at e0 hy
    rw [Array.getElem?_eq_getElem (by omega)] at e0 hy
    simp only [Option.map_some, Option.some.injEq] at e0 hy
    rw [← hy]
    exact hx _ (by simpa [Op.operands] using hm _ (Array.getElem_mem (by omega))) x e0
  obtain ⟨a1, a2⟩ := hrel first xs h1 (fun x hx => by simp [hx])
  obtain ⟨b1, b2⟩ := hrel captured ys h2 (fun x hx => by simp [hx])
  exact ⟨_, .func fn xs _ ys _ hf a1 b1 a2 b2, fun _ _ _ _ _ w => by simp [execOp, Instr.makeFunc]⟩
end
end Go.Proofs.YtlfadlfjjkppfaaGreatDoor.Sim
namespace Go.Proofs.YtlfadlfjjkppfaaGreatDoor.Sim
open Go
variable {P : Program} {E : Env} {M : Mem} {d : Option Tmp} {ty : TypeId} {ps : String} {af : Array Edge} {g : Option (Nat × Bool)}
theorem cells_rel {m : Md} {D : Nat → Prop} {ρ : Rho} {v u : Value} (h : VR m D ρ v u) :
    v.cells.size = u.cells.size ∧ ∀ (k : Nat) (x y : Value), v.cells[k]? = some x → u.cells[k]? = some y → VR m D ρ x y := by
  have one : ∀ {v u : Value}, VR m D ρ v u → (#[v] : Array Value).size = (#[u] : Array Value).size ∧
      ∀ (k : Nat) (x y : Value), (#[v] : Array Value)[k]? = some x → (#[u] : Array Value)[k]? = some y → VR m D ρ x y := by
    intro v u h
    refine ⟨rfl, fun k x y hx hy => ?_⟩
    cases k with
    | zero => simp at hx hy; subst hx; subst hy; exact h
    | succ k => simp at hx
  cases h with
  | flat v hf => cases v <;> first | exact one (.flat _ hf) | simp [flatV] at hf
  | ptr i o hd => exact one (.ptr i o hd)
  | slice i o n c hd h1 h2 => exact one (.slice i o n c hd h1 h2)
  | nilS p h => exact one (.nilS p h)
  | zeroS p a hm => exact one (.zeroS p a hm)
  | dead p q c h1 => exact one (.dead p q c h1)
  | agg xs ys hs hh => exact ⟨hs, hh⟩
  | tuple xs ys hs hh => exact one (.tuple xs ys hs hh)
  | func fn xs ys xs' ys' hf hs hs' hh hh' => exact one (.func fn xs ys xs' ys' hf hs hs' hh hh')
  | iface t x y ht hh => exact one (.iface t x y ht hh)
  | deepA n es cs hm => exact one (.deepA n es cs hm)
  | deepR n es c o cs d hm hd hn hcs ho hc => exact one (.deepR n es c o cs d hm hd hn hcs ho hc)
  | deepN es hm => exact one (.deepN es hm)
  | deepE es a c hm ha => exact one (.deepE es a c hm ha)
  | tight i o n hd hm => exact one (.tight i o n hd hm)
  | ptrA cs hm => exact one (.ptrA cs hm)
  | ptrR o cs d hm hd hcs ho => exact one (.ptrR o cs d hm hd hcs ho)
theorem one_rel {m : Md} {D : Nat → Prop} {ρ : Rho} {v u : Value} (h : VR m D ρ v u) (hv : v.oneCell' = true) : u.oneCell' = true := by
  cases h with
  | flat => exact hv
  | ptr => rfl
  | slice => rfl
  | nilS => rfl
  | zeroS => rfl
  | dead => rfl
  | agg => simp [Value.oneCell'] at hv
  | tuple => simp [Value.oneCell'] at hv
  | func => rfl
  | iface => rfl
  | deepA => rfl
  | deepR => rfl
  | deepN => rfl
  | deepE => rfl
  | tight => rfl
  | ptrA => rfl
  | ptrR => rfl
theorem one_cells {v : Value} (hv : v.oneCell' = true) : v.cells = #[v] := by
  cases v <;> first | rfl | simp [Value.oneCell'] at hv
theorem FStep.load {t : TypeId} {a : Operand} {id o : Nat} {b : Blk} {v : Value} (ha : aev E a = some (.pointer (some ⟨id, o, none⟩))) (hb : M id = some b)
    (hu : (P.underlying t).isSome = true) (hg : aggB P t = false) (hv : b.cells[o]? = some v) : FStep P ⟨d, .load t a, ty, ps, af, g⟩ E M v ⟨[id], []⟩ := by
  intro E' M' h1 h2 _ C ρ ac w hR
  have hb' : M' id = some b := by rw [h2 id (by simp)]; exact hb
  obtain ⟨e1, _⟩ := ptr_inv (hR.eval (by rw [h1 a (by simp [Op.operands])]; exact ha))
  obtain ⟨u, hu', hv'⟩ := (hR.mem id b hb').cells o v hv
  unfold StepTo Oper.wp
  have : (execOp ac.eval ⟨d, .load t a, ty, ps, af, g⟩).run P w = .ok (.value u) w := by
    simp [execOp, e1, Instr.loadAt, Instr.sureAddr, loadVar, run_agg hu, hg, hu']
  rw [this]
  exact ⟨u, rfl, ρ, hR, hv'⟩
theorem pick_list {w : World} {D : Nat → Prop} {ρ : Rho} {i o : Nat} {b : Blk} (hc : ∀ (k : Nat) (v : Value), b.cells[k]? = some v → ∃ u, w.cell? ⟨(ρ i).blk, (ρ i).off + k, none⟩ = some u ∧ VR .real D ρ v u) :
    ∀ (sz : Nat), o + sz ≤ b.cells.length → ∃ us : List Value, us.length = sz ∧ (∀ (j : Nat) (u : Value), us[j]? = some u → w.cell? ⟨(ρ i).blk, (ρ i).off + o + j, none⟩ = some u) ∧
      ∀ (j : Nat) (v u : Value), ((b.cells.drop o).take sz)[j]? = some v → us[j]? = some u → VR .real D ρ v u := by
  intro sz
  induction sz with
  | zero => intro _; exact ⟨[], rfl, fun j u h => by simp at h, fun j v u h => by simp at h⟩
  | succ sz ih =>
    intro h
    obtain ⟨us, hl, h1, h2⟩ := ih (by omega)
    have hlt : o + sz < b.cells.length := by omega
    obtain ⟨u, hu, hv⟩ := hc (o + sz) _ (List.getElem?_eq_getElem hlt)
    refine ⟨us ++ [u], by simp [hl], fun j x hx => ?_, fun j v x hv' hx => ?_⟩
    · rcases Nat.lt_or_ge j us.length with hj | hj
      · rw [List.getElem?_append_left hj] at hx; exact h1 j x hx
      · rw [List.getElem?_append_right hj] at hx
        have : j - us.length = 0 := by
          rcases Nat.eq_zero_or_pos (j - us.length) with h0 | h0
          · exact h0
          · rw [List.getElem?_eq_none (by simp; omega)] at hx; cases hx
        rw [this] at hx
        simp only [List.getElem?_cons_zero, Option.some.injEq] at hx
        subst hx
        have : j = sz := by omega
        rw [this, Nat.add_assoc]; exact hu
    · rcases Nat.lt_or_ge j us.length with hj | hj
      · rw [List.getElem?_append_left hj] at hx
        refine h2 j v x ?_ hx
        rw [List.getElem?_take] at hv' ⊢
        rw [if_pos (by omega)] at hv' ⊢
        exact hv'
      · rw [List.getElem?_append_right hj] at hx
        have h0 : j - us.length = 0 := by
          rcases Nat.eq_zero_or_pos (j - us.length) with h0 | h0
          · exact h0
          · rw [List.getElem?_eq_none (by simp; omega)] at hx; cases hx
        rw [h0] at hx
        simp only [List.getElem?_cons_zero, Option.some.injEq] at hx
        subst hx
        have hj' : j = sz := by omega
        subst hj'
        rw [List.getElem?_take, if_pos (by omega), List.getElem?_drop] at hv'
        rw [List.getElem?_eq_getElem hlt] at hv'
        cases hv'
        exact hv
theorem FStep.loadAgg {t : TypeId} {a : Operand} {id o sz : Nat} {b : Blk} (ha : aev E a = some (.pointer (some ⟨id, o, none⟩))) (hb : M id = some b)
    (hu : (P.underlying t).isSome = true) (hg : aggB P t = true) (hs : (P.info? t).map (·.size) = some sz) (hl : o + sz ≤ b.cells.length) :
    FStep P ⟨d, .load t a, ty, ps, af, g⟩ E M (.agg ((b.cells.drop o).take sz).toArray) ⟨[id], []⟩ := by
  intro E' M' h1 h2 _ C ρ ac w hR
  have hb' : M' id = some b := by rw [h2 id (by simp)]; exact hb
  obtain ⟨e1, _⟩ := ptr_inv (hR.eval (by rw [h1 a (by simp [Op.operands])]; exact ha))
  obtain ⟨us, hul, hus, hrel⟩ := pick_list (o := o) (hR.mem id b hb').cells sz hl
  unfold StepTo Oper.wp
  have hrun : (loadCells ⟨(ρ id).blk, (ρ id).off + o, none⟩ sz).run P w = .ok us.toArray w := by
    rw [← hul]
    exact run_loadCells_list w _ us fun j v hv => by rw [addr_add]; exact hus j v hv
  have : (execOp ac.eval ⟨d, .load t a, ty, ps, af, g⟩).run P w = .ok (.value (.agg us.toArray)) w := by
    simp [execOp, e1, Instr.loadAt, Instr.sureAddr, loadVar, run_agg hu, hg, run_size hs, hrun]
  rw [this]
  refine ⟨_, rfl, ρ, hR, .agg _ _ ?_ fun k x y hx hy => hrel k x y (by simpa using hx) (by simpa using hy)⟩
  simp [hul]; omega
def setL (cells : List Value) (o : Nat) : List Value → List Value
  | [] => cells
  | v :: vs => setL (cells.set o v) (o + 1) vs
theorem upd_upd {α : Type} {f : Nat → Option α} {k : Nat} {a b : α} : upd (upd f k a) k b = upd f k b := by
  funext t; simp only [upd]; split <;> rfl
theorem upd_self {α : Type} {f : Nat → Option α} {k : Nat} {a : α} (h : f k = some a) : upd f k a = f := by
  funext t; simp only [upd]; split
  · rename_i h1; rw [h1, h]
  · rfl
theorem dom_upd {id : Nat} {b : Blk} : dom (upd M id b) id := ⟨b, by simp only [upd, if_true]⟩
theorem storeCells_sound {C : Ctx} {ρ : Rho} {E' : Env} {ac : Act} {id o : Nat} : ∀ (vs us : List Value) {M' : Mem} {w : World} {b : Blk} (i : Nat), Rep C ρ ⟨E', M'⟩ ac w → M' id = some b → b.rw = true →
    o + i + vs.length ≤ b.cells.length → vs.length = us.length → (∀ (k : Nat) (v u : Value), vs[k]? = some v → us[k]? = some u → VR .real (dom M') ρ v u) → (∀ v ∈ vs, v.oneCell' = true) →
    ∃ w', (storeCells ⟨(ρ id).blk, (ρ id).off + o, none⟩ us i).run P w = .ok () w' ∧ Rep C ρ ⟨E', upd M' id ⟨setL b.cells (o + i) vs, true, b.es⟩⟩ ac w'
  | [], us, M', w, b, i, hR, hb, hr, _, hl, _, _ => by
    obtain rfl : us = [] := by simpa using hl.symm
    refine ⟨w, by simp [storeCells], ?_⟩
    have : (⟨setL b.cells (o + i) [], true, b.es⟩ : Blk) = b := by cases b; simp only [setL] at *; subst hr; rfl
    rw [this, upd_self hb]
    exact hR
  | v :: vs, us, M', w, b, i, hR, hb, hr, ho, hl, hrel, hone => by
    obtain ⟨u, us, rfl⟩ : ∃ u r, us = u :: r := by cases us with
      | nil => simp at hl
      | cons u r => exact ⟨u, r, rfl⟩
    simp only [List.length_cons, Nat.add_right_cancel_iff] at hl ho
    have hvu := hrel 0 v u rfl rfl
    have hlt : o + i < b.cells.length := by omega
    obtain ⟨x, hx, _⟩ := (hR.mem id b hb).cells (o + i) _ (List.getElem?_eq_getElem hlt)
    have hsoft := ((hR.mem id b hb).rw ((hR.mem id b hb).owned hr (by omega))).soft ((ρ id).off + (o + i))
    have hR1 := hR.store hb hr hlt hvu
    have hv1 := one_rel hvu (hone v (List.mem_cons_self ..))
    have hdm : ∀ j, dom M' j → dom (upd M' id ⟨b.cells.set (o + i) v, true, b.es⟩) j := by
      rintro j ⟨bj, hj⟩
      by_cases hji : j = id
      · rw [hji]; exact dom_upd
      · exact ⟨bj, by simp only [upd, hji, if_false]; exact hj⟩
    obtain ⟨w', hrun, hR'⟩ := storeCells_sound (id := id) (o := o) vs us (i + 1) hR1 (b := ⟨b.cells.set (o + i) v, true, b.es⟩) (by simp only [upd, if_true]) rfl
      (by show o + (i + 1) + vs.length ≤ (b.cells.set (o + i) v).length; rw [List.length_set]; omega) hl
      (fun k v' u' h1 h2 => (hrel (k + 1) v' u' (by simpa using h1) (by simpa using h2)).mono hdm (fun _ _ => rfl) fun _ h => h)
      (fun v' h' => hone v' (List.mem_cons_of_mem _ h'))
    refine ⟨w', ?_, ?_⟩
    · rw [storeCells, Sem.run_bind, run_store P w _ u .plain hv1, addr_add, Nat.add_assoc, hx]
      simp only [hsoft, Bool.false_eq_true, if_false, Result.andThen_ok]
      exact hrun
    · rw [upd_upd] at hR'
      simp only [setL]
      rw [Nat.add_assoc]
      exact hR'
theorem FStep.store {t : TypeId} {a x : Operand} {id o : Nat} {b : Blk} {v : Value} (ha : aev E a = some (.pointer (some ⟨id, o, none⟩))) (hx : aev E x = some v) (hb : M id = some b)
    (hr : b.rw = true) (hs : (P.info? t).map (·.size) = some v.cells.size) (ho : o + v.cells.size ≤ b.cells.length) (hc : v.cells.toList.all (·.oneCell') = true) :
    FStep P ⟨none, .store t a x, ty, ps, af, g⟩ E M undef ⟨[id], [(id, ⟨setL b.cells o v.cells.toList, true, b.es⟩)]⟩ := by
  intro E' M' h1 h2 _ C ρ ac w hR
  have hb' : M' id = some b := by rw [h2 id (by simp)]; exact hb
  obtain ⟨e1, _⟩ := ptr_inv (hR.eval (by rw [h1 a (by simp [Op.operands])]; exact ha))
  have hv := hR.eval (x := x) (by rw [h1 x (by simp [Op.operands])]; exact hx)
  obtain ⟨hsz, hrel⟩ := cells_rel hv
  obtain ⟨w', hrun, hR'⟩ := storeCells_sound (P := P) (o := o) v.cells.toList (ac.eval x).cells.toList 0 hR hb' hr (by simpa using ho) (by simpa using hsz)
    (fun k y z hy hz => hrel k y z (by simpa using hy) (by simpa using hz)) (fun y hy => by
      rw [List.all_eq_true] at hc
      exact hc y hy)
  unfold StepTo Oper.wp
  have : (execOp ac.eval ⟨none, .store t a x, ty, ps, af, g⟩).run P w = .ok .skip w' := by
    simp only [execOp, e1, Instr.storeAt, Instr.sureAddr, storeVar, Sem.run_bind, Sem.run_pure, Result.andThen_ok, run_size hs]
    rw [if_neg (by rw [hsz]; simp)]
    simp only [Result.andThen_ok, hrun]
  rw [this]
  refine ⟨undef, rfl, ρ, ?_, .flat _ rfl⟩
  simpa [upds] using hR'
theorem info_of {t : TypeId} {sz : Nat} (h : (P.info? t).map (·.size) = some sz) : ∃ i, P.info? t = some i ∧ i.size = sz := by
  cases hi : P.info? t with
  | none => rw [hi] at h; cases h
  | some i => rw [hi] at h; exact ⟨i, rfl, by simpa using h⟩
theorem run_zero {t : TypeId} {z : Value} (h : (P.info? t).map (·.zero) = some (some z)) (w : World) : (zeroValue t).run P w = .ok z w := by
  cases hi : P.info? t with
  | none => rw [hi] at h; cases h
  | some i =>
    rw [hi] at h
    simp only [Option.map_some, Option.some.injEq] at h
    simp [zeroValue, typeInfo, hi, h]
theorem FStep.alloc {t : TypeId} {z : Value} (id es : Nat) (hz : (P.info? t).map (·.zero) = some (some z)) (hf : z.cells.toList.all flatV = true) :
    FStep P ⟨d, .alloc t, ty, ps, af, g⟩ E M (.pointer (some ⟨id, 0, none⟩)) ⟨[], [(id, ⟨z.cells.toList, true, es⟩)]⟩ := by
  intro E' M' _ _ h3 C ρ ac w hR
  have hid : M' id = none := h3 _ (List.mem_singleton_self _) (by simp)
  obtain ⟨ρ', hR', hρ, _⟩ := hR.alloc hid (cells := z.cells.toList) (rcells := z.cells) (elem := t) es (by simp) (fun k v u h1 h2 => by
    rw [Array.getElem?_toList, h2] at h1
    cases h1
    rw [List.all_eq_true] at hf
    exact .flat _ (hf _ (Array.mem_toList_iff.2 (Array.mem_of_getElem? h2))))
  unfold StepTo Oper.wp
  have : (execOp ac.eval ⟨d, .alloc t, ty, ps, af, g⟩).run P w = .ok (.value (.pointer (some ⟨w.heap.size, 0, none⟩))) (pushW w (.cells z.cells t)) := by
    simp [execOp, Instr.alloc, run_zero hz, newVar, newRow, pushW]
  rw [this]
  refine ⟨_, rfl, ρ', hR', ?_⟩
  have := VR.ptr (m := .real) (ρ := ρ') (D := dom (upds M' [(id, ⟨z.cells.toList, true, es⟩)])) id 0 dom_upd
  rw [hρ] at this
  exact this
theorem FStep.box {t : TypeId} {x : Operand} {v : Value} (id es : Nat) (hx : aev E x = some v) :
    FStep P ⟨d, .box t x, ty, ps, af, g⟩ E M (.pointer (some ⟨id, 0, none⟩)) ⟨[], [(id, ⟨v.cells.toList, true, es⟩)]⟩ := by
  intro E' M' h1 _ h3 C ρ ac w hR
  have hid : M' id = none := h3 _ (List.mem_singleton_self _) (by simp)
  obtain ⟨hsz, hrel⟩ := cells_rel (hR.eval (x := x) (by rw [h1 x (by simp [Op.operands])]; exact hx))
  obtain ⟨ρ', hR', hρ, _⟩ := hR.alloc hid (cells := v.cells.toList) (rcells := (ac.eval x).cells) (elem := t) es (by simpa using Nat.le_of_eq hsz) (fun k y u h1 h2 => hrel k y u (by simpa using h1) h2)
  unfold StepTo Oper.wp
  have : (execOp ac.eval ⟨d, .box t x, ty, ps, af, g⟩).run P w = .ok (.value (.pointer (some ⟨w.heap.size, 0, none⟩))) (pushW w (.cells (ac.eval x).cells t)) := by
    simp [execOp, Instr.box, newVar, newRow, pushW]
  rw [this]
  refine ⟨_, rfl, ρ', hR', ?_⟩
  have := VR.ptr (m := .real) (ρ := ρ') (D := dom (upds M' [(id, ⟨v.cells.toList, true, es⟩)])) id 0 dom_upd
  rw [hρ] at this
  exact this
theorem mod_replicate (sz n : Nat) (c : Value) (h : n = 0 ∨ sz ≠ 0) : (Array.range (n * sz)).map (fun i => (Array.replicate sz c)[i % (Array.replicate sz c).size]!) = Array.replicate (n * sz) c := by
  apply Array.ext
  · simp
  · intro i h1 h2
    simp only [Array.size_map, Array.size_range] at h1
    have hs : sz ≠ 0 := by
      rcases h with h | h
      · subst h; simp at h1
      · exact h
    have : i % sz < sz := Nat.mod_lt _ (Nat.pos_of_ne_zero hs)
    simp [this]
theorem FStep.makeSlice {t e : TypeId} {x y : Operand} {n sz by' : Nat} {c z : Value} (id : Nat) (hx : aev E x = some (.int .i64 n)) (hy : aev E y = some (.int .i64 n))
    (ht : P.underlying t = some (.slice e)) (hs : (P.info? e).map (·.size) = some sz) (h0 : sz ≠ 0) (hz : (P.info? e).map (·.zero) = some (some z)) (hzc : z.cells = Array.replicate sz c) (hc : flatV c = true)
    (hby : (P.info? e).map (·.bytes) = some by') (hlen : by' * n ≤ 281474976710656) (hn : n < 9223372036854775808) :
    FStep P ⟨d, .makeSlice t x y, ty, ps, af, g⟩ E M (.slice (some ⟨id, 0, none⟩) n 0) ⟨[], [(id, ⟨List.replicate (n * sz) c, true, sz⟩)]⟩ := by
  intro E' M' h1 _ h3 C ρ ac w hR
  have hid : M' id = none := h3 _ (List.mem_singleton_self _) (by simp)
  have e1 := flat_inv (hR.eval (x := x) (by rw [h1 x (by simp [Op.operands])]; exact hx)) rfl
  have e2 := flat_inv (hR.eval (x := y) (by rw [h1 y (by simp [Op.operands])]; exact hy)) rfl
  obtain ⟨ρ', hR', hρ, _⟩ := hR.alloc hid (cells := List.replicate (n * sz) c) (rcells := Array.replicate (n * sz) c) (elem := e) sz (by simp) (fun k y u h1 h2 => by
    have a1 := (List.getElem?_eq_some_iff.1 h1).2
    have a2 := (Array.getElem?_eq_some_iff.1 h2).2
    simp at a1 a2
    rw [← a1, ← a2]
    exact .flat _ hc)
  obtain ⟨info, hi, _⟩ := info_of hs
  have hby2 : info.bytes = by' := by rw [hi] at hby; simpa using hby
  have hwrap : IntKind.i64.wrap (n : Int) = n := IntWalk.i64_in _ (by omega)
  unfold StepTo Oper.wp
  have hlen' : ¬ (281474976710656 : Int) < (info.bytes : Int) * (n : Int) := by
    rw [hby2]
    have h9 := Int.ofNat_le.mpr hlen
    rw [Int.natCast_mul] at h9
    omega
  have : (execOp ac.eval ⟨d, .makeSlice t x y, ty, ps, af, g⟩).run P w = .ok (.value (.slice (some ⟨w.heap.size, 0, none⟩) n n)) (pushW w (.cells (Array.replicate (n * sz) c) e)) := by
    have hn0 : ¬ (n : Int) < 0 := by omega
    simp only [execOp, e1, e2, Instr.makeSlice, Sem.run_bind, run_underlying ht, Result.andThen_ok, asInt, asIntOf, Sem.run_pure, typeInfo, hi, run_program, hwrap]
    simp only [hn0, decide_false, Bool.or_false, gt_iff_lt, hlen', Int.lt_irrefl, show (2 : Int) ^ 48 = 281474976710656 from rfl, if_false, Bool.false_eq_true, Sem.run_bind,
      Result.andThen_ok, run_askRoom, Int.toNat_natCast, run_size hs]
    by_cases hz0 : n * sz = 0
    · simp [hz0, newRow, pushW, show Array.range 0 = #[] from rfl]
    · have hm := mod_replicate sz n c (.inr h0)
      rw [Array.size_replicate] at hm
      simp [hz0, run_zero hz, newRow, pushW, hzc, hm]
  rw [this]
  refine ⟨_, rfl, ρ', hR', ?_⟩
  have := VR.slice (m := .real) (ρ := ρ') (D := dom (upds M' [(id, ⟨List.replicate (n * sz) c, true, sz⟩)])) id 0 n n dom_upd (by simp) (fun _ => ⟨Nat.le_refl _, fun L hL => by
    rw [hρ] at hL ⊢
    simp only [Array.size_replicate, Option.some.injEq] at hL
    simp only; omega⟩)
  rw [hρ] at this
  exact this
end Go.Proofs.YtlfadlfjjkppfaaGreatDoor.Sim
namespace Go.Proofs.YtlfadlfjjkppfaaGreatDoor.Sim
open Go
variable {P : Program} {E : Env} {M : Mem} {d : Option Tmp} {ty : TypeId} {ps : String} {af : Array Edge} {gd : Option (Nat × Bool)}
def Bodied (P : Program) (f : FuncId) : Prop := ∃ fn, P.funcs[f]? = some fn ∧ (fn.name == "runtime.NumGoroutine") = false ∧ fn.body.isNone = false
theorem run_callFunc {f : FuncId} (h : Bodied P f) (args : Array Value) (w : World) : (callFunc f args).run P w = .ok (.enter f args) w := by
  obtain ⟨fn, h1, h2, h3⟩ := h
  simp only [callFunc, Sem.run_bind, run_program, Result.andThen_ok, h1, h2, h3, Bool.false_eq_true, if_false]
  rfl
theorem map_some_get {l : List Operand} {vs : List Value} (h : l.map (aev E) = vs.map some) {k : Nat} {x : Operand} (hk : l[k]? = some x) : ∃ v, vs[k]? = some v ∧ aev E x = some v := by
  have h1 : (l.map (aev E))[k]? = (vs.map some)[k]? := by rw [h]
  rw [List.getElem?_map, List.getElem?_map, hk] at h1
  cases hv : vs[k]? with
  | none => rw [hv] at h1; simp at h1
  | some v => rw [hv] at h1; exact ⟨v, rfl, by simpa using h1⟩
theorem FStep.callv {f : FuncId} {args : List Value} {M0 : List Blk} {res : Value} {Mo : List Blk} (S : Ctr P f args M0 res Mo) (hb : Bodied P f)
    {g : List (Nat × Nat)} {nids : List Nat} {new : List (Nat × Blk)} (F : Fits M M0 Mo g nids new)
    {fop : Operand} {aops : Array Operand} {tys : Array TypeId} {xs ys : Array Value} {vals : List Value}
    (hf : aev E fop = some (.func (.func f) xs ys)) (hv : aops.toList.map (aev E) = vals.map some)
    (hl : args.length = (xs.toList ++ vals ++ ys.toList).length)
    (hav : ∀ (k : Nat) (x y : Value), args[k]? = some x → (xs.toList ++ vals ++ ys.toList)[k]? = some y → VR .arg (dom (memL M0)) (gmap g nids) x y)
    {vres : Value} (hres : VR .res (dom (memL Mo)) (gmap g nids) res vres) :
    FStep P ⟨d, .call ⟨.value fop, aops, tys⟩, ty, ps, af, gd⟩ E M vres ⟨g.map (·.1), new⟩ := by
  intro E' M' h1 h2 h3 C ρ ac w hR
  have hfr : ∀ i ∈ nids, M' i = none := by
    intro i hi
    obtain ⟨hk, hg⟩ := F.hnids i hi
    obtain ⟨p, hp, rfl⟩ := List.mem_map.1 hk
    exact h3 p hp hg
  have hfv := hR.eval (x := fop) (by rw [h1 fop (by simp [Op.operands, Call.operands])]; exact hf)
  obtain ⟨xs', ys', hfe, hxs, hxr, hys, hyr⟩ : ∃ xs' ys', ac.eval fop = .func (.func f) xs' ys' ∧ xs.size = xs'.size ∧ (∀ (k : Nat) (x y : Value), xs[k]? = some x → xs'[k]? = some y → VR .real (dom M') ρ x y) ∧
      ys.size = ys'.size ∧ (∀ (k : Nat) (x y : Value), ys[k]? = some x → ys'[k]? = some y → VR .real (dom M') ρ x y) := by
    generalize hu : ac.eval fop = u at hfv
    cases hfv with
    | flat _ hfl =>
      simp only [flatV, Bool.and_eq_true, Array.isEmpty_iff] at hfl
      obtain ⟨⟨_, e1⟩, e2⟩ := hfl
      subst e1; subst e2
      exact ⟨#[], #[], rfl, rfl, fun k x y hx => by simp at hx, rfl, fun k x y hx => by simp at hx⟩
    | func _ _ zs _ zs' _ a1 a2 a3 a4 => exact ⟨zs, zs', rfl, a1, a3, a2, a4⟩
  have hrel : ∀ (k : Nat) (y u : Value), (xs.toList ++ vals ++ ys.toList)[k]? = some y → (xs'.toList ++ (aops.map ac.eval).toList ++ ys'.toList)[k]? = some u → VR .real (dom M') ρ y u := by
    have hvl : vals.length = aops.size := by simpa using (congrArg List.length hv).symm
    intro k y u hy hu
    rcases Nat.lt_or_ge k xs.size with hk | hk
    · rw [List.append_assoc, List.getElem?_append_left (by simpa using hk)] at hy
      rw [List.append_assoc, List.getElem?_append_left (by simpa [← hxs] using hk)] at hu
      exact hxr k y u (by simpa using hy) (by simpa using hu)
    · rw [List.append_assoc, List.getElem?_append_right (by simpa using hk)] at hy
      rw [List.append_assoc, List.getElem?_append_right (by simpa [← hxs] using hk)] at hu
      simp only [Array.length_toList, ← hxs] at hy hu
      rcases Nat.lt_or_ge (k - xs.size) vals.length with hk2 | hk2
      · rw [List.getElem?_append_left hk2] at hy
        rw [List.getElem?_append_left (by simpa [← hvl] using hk2)] at hu
        have hlt : k - xs.size < aops.size := by omega
        obtain ⟨v, hv1, hv2⟩ := map_some_get hv (k := k - xs.size) (x := aops[k - xs.size]) (by simp [hlt])
        rw [hy] at hv1; cases hv1
        have hu' : u = ac.eval aops[k - xs.size] := by
          simp only [Array.toList_map, List.getElem?_map] at hu
          rw [Array.getElem?_toList, Array.getElem?_eq_getElem hlt] at hu
          simpa using hu.symm
        rw [hu']
        refine hR.eval ?_
        show aev E' aops[k - xs.size] = some y
        rw [h1 aops[k - xs.size] (by simp [Op.operands, Call.operands])]
        exact hv2
      · rw [List.getElem?_append_right hk2] at hy
        rw [List.getElem?_append_right (by simpa [← hvl] using hk2)] at hu
        simp only [Array.toList_map, List.length_map, Array.length_toList, ← hvl] at hu
        exact hyr _ y u (by simpa using hy) (by simpa using hu)
  have hlen : (xs.toList ++ vals ++ ys.toList).length = (xs'.toList ++ (aops.map ac.eval).toList ++ ys'.toList).length := by
    have hvl : vals.length = aops.size := by simpa using (congrArg List.length hv).symm
    simp [hxs, hys, hvl]
  have hcall := call_sound S F h2 hfr hR hl hlen hav hrel hres
  unfold StepTo Oper.wp
  have : (execOp ac.eval ⟨d, .call ⟨.value fop, aops, tys⟩, ty, ps, af, gd⟩).run P w = .ok (.enter f (xs'.toList ++ (aops.map ac.eval).toList ++ ys'.toList).toArray) w := by
    have e0 : (xs'.toList ++ (aops.map ac.eval).toList ++ ys'.toList).toArray = xs' ++ aops.map ac.eval ++ ys' := by
      apply Array.ext'; simp
    rw [e0]
    simp only [execOp, resolve, hfe, Deferred.ofValue, Sem.run_bind, Sem.run_pure, Result.andThen_ok, invoke, run_callFunc hb]
  rw [this]
  refine Calls.mono hcall ?_
  rintro e w' ⟨u, ρ', rfl, hR', hv'⟩
  exact ⟨u, rfl, ρ', hR', hv'⟩
theorem PureOp.extern {f : FuncId} {aops : Array Operand} {tys : Array TypeId} {vals : List Value} {v : Value} {fop : Operand} (hf : aev E fop = some (.func (.func f) #[] #[]))
    (hv : aops.toList.map (aev E) = vals.map some) (hfl : vals.all flatV = true) (hr : flatV v = true ∨ pureV v = true)
    (hrun : ∀ w, (callFunc f vals.toArray).run P w = .ok (.value v) w) : PureOp P (.call ⟨.value fop, aops, tys⟩) E v := by
  intro D ρ e hx
  have e0 : e fop = .func (.func f) #[] #[] := flat_inv (hx fop (by simp [Op.operands, Call.operands]) _ hf) rfl
  have e1 : aops.map e = vals.toArray := by
    apply Array.ext'
    simp only [Array.toList_map]
    apply List.ext_getElem?
    intro k
    rw [List.getElem?_map]
    rcases Nat.lt_or_ge k aops.size with hk | hk
    · obtain ⟨y, hy1, hy2⟩ := map_some_get hv (k := k) (x := aops[k]) (by simp [hk])
      rw [hy1, Array.getElem?_toList, Array.getElem?_eq_getElem hk]
      simp only [Option.map_some, Option.some.injEq]
      refine flat_inv (hx _ (by simp [Op.operands, Call.operands]) _ hy2) ?_
      exact List.all_eq_true.1 hfl y (List.mem_of_getElem? hy1)
    · have hvl : vals.length = aops.size := by simpa using (congrArg List.length hv).symm
      rw [List.getElem?_eq_none (by simpa using hk), List.getElem?_eq_none (by omega)]
      rfl
  refine ⟨v, ?_, fun _ _ _ _ _ w => ?_⟩
  · rcases hr with h | h
    · exact .flat _ h
    · exact .pure h
  · simp [execOp, resolve, e0, e1, Deferred.ofValue, invoke, hrun w]
def RVal (P : Program) (σ : ASt) (r : ResultVar) (v : Value) : Prop :=
  ∀ C ρ a w, Rep C ρ σ a w → ∃ u, (match r with | .tmp t => (Pure.pure (a.tmps.getD t undef) : Sem Value) | .cell x t => do loadVar t (← asAddr (a.tmps.getD x undef))).run P w = .ok u w ∧ VR .real (dom σ.mem) ρ v u
theorem run_mapM {α β : Type} (f : α → Sem β) (w : World) : ∀ (l : List α) (us : List β), l.length = us.length → (∀ (k : Nat) (x : α) (u : β), l[k]? = some x → us[k]? = some u → (f x).run P w = .ok u w) → (l.mapM f).run P w = .ok us w
  | [], us, hl, _ => by
    obtain rfl : us = [] := by simpa using hl.symm
    rfl
  | x :: l, us, hl, h => by
    obtain ⟨u, us, rfl⟩ : ∃ u r, us = u :: r := by cases us with
      | nil => simp at hl
      | cons u r => exact ⟨u, r, rfl⟩
    rw [List.mapM_cons]
    simp only [Sem.run_bind, h 0 x u rfl rfl, Result.andThen_ok]
    rw [run_mapM f w l us (by simpa using hl) fun k y z hy hz => h (k + 1) y z (by simpa using hy) (by simpa using hz)]
    rfl
theorem ARes.of {fn : Func} {σ : ASt} {rs : List ResultVar} {vs : List Value} (hr : fn.results = rs.toArray) (hl : rs.length = vs.length)
    (h : ∀ (k : Nat) (r : ResultVar) (v : Value), rs[k]? = some r → vs[k]? = some v → RVal P σ r v) {v : Value} (hv : v = if h : vs.length = 1 then vs[0] else .tuple vs.toArray) : ARes P fn σ v := by
  intro C ρ a w hR
  have : ∃ us : List Value, vs.length = us.length ∧ (∀ (k : Nat) (r : ResultVar) (u : Value), rs[k]? = some r → us[k]? = some u →
      (match r with | .tmp t => (Pure.pure (a.tmps.getD t undef) : Sem Value) | .cell x t => do loadVar t (← asAddr (a.tmps.getD x undef))).run P w = .ok u w) ∧
      ∀ (k : Nat) (v u : Value), vs[k]? = some v → us[k]? = some u → VR .real (dom σ.mem) ρ v u := by
    clear hr hv
    induction rs generalizing vs with
    | nil =>
      obtain rfl : vs = [] := by simpa using hl.symm
      exact ⟨[], rfl, fun k r u h => by simp at h, fun k v u h => by simp at h⟩
    | cons r rs ih =>
      obtain ⟨v, vs, rfl⟩ : ∃ u q, vs = u :: q := by cases vs with
        | nil => simp at hl
        | cons u q => exact ⟨u, q, rfl⟩
      obtain ⟨us, h1, h2, h3⟩ := ih (vs := vs) (by simpa using hl) (fun k r v hr hv => h (k + 1) r v (by simpa using hr) (by simpa using hv))
      obtain ⟨u, hu, hvu⟩ := h 0 r v rfl rfl C ρ a w hR
      refine ⟨u :: us, by simp [h1], fun k r' u' hr' hu' => ?_, fun k v' u' hv' hu' => ?_⟩
      · cases k with
        | zero => simp at hr' hu'; subst hr'; subst hu'; exact hu
        | succ k => exact h2 k r' u' (by simpa using hr') (by simpa using hu')
      · cases k with
        | zero => simp at hv' hu'; subst hv'; subst hu'; exact hvu
        | succ k => exact h3 k v' u' (by simpa using hv') (by simpa using hu')
  obtain ⟨us, h1, h2, h3⟩ := this
  have hm := run_mapM (P := P) (fun r => match r with | .tmp t => (Pure.pure (a.tmps.getD t undef) : Sem Value) | .cell x t => do loadVar t (← asAddr (a.tmps.getD x undef))) w rs us (hl.trans h1) h2
  have hm2 : (results fn a.tmps).run P w = .ok (if h : us.toArray.size = 1 then us.toArray[0] else .tuple us.toArray) w := by
    unfold results
    rw [hr, List.mapM_toArray]
    simp only [Sem.run_bind, Sem.run_map]
    exact congrArg (fun (r : Result (List Value)) => (r.andThen fun a w' => Result.ok a.toArray w').andThen fun a w' => Sem.run P (Pure.pure (if h : a.size = 1 then a[0] else Value.tuple a)) w') hm
  refine ⟨_, hm2, ?_⟩
  rw [hv]
  by_cases h1' : vs.length = 1
  · have h2' : us.toArray.size = 1 := by simp [← h1, h1']
    rw [dif_pos h1', dif_pos h2']
    refine h3 0 _ _ (List.getElem?_eq_getElem (by omega)) ?_
    have : 0 < us.length := by omega
    simp [this]
  · have h2' : ¬ us.toArray.size = 1 := by simp [← h1, h1']
    rw [dif_neg h1', dif_neg h2']
    exact .tuple _ _ (by simp [h1]) fun k x y hx hy => h3 k x y (by simpa using hx) (by simpa using hy)
theorem RVal.tmp {σ : ASt} {t : Nat} {v : Value} (h : σ.env t = some v) : RVal P σ (.tmp t) v := by
  intro C ρ a w hR
  obtain ⟨u, hu, hv⟩ := hR.env t v h
  refine ⟨u, ?_, hv⟩
  simp only [Array.getD_eq_getD_getElem?, hu, Option.getD_some]
  rfl
theorem RVal.cell {σ : ASt} {x id o : Nat} {t : TypeId} {b : Blk} {v : Value} (h : σ.env x = some (.pointer (some ⟨id, o, none⟩))) (hb : σ.mem id = some b)
    (hu : (P.underlying t).isSome = true) (hg : aggB P t = false) (hv : b.cells[o]? = some v) : RVal P σ (.cell x t) v := by
  intro C ρ a w hR
  obtain ⟨u, hu', hv'⟩ := hR.env x _ h
  obtain ⟨rfl, _⟩ := ptr_inv hv'
  obtain ⟨z, hz, hvz⟩ := (hR.mem id b hb).cells o v hv
  refine ⟨z, ?_, hvz⟩
  simp [hu', asAddr, loadVar, run_agg hu, hg, hz]
theorem RVal.cellAgg {σ : ASt} {x id o sz : Nat} {t : TypeId} {b : Blk} (h : σ.env x = some (.pointer (some ⟨id, o, none⟩))) (hb : σ.mem id = some b)
    (hu : (P.underlying t).isSome = true) (hg : aggB P t = true) (hs : (P.info? t).map (·.size) = some sz) (hl : o + sz ≤ b.cells.length) :
    RVal P σ (.cell x t) (.agg ((b.cells.drop o).take sz).toArray) := by
  intro C ρ a w hR
  obtain ⟨u, hu', hv'⟩ := hR.env x _ h
  obtain ⟨rfl, _⟩ := ptr_inv hv'
  obtain ⟨us, hul, hus, hrel⟩ := pick_list (o := o) (hR.mem id b hb).cells sz hl
  have hrun : (loadCells ⟨(ρ id).blk, (ρ id).off + o, none⟩ sz).run P w = .ok us.toArray w := by
    rw [← hul]
    exact run_loadCells_list w _ us fun j v hv => by rw [addr_add]; exact hus j v hv
  refine ⟨.agg us.toArray, ?_, .agg _ _ ?_ fun k y z hy hz => hrel k y z (by simpa using hy) (by simpa using hz)⟩
  · simp [hu', asAddr, loadVar, run_agg hu, hg, run_size hs, hrun]
  · simp [hul]; omega
end Go.Proofs.YtlfadlfjjkppfaaGreatDoor.Sim
namespace Go.Proofs.YtlfadlfjjkppfaaGreatDoor.Sim
open Go
section
variable {P : Program} {n m : Nat} {σ : ASt} {Q : Exit → ASt → Prop}
theorem AW.seqR {id : Nat} {ops : Array Oper} {y : Code} (h : AWo P ops n 0 ops.toList σ (fun _ => True) (fun σ' => AW P n m y σ' Q)) : AW P n m (.seq (.region id ops false) y) σ Q :=
  AW.seq (AW.region h)
theorem AW.seqD (hm : P.follows .mixedOrders = true) {id : Nat} {ops : Array Oper} {y : Code}
    (h : AWo P ops n 0 ops.toList σ (fun es => drawB ops (es.map dat) = true) (fun σ' => AW P n m y σ' Q)) : AW P n m (.seq (.region id ops true) y) σ Q :=
  AW.seq (AW.draw hm h)
theorem roundsA_succ {c : Code} {k : Nat} (h : AW P n m c σ (thenA (roundsA P n m c Q k) Q)) : roundsA P n m c Q (k + 1) σ := h
theorem thenA_normal {Y : ASt → Prop} (h : Y σ) : thenA Y Q .normal σ := h
theorem thenA_exit {Y : ASt → Prop} {id : Nat} (h : Q (.exit id) σ) : thenA Y Q (.exit id) σ := h
theorem thenA_ret {Y : ASt → Prop} (h : Q .ret σ) : thenA Y Q .ret σ := h
theorem inBlockA_normal {id : Nat} (h : Q .normal σ) : inBlockA id Q .normal σ := h
theorem inBlockA_ret {id : Nat} (h : Q .ret σ) : inBlockA id Q .ret σ := h
theorem inBlockA_hit {id : Nat} (h : Q .normal σ) : inBlockA id Q (.exit id) σ := by simp only [inBlockA, if_true]; exact h
theorem AW.condT {c : Operand} {x y : Code} (hc : aev σ.env c = some (.bool true)) (h : AW P n m x σ Q) : AW P n m (.cond c x y) σ Q := AW.cond hc (fun _ => h) (fun h => by cases h)
theorem AW.condF {c : Operand} {x y : Code} (hc : aev σ.env c = some (.bool false)) (h : AW P n m y σ Q) : AW P n m (.cond c x y) σ Q := AW.cond hc (fun h => by cases h) (fun _ => h)
theorem AW.condB {c : Operand} {x y : Code} {b b' : Bool} (hc : aev σ.env c = some (.bool b)) (hb : b = b') (h : AW P n m (if b' then x else y) σ Q) : AW P n m (.cond c x y) σ Q := by
  subst hb
  exact AW.cond hc (fun h1 => by subst h1; exact h) (fun h1 => by subst h1; exact h)
end
end Go.Proofs.YtlfadlfjjkppfaaGreatDoor.Sim
namespace Go.Proofs.YtlfadlfjjkppfaaGreatDoor.Sim
open Go
structure Tab where
  sl : List (Nat × Nat)
  arr : List (Nat × Nat × Nat)
  int : List (Nat × IntKind)
  sz : List (Nat × Nat)
  agg : List (Nat × Bool)
  zero : List (Nat × Value)
  by' : List (Nat × Nat)
  fld : List ((Nat × Nat) × Nat × Nat)
structure TabOk (P : Program) (T : Tab) : Prop where
  sl : ∀ t e, T.sl.lookup t = some e → P.underlying t = some (.slice e)
  arr : ∀ t n e, T.arr.lookup t = some (n, e) → P.underlying t = some (.array n e)
  int : ∀ t k, T.int.lookup t = some k → P.underlying t = some (.int k)
  sz : ∀ t s, T.sz.lookup t = some s → (P.info? t).map (·.size) = some s
  agg : ∀ t b, T.agg.lookup t = some b → (P.underlying t).isSome = true ∧ aggB P t = b
  zero : ∀ t z, T.zero.lookup t = some z → (P.info? t).map (·.zero) = some (some z)
  by' : ∀ t b, T.by'.lookup t = some b → (P.info? t).map (·.bytes) = some b
  fld : ∀ t f o t', T.fld.lookup (t, f) = some (o, t') → ∃ fs fd, P.underlying t = some (.struct fs) ∧ fs[f]? = some fd ∧ fd.offset = o ∧ fd.type = t'
def emp {α : Type} : Nat → Option α := fun _ => none
section
variable {P : Program} {T : Tab} (H : TabOk P T)
variable {ops : Array Oper} {n i : Nat} {os : List Oper} {E : Env} {M : Mem} {D : List Eff → Prop} {K : ASt → Prop}
  {d : Tmp} {ty : TypeId} {ps : String} {af : Array Edge} {g : Option (Nat × Bool)}
theorem getM {α : Type} {f : α → Value} {l : List α} {j : Nat} (dflt : α) (h : j < l.length) : (l.map f)[j]? = some (f (l.getD j dflt)) := by
  rw [List.getElem?_map, List.getElem?_eq_getElem h, List.getD_eq_getElem?_getD, List.getElem?_eq_getElem h]
  rfl
include H
theorem AWo.load {t : TypeId} {a : Operand} {id o : Nat} {b : Blk} {v : Value} (ha : aev E a = some (.pointer (some ⟨id, o, none⟩))) (hb : M id = some b) (ht : T.agg.lookup t = some false)
    (hv : b.cells[o]? = some v) (hw : wantA ops E ⟨some d, .load t a, ty, ps, af, g⟩ = some true) (hd : Nat.blt d n = true)
    (hr : AWo P ops n (i + 1) os ⟨upd E d v, M⟩ (fun es => D (⟨[id], []⟩ :: es)) K) : AWo P ops n i (⟨some d, .load t a, ty, ps, af, g⟩ :: os) ⟨E, M⟩ D K :=
  AWo.step (FStep.load ha hb (H.agg t _ ht).1 (H.agg t _ ht).2 hv) hw hd (fun p hp => by cases hp) hr
theorem AWo.loadM {α : Type} {f : α → Value} {l : List α} (dflt : α) {rw : Bool} {es : Nat} {t : TypeId} {a : Operand} {id o : Nat} (ha : aev E a = some (.pointer (some ⟨id, o, none⟩)))
    (hb : M id = some ⟨l.map f, rw, es⟩) (ht : T.agg.lookup t = some false)
    (ho : o < l.length) (hw : wantA ops E ⟨some d, .load t a, ty, ps, af, g⟩ = some true) (hd : Nat.blt d n = true)
    (hr : AWo P ops n (i + 1) os ⟨upd E d (f (l.getD o dflt)), M⟩ (fun es => D (⟨[id], []⟩ :: es)) K) : AWo P ops n i (⟨some d, .load t a, ty, ps, af, g⟩ :: os) ⟨E, M⟩ D K :=
  AWo.load H ha hb ht (getM dflt ho) hw hd hr
theorem AWo.loadAgg {t : TypeId} {a : Operand} {id o sz : Nat} {b : Blk} {vs : List Value} (ha : aev E a = some (.pointer (some ⟨id, o, none⟩))) (hb : M id = some b)
    (ht : T.agg.lookup t = some true) (hs : T.sz.lookup t = some sz) (hl : o + sz ≤ b.cells.length) (hv : (b.cells.drop o).take sz = vs) (hw : wantA ops E ⟨some d, .load t a, ty, ps, af, g⟩ = some true) (hd : Nat.blt d n = true)
    (hr : AWo P ops n (i + 1) os ⟨upd E d (.agg vs.toArray), M⟩ (fun es => D (⟨[id], []⟩ :: es)) K) :
    AWo P ops n i (⟨some d, .load t a, ty, ps, af, g⟩ :: os) ⟨E, M⟩ D K := by
  subst hv
  exact AWo.step (FStep.loadAgg ha hb (H.agg t _ ht).1 (H.agg t _ ht).2 (H.sz t _ hs) hl) hw hd (fun p hp => by cases hp) hr
theorem AWo.loadAll {t : TypeId} {a : Operand} {id sz : Nat} {cells : List Value} {rw : Bool} {es : Nat} (ha : aev E a = some (.pointer (some ⟨id, 0, none⟩))) (hb : M id = some ⟨cells, rw, es⟩)
    (ht : T.agg.lookup t = some true) (hs : T.sz.lookup t = some sz) (hl : cells.length = sz) (hw : wantA ops E ⟨some d, .load t a, ty, ps, af, g⟩ = some true) (hd : Nat.blt d n = true)
    (hr : AWo P ops n (i + 1) os ⟨upd E d (.agg cells.toArray), M⟩ (fun es => D (⟨[id], []⟩ :: es)) K) :
    AWo P ops n i (⟨some d, .load t a, ty, ps, af, g⟩ :: os) ⟨E, M⟩ D K :=
  AWo.loadAgg H ha hb ht hs (by simp only; omega) (by simp only [List.drop_zero]; exact List.take_of_length_le (by omega)) hw hd hr
theorem AWo.store {t : TypeId} {a x : Operand} {id o : Nat} {b : Blk} {v : Value} {cells : List Value} (ha : aev E a = some (.pointer (some ⟨id, o, none⟩))) (hx : aev E x = some v) (hb : M id = some b)
    (hr : b.rw = true) (hs : T.sz.lookup t = some v.cells.size) (ho : o + v.cells.size ≤ b.cells.length) (hc : v.cells.toList.all (·.oneCell') = true) (hn : setL b.cells o v.cells.toList = cells)
    (hw : wantA ops E ⟨none, .store t a x, ty, ps, af, g⟩ = some true)
    (hr' : AWo P ops n (i + 1) os ⟨E, upd M id ⟨cells, true, b.es⟩⟩ (fun es => D (⟨[id], [(id, ⟨cells, true, b.es⟩)]⟩ :: es)) K) :
    AWo P ops n i (⟨none, .store t a x, ty, ps, af, g⟩ :: os) ⟨E, M⟩ D K := by
  subst hn
  exact AWo.step (FStep.store ha hx hb hr (H.sz t _ hs) ho hc) hw rfl (fun p hp hq => by simp at hp; subst hp; simp at hq) hr'
theorem AWo.storeM {α : Type} {f : α → Value} {l : List α} {y : α} {es : Nat} {t : TypeId} {a x : Operand} {id o : Nat} (ha : aev E a = some (.pointer (some ⟨id, o, none⟩))) (hx : aev E x = some (f y))
    (hb : M id = some ⟨l.map f, true, es⟩) (hs : T.sz.lookup t = some 1) (ho : o < l.length) (hc : (f y).oneCell' = true)
    (hw : wantA ops E ⟨none, .store t a x, ty, ps, af, g⟩ = some true)
    (hr' : AWo P ops n (i + 1) os ⟨E, upd M id ⟨(l.set o y).map f, true, es⟩⟩ (fun es' => D (⟨[id], [(id, ⟨(l.set o y).map f, true, es⟩)]⟩ :: es')) K) :
    AWo P ops n i (⟨none, .store t a x, ty, ps, af, g⟩ :: os) ⟨E, M⟩ D K :=
  AWo.store H ha hx hb rfl (by rw [one_cells hc]; exact hs) (by rw [one_cells hc]; simp; omega) (by rw [one_cells hc]; simpa using hc) (by rw [one_cells hc]; simp [setL, List.map_set]) hw hr'
theorem AWo.storeAll {t : TypeId} {a x : Operand} {id : Nat} {cells : List Value} {es : Nat} {vs : List Value} (ha : aev E a = some (.pointer (some ⟨id, 0, none⟩))) (hx : aev E x = some (.agg vs.toArray))
    (hb : M id = some ⟨cells, true, es⟩) (hs : T.sz.lookup t = some vs.length) (ho : vs.length = cells.length) (hc : vs.all (·.oneCell') = true)
    (hw : wantA ops E ⟨none, .store t a x, ty, ps, af, g⟩ = some true)
    (hr' : AWo P ops n (i + 1) os ⟨E, upd M id ⟨vs, true, es⟩⟩ (fun es' => D (⟨[id], [(id, ⟨vs, true, es⟩)]⟩ :: es')) K) :
    AWo P ops n i (⟨none, .store t a x, ty, ps, af, g⟩ :: os) ⟨E, M⟩ D K :=
  AWo.store H ha hx hb rfl (by simpa [Value.cells] using hs) (by simp [Value.cells]; omega) (by simpa [Value.cells] using hc) (by
    have key : ∀ (vs cells : List Value) (o : Nat), o + vs.length ≤ cells.length → setL cells o vs = cells.take o ++ vs ++ cells.drop (o + vs.length) := by
      intro vs
      induction vs with
      | nil => intro cells o _; simp [setL]
      | cons v vs ih =>
        intro cells o h
        simp only [List.length_cons] at h
        simp only [setL]
        rw [ih (cells.set o v) (o + 1) (by simp; omega)]
        rw [List.drop_set_of_lt (by omega)]
        have h1 : (cells.set o v).take (o + 1) = cells.take o ++ [v] := by
          rw [List.take_add_one, List.take_set_of_le (by omega), List.getElem?_set_self (by omega)]
          rfl
        rw [h1]
        simp [Nat.add_assoc, Nat.add_comm 1]
    have := key vs cells 0 (by omega)
    simp only [List.take_zero, List.nil_append, Nat.zero_add] at this
    rw [List.drop_of_length_le (by omega)] at this
    simpa [Value.cells] using this) hw hr'
theorem AWo.alloc {t : TypeId} {z : Value} (id es : Nat) (cells : List Value) (hz : T.zero.lookup t = some z) (hf : z.cells.toList.all flatV = true) (hc : z.cells.toList = cells) (hid : M id = none)
    (hw : wantA ops E ⟨some d, .alloc t, ty, ps, af, g⟩ = some true) (hd : Nat.blt d n = true)
    (hr : AWo P ops n (i + 1) os ⟨upd E d (.pointer (some ⟨id, 0, none⟩)), upd M id ⟨cells, true, es⟩⟩ (fun es' => D (⟨[], [(id, ⟨cells, true, es⟩)]⟩ :: es')) K) :
    AWo P ops n i (⟨some d, .alloc t, ty, ps, af, g⟩ :: os) ⟨E, M⟩ D K := by
  subst hc
  exact AWo.step (FStep.alloc id es (H.zero t _ hz) hf) hw hd (fun p hp _ => by simp at hp; subst hp; exact hid) hr
omit H in
theorem AWo.box {t : TypeId} {x : Operand} {v : Value} (id es : Nat) (cells : List Value) (hx : aev E x = some v) (hc : v.cells.toList = cells) (hid : M id = none)
    (hw : wantA ops E ⟨some d, .box t x, ty, ps, af, g⟩ = some true) (hd : Nat.blt d n = true)
    (hr : AWo P ops n (i + 1) os ⟨upd E d (.pointer (some ⟨id, 0, none⟩)), upd M id ⟨cells, true, es⟩⟩ (fun es' => D (⟨[], [(id, ⟨cells, true, es⟩)]⟩ :: es')) K) :
    AWo P ops n i (⟨some d, .box t x, ty, ps, af, g⟩ :: os) ⟨E, M⟩ D K := by
  subst hc
  exact AWo.step (FStep.box id es hx) hw hd (fun p hp _ => by simp at hp; subst hp; exact hid) hr
theorem AWo.makeSlice {t e : TypeId} {x y : Operand} {k sz by' : Nat} {c z : Value} (id : Nat) (cells : List Value) (hx : aev E x = some (.int .i64 k)) (hy : aev E y = some (.int .i64 k))
    (ht : T.sl.lookup t = some e) (hs : T.sz.lookup e = some sz) (h0 : sz ≠ 0) (hz : T.zero.lookup e = some z) (hzc : z.cells = Array.replicate sz c) (hc : flatV c = true)
    (hby : T.by'.lookup e = some by') (hlen : by' * k ≤ 281474976710656) (hn : k < 9223372036854775808) (hcl : List.replicate (k * sz) c = cells) (hid : M id = none)
    (hw : wantA ops E ⟨some d, .makeSlice t x y, ty, ps, af, g⟩ = some true) (hd : Nat.blt d n = true)
    (hr : AWo P ops n (i + 1) os ⟨upd E d (.slice (some ⟨id, 0, none⟩) k 0), upd M id ⟨cells, true, sz⟩⟩ (fun es' => D (⟨[], [(id, ⟨cells, true, sz⟩)]⟩ :: es')) K) :
    AWo P ops n i (⟨some d, .makeSlice t x y, ty, ps, af, g⟩ :: os) ⟨E, M⟩ D K := by
  subst hcl
  exact AWo.step (FStep.makeSlice id hx hy (H.sl t _ ht) (H.sz e _ hs) h0 (H.zero e _ hz) hzc hc (H.by' e _ hby) hlen hn) hw hd (fun p hp _ => by simp at hp; subst hp; exact hid) hr
theorem PureOp.idx {x ix : Operand} {t e : TypeId} {id o k sz : Nat} {kd : IntKind} {j : Int} (h1 : aev E x = some (.slice (some ⟨id, o, none⟩) k 0)) (h2 : aev E ix = some (.int kd j))
    (ht : T.sl.lookup t = some e) (hs : T.sz.lookup e = some sz) (hi : 0 ≤ j ∧ j < k) : PureOp P (.indexAddr t x ix) E (.pointer (some ⟨id, o + j.toNat * sz, none⟩)) :=
  PureOp.indexAddr h1 h2 (H.sl t e ht) (H.sz e sz hs) hi
theorem PureOp.idx1 {x ix : Operand} {t e : TypeId} {id k : Nat} {kd : IntKind} {j : Nat} (h1 : aev E x = some (.slice (some ⟨id, 0, none⟩) k 0)) (h2 : aev E ix = some (.int kd (j : Nat)))
    (ht : T.sl.lookup t = some e) (hs : T.sz.lookup e = some 1) (hi : j < k) : PureOp P (.indexAddr t x ix) E (.pointer (some ⟨id, j, none⟩)) := by
  have := PureOp.idx H h1 h2 ht hs (by omega)
  simpa using this
theorem PureOp.arr {x ix : Operand} {t e : TypeId} {id o k sz : Nat} {kd : IntKind} {j : Int} (h1 : aev E x = some (.pointer (some ⟨id, o, none⟩))) (h2 : aev E ix = some (.int kd j))
    (ht : T.arr.lookup t = some (k, e)) (hs : T.sz.lookup e = some sz) (hi : 0 ≤ j ∧ j < k) : PureOp P (.indexAddr t x ix) E (.pointer (some ⟨id, o + j.toNat * sz, none⟩)) :=
  PureOp.indexAddrArr h1 h2 (H.arr t k e ht) (H.sz e sz hs) hi
theorem PureOp.arr1 {x ix : Operand} {t e : TypeId} {id k : Nat} {kd : IntKind} {j : Nat} (h1 : aev E x = some (.pointer (some ⟨id, 0, none⟩))) (h2 : aev E ix = some (.int kd (j : Nat)))
    (ht : T.arr.lookup t = some (k, e)) (hs : T.sz.lookup e = some 1) (hi : j < k) : PureOp P (.indexAddr t x ix) E (.pointer (some ⟨id, j, none⟩)) := by
  have := PureOp.arr H h1 h2 ht hs (by omega)
  simpa using this
theorem PureOp.fld {x : Operand} {t t' : TypeId} {id o f off sz : Nat} (h1 : aev E x = some (.pointer (some ⟨id, o, none⟩)))
    (hf : T.fld.lookup (t, f) = some (off, t')) (hs : T.sz.lookup t' = some sz) (h0 : sz ≠ 0) : PureOp P (.fieldAddr t x f) E (.pointer (some ⟨id, o + off, none⟩)) := by
  obtain ⟨fs, fd, h2, h3, rfl, rfl⟩ := H.fld t f off t' hf
  exact PureOp.fieldAddr h1 h2 h3 (H.sz _ _ hs) h0
theorem PureOp.lenS {x : Operand} {t e : TypeId} {p : Option Addr} {k c : Nat} (h1 : aev E x = some (.slice p k c)) (ht : T.sl.lookup t = some e) :
    PureOp P (.call ⟨.builtin .len, #[x], #[t]⟩) E (.int .i64 k) := PureOp.len h1 (H.sl t e ht)
theorem PureOp.cvt {s t : TypeId} {x : Operand} {k k' : IntKind} {a : Int} (h1 : aev E x = some (.int k a)) (hs : T.int.lookup s = some k) (ht : T.int.lookup t = some k') :
    PureOp P (.convert s t x) E (.int k' (k'.wrap a)) := PureOp.conv h1 (by rw [H.int s k hs]; rfl) (H.int t k' ht)
end
def idm (fm : List (Nat × Nat)) : Rho := ⟨fun k => ⟨(fm.lookup k).getD k, 0, none, 1⟩, []⟩
def WkE (Dm : Nat → Prop) (fm : List (Nat × Nat)) (E F : Env) : Prop := ∀ t v, F t = some v → ∃ v', E t = some v' ∧ VR .arg Dm (idm fm) v v'
theorem WkE.emp {Dm : Nat → Prop} {fm : List (Nat × Nat)} {E : Env} : WkE Dm fm E Sim.emp := fun t v h => by cases h
theorem WkE.upd {Dm : Nat → Prop} {fm : List (Nat × Nat)} {E F : Env} {t : Nat} {v v' : Value} (h1 : E t = some v') (h2 : VR .arg Dm (idm fm) v v') (h : WkE Dm fm E F) : WkE Dm fm E (Sim.upd F t v) := by
  intro t' u hu
  simp only [Sim.upd] at hu
  split at hu
  · rename_i he; subst he; cases hu; exact ⟨v', h1, h2⟩
  · exact h t' u hu
def WkM (Dm : Nat → Prop) (fm : List (Nat × Nat)) (M N : Mem) : Prop := ∀ i b, N i = some b → ∃ b', M ((fm.lookup i).getD i) = some b' ∧
    (∀ (c : Nat) (x : Value), b.cells[c]? = some x → ∃ y, b'.cells[c]? = some y ∧ VR .arg Dm (idm fm) x y) ∧ (b.rw = true → b'.rw = true) ∧ b'.es = b.es ∧ b.cells.length ≤ b'.cells.length
theorem WkM.emp {Dm : Nat → Prop} {fm : List (Nat × Nat)} {M : Mem} : WkM Dm fm M Sim.emp := fun t v h => by cases h
theorem WkM.upd {Dm : Nat → Prop} {fm : List (Nat × Nat)} {M N : Mem} {i : Nat} {b b' : Blk} (h1 : M ((fm.lookup i).getD i) = some b')
    (h2 : ∀ (c : Nat) (x : Value), b.cells[c]? = some x → ∃ y, b'.cells[c]? = some y ∧ VR .arg Dm (idm fm) x y) (h3 : b.rw = true → b'.rw = true) (h4 : b'.es = b.es) (h5 : b.cells.length ≤ b'.cells.length) (h : WkM Dm fm M N) :
    WkM Dm fm M (Sim.upd N i b) := by
  intro t' u hu
  simp only [Sim.upd] at hu
  split at hu
  · rename_i he; subst he; cases hu; exact ⟨b', h1, h2, h3, h4, h5⟩
  · exact h t' u hu
theorem WkM.flat {Dm : Nat → Prop} {fm : List (Nat × Nat)} {M N : Mem} {i : Nat} {cells : List Value} {rw rw' : Bool} {es : Nat} (h1 : M ((fm.lookup i).getD i) = some ⟨cells, rw', es⟩)
    (hf : ∀ v ∈ cells, flatV v = true) (h3 : rw = true → rw' = true) (h : WkM Dm fm M N) : WkM Dm fm M (Sim.upd N i ⟨cells, rw, es⟩) :=
  WkM.upd h1 (fun _ x hx => ⟨x, hx, .flat x (hf x (List.mem_of_getElem? hx))⟩) h3 rfl (Nat.le_refl _) h
theorem WkM.flatM {α : Type} {f : α → Value} {l l' : List α} {Dm : Nat → Prop} {fm : List (Nat × Nat)} {M N : Mem} {i : Nat} {rw rw' : Bool} {es : Nat} (h1 : M ((fm.lookup i).getD i) = some ⟨l'.map f, rw', es⟩)
    (he : l = l') (hf : ∀ x, flatV (f x) = true) (h3 : rw = true → rw' = true) (h : WkM Dm fm M N) : WkM Dm fm M (Sim.upd N i ⟨l.map f, rw, es⟩) := by
  subst he
  exact WkM.flat h1 (fun v hv => by obtain ⟨x, _, rfl⟩ := List.mem_map.1 hv; exact hf x) h3 h
theorem VR.eqv {m : Md} {Dm : Nat → Prop} {ρ : Rho} {v v' : Value} (h : v = v') (hf : flatV v = true) : VR m Dm ρ v v' := by subst h; exact .flat v hf
theorem Wk.of {m : Nat} {fm : List (Nat × Nat)} {σ : ASt} {F : Env} {N : Mem} (ids : List Nat) (hE : WkE (dom N) fm σ.env F) (hM : WkM (dom N) fm σ.mem N)
    (hids : ∀ i, dom N i → i ∈ ids) (hnd : (ids.map fun i => (fm.lookup i).getD i).Nodup) (hlow : ((List.range m).all fun i => (N i).isSome && (fm.lookup i).getD i == i) = true) : Wk m fm σ ⟨F, N⟩ := by
  refine ⟨hE, hM, fun i j b b' hi hj he => ?_, fun i hi => ?_⟩
  · obtain ⟨a, ha, ea⟩ := List.mem_iff_getElem.1 (hids i ⟨b, hi⟩)
    obtain ⟨c', hc, ec⟩ := List.mem_iff_getElem.1 (hids j ⟨b', hj⟩)
    have : a = c' := by
      refine (List.getElem_inj (h₀ := by simpa using ha) (h₁ := by simpa using hc) hnd).1 ?_
      simp only [List.getElem_map, ea, ec]
      exact he
    subst this
    rw [← ea, ← ec]
  · have := List.all_eq_true.1 hlow i (List.mem_range.2 hi)
    simp only [Bool.and_eq_true, beq_iff_eq] at this
    obtain ⟨b, hb⟩ := Option.isSome_iff_exists.1 this.1
    exact ⟨⟨b, hb⟩, this.2⟩
theorem dom_emp {ids : List Nat} : ∀ i, dom (emp : Mem) i → i ∈ ids := fun i ⟨_, h⟩ => by cases h
theorem dom_upd_mem {N : Mem} {k : Nat} {b : Blk} {ids : List Nat} (hk : k ∈ ids) (h : ∀ i, dom N i → i ∈ ids) : ∀ i, dom (upd N k b) i → i ∈ ids := by
  rintro i ⟨b', hb⟩
  simp only [upd] at hb
  split at hb
  · rename_i he; rw [he]; exact hk
  · exact h i ⟨b', hb⟩
end Go.Proofs.YtlfadlfjjkppfaaGreatDoor.Sim
namespace Go.Proofs.YtlfadlfjjkppfaaGreatDoor.Sim
open Go
inductive FA
  | v (x : Value)
  | s (cells : List Value) (es n : Nat) (rw : Bool)
  | sub (k o n : Nat)
  | p (cells cells' : List Value) (es : Nat)
def argVals : Nat → List FA → List Value
  | _, [] => []
  | k, .v x :: r => x :: argVals k r
  | k, .s _ _ n _ :: r => .slice (some ⟨k, 0, none⟩) n 0 :: argVals (k + 1) r
  | k, .sub j o n :: r => .slice (some ⟨j, o, none⟩) n 0 :: argVals k r
  | k, .p _ _ _ :: r => .pointer (some ⟨k, 0, none⟩) :: argVals (k + 1) r
def argBlks : List FA → List Blk
  | [] => []
  | .v _ :: r => argBlks r
  | .s c es _ rw :: r => ⟨c, rw, es⟩ :: argBlks r
  | .sub _ _ _ :: r => argBlks r
  | .p c _ es :: r => ⟨c, true, es⟩ :: argBlks r
def outBlks : List FA → List Blk
  | [] => []
  | .v _ :: r => outBlks r
  | .s c es _ rw :: r => ⟨c, rw, es⟩ :: outBlks r
  | .sub _ _ _ :: r => outBlks r
  | .p _ c es :: r => ⟨c, true, es⟩ :: outBlks r
theorem outBlks_len : ∀ (as : List FA), (outBlks as).length = (argBlks as).length
  | [] => rfl
  | .v _ :: r => outBlks_len r
  | .s _ _ _ _ :: r => by simp [outBlks, argBlks, outBlks_len r]
  | .sub _ _ _ :: r => outBlks_len r
  | .p _ _ _ :: r => by simp [outBlks, argBlks, outBlks_len r]
def oneV (l : List Value) : Value := if h : l.length = 1 then l[0] else .tuple l.toArray
def FC (P : Program) (f : FuncId) (as rs : List FA) : Prop :=
  Ctr P f (argVals 0 as) (argBlks as) (oneV (argVals (argBlks as).length rs)) (outBlks as ++ argBlks rs)
theorem oneV_rel {m : Md} {D : Nat → Prop} {ρ : Rho} {l l' : List Value} (hl : l.length = l'.length)
    (h : ∀ (k : Nat) (x y : Value), l[k]? = some x → l'[k]? = some y → VR m D ρ x y) : VR m D ρ (oneV l) (oneV l') := by
  unfold oneV
  by_cases h1 : l.length = 1
  · rw [dif_pos h1, dif_pos (by omega)]
    exact h 0 _ _ (List.getElem?_eq_getElem (by omega)) (List.getElem?_eq_getElem (by omega))
  · rw [dif_neg h1, dif_neg (by omega)]
    exact .tuple _ _ (by simpa using hl) fun k x y hx hy => h k x y (by simpa using hx) (by simpa using hy)
inductive Gives (m : Nat) (M : Mem) : List FA → List Value → List Nat → Prop
  | nil : Gives m M [] [] []
  | v {x : Value} {r : List FA} {vs : List Value} {ids : List Nat} (hx : pureV x = true) (h : Gives m M r vs ids) : Gives m M (.v x :: r) (x :: vs) ids
  | s {c : List Value} {es n id : Nat} {rw : Bool} {r : List FA} {vs : List Value} {ids : List Nat} (hm : M id = some ⟨c, true, es⟩) (hc : ∀ x ∈ c, flatV x = true) (h : Gives m M r vs ids) :
      Gives m M (.s c es n rw :: r) (.slice (some ⟨id, 0, none⟩) n 0 :: vs) (id :: ids)
  | nilS {es id : Nat} {b : Blk} {r : List FA} {vs : List Value} {ids : List Nat} (hm : M id = some b) (he : b.es = es) (h : Gives m M r vs ids) :
      Gives m M (.s [] es 0 false :: r) (.slice none 0 0 :: vs) (id :: ids)
  | sub {k o n : Nat} {r : List FA} {vs : List Value} {ids : List Nat} (hk : k < m) (h : Gives m M r vs ids) : Gives m M (.sub k o n :: r) (.slice (some ⟨k, o, none⟩) n 0 :: vs) ids
theorem Gives.rel {m : Nat} {M : Mem} {D : Nat → Prop} {h : Rho} {rs : List FA} {vs : List Value} {ids : List Nat} (hg : Gives m M rs vs ids) :
    ∀ (k0 : Nat), (∀ j i, ids[j]? = some i → h (k0 + j) = ⟨i, 0, none, 1⟩ ∧ D (k0 + j)) → (∀ k, k < m → h k = ⟨k, 0, none, 1⟩ ∧ D k) →
      ∀ (k : Nat) (x y : Value), (argVals k0 rs)[k]? = some x → vs[k]? = some y → VR .arg D h x y := by
  induction hg with
  | nil => intro k0 _ _ k x y hx; simp [argVals] at hx
  | v hx' hg ih =>
    intro k0 h1 h2 k x y hx hy
    cases k with
    | zero => simp [argVals] at hx hy; subst hx; subst hy; exact .pure hx'
    | succ k => exact ih k0 h1 h2 k x y (by simpa [argVals] using hx) (by simpa using hy)
  | @s c es n id rw r vs ids hm hc hg ih =>
    intro k0 h1 h2 k x y hx hy
    cases k with
    | zero =>
      simp [argVals] at hx hy; subst hx; subst hy
      obtain ⟨e, hd⟩ := h1 0 id rfl
      simp only [Nat.add_zero] at e hd
      have := VR.slice (m := .arg) (ρ := h) k0 0 n 0 hd (by simp) (by simp)
      rw [e] at this
      exact this
    | succ k =>
      refine ih (k0 + 1) (fun j i hj => ?_) h2 k x y (by simpa [argVals] using hx) (by simpa using hy)
      have := h1 (j + 1) i (by simpa using hj)
      rw [show k0 + 1 + j = k0 + (j + 1) by omega]; exact this
  | nilS hm he hg ih =>
    intro k0 h1 h2 k x y hx hy
    cases k with
    | zero => simp [argVals] at hx hy; subst hx; subst hy; exact .nilS _ (by simp)
    | succ k =>
      refine ih (k0 + 1) (fun j i hj => ?_) h2 k x y (by simpa [argVals] using hx) (by simpa using hy)
      have := h1 (j + 1) i (by simpa using hj)
      rw [show k0 + 1 + j = k0 + (j + 1) by omega]; exact this
  | @sub kk o n r vs ids hk hg ih =>
    intro k0 h1 h2 k x y hx hy
    cases k with
    | zero =>
      simp [argVals] at hx hy; subst hx; subst hy
      obtain ⟨e, hd⟩ := h2 kk hk
      have := VR.slice (m := .arg) (ρ := h) kk o n 0 hd (by simp) (by simp)
      rw [e] at this
      simpa using this
    | succ k => exact ih k0 h1 h2 k x y (by simpa [argVals] using hx) (by simpa using hy)
theorem Gives.blk {m : Nat} {M : Mem} {rs : List FA} {vs : List Value} {ids : List Nat} (hg : Gives m M rs vs ids) :
    ∀ (j : Nat) (b : Blk) (i : Nat), (argBlks rs)[j]? = some b → ids[j]? = some i → ∃ b', M i = some b' ∧ (b.cells = [] ∨ (b'.cells = b.cells ∧ ∀ x ∈ b.cells, flatV x = true)) ∧
      (b.rw = true ∨ b.cells ≠ [] → b'.rw = true) ∧ b'.es = b.es ∧ b.cells.length ≤ b'.cells.length := by
  induction hg with
  | nil => intro j b i h; simp [argBlks] at h
  | v _ _ ih => exact ih
  | s hm hc hg ih =>
    intro j b i h1 h2
    cases j with
    | zero => simp [argBlks] at h1 h2; subst h1; subst h2; exact ⟨_, hm, .inr ⟨rfl, hc⟩, fun _ => rfl, rfl, Nat.le_refl _⟩
    | succ j => exact ih j b i (by simpa [argBlks] using h1) (by simpa using h2)
  | nilS hm he hg ih =>
    intro j b i h1 h2
    cases j with
    | zero => simp [argBlks] at h1 h2; subst h1; subst h2; exact ⟨_, hm, .inl rfl, fun h => by simp at h, he, Nat.zero_le _⟩
    | succ j => exact ih j b i (by simpa [argBlks] using h1) (by simpa using h2)
  | sub _ _ ih => exact ih
theorem FC.intro {P : Program} {f : FuncId} {fn : Func} {c : Code} {as rs : List FA} (hf : P.funcs[f]? = some fn) (hb : fn.body = some c) (hlen : (argVals 0 as).length ≤ fn.ntmps)
    (h : AW P fn.ntmps (argBlks as).length c ⟨envL (argVals 0 as), memL (argBlks as)⟩ (RetQ P fn (argBlks as).length (oneV (argVals (argBlks as).length rs)) (outBlks as ++ argBlks rs))) : FC P f as rs :=
  Ctr.intro hf hb hlen (by simp [outBlks_len]) h
inductive FArgs (E : Env) (M : Mem) : List FA → List Operand → List Value → List (Nat × Nat) → Prop
  | nil : FArgs E M [] [] [] []
  | v {x : Operand} {v : Value} {r : List FA} {xs : List Operand} {vs : List Value} {gs : List (Nat × Nat)} (h1 : aev E x = some v) (h2 : pureV v = true) (h : FArgs E M r xs vs gs) : FArgs E M (.v v :: r) (x :: xs) (v :: vs) gs
  | s {x : Operand} {id o n es : Nat} {b : Blk} {cells : List Value} {r : List FA} {xs : List Operand} {vs : List Value} {gs : List (Nat × Nat)} (h1 : aev E x = some (.slice (some ⟨id, o, none⟩) n 0)) (h2 : M id = some b)
      (h3 : (b.cells.drop o).take cells.length = cells) (h3' : o + cells.length ≤ b.cells.length) (h4 : b.es = es) (h5 : ∀ x ∈ cells, flatV x = true) (h : FArgs E M r xs vs gs) :
      FArgs E M (.s cells es n false :: r) (x :: xs) (.slice (some ⟨id, o, none⟩) n 0 :: vs) ((id, o) :: gs)
  | nilS {x : Operand} {id es : Nat} {b : Blk} {r : List FA} {xs : List Operand} {vs : List Value} {gs : List (Nat × Nat)} (h1 : aev E x = some (.slice none 0 0)) (h2 : M id = some b) (h4 : b.es = es) (h : FArgs E M r xs vs gs) :
      FArgs E M (.s [] es 0 false :: r) (x :: xs) (.slice none 0 0 :: vs) ((id, 0) :: gs)
  | p {x : Operand} {id es : Nat} {c c' : List Value} {r : List FA} {xs : List Operand} {vs : List Value} {gs : List (Nat × Nat)} (h1 : aev E x = some (.pointer (some ⟨id, 0, none⟩))) (h2 : M id = some ⟨c, true, es⟩)
      (h5 : ∀ x ∈ c, flatV x = true) (h6 : ∀ x ∈ c', flatV x = true) (h7 : c'.length = c.length) (h : FArgs E M r xs vs gs) : FArgs E M (.p c c' es :: r) (x :: xs) (.pointer (some ⟨id, 0, none⟩) :: vs) ((id, 0) :: gs)
theorem FArgs.rel {E : Env} {M : Mem} {D : Nat → Prop} {h : Rho} {as : List FA} {xs : List Operand} {vs : List Value} {gs : List (Nat × Nat)} (hg : FArgs E M as xs vs gs) :
    ∀ (k0 : Nat), (∀ j p, gs[j]? = some p → h (k0 + j) = ⟨p.1, p.2, none, 1⟩ ∧ D (k0 + j)) →
      ∀ (k : Nat) (x y : Value), (argVals k0 as)[k]? = some x → vs[k]? = some y → VR .arg D h x y := by
  induction hg with
  | nil => intro k0 _ k x y hx; simp [argVals] at hx
  | v _ hx' hg ih =>
    intro k0 h1 k x y hx hy
    cases k with
    | zero => simp [argVals] at hx hy; subst hx; subst hy; exact .pure hx'
    | succ k => exact ih k0 h1 k x y (by simpa [argVals] using hx) (by simpa using hy)
  | @s _ id o n _ _ _ _ _ _ _ _ _ _ _ _ _ hg ih =>
    intro k0 h1 k x y hx hy
    cases k with
    | zero =>
      simp [argVals] at hx hy; subst hx; subst hy
      obtain ⟨e, hd⟩ := h1 0 (id, o) rfl
      simp only [Nat.add_zero] at e hd
      have := VR.slice (m := .arg) (ρ := h) k0 0 n 0 hd (by simp) (by simp)
      rw [e] at this
      exact this
    | succ k =>
      refine ih (k0 + 1) (fun j i hj => ?_) k x y (by simpa [argVals] using hx) (by simpa using hy)
      have := h1 (j + 1) i (by simpa using hj)
      rw [show k0 + 1 + j = k0 + (j + 1) by omega]; exact this
  | nilS _ hm he hg ih =>
    intro k0 h1 k x y hx hy
    cases k with
    | zero => simp [argVals] at hx hy; subst hx; subst hy; exact .nilS _ (by simp)
    | succ k =>
      refine ih (k0 + 1) (fun j i hj => ?_) k x y (by simpa [argVals] using hx) (by simpa using hy)
      have := h1 (j + 1) i (by simpa using hj)
      rw [show k0 + 1 + j = k0 + (j + 1) by omega]; exact this
  | @p _ id _ _ _ _ _ _ _ _ _ _ _ _ hg ih =>
    intro k0 h1 k x y hx hy
    cases k with
    | zero =>
      simp [argVals] at hx hy; subst hx; subst hy
      obtain ⟨e, hd⟩ := h1 0 (id, 0) rfl
      simp only [Nat.add_zero] at e hd
      have := VR.ptr (m := .arg) (ρ := h) k0 0 hd
      rw [e] at this
      exact this
    | succ k =>
      refine ih (k0 + 1) (fun j i hj => ?_) k x y (by simpa [argVals] using hx) (by simpa using hy)
      have := h1 (j + 1) i (by simpa using hj)
      rw [show k0 + 1 + j = k0 + (j + 1) by omega]; exact this
def chg : List FA → List (Nat × Nat) → List (Nat × Blk)
  | .v _ :: r, gs => chg r gs
  | .sub _ _ _ :: r, gs => chg r gs
  | .s _ _ _ _ :: r, _ :: gs => chg r gs
  | .p _ c es :: r, g :: gs => (g.1, ⟨c, true, es⟩) :: chg r gs
  | _, _ => []
theorem FArgs.blk {E : Env} {M : Mem} {as : List FA} {xs : List Operand} {vs : List Value} {gs : List (Nat × Nat)} (hg : FArgs E M as xs vs gs) :
    ∀ (j : Nat) (b : Blk), (argBlks as)[j]? = some b → ∃ id o b', gs[j]? = some (id, o) ∧ M id = some b' ∧ (b'.cells.drop o).take b.cells.length = b.cells ∧ o + b.cells.length ≤ b'.cells.length ∧ b'.es = b.es ∧
      (b.rw = true → b'.rw = true ∧ o = 0 ∧ id ∈ keys (chg as gs)) ∧ ∀ x ∈ b.cells, flatV x = true := by
  induction hg with
  | nil => intro j b h; simp [argBlks] at h
  | v _ _ _ ih => exact ih
  | s h1 h2 h3 h3' h4 h5 hg ih =>
    intro j b h
    cases j with
    | zero => simp [argBlks] at h; subst h; exact ⟨_, _, _, rfl, h2, h3, h3', h4, (fun h => by cases h), h5⟩
    | succ j =>
      obtain ⟨id, o, b', a1, a2⟩ := ih j b (by simpa [argBlks] using h)
      exact ⟨id, o, b', by simpa using a1, a2⟩
  | nilS h1 h2 h4 hg ih =>
    intro j b h
    cases j with
    | zero => simp [argBlks] at h; subst h; exact ⟨_, _, _, rfl, h2, by simp, by simp, h4, (fun h => by cases h), by simp⟩
    | succ j =>
      obtain ⟨id, o, b', a1, a2⟩ := ih j b (by simpa [argBlks] using h)
      exact ⟨id, o, b', by simpa using a1, a2⟩
  | p h1 h2 h5 h6 h7 hg ih =>
    intro j b h
    cases j with
    | zero => simp [argBlks] at h; subst h; exact ⟨_, _, _, rfl, h2, by simp, by simp, rfl, (fun _ => ⟨rfl, rfl, by simp [chg, keys]⟩), h5⟩
    | succ j =>
      obtain ⟨id, o, b', a1, a2, a3, a4, a5, a6, a7⟩ := ih j b (by simpa [argBlks] using h)
      exact ⟨id, o, b', by simpa using a1, a2, a3, a4, a5, (fun h => ⟨(a6 h).1, (a6 h).2.1, by
        have := (a6 h).2.2
        simp only [chg, keys, List.map_cons, List.mem_cons] at this ⊢
        exact .inr this⟩), a7⟩
theorem Rep.ghost {C : Ctx} {ρ : Rho} {E : Env} {M : Mem} {a : Act} {w : World} (h : Rep C ρ ⟨E, M⟩ a w) {id : Nat} (es : Nat) (hid : M id = none) : ∃ ρ', Rep C ρ' ⟨E, upd M id ⟨[], true, es⟩⟩ a w := by
  let ρ' : Rho := ⟨fun i => if i = id then ⟨0, 0, some 0, es⟩ else ρ i, ρ.im⟩
  have hne : ∀ i, i ≠ id → ρ' i = ρ i := fun i hi => by simp only [ρ', hi, if_false]
  have hold : ∀ i, dom M i → ρ' i = ρ i := by
    rintro i ⟨b, hb⟩
    refine hne i fun e => ?_
    rw [e, hid] at hb; cases hb
  have hdom : ∀ i, dom M i → dom (upd M id ⟨[], true, es⟩) i := by
    rintro i ⟨b, hb⟩
    by_cases hi : i = id
    · exact ⟨⟨[], true, es⟩, by simp only [upd, hi, if_true]⟩
    · exact ⟨b, by simp only [upd, hi, if_false]; exact hb⟩
  refine ⟨ρ', h.size, h.defers, fun t v hv => ?_, fun i b hb => ?_, fun i hi => ?_, fun i hi => hdom i (h.low i hi), fun i b hb hr => ?_, h.frame, fun d hd => ⟨(h.im d hd).lt, fun k v hk => ?_, fun hc i b hb hr => ?_⟩, h.imsub, h.imnew, h.gl⟩
  · obtain ⟨u, hu, hv'⟩ := h.env t v hv
    exact ⟨u, hu, hv'.mono hdom hold fun _ h => h⟩
  · simp only [upd] at hb
    by_cases hi : i = id
    · rw [if_pos hi] at hb; cases hb
      subst hi
      have hl0 : (ρ' i).lim = some 0 := by simp [ρ']
      exact ⟨fun hs => by rcases hs with hs | hs
                          · exact absurd hl0 hs.2
                          · exact absurd rfl hs, fun k v hk => by simp at hk, (fun hr => absurd hl0 hr.2), (by simp [ρ']), (fun L hL => by simp [ρ'] at hL ⊢)⟩
    · rw [if_neg hi] at hb
      have hB := h.mem i b hb
      refine ⟨fun hs => by rw [hne i hi] at hs ⊢; exact hB.lt hs, fun k v hk => ?_, fun hr => ?_, by rw [hne i hi]; exact hB.es, by rw [hne i hi]; exact hB.room⟩
      · obtain ⟨u, hu, hv⟩ := hB.cells k v hk
        exact ⟨u, by rw [hne i hi]; exact hu, hv.mono hdom hold fun _ h => h⟩
      · rw [hne i hi] at hr
        have hW := hB.rw hr
        refine ⟨by rw [hne i hi]; exact hW.off, by rw [hne i hi]; exact hW.soft, by rw [hne i hi]; exact hW.lim, fun j bj hj hsj hne' => ?_⟩
        simp only [upd] at hj
        by_cases hji : j = id
        · rw [if_pos hji] at hj; cases hj
          have hl0 : (ρ' j).lim = some 0 := by simp [ρ', hji]
          rcases hsj with hs | hs
          · exact absurd hl0 hs.2
          · exact absurd rfl hs
        · rw [if_neg hji] at hj
          rw [hne j hji] at hsj
          rw [hne i hi, hne j hji]
          exact hW.lone j bj hj hsj hne'
  · obtain ⟨b, hb⟩ := h.low i hi
    rw [hold i ⟨b, hb⟩]; exact h.agree i hi
  · simp only [upd] at hb
    by_cases hi : i = id
    · have hl0 : (ρ' i).lim = some 0 := by simp [ρ', hi]
      exact absurd hl0 hr.2
    · rw [if_neg hi] at hb
      rw [hne i hi] at hr ⊢; exact h.own i b hb hr
  · obtain ⟨u', g1, g2⟩ := (h.im d hd).cells k v hk
    exact ⟨u', g1, g2.closed fun _ h => h⟩
  · simp only [upd] at hb
    by_cases hi : i = id
    · have hl0 : (ρ' i).lim = some 0 := by simp [ρ', hi]
      exact absurd hl0 hr.2
    · rw [if_neg hi] at hb
      rw [hne i hi] at hr ⊢; exact (h.im d hd).own hc i b hb hr
theorem AW.ghost {P : Program} {n m : Nat} {c : Code} {E : Env} {M : Mem} {Q : Exit → ASt → Prop} (id es : Nat) (hid : M id = none) (h : AW P n m c ⟨E, upd M id ⟨[], true, es⟩⟩ Q) : AW P n m c ⟨E, M⟩ Q :=
  fun C hn hm _ a w hR => let ⟨ρ', hR'⟩ := hR.ghost es hid; h C hn hm ρ' a w hR'
end Go.Proofs.YtlfadlfjjkppfaaGreatDoor.Sim
namespace Go.Proofs.YtlfadlfjjkppfaaGreatDoor.Sim
open Go
def vi (k : IntKind) (n : Nat) : Value := .int k n
theorem flat_vi {k : IntKind} (n : Nat) : flatV (vi k n) = true := rfl
theorem flat_bool (b : Bool) : flatV (.bool b) = true := rfl
inductive RVs (P : Program) (σ : ASt) : List ResultVar → List Value → Prop
  | nil : RVs P σ [] []
  | tmp {t : Nat} {v : Value} {r : List ResultVar} {vs : List Value} (h : σ.env t = some v) (hr : RVs P σ r vs) : RVs P σ (.tmp t :: r) (v :: vs)
  | val {r0 : ResultVar} {v : Value} {r : List ResultVar} {vs : List Value} (h : RVal P σ r0 v) (hr : RVs P σ r vs) : RVs P σ (r0 :: r) (v :: vs)
theorem RVs.get {P : Program} {σ : ASt} {rs : List ResultVar} {vs : List Value} (h : RVs P σ rs vs) : rs.length = vs.length ∧ ∀ (k : Nat) (r : ResultVar) (v : Value), rs[k]? = some r → vs[k]? = some v → RVal P σ r v := by
  induction h with
  | nil => exact ⟨rfl, fun k r v h => by simp at h⟩
  | tmp h _ ih =>
    refine ⟨by simp [ih.1], fun k r v hr hv => ?_⟩
    cases k with
    | zero => simp at hr hv; subst hr; subst hv; exact RVal.tmp h
    | succ k => exact ih.2 k r v (by simpa using hr) (by simpa using hv)
  | val h _ ih =>
    refine ⟨by simp [ih.1], fun k r v hr hv => ?_⟩
    cases k with
    | zero => simp at hr hv; subst hr; subst hv; exact h
    | succ k => exact ih.2 k r v (by simpa using hr) (by simpa using hv)
theorem RVal.cellAll {P : Program} {T : Tab} (H : TabOk P T) {σ : ASt} {x id sz : Nat} {t : TypeId} {cells : List Value} {rw : Bool} {es : Nat} (h : σ.env x = some (.pointer (some ⟨id, 0, none⟩))) (hb : σ.mem id = some ⟨cells, rw, es⟩)
    (ht : T.agg.lookup t = some true) (hs : T.sz.lookup t = some sz) (hl : cells.length = sz) : RVal P σ (.cell x t) (.agg cells.toArray) := by
  have := RVal.cellAgg (P := P) (σ := σ) (x := x) (o := 0) (sz := sz) h hb (H.agg t _ ht).1 (H.agg t _ ht).2 (H.sz t _ hs) (by simp only; omega)
  simp only [List.drop_zero] at this
  rwa [List.take_of_length_le (by omega)] at this
theorem RVal.cell1 {P : Program} {T : Tab} (H : TabOk P T) {σ : ASt} {x id o : Nat} {t : TypeId} {b : Blk} {v : Value} (h : σ.env x = some (.pointer (some ⟨id, o, none⟩))) (hb : σ.mem id = some b)
    (ht : T.agg.lookup t = some false) (hv : b.cells[o]? = some v) : RVal P σ (.cell x t) v := RVal.cell h hb (H.agg t _ ht).1 (H.agg t _ ht).2 hv
theorem flatM {α : Type} {f : α → Value} {l : List α} (hf : ∀ x, flatV (f x) = true) : ∀ x ∈ l.map f, flatV x = true := by
  intro x hx
  obtain ⟨y, _, rfl⟩ := List.mem_map.1 hx
  exact hf y
theorem pure_aggM {α : Type} {f : α → Value} {l : List α} (hf : ∀ x, flatV (f x) = true) : pureV (.agg (l.map f).toArray) = true := by
  show (l.map f).all flatV = true
  rw [List.all_eq_true]
  exact flatM hf
theorem VR.aggM {m : Md} {D : Nat → Prop} {ρ : Rho} {α : Type} {f : α → Value} {l : List α} (hf : ∀ x, flatV (f x) = true) : VR m D ρ (.agg (l.map f).toArray) (.agg (l.map f).toArray) := VR.pure (pure_aggM hf)
theorem PureOp.mono {P : Program} {o : Op} {E : Env} {v v' : Value} (h : PureOp P o E v) (he : v = v') : PureOp P o E v' := he ▸ h
section
variable {P : Program} {T : Tab} (H : TabOk P T)
variable {ops : Array Oper} {n i : Nat} {os : List Oper} {E : Env} {M : Mem} {D : List Eff → Prop} {K : ASt → Prop}
  {d : Tmp} {ty : TypeId} {ps : String} {af : Array Edge} {g : Option (Nat × Bool)}
include H
theorem AWo.makeI {t e : TypeId} {x y : Operand} {k by' : Nat} {kd : IntKind} (id : Nat) (hx : aev E x = some (.int .i64 (k : Nat))) (hy : aev E y = some (.int .i64 (k : Nat)))
    (ht : T.sl.lookup t = some e) (hs : T.sz.lookup e = some 1) (hz : T.zero.lookup e = some (.int kd 0))
    (hby : T.by'.lookup e = some by') (hlen : by' * k ≤ 281474976710656) (hn : k < 9223372036854775808) (hid : M id = none)
    (hw : wantA ops E ⟨some d, .makeSlice t x y, ty, ps, af, g⟩ = some true) (hd : Nat.blt d n = true)
    (hr : AWo P ops n (i + 1) os ⟨upd E d (.slice (some ⟨id, 0, none⟩) k 0), upd M id ⟨(List.replicate k 0).map (vi kd), true, 1⟩⟩ (fun es' => D (⟨[], [(id, ⟨(List.replicate k 0).map (vi kd), true, 1⟩)]⟩ :: es')) K) :
    AWo P ops n i (⟨some d, .makeSlice t x y, ty, ps, af, g⟩ :: os) ⟨E, M⟩ D K :=
  AWo.makeSlice H id _ hx hy ht hs (by decide) hz (c := .int kd 0) rfl rfl hby hlen hn (by simp [vi]) hid hw hd hr
end
end Go.Proofs.YtlfadlfjjkppfaaGreatDoor.Sim
namespace Go.Proofs.YtlfadlfjjkppfaaGreatDoor.Sim
open Go
def isDeep : Value → Bool
  | .iface t (.iface _ (.iface _ (.agg _))) => t == 987654321
  | .iface t (.tuple _) => t == 987654321
  | _ => false
theorem isDeep_inv {v : Value} (h : isDeep v = true) : (∃ n es cs, v = .iface 987654321 (.iface n (.iface es (.agg cs)))) ∨ ∃ cs, v = .iface 987654321 (.tuple cs) := by
  unfold isDeep at h
  split at h
  · rw [beq_iff_eq] at h; subst h; exact .inl ⟨_, _, _, rfl⟩
  · rw [beq_iff_eq] at h; subst h; exact .inr ⟨_, rfl⟩
  · cases h
theorem deep_rel {m : Md} (hm : m ≠ .real) {D : Nat → Prop} {h : Rho} {v : Value} (hv : isDeep v = true) : VR m D h v v := by
  obtain ⟨n, es, cs, rfl⟩ | ⟨cs, rfl⟩ := isDeep_inv hv
  · exact .deepA n es cs hm
  · exact .ptrA cs hm
def ren1 (h : Rho) : Value → Value
  | .pointer (some ⟨i, o, none⟩) => .pointer (some ⟨(h i).blk, (h i).off + o, none⟩)
  | .slice (some ⟨i, o, none⟩) n 0 => .slice (some ⟨(h i).blk, (h i).off + o, none⟩) n 0
  | .agg ⟨[.pointer (some ⟨i, o, none⟩)]⟩ => .agg ⟨[.pointer (some ⟨(h i).blk, (h i).off + o, none⟩)]⟩
  | v => v
def ok1 (n : Nat) : Value → Bool
  | .pointer (some ⟨i, _, none⟩) => Nat.blt i n
  | .slice (some ⟨i, _, none⟩) _ 0 => Nat.blt i n
  | .slice (some _) 0 1 => true
  | .agg ⟨[.pointer (some ⟨i, _, none⟩)]⟩ => Nat.blt i n
  | v => flatV v || isDeep v
def ren (h : Rho) : Value → Value
  | .agg xs => .agg (xs.toList.map (ren1 h)).toArray
  | .tuple xs => .tuple (xs.toList.map (ren1 h)).toArray
  | .func f xs ys => .func f (xs.toList.map (ren1 h)).toArray (ys.toList.map (ren1 h)).toArray
  | .iface t x => .iface t (ren1 h x)
  | v => ren1 h v
def okV (n : Nat) : Value → Bool
  | .agg xs => xs.toList.all (ok1 n)
  | .tuple xs => xs.toList.all (ok1 n)
  | .func f xs ys => okFn f && xs.toList.all (ok1 n) && ys.toList.all (ok1 n)
  | .iface t x => isDeep (.iface t x) || (t != 987654321 && (ok1 n x || pureV x))
  | v => ok1 n v
theorem flat_ren1 {h : Rho} {v : Value} (hv : flatV v = true) : ren1 h v = v := by
  unfold ren1
  split
  · simp [flatV] at hv
  · simp [flatV] at hv
  · simp [flatV] at hv
  · rfl
theorem flat_ok1 {n : Nat} {v : Value} (hv : flatV v = true) : ok1 n v = true := by
  unfold ok1
  split
  · simp [flatV] at hv
  · simp [flatV] at hv
  · rfl
  · simp [flatV] at hv
  · rw [hv]; rfl
theorem deep_ren {h : Rho} {v : Value} (hv : isDeep v = true) : ren h v = v := by
  obtain ⟨n, es, cs, rfl⟩ | ⟨cs, rfl⟩ := isDeep_inv hv <;> rfl
theorem deep_ren1 {h : Rho} {v : Value} (hv : isDeep v = true) : ren1 h v = v := by
  obtain ⟨n, es, cs, rfl⟩ | ⟨cs, rfl⟩ := isDeep_inv hv <;> rfl
theorem deep_okV {n : Nat} {v : Value} (hv : isDeep v = true) : okV n v = true := by
  obtain ⟨n', es, cs, rfl⟩ | ⟨cs, rfl⟩ := isDeep_inv hv <;> rfl
theorem flat_ren {h : Rho} {v : Value} (hv : flatV v = true) : ren h v = v := by
  unfold ren
  split
  · simp [flatV] at hv
  · simp only [flatV, Array.isEmpty_iff] at hv; subst hv; rfl
  · simp only [flatV, Bool.and_eq_true, Array.isEmpty_iff] at hv
    obtain ⟨⟨_, e1⟩, e2⟩ := hv
    subst e1; subst e2; rfl
  · obtain ⟨rfl, _⟩ := flat_iface hv; rfl
  · exact flat_ren1 hv
theorem flat_okV {n : Nat} {v : Value} (hv : flatV v = true) : okV n v = true := by
  unfold okV
  split
  · simp [flatV] at hv
  · simp only [flatV, Array.isEmpty_iff] at hv; subst hv; rfl
  · simp only [flatV, Bool.and_eq_true, Array.isEmpty_iff] at hv
    obtain ⟨⟨e0, e1⟩, e2⟩ := hv
    subst e1; subst e2; simp [e0]
  · obtain ⟨rfl, ht⟩ := flat_iface hv
    simp [ht, pureV]
  · exact flat_ok1 hv
theorem ren1_dead {h : Rho} (p : Addr) : ren1 h (.slice (some p) 0 1) = .slice (some p) 0 1 := by
  obtain ⟨a, o, f⟩ := p
  cases f <;> rfl
theorem ren1_rel {m : Md} (hm : m ≠ .real) {D : Nat → Prop} {h : Rho} {n : Nat} {v : Value} (hv : ok1 n v = true) (hD : ∀ i, i < n → D i) : VR m D h v (ren1 h v) := by
  unfold ok1 at hv
  split at hv
  · exact .ptr _ _ (hD _ (Nat.le_of_ble_eq_true hv))
  · exact .slice _ _ _ 0 (hD _ (Nat.le_of_ble_eq_true hv)) (fun _ => rfl) (fun e => absurd e hm)
  · rw [ren1_dead]; exact .dead _ _ 1 (fun _ => rfl)
  · rename_i i o
    refine .agg _ _ rfl fun k x y hx hy => ?_
    cases k with
    | zero =>
      simp only [List.getElem?_toArray, List.getElem?_cons_zero, Option.some.injEq] at hx hy
      subst hx; subst hy
      exact .ptr _ _ (hD _ (Nat.le_of_ble_eq_true hv))
    | succ k => simp at hx
  · rw [Bool.or_eq_true] at hv
    rcases hv with hv | hv
    · rw [flat_ren1 hv]; exact .flat _ hv
    · rw [deep_ren1 hv]; exact deep_rel hm hv
theorem ren_rel {m : Md} (hm : m ≠ .real) {D : Nat → Prop} {h : Rho} {n : Nat} {v : Value} (hv : okV n v = true) (hD : ∀ i, i < n → D i) : VR m D h v (ren h v) := by
  have key : ∀ (xs : Array Value), xs.toList.all (ok1 n) = true → ∀ (k : Nat) (x y : Value), xs[k]? = some x → ((xs.toList.map (ren1 h)).toArray)[k]? = some y → VR m D h x y := by
    intro xs ha k x y hx hy
    rw [List.all_eq_true] at ha
    rw [List.getElem?_toArray, List.getElem?_map, Array.getElem?_toList, hx] at hy
    cases hy
    exact ren1_rel hm (ha x (by rw [Array.mem_toList_iff]; exact Array.mem_of_getElem? hx)) hD
  unfold okV at hv
  split at hv
  · exact .agg _ _ (by simp) (key _ hv)
  · exact .tuple _ _ (by simp) (key _ hv)
  · simp only [Bool.and_eq_true] at hv
    exact .func _ _ _ _ _ hv.1.1 (by simp) (by simp) (key _ hv.1.2) (key _ hv.2)
  · rename_i t x
    rw [Bool.or_eq_true] at hv
    rcases hv with hv | hv
    · rw [deep_ren hv]; exact deep_rel hm hv
    rw [Bool.and_eq_true, bne_iff_ne] at hv
    obtain ⟨ht, hv⟩ := hv
    refine .iface _ _ _ ht ?_
    rw [Bool.or_eq_true] at hv
    by_cases h1 : ok1 n x = true
    · exact ren1_rel hm h1 hD
    · have h2 := hv.resolve_left h1
      have h3 : ren1 h x = x := by
        cases x with
        | pointer a =>
          cases a with
          | none => rfl
          | some a => simp [pureV, flatV] at h2
        | slice a k c =>
          cases a with
          | none => rfl
          | some a => simp [pureV, flatV] at h2
        | agg cs =>
          unfold ren1
          split
          · rename_i e; cases e
          · rename_i e; cases e
          · rename_i e; cases e; simp [pureV, flatV] at h2
          · rfl
        | _ => rfl
      rw [h3]; exact .pure h2
  · rename_i h1 h2 h3 h4
    have : ren h v = ren1 h v := by
      unfold ren
      split
      · exact absurd rfl (h1 _)
      · exact absurd rfl (h2 _)
      · exact absurd rfl (h3 _ _ _)
      · exact absurd rfl (h4 _ _)
      · rfl
    rw [this]
    exact ren1_rel hm hv hD
def OkL (n : Nat) (l : List Value) : Prop := ∀ x ∈ l, okV n x = true
theorem OkL.flat {n : Nat} {l : List Value} (h : ∀ x ∈ l, flatV x = true) : OkL n l := fun x hx => flat_okV (h x hx)
theorem OkL.all {n : Nat} {l : List Value} (h : l.all (okV n) = true) : OkL n l := fun x hx => List.all_eq_true.1 h x hx
theorem flat_map_ren {h : Rho} {l : List Value} (hl : ∀ x ∈ l, flatV x = true) : l.map (ren h) = l := by
  conv => rhs; rw [← List.map_id l]
  exact List.map_congr_left fun x hx => flat_ren (hl x hx)
inductive RelL (h : Rho) (n : Nat) : List Value → List Value → Prop
  | nil : RelL h n [] []
  | cons {x y : Value} {r s : List Value} (h1 : okV n x = true) (h2 : ren h x = y) (hr : RelL h n r s) : RelL h n (x :: r) (y :: s)
  | pure {x : Value} {r s : List Value} (h1 : pureV x = true) (hr : RelL h n r s) : RelL h n (x :: r) (x :: s)
  | nilS {p : Addr} {r s : List Value} (hr : RelL h n r s) : RelL h n (.slice (some p) 0 0 :: r) (.slice none 0 0 :: s)
  | deepN {es : Nat} {r s : List Value} (hr : RelL h n r s) : RelL h n (deep 0 es [] :: r) (.slice none 0 0 :: s)
theorem RelL.get {h : Rho} {n : Nat} {D : Nat → Prop} (hD : ∀ i, i < n → D i) {l l' : List Value} (hr : RelL h n l l') :
    l.length = l'.length ∧ ∀ (k : Nat) (x y : Value), l[k]? = some x → l'[k]? = some y → VR .arg D h x y := by
  induction hr with
  | nil => exact ⟨rfl, fun k x y hx => by simp at hx⟩
  | cons h1 h2 _ ih =>
    refine ⟨by simp [ih.1], fun k x y hx hy => ?_⟩
    cases k with
    | zero => simp at hx hy; subst hx; subst hy; subst h2; exact ren_rel (by simp) h1 hD
    | succ k => exact ih.2 k x y (by simpa using hx) (by simpa using hy)
  | pure h1 _ ih =>
    refine ⟨by simp [ih.1], fun k x y hx hy => ?_⟩
    cases k with
    | zero => simp at hx hy; subst hx; subst hy; exact .pure h1
    | succ k => exact ih.2 k x y (by simpa using hx) (by simpa using hy)
  | nilS _ ih =>
    refine ⟨by simp [ih.1], fun k x y hx hy => ?_⟩
    cases k with
    | zero => simp at hx hy; subst hx; subst hy; exact .nilS _ (by simp)
    | succ k => exact ih.2 k x y (by simpa using hx) (by simpa using hy)
  | deepN _ ih =>
    refine ⟨by simp [ih.1], fun k x y hx hy => ?_⟩
    cases k with
    | zero => simp at hx hy; subst hx; subst hy; exact .deepN _ (by simp)
    | succ k => exact ih.2 k x y (by simpa using hx) (by simpa using hy)
inductive RelR (h : Rho) (n : Nat) : List Value → List Value → Prop
  | nil : RelR h n [] []
  | cons {x y : Value} {r s : List Value} (h1 : okV n x = true) (h2 : ren h x = y) (hr : RelR h n r s) : RelR h n (x :: r) (y :: s)
  | pure {x : Value} {r s : List Value} (h1 : pureV x = true) (hr : RelR h n r s) : RelR h n (x :: r) (x :: s)
theorem RelR.get {h : Rho} {n : Nat} {D : Nat → Prop} (hD : ∀ i, i < n → D i) {l l' : List Value} (hr : RelR h n l l') :
    l.length = l'.length ∧ ∀ (k : Nat) (x y : Value), l[k]? = some x → l'[k]? = some y → VR .res D h x y := by
  induction hr with
  | nil => exact ⟨rfl, fun k x y hx => by simp at hx⟩
  | cons h1 h2 _ ih =>
    refine ⟨by simp [ih.1], fun k x y hx hy => ?_⟩
    cases k with
    | zero => simp at hx hy; subst hx; subst hy; subst h2; exact ren_rel (by simp) h1 hD
    | succ k => exact ih.2 k x y (by simpa using hx) (by simpa using hy)
  | pure h1 _ ih =>
    refine ⟨by simp [ih.1], fun k x y hx hy => ?_⟩
    cases k with
    | zero => simp at hx hy; subst hx; subst hy; exact .pure h1
    | succ k => exact ih.2 k x y (by simpa using hx) (by simpa using hy)
theorem frN {M : Mem} : ∀ i ∈ ([] : List Nat), M i = none := fun i hi => by simp at hi
theorem frC {M : Mem} {i : Nat} {r : List Nat} (h : M i = none) (hr : ∀ i ∈ r, M i = none) : ∀ j ∈ i :: r, M j = none := fun j hj => by
  rcases List.mem_cons.1 hj with rfl | hj
  · exact h
  · exact hr j hj
def OutL (m : Nat) (nids : List Nat) (M : Mem) (n : Nat) : Nat → List Blk → Prop
  | _, [] => True
  | k, b :: r => (∃ b', M (hmap m nids k).blk = some b' ∧ b'.cells.take b.cells.length = b.cells.map (ren (hmap m nids)) ∧ OkL n b.cells ∧
      (b.rw = true ∨ (m ≤ k ∧ b.cells ≠ []) → b'.rw = true) ∧ b'.es = b.es ∧ b.cells.length ≤ b'.cells.length) ∧ OutL m nids M n (k + 1) r
theorem OutL.get {m : Nat} {nids : List Nat} {M : Mem} {n : Nat} : ∀ {l : List Blk} {k0 : Nat}, OutL m nids M n k0 l → ∀ (j : Nat) (b : Blk), l[j]? = some b →
    ∃ b', M (hmap m nids (k0 + j)).blk = some b' ∧ b'.cells.take b.cells.length = b.cells.map (ren (hmap m nids)) ∧ OkL n b.cells ∧
      (b.rw = true ∨ (m ≤ k0 + j ∧ b.cells ≠ []) → b'.rw = true) ∧ b'.es = b.es ∧ b.cells.length ≤ b'.cells.length
  | [], _, _, j, b, hj => by simp at hj
  | c :: r, k0, h, j, b, hj => by
    cases j with
    | zero => simp at hj; subst hj; exact h.1
    | succ j =>
      have := OutL.get h.2 j b (by simpa using hj)
      rw [show k0 + 1 + j = k0 + (j + 1) by omega] at this
      exact this
theorem OutL.whole {m : Nat} {nids : List Nat} {M : Mem} {n k : Nat} {c c' : List Value} {rw rw' : Bool} {es : Nat} {r : List Blk} (hM : M (hmap m nids k).blk = some ⟨c', rw', es⟩)
    (hc : c.map (ren (hmap m nids)) = c') (hok : OkL n c) (hrw : rw = true ∨ (m ≤ k ∧ c ≠ []) → rw' = true) (hr : OutL m nids M n (k + 1) r) : OutL m nids M n k (⟨c, rw, es⟩ :: r) :=
  ⟨⟨_, hM, by subst hc; simp [List.take_of_length_le], hok, hrw, rfl, by subst hc; simp⟩, hr⟩
theorem OutL.flat {m : Nat} {nids : List Nat} {M : Mem} {n k : Nat} {c : List Value} {rw rw' : Bool} {es : Nat} {r : List Blk} (hM : M (hmap m nids k).blk = some ⟨c, rw', es⟩)
    (hf : ∀ x ∈ c, flatV x = true) (hrw : rw = true ∨ (m ≤ k ∧ c ≠ []) → rw' = true) (hr : OutL m nids M n (k + 1) r) : OutL m nids M n k (⟨c, rw, es⟩ :: r) :=
  OutL.whole hM (flat_map_ren hf) (OkL.flat hf) hrw hr
theorem RetQ.gc {P : Program} {fn : Func} {e : Exit} {σ : ASt} {m : Nat} {rv : List Value} {Mo : List Blk} (vs : List Value) (nids : List Nat) (rvs : List ResultVar) (he : e = .ret ∨ e = .normal)
    (hr : fn.results = rvs.toArray) (hv : RVs P σ rvs vs) (hl : Mo.length = m + nids.length) (hres : RelL (hmap m nids) Mo.length rv vs) (hb : OutL m nids σ.mem Mo.length 0 Mo)
    (hnd : nids.Nodup) (hfar : (nids.all fun i => Nat.ble m i) = true) : RetQ P fn m (oneV rv) Mo e σ := by
  have hD : ∀ i, i < Mo.length → dom (memL Mo) i := fun i hi => dom_memL.2 hi
  obtain ⟨g1, g2⟩ := hres.get hD
  refine ⟨he, nids, oneV vs, ARes.of hr hv.get.1 hv.get.2 rfl, hl, oneV_rel g1 g2, fun k b hk => ?_, hnd, fun i hi => Nat.le_of_ble_eq_true (List.all_eq_true.1 hfar i hi)⟩
  obtain ⟨b', h1, h2, h3, h4, h5, h6⟩ := hb.get k b hk
  rw [Nat.zero_add] at h1 h4
  refine ⟨b', h1, fun c x hx => ?_, h4, h5, h6⟩
  have hc : c < b.cells.length := (List.getElem?_eq_some_iff.1 hx).1
  refine ⟨ren (hmap m nids) x, ?_, ren_rel (by simp) (h3 x (List.mem_of_getElem? hx)) hD⟩
  have : (b'.cells.take b.cells.length)[c]? = some (ren (hmap m nids) x) := by rw [h2, List.getElem?_map, hx]; rfl
  rwa [List.getElem?_take, if_pos hc] at this
inductive Evs (E : Env) : List Operand → List Value → Prop
  | nil : Evs E [] []
  | cons {x : Operand} {v : Value} {r : List Operand} {s : List Value} (h : aev E x = some v) (hr : Evs E r s) : Evs E (x :: r) (v :: s)
theorem Evs.map {E : Env} {xs : List Operand} {vs : List Value} (h : Evs E xs vs) : xs.map (aev E) = vs.map some := by
  induction h with
  | nil => rfl
  | cons h _ ih => simp [h, ih]
inductive FitL (h : Rho) (n : Nat) (M : Mem) : List Blk → List (Nat × Nat) → Prop
  | nil : FitL h n M [] []
  | cons {b0 b : Blk} {p : Nat × Nat} {r : List Blk} {g : List (Nat × Nat)} (h1 : M p.1 = some b) (h2 : (b.cells.drop p.2).take b0.cells.length = b0.cells.map (ren h)) (h3 : OkL n b0.cells)
      (h4 : p.2 + b0.cells.length ≤ b.cells.length) (h5 : b.es = b0.es) (h6 : b0.rw = true → b.rw = true ∧ p.2 = 0) (hr : FitL h n M r g) : FitL h n M (b0 :: r) (p :: g)
theorem FitL.whole {h : Rho} {n : Nat} {M : Mem} {c c' : List Value} {rw rw' : Bool} {es id : Nat} {r : List Blk} {g : List (Nat × Nat)} (h1 : M id = some ⟨c', rw', es⟩) (h2 : c.map (ren h) = c') (h3 : OkL n c)
    (h6 : rw = true → rw' = true) (hr : FitL h n M r g) : FitL h n M (⟨c, rw, es⟩ :: r) ((id, 0) :: g) :=
  .cons h1 (by subst h2; simp [List.take_of_length_le]) h3 (by subst h2; simp) rfl (fun e => ⟨h6 e, rfl⟩) hr
theorem FitL.flat {h : Rho} {n : Nat} {M : Mem} {c : List Value} {rw rw' : Bool} {es id : Nat} {r : List Blk} {g : List (Nat × Nat)} (h1 : M id = some ⟨c, rw', es⟩) (h3 : ∀ x ∈ c, flatV x = true)
    (h6 : rw = true → rw' = true) (hr : FitL h n M r g) : FitL h n M (⟨c, rw, es⟩ :: r) ((id, 0) :: g) :=
  .whole h1 (flat_map_ren h3) (OkL.flat h3) h6 hr
theorem FitL.get {h : Rho} {n : Nat} {M : Mem} {M0 : List Blk} {g : List (Nat × Nat)} (hf : FitL h n M M0 g) : g.length = M0.length ∧ ∀ (k : Nat) (b0 : Blk), M0[k]? = some b0 → ∃ b p, g[k]? = some p ∧ M p.1 = some b ∧
    (b.cells.drop p.2).take b0.cells.length = b0.cells.map (ren h) ∧ OkL n b0.cells ∧ p.2 + b0.cells.length ≤ b.cells.length ∧ b.es = b0.es ∧ (b0.rw = true → b.rw = true ∧ p.2 = 0) := by
  induction hf with
  | nil => exact ⟨rfl, fun k b0 hk => by simp at hk⟩
  | cons h1 h2 h3 h4 h5 h6 _ ih =>
    refine ⟨by simp [ih.1], fun k b0 hk => ?_⟩
    cases k with
    | zero => simp at hk; subst hk; exact ⟨_, _, rfl, h1, h2, h3, h4, h5, h6⟩
    | succ k => simpa using ih.2 k b0 (by simpa using hk)
def loneB : List Blk → List (Nat × Nat) → Bool
  | b :: r, p :: g => (r.zip g).all (fun q => !(b.rw || q.1.rw) || q.2.1 != p.1) && loneB r g
  | _, _ => true
theorem loneB_spec : ∀ {M0 : List Blk} {g : List (Nat × Nat)}, loneB M0 g = true → ∀ (k k' : Nat) (b b' : Blk) (p p' : Nat × Nat), M0[k]? = some b → M0[k']? = some b' → g[k]? = some p → g[k']? = some p' →
    (b.rw = true ∨ b'.rw = true) → k ≠ k' → p'.1 ≠ p.1
  | [], _, _, k, k', b, b', p, p', hb, _, _, _, _, _ => by simp at hb
  | c :: r, [], _, k, k', b, b', p, p', hb, hb', hp, hp', _, _ => by simp at hp
  | c :: r, q :: g, h, k, k', b, b', p, p', hb, hb', hp, hp', hw, hne => by
    simp only [loneB, Bool.and_eq_true, List.all_eq_true] at h
    have zip : ∀ (j : Nat) (x : Blk) (y : Nat × Nat), r[j]? = some x → g[j]? = some y → (x, y) ∈ r.zip g := fun j x y hx hy =>
      List.mem_of_getElem? (i := j) (by rw [List.getElem?_zip_eq_some]; exact ⟨hx, hy⟩)
    cases k with
    | zero =>
      cases k' with
      | zero => exact absurd rfl hne
      | succ j =>
        simp at hb hb' hp hp'
        have := h.1 _ (zip j b' p' hb' hp')
        subst hb; subst hp
        rw [show (c.rw || b'.rw) = true by rcases hw with h | h <;> simp [h]] at this
        simpa using this
    | succ j =>
      cases k' with
      | zero =>
        simp at hb hb' hp hp'
        have := h.1 _ (zip j b p hb hp)
        subst hb'; subst hp'
        rw [show (c.rw || b.rw) = true by rcases hw with h | h <;> simp [h]] at this
        intro e
        simp at this
        exact this e.symm
      | succ j' => exact loneB_spec h.2 j j' b b' p p' (by simpa using hb) (by simpa using hb') (by simpa using hp) (by simpa using hp') hw (by omega)
inductive NewL (h : Rho) (n : Nat) : List Blk → List Blk → List (Nat × Nat) → List Nat → List (Nat × Blk) → Prop
  | nil : NewL h n [] [] [] [] []
  | keep {b0 bo : Blk} {p : Nat × Nat} {r s : List Blk} {g : List (Nat × Nat)} {ns : List Nat} {new : List (Nat × Blk)} (h1 : b0.rw = false) (hr : NewL h n r s g ns new) : NewL h n (b0 :: r) (bo :: s) (p :: g) ns new
  | chg {b0 bo : Blk} {p : Nat × Nat} {cells : List Value} {r s : List Blk} {g : List (Nat × Nat)} {ns : List Nat} {new : List (Nat × Blk)} (h1 : b0.rw = true) (h2 : bo.rw = true) (h3 : bo.cells.map (ren h) = cells) (h4 : OkL n bo.cells)
      (hr : NewL h n r s g ns new) : NewL h n (b0 :: r) (bo :: s) (p :: g) ns ((p.1, ⟨cells, true, bo.es⟩) :: new)
  | gone {b0 bo : Blk} {p : Nat × Nat} {cells : List Value} {r s : List Blk} {g : List (Nat × Nat)} {ns : List Nat} {new : List (Nat × Blk)} (h1 : b0.rw = true) (h3 : bo.cells.map (ren h) = cells) (h4 : OkL n bo.cells)
      (hr : NewL h n r s g ns new) : NewL h n (b0 :: r) (bo :: s) (p :: g) ns ((p.1, ⟨cells, bo.rw, bo.es⟩) :: new)
  | new {bo : Blk} {i : Nat} {cells : List Value} {s : List Blk} {ns : List Nat} {new : List (Nat × Blk)} (h3 : bo.cells.map (ren h) = cells) (h4 : OkL n bo.cells)
      (hr : NewL h n [] s [] ns new) : NewL h n [] (bo :: s) [] (i :: ns) ((i, ⟨cells, bo.rw, bo.es⟩) :: new)
theorem NewL.get {h : Rho} {n : Nat} {M0 Mo : List Blk} {g : List (Nat × Nat)} {ns : List Nat} {new : List (Nat × Blk)} (hn : NewL h n M0 Mo g ns new) :
    Mo.length = M0.length + ns.length ∧ (∀ i ∈ ns, i ∈ keys new) ∧ (∀ (k : Nat) (b : Blk) (p : Nat × Nat), M0[k]? = some b → b.rw = true → g[k]? = some p → p.1 ∈ keys new) ∧
    ∀ q ∈ new, ∃ (k : Nat) (bo : Blk), Mo[k]? = some bo ∧ ((∃ p bi, k < M0.length ∧ g[k]? = some p ∧ q.1 = p.1 ∧ M0[k]? = some bi ∧ bi.rw = true) ∨ (M0.length ≤ k ∧ ns[k - M0.length]? = some q.1)) ∧
      q.2.cells = bo.cells.map (ren h) ∧ OkL n bo.cells ∧ (q.2.rw = true → bo.rw = true) ∧ q.2.es = bo.es := by
  induction hn with
  | nil => exact ⟨rfl, fun i hi => by simp at hi, fun k b p hk => by simp at hk, fun q hq => by simp at hq⟩
  | @keep b0 bo p r s g ns new h1 _ ih =>
    obtain ⟨i1, i2, i3, i4⟩ := ih
    refine ⟨by simp [i1]; omega, i2, fun k b p' hk hb hp => ?_, fun q hq => ?_⟩
    · cases k with
      | zero => simp at hk; subst hk; rw [h1] at hb; cases hb
      | succ k => exact i3 k b p' (by simpa using hk) hb (by simpa using hp)
    · obtain ⟨k, bo', a1, a2, a3⟩ := i4 q hq
      refine ⟨k + 1, bo', by simpa using a1, ?_, a3⟩
      rcases a2 with ⟨p', bi, c1, c2, c3, c4, c5⟩ | ⟨c1, c2⟩
      · exact .inl ⟨p', bi, by simp; omega, by simpa using c2, c3, by simpa using c4, c5⟩
      · exact .inr ⟨by simp; omega, by simpa using c2⟩
  | @chg b0 bo p cells r s g ns new h1 h2 h3 h4 _ ih =>
    obtain ⟨i1, i2, i3, i4⟩ := ih
    refine ⟨by simp [i1]; omega, fun i hi => by simp only [keys, List.map_cons, List.mem_cons]; exact .inr (i2 i hi), fun k b p' hk hb hp => ?_, fun q hq => ?_⟩
    · simp only [keys, List.map_cons, List.mem_cons]
      cases k with
      | zero => simp at hp; subst hp; exact .inl rfl
      | succ k => exact .inr (i3 k b p' (by simpa using hk) hb (by simpa using hp))
    · rcases List.mem_cons.1 hq with rfl | hq
      · exact ⟨0, bo, rfl, .inl ⟨p, b0, by simp, rfl, rfl, rfl, h1⟩, h3.symm, h4, fun _ => h2, rfl⟩
      · obtain ⟨k, bo', a1, a2, a3⟩ := i4 q hq
        refine ⟨k + 1, bo', by simpa using a1, ?_, a3⟩
        rcases a2 with ⟨p', bi, c1, c2, c3, c4, c5⟩ | ⟨c1, c2⟩
        · exact .inl ⟨p', bi, by simp; omega, by simpa using c2, c3, by simpa using c4, c5⟩
        · exact .inr ⟨by simp; omega, by simpa using c2⟩
  | @gone b0 bo p cells r s g ns new h1 h3 h4 _ ih =>
    obtain ⟨i1, i2, i3, i4⟩ := ih
    refine ⟨by simp [i1]; omega, fun i hi => by simp only [keys, List.map_cons, List.mem_cons]; exact .inr (i2 i hi), fun k b p' hk hb hp => ?_, fun q hq => ?_⟩
    · simp only [keys, List.map_cons, List.mem_cons]
      cases k with
      | zero => simp at hp; subst hp; exact .inl rfl
      | succ k => exact .inr (i3 k b p' (by simpa using hk) hb (by simpa using hp))
    · rcases List.mem_cons.1 hq with rfl | hq
      · exact ⟨0, bo, rfl, .inl ⟨p, b0, by simp, rfl, rfl, rfl, h1⟩, h3.symm, h4, fun h => h, rfl⟩
      · obtain ⟨k, bo', a1, a2, a3⟩ := i4 q hq
        refine ⟨k + 1, bo', by simpa using a1, ?_, a3⟩
        rcases a2 with ⟨p', bi, c1, c2, c3, c4, c5⟩ | ⟨c1, c2⟩
        · exact .inl ⟨p', bi, by simp; omega, by simpa using c2, c3, by simpa using c4, c5⟩
        · exact .inr ⟨by simp; omega, by simpa using c2⟩
  | @new bo i cells s ns new h3 h4 _ ih =>
    obtain ⟨i1, i2, i3, i4⟩ := ih
    refine ⟨by simp [i1], fun j hj => ?_, fun k b p' hk => by simp at hk, fun q hq => ?_⟩
    · simp only [keys, List.map_cons, List.mem_cons]
      rcases List.mem_cons.1 hj with rfl | hj
      · exact .inl rfl
      · exact .inr (i2 j hj)
    · rcases List.mem_cons.1 hq with rfl | hq
      · exact ⟨0, bo, rfl, .inr ⟨Nat.zero_le _, rfl⟩, h3.symm, h4, fun h => h, rfl⟩
      · obtain ⟨k, bo', a1, a2, a3⟩ := i4 q hq
        refine ⟨k + 1, bo', by simpa using a1, ?_, a3⟩
        rcases a2 with ⟨p', bi, c1, c2, c3, c4, c5⟩ | ⟨c1, c2⟩
        · simp at c1
        · exact .inr ⟨Nat.zero_le _, by simpa using c2⟩
theorem Fits.of {M : Mem} {M0 Mo : List Blk} {g : List (Nat × Nat)} {nids : List Nat} {new : List (Nat × Blk)} (hf : FitL (gmap g nids) M0.length M M0 g) (hl : loneB M0 g = true)
    (hn : NewL (gmap g nids) Mo.length M0 Mo g nids new) (hfr : ∀ i ∈ nids, M i = none) (hnd : nids.Nodup) : Fits M M0 Mo g nids new := by
  obtain ⟨hgl, hg⟩ := hf.get
  obtain ⟨n1, n2, n3, n4⟩ := hn.get
  have hgp : ∀ k p, g[k]? = some p → gmap g nids k = ⟨p.1, p.2, none, 1⟩ := fun k p hk => by
    have : k < g.length := (List.getElem?_eq_some_iff.1 hk).1
    simp only [gmap, this, if_true, List.getD_eq_getElem?_getD, hk, Option.getD_some]
  have hgn : ∀ j i, nids[j]? = some i → gmap g nids (g.length + j) = ⟨i, 0, none, 1⟩ := fun j i hj => by
    simp only [gmap]
    rw [if_neg (by omega), Nat.add_sub_cancel_left, List.getD_eq_getElem?_getD, hj]; rfl
  refine ⟨hgl, n1, fun k b0 hk => ?_, fun q hq => ?_, fun i hi => ⟨n2 i hi, fun hm => ?_⟩, hnd⟩
  · obtain ⟨b, p, a1, a2, a3, a4, a5, a6, a7⟩ := hg k b0 hk
    rw [hgp k p a1]
    refine ⟨b, a2, fun c x hx => ?_, a6, a5, fun hr => ⟨(a7 hr).1, (a7 hr).2, fun k' b' hk' hne => ?_, n3 k b0 p hk hr a1⟩⟩
    · have hc : c < b0.cells.length := (List.getElem?_eq_some_iff.1 hx).1
      refine ⟨ren (gmap g nids) x, ?_, ren_rel (by simp) (a4 x (List.mem_of_getElem? hx)) fun i hi => dom_memL.2 hi⟩
      have : ((b.cells.drop p.2).take b0.cells.length)[c]? = some (ren (gmap g nids) x) := by rw [a3, List.getElem?_map, hx]; rfl
      rwa [List.getElem?_take, if_pos hc, List.getElem?_drop] at this
    · obtain ⟨_, p', c1, _⟩ := hg k' b' hk'
      rw [hgp k' p' c1]
      exact loneB_spec hl k k' b0 b' p p' hk hk' a1 c1 (.inl hr) (Ne.symm hne)
  · obtain ⟨k, bo, a1, a2, a3, a4, a5, a6⟩ := n4 q hq
    refine ⟨k, bo, a1, ?_, ?_, fun c y hy => ?_, a5, a6, by rw [a3]; simp⟩
    · rcases a2 with ⟨p, bi, c1, c2, c3, c4, c5⟩ | ⟨c1, c2⟩
      · rw [hgp k p c2]; exact c3
      · have := hgn _ _ c2
        rw [hgl, show M0.length + (k - M0.length) = k by omega] at this
        rw [this]
    · rcases a2 with ⟨p, bi, c1, c2, c3, c4, c5⟩ | ⟨c1, c2⟩
      · exact .inr ⟨bi, c4, c5⟩
      · exact .inl c1
    · rw [a3, List.getElem?_map] at hy
      cases hx : bo.cells[c]? with
      | none => rw [hx] at hy; simp at hy
      | some x =>
        rw [hx] at hy
        cases hy
        exact ⟨x, rfl, ren_rel (by simp) (a4 x (List.mem_of_getElem? hx)) fun i hi => dom_memL.2 hi⟩
  · obtain ⟨p, hp, rfl⟩ := List.mem_map.1 hm
    obtain ⟨k, hk⟩ := List.mem_iff_getElem?.1 hp
    have hkl : k < M0.length := by rw [← hgl]; exact (List.getElem?_eq_some_iff.1 hk).1
    obtain ⟨b, p', c1, c2, _⟩ := hg k _ (List.getElem?_eq_getElem hkl)
    rw [hk] at c1; cases c1
    rw [hfr _ hi] at c2; cases c2
section
variable {P : Program} {ops : Array Oper} {n i : Nat} {os : List Oper} {E : Env} {M : Mem} {D : List Eff → Prop} {K : ASt → Prop}
  {d : Option Tmp} {ty : TypeId} {ps : String} {af : Array Edge} {gd : Option (Nat × Bool)} {f : FuncId} {aops : Array Operand} {tys : Array TypeId} {vals : List Value} {fop : Operand}
theorem AWo.callX {vs rv rv' : List Value} {M0 Mo : List Blk} (S : Ctr P f vs M0 (oneV rv) Mo) (hb : Bodied P f) (g : List (Nat × Nat)) (nids : List Nat) {new : List (Nat × Blk)} {fs cs : Array Value} {allv : List Value} {v : Value} {M' : Mem}
    (hf : aev E fop = some (.func (.func f) fs cs)) (hx : Evs E aops.toList vals) (hall : fs.toList ++ vals ++ cs.toList = allv)
    (hargs : RelL (gmap g nids) M0.length vs allv) (hfit : FitL (gmap g nids) M0.length M M0 g) (hl : loneB M0 g = true) (hnew : NewL (gmap g nids) Mo.length M0 Mo g nids new)
    (hfr : ∀ i ∈ nids, M i = none) (hnd : nids.Nodup) (hrv : RelR (gmap g nids) Mo.length rv rv') (hv : oneV rv' = v) (hM : upds M new = M')
    (hw : wantA ops E ⟨d, .call ⟨.value fop, aops, tys⟩, ty, ps, af, gd⟩ = some true) (hd : dstB n d = true)
    (hr : AWo P ops n (i + 1) os ⟨putE E d v, M'⟩ (fun es => D (⟨g.map (·.1), new⟩ :: es)) K) :
    AWo P ops n i (⟨d, .call ⟨.value fop, aops, tys⟩, ty, ps, af, gd⟩ :: os) ⟨E, M⟩ D K := by
  subst hv; subst hM
  have F := Fits.of hfit hl hnew hfr hnd
  obtain ⟨g1, g2⟩ := hargs.get (D := dom (memL M0)) fun i hi => dom_memL.2 hi
  have hDo : ∀ i, i < Mo.length → dom (memL Mo) i := fun i hi => dom_memL.2 hi
  have hres : VR .res (dom (memL Mo)) (gmap g nids) (oneV rv) (oneV rv') := by
    obtain ⟨r1, r2⟩ := hrv.get hDo
    exact oneV_rel r1 r2
  have hs := FStep.callv (d := d) (ty := ty) (ps := ps) (af := af) (gd := gd) S hb F (tys := tys) hf hx.map (by rw [hall]; exact g1) (by rw [hall]; exact g2) hres
  refine AWo.step hs hw hd (fun p hp hq => ?_) hr
  obtain ⟨_, _, _, n4⟩ := hnew.get
  obtain ⟨k, bo, a1, a2, _⟩ := n4 p hp
  rcases a2 with ⟨q, bi, c1, c2, c3, c4, c5⟩ | ⟨c1, c2⟩
  · refine absurd ?_ hq
    rw [c3]
    exact List.mem_map.2 ⟨q, List.mem_of_getElem? c2, rfl⟩
  · exact hfr _ (List.mem_of_getElem? c2)
end
end Go.Proofs.YtlfadlfjjkppfaaGreatDoor.Sim
namespace Go.Proofs.YtlfadlfjjkppfaaGreatDoor.Sim
open Go
section
variable {P : Program} {E : Env}
theorem run_ptrNil' (d : Nat) {t s : TypeId} (p : Option Addr) (h : P.underlying t = some (.pointer s)) (w : World) : (Op.equalIn (d + 1) t (.pointer p) (.pointer none)).run P w = .ok p.isNone w := by
  cases p <;> simp [Op.equalIn, run_underlying h]
theorem run_ptrNil {t s : TypeId} (p : Option Addr) (h : P.underlying t = some (.pointer s)) (w : World) : (Op.equal t (.pointer p) (.pointer none)).run P w = .ok p.isNone w := run_ptrNil' 9999 p h w
theorem PureOp.ptrEqNil {t t' s : TypeId} {x : Operand} {id o : Nat} (hu : P.underlying t = some (.pointer s)) (h1 : aev E x = some (.pointer (some ⟨id, o, none⟩))) :
    PureOp P (.binOp .eql t x (.const (.pointer none)) t') E (.bool false) := fun D ρ e hx => by
  obtain ⟨e1, _⟩ := ptr_inv (hx x (by simp [Op.operands]) _ h1)
  have e2 : e (.const (.pointer none)) = .pointer none := flat_inv (hx (.const (.pointer none)) (by simp [Op.operands]) _ rfl) rfl
  exact ⟨_, .flat _ rfl, fun _ _ _ _ _ w => by simp [execOp, e1, e2, eqGuard, binOp, run_ptrNil _ hu]⟩
theorem PureOp.nilEqNil {t t' s : TypeId} {x y : Operand} (hu : P.underlying t = some (.pointer s)) (h1 : aev E x = some (.pointer none)) (h2 : aev E y = some (.pointer none)) :
    PureOp P (.binOp .eql t x y t') E (.bool true) := fun D ρ e hx => by
  have e1 := flat_inv (hx x (by simp [Op.operands]) _ h1) rfl
  have e2 := flat_inv (hx y (by simp [Op.operands]) _ h2) rfl
  exact ⟨_, .flat _ rfl, fun _ _ _ _ _ w => by simp [execOp, e1, e2, eqGuard, binOp, run_ptrNil _ hu]⟩
theorem PureOp.fn {f : FuncId} {captured : Array Operand} {vs : List Value} (h : Evs E captured.toList vs) : PureOp P (.makeFunc (.func f) #[] captured) E (.func (.func f) #[] vs.toArray) :=
  PureOp.makeFunc rfl (by simp) (by
    apply Array.ext'
    rw [Array.toList_map, h.map]
    simp)
def fillL (place : Nat → Option (Nat × Nat)) (cells : List Value) : List (Nat × Value) → Option (List Value)
  | [] => some cells
  | (i, v) :: rest =>
    match place i with
    | none => none
    | some (off, size) => if v.cells.size ≠ size ∨ off + v.cells.size > cells.length then none else fillL place (setL cells off v.cells.toList) rest
theorem setL_length : ∀ (vs cells : List Value) (o : Nat), (setL cells o vs).length = cells.length
  | [], _, _ => rfl
  | v :: vs, cells, o => by simp [setL, setL_length vs]
theorem setL_foldl : ∀ (vs : List Value) (o i : Nat) (cs : Array Value), ((vs.zipIdx i).foldl (fun cs (p : Value × Nat) => cs.setIfInBounds (o + p.2) p.1) cs).toList = setL cs.toList (o + i) vs
  | [], _, _, _ => rfl
  | v :: vs, o, i, cs => by
    rw [List.zipIdx_cons, List.foldl_cons, setL_foldl vs o (i + 1)]
    simp only [setL, Array.toList_setIfInBounds, Nat.add_assoc]
def RL (D : Nat → Prop) (ρ : Rho) (xs ys : List Value) : Prop := xs.length = ys.length ∧ ∀ (k : Nat) (x y : Value), xs[k]? = some x → ys[k]? = some y → VR .real D ρ x y
theorem RL.set {D : Nat → Prop} {ρ : Rho} {xs ys : List Value} (h : RL D ρ xs ys) {x y : Value} (hxy : VR .real D ρ x y) (o : Nat) : RL D ρ (xs.set o x) (ys.set o y) := by
  refine ⟨by simp [h.1], fun k x' y' hx hy => ?_⟩
  by_cases hk : o = k
  · subst hk
    have h1 : o < xs.length := by
      have := (List.getElem?_eq_some_iff.1 hx).1
      simpa using this
    rw [List.getElem?_set_self h1] at hx
    rw [List.getElem?_set_self (by rw [← h.1]; exact h1)] at hy
    cases hx; cases hy; exact hxy
  · rw [List.getElem?_set_ne hk] at hx hy
    exact h.2 k x' y' hx hy
theorem RL_setL {D : Nat → Prop} {ρ : Rho} : ∀ {vs us xs ys : List Value} {o : Nat}, RL D ρ xs ys → RL D ρ vs us → RL D ρ (setL xs o vs) (setL ys o us)
  | [], us, xs, ys, o, h, hv => by
    obtain rfl : us = [] := by simpa using hv.1.symm
    exact h
  | v :: vs, us, xs, ys, o, h, hv => by
    obtain ⟨u, us, rfl⟩ : ∃ u r, us = u :: r := by cases us with
      | nil => have := hv.1; simp at this
      | cons u r => exact ⟨u, r, rfl⟩
    show RL D ρ (setL (xs.set o v) (o + 1) vs) (setL (ys.set o u) (o + 1) us)
    exact RL_setL (h.set (hv.2 0 v u rfl rfl) o) ⟨by have := hv.1; simpa using this, fun k x y hx hy => hv.2 (k + 1) x y hx hy⟩
theorem fill_rel {D : Nat → Prop} {ρ : Rho} {place : Nat → Option (Nat × Nat)} {ev : Operand → Value} : ∀ (parts : List (Nat × Operand)) (vals : List (Nat × Value)) {cs : List Value} {rs : Array Value} {out : List Value},
    (∀ p ∈ parts, ∀ v', aev E p.2 = some v' → VR .real D ρ v' (ev p.2)) → parts.map (fun p => (p.1, aev E p.2)) = vals.map (fun p => (p.1, some p.2)) → RL D ρ cs rs.toList → fillL place cs vals = some out →
    ∃ out', Instr.fill place rs (parts.map fun p => (p.1, ev p.2)) = some out' ∧ RL D ρ out out'.toList
  | [], vals, cs, rs, out, _, hp, hr, hf => by
    obtain rfl : vals = [] := by simpa using hp.symm
    simp only [fillL, Option.some.injEq] at hf
    subst hf
    exact ⟨rs, rfl, hr⟩
  | (i, x) :: parts, vals, cs, rs, out, hev, hp, hr, hf => by
    obtain ⟨⟨j, v⟩, vals, rfl⟩ : ∃ u r, vals = u :: r := by cases vals with
      | nil => simp at hp
      | cons u r => exact ⟨u, r, rfl⟩
    simp only [List.map_cons, List.cons.injEq, Prod.mk.injEq] at hp
    obtain ⟨⟨rfl, hxv⟩, hp⟩ := hp
    have hv := hev (i, x) (List.mem_cons_self ..) v hxv
    obtain ⟨c1, c2⟩ := cells_rel hv
    simp only [fillL] at hf
    simp only [List.map_cons, Instr.fill]
    cases hpl : place i with
    | none => rw [hpl] at hf; simp at hf
    | some q =>
      obtain ⟨off, size⟩ := q
      rw [hpl] at hf
      simp only at hf ⊢
      split at hf
      · cases hf
      · rename_i hc
        have hrl : cs.length = rs.size := by simpa using hr.1
        rw [if_neg (by rw [← c1, ← hrl]; simpa using hc)]
        refine fill_rel parts vals (fun p hp' => hev p (List.mem_cons_of_mem _ hp')) hp ?_ hf
        have h9 := setL_foldl (ev x).cells.toList off 0 rs
        rw [← Array.toList_zipIdx, Array.foldl_toList] at h9
        rw [h9]
        exact RL_setL hr ⟨by simpa using c1, fun k a b ha hb => c2 k a b (by simpa using ha) (by simpa using hb)⟩
theorem run_mapA {α β : Type} (f : α → Sem β) (w : World) (as : Array α) (bs : List β) (hl : as.size = bs.length) (h : ∀ (k : Nat) (x : α) (u : β), as[k]? = some x → bs[k]? = some u → (f x).run P w = .ok u w) : (as.mapM f).run P w = .ok bs.toArray w := by
  rw [Array.mapM_eq_mapM_toList]
  have := run_mapM (P := P) f w as.toList bs (by simpa using hl) (fun k x u h1 h2 => h k x u (by simpa using h1) h2)
  simp [this]
def placesOf (P : Program) (fs : Array Field) (pl : List (Nat × Nat)) : Prop := fs.size = pl.length ∧ ∀ (k : Nat) (f : Field) (q : Nat × Nat), fs[k]? = some f → pl[k]? = some q → f.offset = q.1 ∧ (P.info? f.type).map (·.size) = some q.2
theorem PureOp.buildStruct {t : TypeId} {parts : Array (Nat × Operand)} {fs : Array Field} {pl : List (Nat × Nat)} {z : Value} (vals : List (Nat × Value)) {out : List Value} (hu : P.underlying t = some (.struct fs))
    (hz : (P.info? t).map (·.zero) = some (some z)) (hzf : z.cells.toList.all flatV = true) (hpl : placesOf P fs pl) (hp : parts.toList.map (fun p => (p.1, aev E p.2)) = vals.map (fun p => (p.1, some p.2)))
    (hf : fillL (pl[·]?) z.cells.toList vals = some out) : PureOp P (.build t parts) E (.agg out.toArray) := fun D ρ ev hx => by
  obtain ⟨out', h1, h2⟩ := fill_rel (D := D) (ρ := ρ) (ev := ev) parts.toList vals (rs := z.cells) (fun p hp v' hv => hx p.2 (by simp only [Op.operands, List.mem_toArray, List.mem_map]; exact ⟨p, hp, rfl⟩) v' hv) hp
    ⟨rfl, fun k x y h1 h2 => by rw [h1] at h2; cases h2; exact .flat _ (List.all_eq_true.1 hzf x (List.mem_of_getElem? h1))⟩ hf
  refine ⟨.agg out', .agg _ _ (by simpa using h2.1) fun k x y h3 h4 => h2.2 k x y (by simpa using h3) (by simpa using h4), fun _ _ _ _ _ w => ?_⟩
  have hm : (fs.mapM fun f => (do pure (f.offset, ← sizeOf f.type) : Sem (Nat × Nat))).run P w = .ok pl.toArray w := by
    refine run_mapA _ w fs pl hpl.1 fun k f q hf hq => ?_
    obtain ⟨a1, a2⟩ := hpl.2 k f q hf hq
    simp [run_size a2, a1]
  have hpt : (parts.map fun p => (p.1, ev p.2)).toList = parts.toList.map fun p => (p.1, ev p.2) := by simp
  simp only [execOp, Instr.build, Sem.run_bind, run_zero hz, Result.andThen_ok, run_underlying hu, hm]
  have h5 : (fun x : Nat => pl.toArray[x]?) = fun x => pl[x]? := by funext x; simp
  have h6 : Instr.fill (fun x : Nat => pl.toArray[x]?) z.cells (parts.map fun p => (p.1, ev p.2)).toList = some out' := by rw [h5, hpt]; exact h1
  simp only [h6]
  simp
theorem FStep.buildSlice {M : Mem} {d : Option Tmp} {ty : TypeId} {ps : String} {af : Array Edge} {g : Option (Nat × Bool)} {t e : TypeId} {len sz : Nat} {parts : Array (Nat × Operand)} {c z : Value} (id : Nat) (vals : List (Nat × Value)) {out : List Value}
    (hu : P.underlying t = some (.slice e)) (hs : (P.info? e).map (·.size) = some sz) (h0 : sz ≠ 0) (hz : (P.info? e).map (·.zero) = some (some z)) (hzc : z.cells = Array.replicate sz c) (hc : flatV c = true) (hle : len * sz ≤ 16777216)
    (hp : parts.toList.map (fun p => (p.1, aev E p.2)) = vals.map (fun p => (p.1, some p.2))) (hf : fillL (fun i => some (i * sz, sz)) (List.replicate (len * sz) c) vals = some out) :
    FStep P ⟨d, .buildSlice t len parts, ty, ps, af, g⟩ E M (.slice (some ⟨id, 0, none⟩) len 0) ⟨[], [(id, ⟨out, true, sz⟩)]⟩ := by
  intro E' M' h1 _ h3 C ρ ac w hR
  have hid : M' id = none := h3 _ (List.mem_singleton_self _) (by simp)
  have hmem : ∀ p ∈ parts.toList, p.2 ∈ (Op.buildSlice t len parts).operands := fun p hp => by simp only [Op.operands, List.mem_toArray, List.mem_map]; exact ⟨p, hp, rfl⟩
  obtain ⟨out', f1, f2⟩ := fill_rel (D := dom M') (ρ := ρ) (ev := ac.eval) parts.toList vals (rs := Array.replicate (len * sz) c) (fun p hp v' hv => hR.eval (by rw [h1 p.2 (hmem p hp)]; exact hv)) hp
    ⟨by simp, fun k x y a1 a2 => by
      have b1 := (List.getElem?_eq_some_iff.1 a1).2
      have b2 := (List.getElem?_eq_some_iff.1 a2).2
      simp at b1 b2
      rw [← b1, ← b2]; exact .flat _ hc⟩ hf
  have hlen : ∀ (vals : List (Nat × Value)) (cs out : List Value) (place : Nat → Option (Nat × Nat)), fillL place cs vals = some out → out.length = cs.length := by
    intro vals
    induction vals with
    | nil => intro cs out place h; simp only [fillL, Option.some.injEq] at h; rw [h]
    | cons p r ih =>
      intro cs out place h
      obtain ⟨i, v⟩ := p
      simp only [fillL] at h
      split at h
      · cases h
      · split at h
        · cases h
        · rw [ih _ _ _ h, setL_length]
  have hol : out.length = len * sz := by rw [hlen _ _ _ _ hf]; simp
  have hol' : out'.size = len * sz := by rw [← hol, f2.1]; simp
  obtain ⟨ρ', hR', hρ, _⟩ := hR.alloc hid (cells := out) (rcells := out') (elem := e) sz (by rw [hol, hol']; exact Nat.le_refl _) (fun k y u a1 a2 => f2.2 k y u a1 (by simpa using a2))
  unfold StepTo Oper.wp
  have : (execOp ac.eval ⟨d, .buildSlice t len parts, ty, ps, af, g⟩).run P w = .ok (.value (.slice (some ⟨w.heap.size, 0, none⟩) len len)) (pushW w (.cells out' e)) := by
    have hpt : (parts.map fun p => (p.1, ac.eval p.2)).toList = parts.toList.map fun p => (p.1, ac.eval p.2) := by simp
    have hng : ¬ len * sz > 16777216 := by omega
    simp only [execOp, Instr.buildSlice, Sem.run_bind, run_underlying hu, Result.andThen_ok, run_size hs, show (2 : Nat) ^ 24 = 16777216 from rfl, if_neg hng]
    by_cases hz0 : len * sz = 0
    · have h9 : out' = #[] := Array.eq_empty_of_size_eq_zero (by rw [hol', hz0])
      have f1' : Instr.fill (fun i => some (i * sz, sz)) #[] (parts.map fun p => (p.1, ac.eval p.2)).toList = some out' := by
        rw [hpt]; rw [hz0] at f1; exact f1
      have h8 : ∀ f : Nat → Value, (Array.range 0).map f = #[] := fun f => by
        rw [show Array.range 0 = #[] from rfl]; exact Array.map_empty
      simp only [hz0, Sem.run_pure, h8, f1']
      simp [newRow, pushW]
    · have hm := mod_replicate sz len c (.inr h0)
      rw [← hzc] at hm
      have f1' : Instr.fill (fun i => some (i * sz, sz)) ((Array.range (len * sz)).map fun i => z.cells[i % z.cells.size]!) (parts.map fun p => (p.1, ac.eval p.2)).toList = some out' := by
        rw [hpt, hm]; exact f1
      simp only [if_neg hz0, Sem.run_bind, run_zero hz, Result.andThen_ok, Sem.run_pure, f1']
      simp [newRow, pushW]
  rw [this]
  refine ⟨_, rfl, ρ', hR', ?_⟩
  have := VR.slice (m := .real) (ρ := ρ') (D := dom (upds M' [(id, ⟨out, true, sz⟩)])) id 0 len len dom_upd (by simp) (fun _ => ⟨Nat.le_refl _, fun L hL => by
    rw [hρ] at hL ⊢
    simp only [Option.some.injEq] at hL
    simp only; omega⟩)
  rw [hρ] at this
  exact this
end
section
variable {P : Program} {T : Tab} (H : TabOk P T)
variable {ops : Array Oper} {n i : Nat} {os : List Oper} {E : Env} {M : Mem} {D : List Eff → Prop} {K : ASt → Prop}
  {d : Tmp} {ty : TypeId} {ps : String} {af : Array Edge} {g : Option (Nat × Bool)}
include H
theorem AWo.buildSlice {t e : TypeId} {len sz : Nat} {parts : Array (Nat × Operand)} {c z : Value} (id : Nat) (vals : List (Nat × Value)) {out : List Value}
    (ht : T.sl.lookup t = some e) (hs : T.sz.lookup e = some sz) (h0 : sz ≠ 0) (hz : T.zero.lookup e = some z) (hzc : z.cells = Array.replicate sz c) (hc : flatV c = true) (hle : len * sz ≤ 16777216)
    (hp : parts.toList.map (fun p => (p.1, aev E p.2)) = vals.map (fun p => (p.1, some p.2))) (hf : fillL (fun i => some (i * sz, sz)) (List.replicate (len * sz) c) vals = some out) (hid : M id = none)
    (hw : wantA ops E ⟨some d, .buildSlice t len parts, ty, ps, af, g⟩ = some true) (hd : Nat.blt d n = true)
    (hr : AWo P ops n (i + 1) os ⟨upd E d (.slice (some ⟨id, 0, none⟩) len 0), upd M id ⟨out, true, sz⟩⟩ (fun es' => D (⟨[], [(id, ⟨out, true, sz⟩)]⟩ :: es')) K) :
    AWo P ops n i (⟨some d, .buildSlice t len parts, ty, ps, af, g⟩ :: os) ⟨E, M⟩ D K :=
  AWo.step (FStep.buildSlice id vals (H.sl t _ ht) (H.sz e _ hs) h0 (H.zero e _ hz) hzc hc hle hp hf) hw hd (fun p hp _ => by simp at hp; subst hp; exact hid) hr
end
end Go.Proofs.YtlfadlfjjkppfaaGreatDoor.Sim
namespace Go.Proofs.YtlfadlfjjkppfaaGreatDoor.Sim
open Go
theorem wrap_uns {k : IntKind} (hs : k.signed = false) {m : Nat} (hm : 2 ^ k.bits = m) (z : Nat) : k.wrap (z : Int) = ((z % m : Nat) : Int) := by
  subst hm
  simp [IntKind.wrap, hs]
theorem wrap_sgn {k : IntKind} (hs : k.signed = true) {m : Nat} (hm : 2 ^ (k.bits - 1) = m) (h2 : 2 ^ k.bits = 2 * m) (z : Nat) (hz : z < m) : k.wrap (z : Int) = (z : Int) := by
  have e1 : (2 : Int) ^ k.bits = ((2 * m : Nat) : Int) := by rw [← h2]; simp
  have e2 : (2 : Int) ^ (k.bits - 1) = (m : Int) := by rw [← hm]; simp
  simp only [IntKind.wrap, hs, Bool.true_and, e1, e2]
  have : (z : Int) % ((2 * m : Nat) : Int) = z := Int.emod_eq_of_lt (by omega) (by omega)
  rw [this]
  simp only [decide_eq_true_eq]
  rw [if_neg (by omega)]
theorem wrap_in {k : IntKind} {z : Nat} (h : z < 2 ^ (k.bits - (if k.signed then 1 else 0))) (hk : 0 < k.bits) : k.wrap (z : Int) = z := by
  cases hs : k.signed with
  | false => rw [hs] at h; rw [wrap_uns hs rfl, Nat.mod_eq_of_lt (by simpa using h)]
  | true =>
    rw [hs] at h
    refine wrap_sgn hs rfl ?_ z (by simpa using h)
    obtain ⟨c, hc⟩ : ∃ c, k.bits = c + 1 := ⟨k.bits - 1, by omega⟩
    rw [hc, Nat.add_sub_cancel, Nat.pow_succ, Nat.mul_comm]
section
variable {P : Program} {E : Env} {t t' : TypeId} {x y : Operand} {k k' : IntKind} {a b m : Nat}
theorem PureOp.addU (m : Nat) (h1 : aev E x = some (vi k a)) (h2 : aev E y = some (vi k b)) (hs : k.signed = false) (hm : 2 ^ k.bits = m) : PureOp P (.binOp .add t x y t') E (vi k ((a + b) % m)) :=
  PureOp.bin h1 h2 (by simp only [evalBin, vi]; rw [show (a : Int) + b = ((a + b : Nat) : Int) by simp, wrap_uns hs hm])
theorem PureOp.mulU (m : Nat) (h1 : aev E x = some (vi k a)) (h2 : aev E y = some (vi k b)) (hs : k.signed = false) (hm : 2 ^ k.bits = m) : PureOp P (.binOp .mul t x y t') E (vi k ((a * b) % m)) :=
  PureOp.bin h1 h2 (by simp only [evalBin, vi]; rw [show (a : Int) * b = ((a * b : Nat) : Int) by simp, wrap_uns hs hm])
theorem PureOp.subU (m : Nat) (h1 : aev E x = some (vi k a)) (h2 : aev E y = some (vi k b)) (hs : k.signed = false) (hm : 2 ^ k.bits = m) (hb : b ≤ m) : PureOp P (.binOp .sub t x y t') E (vi k ((a + (m - b)) % m)) :=
  PureOp.bin h1 h2 (by
    simp only [evalBin, vi, Option.some.injEq, Value.int.injEq, true_and]
    rw [← wrap_uns hs hm]
    subst hm
    simp only [IntKind.wrap, hs, Bool.false_and, Bool.false_eq_true, if_false]
    rw [Int.natCast_add, Int.natCast_sub hb]
    have e : (a : Int) + (((2 ^ k.bits : Nat) : Int) - b) = (a - b) + (2 ^ k.bits : Int) := by simp; omega
    rw [e, Int.add_emod_right])
theorem PureOp.addI (h1 : aev E x = some (vi .i64 a)) (h2 : aev E y = some (vi .i64 b)) (h : a + b < 9223372036854775808) : PureOp P (.binOp .add t x y t') E (vi .i64 (a + b)) :=
  PureOp.bin h1 h2 (by simp only [evalBin, vi]; rw [show (a : Int) + b = ((a + b : Nat) : Int) by simp, wrap_sgn (k := .i64) rfl rfl rfl _ h])
theorem PureOp.subI (h1 : aev E x = some (vi .i64 a)) (h2 : aev E y = some (vi .i64 b)) (h : b ≤ a) (ha : a < 9223372036854775808) : PureOp P (.binOp .sub t x y t') E (vi .i64 (a - b)) :=
  PureOp.bin h1 h2 (by simp only [evalBin, vi]; rw [← Int.natCast_sub h, wrap_sgn (k := .i64) (m := 9223372036854775808) rfl rfl rfl _ (by omega)])
theorem PureOp.mulI (h1 : aev E x = some (vi .i64 a)) (h2 : aev E y = some (vi .i64 b)) (h : a * b < 9223372036854775808) : PureOp P (.binOp .mul t x y t') E (vi .i64 (a * b)) :=
  PureOp.bin h1 h2 (by simp only [evalBin, vi]; rw [show (a : Int) * b = ((a * b : Nat) : Int) by simp, wrap_sgn (k := .i64) rfl rfl rfl _ h])
theorem PureOp.quoN (m : Nat) (h1 : aev E x = some (vi k a)) (h2 : aev E y = some (vi k b)) (hm : 2 ^ (k.bits - (if k.signed then 1 else 0)) = m) (hk : 0 < k.bits) (hb : b ≠ 0) (ha : a < m) : PureOp P (.binOp .quo t x y t') E (vi k (a / b)) :=
  (PureOp.quo h1 h2 (by omega)).mono (by rw [← Int.ofNat_tdiv, wrap_in (by rw [hm]; exact Nat.lt_of_le_of_lt (Nat.div_le_self a b) ha) hk]; rfl)
theorem PureOp.remN (h1 : aev E x = some (vi k a)) (h2 : aev E y = some (vi k b)) (hb : b ≠ 0) : PureOp P (.binOp .rem t x y t') E (vi k (a % b)) :=
  (PureOp.rem h1 h2 (by omega)).mono (by rw [← Int.ofNat_tmod]; rfl)
theorem PureOp.shlUge (m : Nat) (h1 : aev E x = some (vi k a)) (h2 : aev E y = some (vi k' b)) (hs : k.signed = false) (hm : 2 ^ k.bits = m) : PureOp P (.binOp .shl t x y t') E (vi k (a * 2 ^ b % m)) :=
  (PureOp.shl h1 h2 (by omega)).mono (by
    simp only [vi, Int.toNat_natCast, Value.int.injEq, true_and]
    rw [show (a : Int) * 2 ^ Min.min b k.bits = ((a * 2 ^ Min.min b k.bits : Nat) : Int) by simp, wrap_uns hs hm]
    congr 1
    rcases Nat.le_total b k.bits with h | h
    · rw [Nat.min_eq_left h]
    · rw [Nat.min_eq_right h, hm]
      obtain ⟨c, rfl⟩ : ∃ c, b = k.bits + c := ⟨b - k.bits, by omega⟩
      rw [Nat.pow_add, hm, ← Nat.mul_assoc, Nat.mul_right_comm, Nat.mul_mod_left, Nat.mul_mod_left])
theorem PureOp.shrN (w : Nat) (h1 : aev E x = some (vi k a)) (h2 : aev E y = some (vi k' b)) (hw : k.bits = w) (hb : b ≤ w) : PureOp P (.binOp .shr t x y t') E (vi k (a / 2 ^ b)) :=
  (PureOp.shr h1 h2 (by omega)).mono (by
    subst hw
    simp only [vi, Int.toNat_natCast, Nat.min_eq_left hb, Value.int.injEq, true_and]
    rw [Int.fdiv_eq_ediv_of_nonneg _ (Int.pow_nonneg (by decide)), Int.natCast_ediv]
    simp)
theorem bits_nat {k : IntKind} (ha : a < 2 ^ k.bits) (hb : b < 2 ^ k.bits) : (BitVec.ofInt k.bits (a : Int) &&& BitVec.ofInt k.bits (b : Int)).toNat = a &&& b ∧
    (BitVec.ofInt k.bits (a : Int) ||| BitVec.ofInt k.bits (b : Int)).toNat = a ||| b ∧ (BitVec.ofInt k.bits (a : Int) ^^^ BitVec.ofInt k.bits (b : Int)).toNat = a ^^^ b := by
  have e : ∀ c : Nat, BitVec.ofInt k.bits (c : Int) = BitVec.ofNat k.bits c := fun c => by simp
  simp only [e, BitVec.toNat_and, BitVec.toNat_or, BitVec.toNat_xor, BitVec.toNat_ofNat, Nat.mod_eq_of_lt ha, Nat.mod_eq_of_lt hb, and_self]
theorem PureOp.andN (m : Nat) (h1 : aev E x = some (vi k a)) (h2 : aev E y = some (vi k b)) (hm : 2 ^ (k.bits - (if k.signed then 1 else 0)) = m) (hk : 0 < k.bits) (ha : a < m) (hb : b < m) :
    PureOp P (.binOp .and t x y t') E (vi k (a &&& b)) := by
  subst hm
  have hle : 2 ^ (k.bits - (if k.signed then 1 else 0)) ≤ 2 ^ k.bits := Nat.pow_le_pow_right (by decide) (by omega)
  exact PureOp.bin h1 h2 (by
    simp only [evalBin, vi]
    rw [(bits_nat (k := k) (by omega) (by omega)).1, wrap_in (Nat.and_lt_two_pow _ hb) hk])
theorem PureOp.orN (m : Nat) (h1 : aev E x = some (vi k a)) (h2 : aev E y = some (vi k b)) (hm : 2 ^ (k.bits - (if k.signed then 1 else 0)) = m) (hk : 0 < k.bits) (ha : a < m) (hb : b < m) :
    PureOp P (.binOp .or t x y t') E (vi k (a ||| b)) := by
  subst hm
  have hle : 2 ^ (k.bits - (if k.signed then 1 else 0)) ≤ 2 ^ k.bits := Nat.pow_le_pow_right (by decide) (by omega)
  exact PureOp.bin h1 h2 (by
    simp only [evalBin, vi]
    rw [(bits_nat (k := k) (by omega) (by omega)).2.1, wrap_in (Nat.or_lt_two_pow ha hb) hk])
theorem PureOp.xorN (m : Nat) (h1 : aev E x = some (vi k a)) (h2 : aev E y = some (vi k b)) (hm : 2 ^ (k.bits - (if k.signed then 1 else 0)) = m) (hk : 0 < k.bits) (ha : a < m) (hb : b < m) :
    PureOp P (.binOp .xor t x y t') E (vi k (a ^^^ b)) := by
  subst hm
  have hle : 2 ^ (k.bits - (if k.signed then 1 else 0)) ≤ 2 ^ k.bits := Nat.pow_le_pow_right (by decide) (by omega)
  exact PureOp.bin h1 h2 (by
    simp only [evalBin, vi]
    rw [(bits_nat (k := k) (by omega) (by omega)).2.2, wrap_in (Nat.xor_lt_two_pow ha hb) hk])
theorem PureOp.eqN (h1 : aev E x = some (vi k a)) (h2 : aev E y = some (vi k b)) : PureOp P (.binOp .eql t x y t') E (.bool (a == b)) :=
  PureOp.bin h1 h2 (by simp only [evalBin, Option.some.injEq, Value.bool.injEq]; rw [Bool.eq_iff_iff]; simp; omega)
theorem PureOp.neN (h1 : aev E x = some (vi k a)) (h2 : aev E y = some (vi k b)) : PureOp P (.binOp .neq t x y t') E (.bool (a != b)) :=
  PureOp.bin h1 h2 (by simp only [evalBin, Option.some.injEq, Value.bool.injEq]; rw [Bool.eq_iff_iff]; simp; omega)
theorem PureOp.ltN (h1 : aev E x = some (vi k a)) (h2 : aev E y = some (vi k b)) : PureOp P (.binOp .lss t x y t') E (.bool (decide (a < b))) :=
  PureOp.bin h1 h2 (by simp only [evalBin, Option.some.injEq, Value.bool.injEq]; rw [Bool.eq_iff_iff]; simp)
theorem PureOp.gtN (h1 : aev E x = some (vi k a)) (h2 : aev E y = some (vi k b)) : PureOp P (.binOp .gtr t x y t') E (.bool (decide (b < a))) :=
  PureOp.bin h1 h2 (by simp only [evalBin, Option.some.injEq, Value.bool.injEq]; rw [Bool.eq_iff_iff]; simp)
theorem PureOp.geN (h1 : aev E x = some (vi k a)) (h2 : aev E y = some (vi k b)) : PureOp P (.binOp .geq t x y t') E (.bool (decide (b ≤ a))) :=
  PureOp.bin h1 h2 (by simp only [evalBin, Option.some.injEq, Value.bool.injEq]; rw [Bool.eq_iff_iff]; simp)
theorem PureOp.maxN {ts : Array TypeId} (h1 : aev E x = some (vi k a)) (h2 : aev E y = some (vi k b)) : PureOp P (.call ⟨.builtin .max, #[x, y], ts⟩) E (vi k (Nat.max a b)) :=
  (PureOp.max h1 h2).mono (by simp only [vi, Value.int.injEq, true_and, Nat.max_def]; split <;> split <;> omega)
theorem PureOp.cvtN {T : Tab} (H : TabOk P T) {s : TypeId} (m : Nat) (h1 : aev E x = some (vi k a)) (hs : T.int.lookup s = some k) (ht : T.int.lookup t = some k') (hm : 2 ^ (k'.bits - (if k'.signed then 1 else 0)) = m) (hk : 0 < k'.bits) (ha : a < m) :
    PureOp P (.convert s t x) E (vi k' a) := (PureOp.cvt H h1 hs ht).mono (by simp only [vi]; rw [wrap_in (by rw [hm]; exact ha) hk])
theorem PureOp.cvtU {T : Tab} (H : TabOk P T) {s : TypeId} (m : Nat) (h1 : aev E x = some (vi k a)) (hs : T.int.lookup s = some k) (ht : T.int.lookup t = some k') (hk : k'.signed = false) (hm : 2 ^ k'.bits = m) :
    PureOp P (.convert s t x) E (vi k' (a % m)) := (PureOp.cvt H h1 hs ht).mono (by simp only [vi]; rw [wrap_uns hk hm])
end
end Go.Proofs.YtlfadlfjjkppfaaGreatDoor.Sim
namespace Go.Proofs.YtlfadlfjjkppfaaGreatDoor.Sim
open Go
def GC (P : Program) (f : FuncId) (vs : List Value) (M0 : List Blk) (rv : List Value) (Mo : List Blk) : Prop := Ctr P f vs M0 (oneV rv) Mo
theorem GC.intro {P : Program} {f : FuncId} {fn : Func} {c : Code} {vs rv : List Value} {M0 Mo : List Blk} (hf : P.funcs[f]? = some fn) (hb : fn.body = some c) (hlen : vs.length ≤ fn.ntmps) (hM : M0.length ≤ Mo.length)
    (h : AW P fn.ntmps M0.length c ⟨envL vs, memL M0⟩ (RetQ P fn M0.length (oneV rv) Mo)) : GC P f vs M0 rv Mo := Ctr.intro hf hb hlen hM h
section
variable {P : Program} {ops : Array Oper} {n i : Nat} {os : List Oper} {E : Env} {M : Mem} {D : List Eff → Prop} {K : ASt → Prop}
  {d : Tmp} {o : Op} {ty : TypeId} {ps : String} {af : Array Edge} {g : Option (Nat × Bool)}
theorem AWo.pureB {b : Bool} (hs : PureOp P o E (.bool b)) (hw : wantA ops E ⟨some d, o, ty, ps, af, g⟩ = some true) (hd : Nat.blt d n = true)
    (hT : b = true → AWo P ops n (i + 1) os ⟨upd E d (.bool true), M⟩ (fun es => D (⟨[], []⟩ :: es)) K)
    (hF : b = false → AWo P ops n (i + 1) os ⟨upd E d (.bool false), M⟩ (fun es => D (⟨[], []⟩ :: es)) K) : AWo P ops n i (⟨some d, o, ty, ps, af, g⟩ :: os) ⟨E, M⟩ D K := by
  refine AWo.pure hs hw hd ?_
  cases b with
  | true => exact hT rfl
  | false => exact hF rfl
end
theorem AWo.store1 {P : Program} {T : Tab} (H : TabOk P T) {ops : Array Oper} {n i : Nat} {os : List Oper} {E : Env} {M : Mem} {D : List Eff → Prop} {K : ASt → Prop} {ty : TypeId} {ps : String} {af : Array Edge} {g : Option (Nat × Bool)}
    {t : TypeId} {a x : Operand} {id o es : Nat} {cells c' : List Value} {v : Value} (ha : aev E a = some (.pointer (some ⟨id, o, none⟩))) (hx : aev E x = some v)
    (hb : M id = some ⟨cells, true, es⟩) (hs : T.sz.lookup t = some 1) (hc : v.oneCell' = true) (ho : o < cells.length) (hn : cells.set o v = c')
    (hw : wantA ops E ⟨none, .store t a x, ty, ps, af, g⟩ = some true)
    (hr' : AWo P ops n (i + 1) os ⟨E, upd M id ⟨c', true, es⟩⟩ (fun es' => D (⟨[id], [(id, ⟨c', true, es⟩)]⟩ :: es')) K) :
    AWo P ops n i (⟨none, .store t a x, ty, ps, af, g⟩ :: os) ⟨E, M⟩ D K :=
  AWo.store H ha hx hb rfl (by rw [one_cells hc]; exact hs) (by rw [one_cells hc]; exact ho) (by rw [one_cells hc]; simpa using hc) (by rw [one_cells hc]; exact hn) hw hr'
theorem WkM.refl {Dm : Nat → Prop} {fm : List (Nat × Nat)} {M N : Mem} {i : Nat} {cells : List Value} {rw rw' : Bool} {es : Nat} (h1 : M ((fm.lookup i).getD i) = some ⟨cells, rw', es⟩)
    (hf : ∀ x ∈ cells, flatV x = true) (h3 : rw = true → rw' = true) (h : WkM Dm fm M N) : WkM Dm fm M (Sim.upd N i ⟨cells, rw, es⟩) := WkM.flat h1 hf h3 h
theorem WkM.ptr {Dm : Nat → Prop} {fm : List (Nat × Nat)} {M N : Mem} {i j o : Nat} {rw rw' : Bool} {es : Nat} (h1 : M ((fm.lookup i).getD i) = some ⟨[.pointer (some ⟨(fm.lookup j).getD j, o, none⟩)], rw', es⟩)
    (hd : Dm j) (h3 : rw = true → rw' = true) (h : WkM Dm fm M N) : WkM Dm fm M (Sim.upd N i ⟨[.pointer (some ⟨j, o, none⟩)], rw, es⟩) :=
  WkM.upd h1 (fun c x hx => by
    cases c with
    | zero =>
      simp at hx; subst hx
      refine ⟨_, rfl, ?_⟩
      have := VR.ptr (m := .arg) (ρ := idm fm) j o hd
      simp only [idm, Nat.zero_add] at this
      exact this
    | succ c => simp at hx) h3 rfl (Nat.le_refl _) h
end Go.Proofs.YtlfadlfjjkppfaaGreatDoor.Sim
namespace Go.Proofs.YtlfadlfjjkppfaaGreatDoor.Sim
open Go Go.RowKit
theorem Ctr.law {P : Program} {f : FuncId} {args : List Value} {M0 : List Blk} {Mo : List Blk} (S : Ctr P f args M0 (.bool true) Mo) (hro : ∀ b ∈ M0, b.rw = false) {ρ : Rho} {W : World} (hm : MemOk ρ (memL M0) W) (him : ImOk ρ (memL M0) W) (hgl : ∀ d ∈ GLB, d ∈ ρ.im)
    {rargs : List Value} (hl : args.length = rargs.length) (hr : ∀ (k : Nat) (v u : Value), args[k]? = some v → rargs[k]? = some u → VR .real (dom (memL M0)) ρ v u) :
    Calls P f rargs.toArray W fun e W' => e = .returned (.bool true) ∧ Below W.heap.size W W' := by
  refine (S.2 ρ W rargs hm him hgl hl hr).mono fun e W' ⟨u, ρ', he, _, _, hv, _, hf, _⟩ => ?_
  have hu := flat_inv hv rfl
  subst hu
  refine ⟨he, hf.os, hf.tape, hf.output, hf.size, fun k hk => hf.block k hk fun hRW => ?_⟩
  obtain ⟨i, b, hb, hrw, _⟩ := hRW
  have := hrw.1
  rw [hro b (List.mem_of_getElem? hb)] at this
  cases this
theorem ImOk.nil {ρ : Rho} {M : Mem} {W : World} (h : ρ.im = []) : ImOk ρ M W := fun d hd => by rw [h] at hd; cases hd
theorem MemOk.nil {ρ : Rho} {W : World} : MemOk ρ (memL []) W := fun i b hb => by simp [memL] at hb
end Go.Proofs.YtlfadlfjjkppfaaGreatDoor.Sim
