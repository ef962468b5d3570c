/- A statement's arguments: slices that are only read. -/
import Derived.Test.YtiikffiembcboaaSim20
import Derived.ChangeSlices
import Derived.WideShapes
import Derived.OpenShut
import Derived.Carry
namespace Go.Proofs.Ytiikffiembcboaa.Sim
open Go Go.RowKit Go.ChangeShapes Go.WideShapes

/-- a block that is only read, where the run has it -/
structure ROk (W : World) (p : Pl) (cells : List Value) (es : Nat) : Prop where
  lim : p.lim = none
  es : p.es = es
  at' : ∀ (i : Nat) (v : Value), cells[i]? = some v → W.cell? ⟨p.blk, p.off + i, none⟩ = some v
  flat : ∀ v ∈ cells, flatV v = true

theorem cell?_lt {W : World} {a : Addr} {v : Value} (h : W.cell? a = some v) : a.block < W.heap.size := by
  unfold World.cell? at h
  cases hb : W.heap[a.block]? with
  | none => rw [hb] at h; cases h
  | some o => exact (Array.getElem?_eq_some_iff.1 hb).1

theorem MemOk.ro {W : World} {ps : List Pl} {M0 : List Blk} (h : ∀ (k : Nat) (b : Blk), M0[k]? = some b → b.rw = false ∧ ∃ p, ps[k]? = some p ∧ ROk W p b.cells b.es) :
    MemOk (fun k => (ps[k]?).getD ⟨0, 0, none, 1⟩) (memL M0) W := by
  intro i b hb
  obtain ⟨hrw, p, hp, hk⟩ := h i b hb
  have e : (ps[i]?).getD ⟨0, 0, none, 1⟩ = p := by simp only [hp, Option.getD_some]
  refine ⟨fun hs => ?_, fun k v hv => ?_, fun hr => ?_, ?_, fun L hL => ?_⟩
  · rw [e]
    rcases hs with hs | hs
    · have := hs.1; rw [hrw] at this; cases this
    · obtain ⟨v, hv⟩ : ∃ v, b.cells[0]? = some v := by
        cases hc : b.cells with
        | nil => exact absurd hc hs
        | cons x r => exact ⟨x, rfl⟩
      exact cell?_lt (hk.at' 0 v hv)
  · exact ⟨v, by rw [e]; exact hk.at' k v hv, .flat v (hk.flat v (List.mem_of_getElem? hv))⟩
  · have := hr.1; rw [hrw] at this; cases this
  · rw [e]; exact hk.es
  · rw [e, hk.lim] at hL; cases hL

/-- a slice, or nil -/
def SlArg (p : Pl) (n : Nat) (u : Value) : Prop := (∃ c, u = .slice (some ⟨p.blk, p.off, none⟩) n c ∧ n ≤ c) ∨ (n = 0 ∧ u = .slice none 0 0)

inductive LawArgs (ps : List Pl) : List Value → List Value → Prop
  | nil : LawArgs ps [] []
  | pure {v : Value} {vs us : List Value} (h : pureV v = true) (hr : LawArgs ps vs us) : LawArgs ps (v :: vs) (v :: us)
  | slice {k n : Nat} {p : Pl} {u : Value} {vs us : List Value} (hk : ps[k]? = some p) (hl : p.lim = none) (h : SlArg p n u) (hr : LawArgs ps vs us) : LawArgs ps (.slice (some ⟨k, 0, none⟩) n 0 :: vs) (u :: us)

theorem LawArgs.rel {ps : List Pl} {vs us : List Value} (h : LawArgs ps vs us) {D : Nat → Prop} (hD : ∀ k, k < ps.length → D k) :
    vs.length = us.length ∧ ∀ (k : Nat) (v u : Value), vs[k]? = some v → us[k]? = some u → VR .real D (fun k => (ps[k]?).getD ⟨0, 0, none, 1⟩) v u := by
  induction h with
  | nil => exact ⟨rfl, fun k v u h => by simp at h⟩
  | pure h _ ih =>
    refine ⟨by simp [ih.1], fun k v u h1 h2 => ?_⟩
    cases k with
    | zero => simp at h1 h2; subst h1; subst h2; exact .pure h
    | succ k => exact ih.2 k v u (by simpa using h1) (by simpa using h2)
  | @slice k0 n p u vs us hk hl h _ ih =>
    refine ⟨by simp [ih.1], fun k v u h1 h2 => ?_⟩
    cases k with
    | zero =>
      simp at h1 h2; subst h1; subst h2
      rcases h with ⟨c, rfl, hc⟩ | ⟨rfl, rfl⟩
      · have := VR.slice (m := .real) (ρ := fun k => (ps[k]?).getD ⟨0, 0, none, 1⟩) (D := D) k0 0 n c (hD _ (List.getElem?_eq_some_iff.1 hk).1) (by simp) (fun _ => ⟨hc, fun L hL => by simp only [hk, Option.getD_some, hl] at hL; cases hL⟩)
        simpa only [hk, Option.getD_some, Nat.add_zero] using this
      · exact .nilS _ (by simp)
    | succ k => exact ih.2 k v u (by simpa using h1) (by simpa using h2)

/-- from a contract to what a row wants, with slices that are only read -/
theorem GC.law {P : Program} {f : FuncId} {args : List Value} {M0 Mo : List Blk} (S : GC P f args M0 [.bool true] Mo) {W : World} (ps : List Pl) (hps : ps.length = M0.length)
    (hm : ∀ (k : Nat) (b : Blk), M0[k]? = some b → b.rw = false ∧ ∃ p, ps[k]? = some p ∧ ROk W p b.cells b.es) {rargs : List Value} (ha : LawArgs ps args rargs) :
    Calls P f rargs.toArray W fun e W' => e = .returned (.bool true) ∧ Below W.heap.size W W' := by
  have hD : ∀ k, k < ps.length → dom (memL M0) k := fun k hk => dom_memL.2 (by omega)
  obtain ⟨h1, h2⟩ := ha.rel hD
  exact Ctr.law S (fun b hb => by obtain ⟨k, hk⟩ := List.mem_iff_getElem?.1 hb; exact (hm k b hk).1) (MemOk.ro hm) h1 h2

section
variable {H : Type} {enc : TypeId × Value → H} {P : Program} {W : World} {base : Nat} {spare : Nat → Bool} {held : Bool}

theorem spot_none {t e : TypeId} {r : Reach} {base : Nat} {a : Addr} {n c : Nat} (ht : P.underlying t = some (.slice e)) (h : Value.okWide P W r base t (.slice (some a) n c)) : a.spot = none := by
  simp only [Value.okWide, ht, Cell.okWide, Cell.ok] at h
  exact h.2.2.2.1

/-- an argument that is a slice of numbers -/
theorem open_nums {t e : TypeId} {k : IntKind} {r : Reach} {base' : Nat} {v : Value} {d : DataW H} {pl : List MemPlace} (ht : P.underlying t = some (.slice e)) (he : P.underlying e = some (.int k)) (hc : P.cellsOf e = 1)
    (hv : Value.okWide P W r base' t v) (h : DataW.Trod enc P W base spare held t v d pl) :
    ∃ (p : Pl) (zs : List Int), ROk W p (zs.map (Value.int k)) 1 ∧ SlArg p zs.length v ∧ ∀ z ∈ zs, (Lit.int k z).wf = true := by
  obtain ⟨a0, len0, cap0, rfl⟩ := okWide_slice ht hv
  obtain ⟨fuel, hf⟩ := h
  rcases open_ints ht he hc hf with ⟨hcs, -⟩ | ⟨a, len, cap, zs, hcs, -, hl, hm, hz, -, hcell, hwf⟩
  · have hcs' : Value.slice a0 len0 cap0 = .slice none 0 0 := by simpa [Value.cells] using hcs
    exact ⟨⟨0, 0, none, 1⟩, [], ⟨rfl, rfl, fun i v h => by simp at h, fun v h => by simp at h⟩, .inr ⟨rfl, hcs'⟩, fun z h => by simp at h⟩
  · have hcs' : Value.slice a0 len0 cap0 = .slice (some a) len cap := by simpa [Value.cells] using hcs
    rw [hcs'] at hv ⊢
    have hsp := spot_none ht hv
    obtain ⟨b, o, s⟩ := a
    simp only at hsp; subst hsp
    have hle : len ≤ zs.length := by rw [hz]; split <;> omega
    refine ⟨⟨b, o, none, 1⟩, zs.take len, ⟨rfl, rfl, fun i v h => ?_, fun v h => ?_⟩, .inl ⟨cap, by simp [List.length_take, Nat.min_eq_left hle], by simp; omega⟩, fun z h => hwf z (List.mem_of_mem_take h)⟩
    · rw [List.getElem?_map] at h
      have hi : i < len := by
        rcases Nat.lt_or_ge i len with h1 | h1
        · exact h1
        · rw [List.getElem?_eq_none (by simp; omega)] at h; simp at h
      rw [List.getElem?_take, if_pos hi, List.getElem?_eq_getElem (by omega)] at h
      have h9 := hcell i (by omega)
      rw [addr_add] at h9
      rw [h9, ← Option.some.inj (show some (Value.int k zs[i]) = some v from h), List.getD_eq_getElem?_getD, List.getElem?_eq_getElem (by omega)]
      rfl
    · obtain ⟨z, _, rfl⟩ := List.mem_map.1 h; rfl

end
end Go.Proofs.Ytiikffiembcboaa.Sim
