/- Statements of code on abstract states; contracts of functions. -/
import Derived.Test.YtiikffiembcboaaSim2
namespace Go.Proofs.Ytiikffiembcboaa.Sim
open Go

def zipL : Nat → List Oper → List Eff → List (Nat × Oper × Eff)
  | i, o :: os, e :: es => (i, o, e) :: zipL (i + 1) os es
  | _, _, _ => []

def AWo (P : Program) (ops : Array Oper) (n : Nat) (i : Nat) (os : List Oper) (σ : ASt) (D : List Eff → Prop) (K : ASt → Prop) : Prop :=
  ∃ es σ', es.length = os.length ∧ ARun P ops n (zipL i os es) σ σ' ∧ D es ∧ K σ'

theorem AWo.nil {P : Program} {ops : Array Oper} {n i : Nat} {σ : ASt} {D : List Eff → Prop} {K : ASt → Prop} (hD : D []) (hK : K σ) : AWo P ops n i [] σ D K :=
  ⟨[], σ, rfl, .nil σ, hD, hK⟩

theorem AWo.cons {P : Program} {ops : Array Oper} {n i : Nat} {o : Oper} {os : List Oper} {σ : ASt} {D : List Eff → Prop} {K : ASt → Prop} (v : Value) (e : Eff)
    (h : One P ops n o e σ v) (hr : AWo P ops n (i + 1) os (σ.step o v e) (fun es => D (e :: es)) K) : AWo P ops n i (o :: os) σ D K := by
  obtain ⟨es, σ', hl, hrun, hD, hK⟩ := hr
  exact ⟨e :: es, σ', by simp [hl], .cons v h hrun, hD, hK⟩

theorem zipL_map {os : List Oper} : ∀ {i : Nat} {es : List Eff}, es.length = os.length → (zipL i os es).map (fun x => (x.1, x.2.1)) = (os.zipIdx i).map (fun p => (p.2, p.1)) := by
  induction os with
  | nil => intro i es h; simp [zipL]
  | cons o os ih =>
    intro i es h
    cases es with
    | nil => simp at h
    | cons e es =>
      simp only [List.length_cons, Nat.add_right_cancel_iff] at h
      simp only [zipL, List.map_cons, List.zipIdx_cons, ih h]

theorem zipL_idx {os : List Oper} {i : Nat} {es : List Eff} (h : es.length = os.length) : (zipL i os es).map (·.1) = List.range' i os.length := by
  have h1 : (zipL i os es).map (·.1) = ((zipL i os es).map (fun x => (x.1, x.2.1))).map (·.1) := by rw [List.map_map]; rfl
  rw [h1, zipL_map h, List.map_map]
  have : ((fun (p : Nat × Oper) => p.1) ∘ fun (p : Oper × Nat) => (p.2, p.1)) = fun (p : Oper × Nat) => p.2 := rfl
  rw [this]
  rw [show (fun (p : Oper × Nat) => p.2) = Prod.snd from rfl, List.zipIdx_map_snd]

theorem zipL_get {ops : Array Oper} {es : List Eff} (h : es.length = ops.toList.length) : ∀ x ∈ zipL 0 ops.toList es, ops[x.1]? = some x.2.1 := by
  intro x hx
  have h1 : (x.1, x.2.1) ∈ (zipL 0 ops.toList es).map (fun x => (x.1, x.2.1)) := List.mem_map.2 ⟨x, hx, rfl⟩
  rw [zipL_map h] at h1
  obtain ⟨p, hp, he⟩ := List.mem_map.1 h1
  obtain ⟨o, k⟩ := p
  simp only [Prod.mk.injEq] at he
  have := List.mem_zipIdx hp
  obtain ⟨rfl, rfl⟩ := he
  have h2 := this.2.1
  have h3 := this.2.2
  simp only [Nat.zero_add, Nat.sub_zero] at h2 h3
  rw [h3]
  simp only [Array.length_toList] at h2
  rw [Array.getElem?_eq_getElem h2]
  simp

/-! ### code -/

def RQ (C : Ctx) (Q : Exit → ASt → Prop) : Exit → Act → World → Prop := fun e a w => ∃ ρ σ, Rep C ρ σ a w ∧ Q e σ

def AW (P : Program) (n m : Nat) (c : Code) (σ : ASt) (Q : Exit → ASt → Prop) : Prop :=
  ∀ C : Ctx, C.n = n → C.m = m → ∀ ρ a w, Rep C ρ σ a w → c.wp P (RQ C Q) a w

def thenA (Y : ASt → Prop) (Q : Exit → ASt → Prop) : Exit → ASt → Prop
  | .normal, σ => Y σ
  | e, σ => Q e σ

def inBlockA (id : Nat) (Q : Exit → ASt → Prop) : Exit → ASt → Prop
  | .exit id', σ => if id' = id then Q .normal σ else Q (.exit id') σ
  | e, σ => Q e σ

section rules
variable {P : Program} {n m : Nat} {σ : ASt} {Q : Exit → ASt → Prop}

theorem AW.mono {c : Code} {Q' : Exit → ASt → Prop} (h : AW P n m c σ Q') (hq : ∀ e σ, Q' e σ → Q e σ) : AW P n m c σ Q :=
  fun C hn hm ρ a w hR => wp_mono (h C hn hm ρ a w hR) fun _ _ _ ⟨ρ', σ', hR', hQ⟩ => ⟨ρ', σ', hR', hq _ _ hQ⟩

theorem AW.skip (h : Q .normal σ) : AW P n m .skip σ Q := fun _ _ _ ρ _ _ hR => wp_skip ⟨ρ, σ, hR, h⟩
theorem AW.label {l : Nat} (h : Q .normal σ) : AW P n m (.label l) σ Q := fun _ _ _ ρ _ _ hR => wp_label ⟨ρ, σ, hR, h⟩
theorem AW.exit {id : Nat} (h : Q (.exit id) σ) : AW P n m (.exit id) σ Q := fun _ _ _ ρ _ _ hR => wp_exit ⟨ρ, σ, hR, h⟩
theorem AW.goto {l : Nat} (h : Q (.goto l) σ) : AW P n m (.goto l) σ Q := fun _ _ _ ρ _ _ hR => wp_goto ⟨ρ, σ, hR, h⟩
theorem AW.ret (h : Q .ret σ) : AW P n m .ret σ Q := fun _ _ _ ρ _ _ hR => wp_ret ⟨ρ, σ, hR, h⟩

theorem AW.seq {x y : Code} (h : AW P n m x σ (thenA (fun σ' => AW P n m y σ' Q) Q)) : AW P n m (.seq x y) σ Q :=
  fun C hn hm ρ a w hR => wp_seq (wp_mono (h C hn hm ρ a w hR) fun e a' w' ⟨ρ', σ', hR', hQ⟩ => by
    cases e with
    | normal => exact hQ C hn hm ρ' a' w' hR'
    | _ => exact ⟨ρ', σ', hR', hQ⟩)

theorem AW.cond {c : Operand} {x y : Code} {b : Bool} (hc : aev σ.env c = some (.bool b)) (ht : b = true → AW P n m x σ Q) (hf : b = false → AW P n m y σ Q) :
    AW P n m (.cond c x y) σ Q :=
  fun C hn hm ρ a w hR => wp_cond_split (flat_inv (hR.eval hc) rfl) (fun h => ht h C hn hm ρ a w hR) (fun h => hf h C hn hm ρ a w hR)

theorem AW.block {id : Nat} {c : Code} (h : AW P n m c σ (inBlockA id Q)) : AW P n m (.block id c) σ Q :=
  fun C hn hm ρ a w hR => wp_block (wp_mono (h C hn hm ρ a w hR) fun e a' w' ⟨ρ', σ', hR', hQ⟩ => by
    cases e with
    | exit id' =>
      simp only [inBlockA, Exit.inBlock] at hQ ⊢
      split
      · rename_i h1; rw [if_pos h1] at hQ; exact ⟨ρ', σ', hR', hQ⟩
      · rename_i h1; rw [if_neg h1] at hQ; exact ⟨ρ', σ', hR', hQ⟩
    | _ => exact ⟨ρ', σ', hR', hQ⟩)

theorem AW.region {id : Nat} {ops : Array Oper} (h : AWo P ops n 0 ops.toList σ (fun _ => True) (Q .normal)) : AW P n m (.region id ops false) σ Q := by
  intro C hn hm ρ a w hR
  obtain ⟨es, σ', hl, hrun, _, hK⟩ := h
  refine wp_region ?_
  have h1 := wpOps_of_run (Q := RQ C Q) hn (fun ρ a w hR => ⟨ρ, σ', hR, hK⟩) _ (zipL_get hl) hrun ρ a w hR
  rw [zipL_idx hl] at h1
  rwa [List.range_eq_range', ← Array.length_toList]

def bfOf (ops : Array Oper) : List Nat :=
  ops.toList.foldl (fun acc o => acc ++ [o.after.toList.foldl (fun s e => if bnd e then s ||| 2 ^ e.on ||| acc.getD e.on 0 else s) 0]) []

abbrev Dat := List Nat × List Nat
def dat (e : Eff) : Dat := (e.fp, keys e.new)

def commB (ops : Array Oper) (o o' : Oper) (d d' : Dat) : Bool :=
  o.apart ops o' && d.2.all (fun i => !d'.1.contains i && !d'.2.contains i) && d'.2.all (fun i => !d.1.contains i)

def rowB (ops : Array Oper) (bf : List Nat) (i : Nat) (o : Oper) (d : Dat) : Nat → List Oper → List Dat → Bool
  | j, o' :: os, d' :: ds => (anc bf i j || commB ops o o' d d') && rowB ops bf i o d (j + 1) os ds
  | _, _, _ => true

def pwB (ops : Array Oper) (bf : List Nat) : Nat → List Oper → List Dat → Bool
  | i, o :: os, d :: ds => rowB ops bf i o d (i + 1) os ds && pwB ops bf (i + 1) os ds
  | _, _, _ => true

def drawB (ops : Array Oper) (ds : List Dat) : Bool := certOk ops (bfOf ops) && pwB ops (bfOf ops) 0 ops.toList ds

theorem commB_spec {ops : Array Oper} {i j : Nat} {o o' : Oper} {e e' : Eff} (h : commB ops o o' (dat e) (dat e') = true) : Comm ops (i, o, e) (j, o', e') := by
  simp only [commB, dat, Bool.and_eq_true, List.all_eq_true, Bool.not_eq_true', List.contains_eq_mem, decide_eq_false_iff_not] at h
  exact ⟨h.1.1, fun k hk => h.1.2 k hk, fun k hk => h.2 k hk⟩

theorem rowB_spec {ops : Array Oper} {bf : List Nat} {i : Nat} {o : Oper} {e : Eff} : ∀ {os : List Oper} {es : List Eff} {j : Nat},
    rowB ops bf i o (dat e) j os (es.map dat) = true → ∀ y ∈ zipL j os es, PW ops bf (i, o, e) y := by
  intro os
  induction os with
  | nil => intro es j _ y hy; simp [zipL] at hy
  | cons o' os ih =>
    intro es j h y hy
    cases es with
    | nil => simp [zipL] at hy
    | cons e' es =>
      simp only [List.map_cons, rowB, Bool.and_eq_true, Bool.or_eq_true] at h
      simp only [zipL, List.mem_cons] at hy
      rcases hy with rfl | hy
      · rcases h.1 with h1 | h1
        · exact .inl h1
        · exact .inr (commB_spec h1)
      · exact ih h.2 y hy

theorem pwB_spec {ops : Array Oper} {bf : List Nat} : ∀ {os : List Oper} {es : List Eff} {i : Nat},
    pwB ops bf i os (es.map dat) = true → (zipL i os es).Pairwise (PW ops bf) := by
  intro os
  induction os with
  | nil => intro es i _; simp [zipL]
  | cons o os ih =>
    intro es i h
    cases es with
    | nil => simp [zipL]
    | cons e es =>
      simp only [List.map_cons, pwB, Bool.and_eq_true] at h
      simp only [zipL]
      exact List.pairwise_cons.2 ⟨rowB_spec h.1, ih h.2⟩

theorem getD_replicate (m j : Nat) : (Array.replicate m false).getD j false = false := by
  rcases Nat.lt_or_ge j m with h | h
  · simp [h]
  · simp [h]

theorem Rep.drew {C : Ctx} {ρ : Rho} {a : Act} {w : World} (h : Rep C ρ σ a w) : Rep C ρ σ a { w with drawn := w.drawn + 1 } :=
  ⟨h.size, h.defers, h.env, fun i b hb => by
    have := h.mem i b hb
    exact ⟨this.lt, this.cells, fun hr => ⟨(this.rw hr).off, (this.rw hr).soft, (this.rw hr).lim, (this.rw hr).lone⟩, this.es, this.room⟩, h.agree, h.low, h.own,
    ⟨h.frame.os, h.frame.tape, h.frame.output, h.frame.size, h.frame.block⟩⟩

theorem AW.draw (hm : P.follows .mixedOrders = true) {id : Nat} {ops : Array Oper}
    (h : AWo P ops n 0 ops.toList σ (fun es => drawB ops (es.map dat) = true) (Q .normal)) : AW P n m (.region id ops true) σ Q := by
  intro C hn hm' ρ a w hR
  obtain ⟨es, σ', hl, hrun, hD, hK⟩ := h
  simp only [drawB, Bool.and_eq_true] at hD
  refine wp_region_any hm ?_
  have hlen : (zipL 0 ops.toList es).length = ops.size := by
    have := congrArg List.length (zipL_idx (i := 0) hl)
    simpa using this
  refine wpAny_of_run (Q := RQ C Q) hn (fun ρ a w hR => ⟨ρ, σ', hR, hK⟩) hD.1 ops.size (zipL 0 ops.toList es) σ _ hlen (by simp) ?_ (zipL_get hl) ?_ ?_ (pwB_spec hD.2) hrun ρ a _ hR.drew
  · intro j oj _ hlj
    rw [getD_replicate] at hlj
    cases hlj
  · rw [zipL_idx hl]; exact List.pairwise_lt_range'
  · intro i hi
    rw [zipL_idx hl]
    constructor
    · intro _; simp [hi]
    · intro _; exact getD_replicate _ _

/-- a loop: a relation on abstract states, with a number that goes down -/
theorem AW.loop {c : Code} (I : Nat → ASt → Prop) {k : Nat} (h0 : I k σ)
    (round : ∀ k σ, I k σ → AW P n m c σ (thenA (fun σ' => ∃ k', k' < k ∧ I k' σ') Q)) : AW P n m (.loop c) σ Q := by
  intro C hn hm ρ a w hR b k' cs
  have key : ∀ N k σ ρ a w, k < N → I k σ → Rep C ρ σ a w →
      ∃ e a' w', RQ C Q e a' w' ∧ Arrives P (lone (b.at a (.code c :: .inLoop c :: k')) cs w) b k' cs e a' w' := by
    intro N
    induction N with
    | zero => intro k σ ρ a w h; omega
    | succ N ih =>
      intro k σ ρ a w hk hI hR
      obtain ⟨e, a₁, w₁, ⟨ρ1, σ1, hR1, hq⟩, harr⟩ := round k σ hI C hn hm ρ a w hR b (.inLoop c :: k') cs
      cases e with
      | normal =>
        obtain ⟨k1, hlt, hI1⟩ := hq
        obtain ⟨e₂, a₂, w₂, hq₂, harr₂⟩ := ih k1 σ1 ρ1 a₁ w₁ (by omega) hI1 hR1
        exact ⟨e₂, a₂, w₂, hq₂, .of_steps (Steps.trans harr (.one step_inLoop)) harr₂⟩
      | exit id => exact ⟨_, a₁, w₁, ⟨ρ1, σ1, hR1, hq⟩, .pass (x := .inLoop c) rfl (fun _ _ => .inl (by simp)) harr⟩
      | goto l => exact ⟨_, a₁, w₁, ⟨ρ1, σ1, hR1, hq⟩, .pass (x := .inLoop c) rfl (fun _ _ => .inl (by simp)) harr⟩
      | ret => exact ⟨_, a₁, w₁, ⟨ρ1, σ1, hR1, hq⟩, .pass (x := .inLoop c) rfl (fun _ _ => .inl (by simp)) harr⟩
      | panic ch => exact ⟨_, a₁, w₁, ⟨ρ1, σ1, hR1, hq⟩, .pass (x := .inLoop c) rfl (fun _ _ => .inl (by simp)) harr⟩
      | outgrown => exact ⟨_, a₁, w₁, ⟨ρ1, σ1, hR1, hq⟩, .pass (x := .inLoop c) rfl (fun _ _ => .inl (by simp)) harr⟩
  obtain ⟨e, a', w', hq, harr⟩ := key (k + 1) k σ ρ a w (by omega) h0 hR
  exact ⟨e, a', w', hq, .of_steps (.one step_loop) harr⟩

def roundsA (P : Program) (n m : Nat) (c : Code) (Q : Exit → ASt → Prop) : Nat → ASt → Prop
  | 0, _ => False
  | k + 1, σ => AW P n m c σ (thenA (roundsA P n m c Q k) Q)

/-- a loop of at most k rounds -/
theorem AW.rounds {c : Code} (k : Nat) (h : roundsA P n m c Q k σ) : AW P n m (.loop c) σ Q := by
  refine AW.loop (fun k σ => roundsA P n m c Q k σ) h fun k σ hk => ?_
  cases k with
  | zero => exact hk.elim
  | succ k =>
    refine AW.mono hk fun e σ' h' => ?_
    cases e with
    | normal => exact ⟨k, by omega, h'⟩
    | _ => exact h'

end rules
end Go.Proofs.Ytiikffiembcboaa.Sim
