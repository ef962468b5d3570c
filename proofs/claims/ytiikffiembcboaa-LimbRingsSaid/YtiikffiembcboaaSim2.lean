/- Steps of operations on abstract states; a region that draws its order comes to what the text's order comes to. -/
import Derived.Test.YtiikffiembcboaaSim1
namespace Go.Proofs.Ytiikffiembcboaa.Sim
open Go

theorem putE_ne {E : Env} {d : Option Tmp} {v : Value} {t : Nat} (h : d ≠ some t) : putE E d v t = E t := by
  cases d with
  | none => rfl
  | some k => simp only [putE, upd]; rw [if_neg (fun e => h (by rw [e]))]

theorem putE_comm {E : Env} {d d' : Option Tmp} {v v' : Value} (h : ∀ t, d = some t → d' ≠ some t) :
    putE (putE E d v) d' v' = putE (putE E d' v') d v := by
  cases d with
  | none => rfl
  | some k =>
    cases d' with
    | none => rfl
    | some k' =>
      have hne : k' ≠ k := fun e => h k rfl (by rw [e])
      funext t
      simp only [putE, upd]
      by_cases h1 : t = k'
      · by_cases h2 : t = k
        · exact absurd (h1.symm.trans h2) hne
        · simp [h1, hne]
      · simp [h1]

def keys (l : List (Nat × Blk)) : List Nat := l.map (·.1)

theorem upds_out {M : Mem} {l : List (Nat × Blk)} {i : Nat} (h : i ∉ keys l) : upds M l i = M i := by
  induction l with
  | nil => rfl
  | cons p r ih =>
    obtain ⟨k, b⟩ := p
    simp only [keys, List.map_cons, List.mem_cons, not_or] at h
    simp only [upds, upd]
    rw [if_neg h.1]
    exact ih h.2

theorem upds_in {M M' : Mem} {l : List (Nat × Blk)} {i : Nat} (h : i ∈ keys l) : upds M l i = upds M' l i := by
  induction l with
  | nil => simp [keys] at h
  | cons p r ih =>
    obtain ⟨k, b⟩ := p
    simp only [upds, upd]
    by_cases hk : i = k
    · simp [hk]
    · rw [if_neg hk, if_neg hk]
      simp only [keys, List.map_cons, List.mem_cons] at h
      exact ih (h.resolve_left hk)

theorem upds_comm {M : Mem} {l l' : List (Nat × Blk)} (h : ∀ i, i ∈ keys l → i ∉ keys l') : upds (upds M l) l' = upds (upds M l') l := by
  funext i
  by_cases h1 : i ∈ keys l
  · rw [upds_out (h i h1)]
    exact upds_in h1
  · rw [upds_out h1]
    by_cases h2 : i ∈ keys l'
    · exact upds_in h2
    · rw [upds_out h2, upds_out h1, upds_out h2]

theorem upds_dom {M : Mem} {l : List (Nat × Blk)} {i : Nat} (h : dom M i) : dom (upds M l) i := by
  induction l with
  | nil => exact h
  | cons p r ih =>
    obtain ⟨k, b⟩ := p
    simp only [upds, upd, dom]
    by_cases hk : i = k
    · exact ⟨b, by simp [hk]⟩
    · rw [if_neg hk]; exact ih

structure Eff where
  fp : List Nat
  new : List (Nat × Blk)

/-- one operation comes, in whatever place, to a value and a world that stand for the abstract ones -/
def StepTo (P : Program) (o : Oper) (a : Act) (w : World) (R : Value → World → Prop) : Prop :=
  o.wp P a w (fun a' w' => ∃ u, a' = a.put o.dst u ∧ R u w') (fun _ _ _ => False)

def FStep (P : Program) (o : Oper) (E : Env) (M : Mem) (v : Value) (e : Eff) : Prop :=
  ∀ (E' : Env) (M' : Mem), (∀ x ∈ o.op.operands, aev E' x = aev E x) → (∀ i ∈ e.fp, M' i = M i) → (∀ p ∈ e.new, p.1 ∉ e.fp → M' p.1 = none) →
    ∀ C ρ a w, Rep C ρ ⟨E', M'⟩ a w →
      StepTo P o a w fun u w' => ∃ ρ', Rep C ρ' ⟨E', upds M' e.new⟩ a w' ∧ VR .real (dom (upds M' e.new)) ρ' v u

def wantA (ops : Array Oper) (E : Env) (o : Oper) : Option Bool :=
  match o.guard with
  | none => some true
  | some (j, b) =>
    match (ops[j]?).bind (·.dst) with
    | none => some false
    | some t =>
      match E t with
      | some (.bool c) => some (c == b)
      | some (.tuple vs) => if vs.isEmpty then some false else none
      | _ => none

def One (P : Program) (ops : Array Oper) (n : Nat) (o : Oper) (e : Eff) (σ : ASt) (v : Value) : Prop :=
  (∀ d, o.dst = some d → d < n) ∧
  ((wantA ops σ.env o = some true ∧ FStep P o σ.env σ.mem v e ∧ ∀ p ∈ e.new, p.1 ∉ e.fp → σ.mem p.1 = none) ∨
   (wantA ops σ.env o = some false ∧ v = undef ∧ e.new = []))

def ASt.step (σ : ASt) (o : Oper) (v : Value) (e : Eff) : ASt := ⟨putE σ.env o.dst v, upds σ.mem e.new⟩

inductive ARun (P : Program) (ops : Array Oper) (n : Nat) : List (Nat × Oper × Eff) → ASt → ASt → Prop
  | nil (σ : ASt) : ARun P ops n [] σ σ
  | cons {i : Nat} {o : Oper} {e : Eff} {r : List (Nat × Oper × Eff)} {σ σ' : ASt} (v : Value) (h : One P ops n o e σ v) (hr : ARun P ops n r (σ.step o v e) σ') :
      ARun P ops n ((i, o, e) :: r) σ σ'

theorem wantA_congr {ops : Array Oper} {E E' : Env} {o : Oper} (h : ∀ t ∈ o.looksAt ops, E' t = E t) : wantA ops E' o = wantA ops E o := by
  unfold wantA
  cases hg : o.guard with
  | none => rfl
  | some p =>
    obtain ⟨j, b⟩ := p
    simp only
    cases ht : (ops[j]?).bind (·.dst) with
    | none => rfl
    | some t =>
      have : t ∈ o.looksAt ops := by
        unfold Oper.looksAt
        rw [hg]
        exact List.mem_append_right _ (by simp [ht])
      simp only [h t this]

theorem aev_congr {ops : Array Oper} {E E' : Env} {o : Oper} (h : ∀ t ∈ o.looksAt ops, E' t = E t) : ∀ x ∈ o.op.operands, aev E' x = aev E x := by
  intro x hx
  cases x with
  | tmp t =>
    refine h t ?_
    unfold Oper.looksAt
    exact List.mem_append_left _ (List.mem_filterMap.2 ⟨.tmp t, by simpa using hx, rfl⟩)
  | _ => rfl

theorem One.transport {P : Program} {ops : Array Oper} {n : Nat} {o : Oper} {e : Eff} {σ τ : ASt} {v : Value} (h : One P ops n o e σ v)
    (hE : ∀ t ∈ o.looksAt ops, τ.env t = σ.env t) (hM : ∀ i ∈ e.fp, τ.mem i = σ.mem i) (hN : ∀ p ∈ e.new, σ.mem p.1 = none → τ.mem p.1 = none) : One P ops n o e τ v := by
  refine ⟨h.1, ?_⟩
  rw [wantA_congr hE]
  rcases h.2 with ⟨hw, hf, hn⟩ | h2
  · refine .inl ⟨hw, fun E' M' h1 h2 h3 => ?_, fun p hp hq => hN p hp (hn p hp hq)⟩
    exact hf E' M' (fun x hx => (h1 x hx).trans (aev_congr hE x hx)) (fun i hi => (h2 i hi).trans (hM i hi)) h3
  · exact .inr h2

def Comm (ops : Array Oper) (x y : Nat × Oper × Eff) : Prop :=
  x.2.1.apart ops y.2.1 = true ∧ (∀ i ∈ keys x.2.2.new, i ∉ y.2.2.fp ∧ i ∉ keys y.2.2.new) ∧ (∀ i ∈ keys y.2.2.new, i ∉ x.2.2.fp)

theorem mem_keys {l : List (Nat × Blk)} {p : Nat × Blk} (h : p ∈ l) : p.1 ∈ keys l := List.mem_map.2 ⟨p, h, rfl⟩

theorem ARun.swap {P : Program} {ops : Array Oper} {n : Nat} {x y : Nat × Oper × Eff} {r : List (Nat × Oper × Eff)} {σ σ' : ASt}
    (h : ARun P ops n (x :: y :: r) σ σ') (hc : Comm ops x y) : ARun P ops n (y :: x :: r) σ σ' := by
  obtain ⟨ix, ox, ex⟩ := x
  obtain ⟨iy, oy, ey⟩ := y
  obtain ⟨ha, h1, h2⟩ := hc
  obtain ⟨a1, a2, a3⟩ := Oper.apart_spec ha
  cases h with
  | cons vx hx hr =>
    cases hr with
    | cons vy hy hr =>
      refine .cons vy (hy.transport (fun t ht => ?_) (fun i hi => ?_) (fun p hp hq => ?_)) (.cons vx (hx.transport (fun t ht => ?_) (fun i hi => ?_) (fun p hp hq => ?_)) ?_)
      · exact (putE_ne fun e => a1 t e ht).symm
      · exact (upds_out fun hk => (h1 i hk).1 hi).symm
      · simp only [ASt.step] at hq
        rwa [upds_out fun hk => (h1 _ hk).2 (mem_keys hp)] at hq
      · exact putE_ne fun e => a3 t e ht
      · exact upds_out fun hk => h2 i hk hi
      · simp only [ASt.step]
        rwa [upds_out fun hk => (h1 _ (mem_keys hp)).2 hk]
      · have e1 : (σ.step oy vy ey).step ox vx ex = (σ.step ox vx ex).step oy vy ey := by
          simp only [ASt.step]
          rw [putE_comm (d := ox.dst) (d' := oy.dst) a2, upds_comm (l := ex.new) (l' := ey.new) fun i hi => (h1 i hi).2]
        rw [e1]; exact hr

theorem ARun.front {P : Program} {ops : Array Oper} {n : Nat} {y : Nat × Oper × Eff} {post : List (Nat × Oper × Eff)} {σ' : ASt} :
    ∀ (pre : List (Nat × Oper × Eff)) {σ : ASt}, ARun P ops n (pre ++ y :: post) σ σ' → (∀ x ∈ pre, Comm ops x y) → ARun P ops n (y :: (pre ++ post)) σ σ'
  | [], _, h, _ => h
  | x :: pre, σ, h, hc => by
    obtain ⟨ix, ox, ex⟩ := x
    cases h with
    | cons v hx hr =>
      have := ARun.front pre hr fun z hz => hc z (List.mem_cons_of_mem _ hz)
      exact ARun.swap (.cons v hx this) (hc _ (List.mem_cons_self ..))

theorem Rep.put {C : Ctx} {ρ : Rho} {σ : ASt} {a : Act} {w : World} (h : Rep C ρ σ a w) {d : Option Tmp} {v u : Value} (hd : ∀ t, d = some t → t < C.n)
    (hv : VR .real (dom σ.mem) ρ v u) : Rep C ρ ⟨putE σ.env d v, σ.mem⟩ (a.put d u) w := by
  cases d with
  | none => exact h
  | some k =>
    refine ⟨by simp [Act.put, h.size], h.defers, fun t x hx => ?_, h.mem, h.agree, h.low, h.own, h.frame⟩
    simp only [putE, upd] at hx
    by_cases ht : t = k
    · subst ht
      simp only [if_true] at hx
      cases hx
      refine ⟨u, ?_, hv⟩
      have : t < a.tmps.size := by rw [h.size]; exact hd t rfl
      simp [Act.put, this]
    · rw [if_neg ht] at hx
      obtain ⟨y, hy, hr⟩ := h.env t x hx
      refine ⟨y, ?_, hr⟩
      simp only [Act.put]
      rw [Array.getElem?_setIfInBounds_ne (Ne.symm ht)]
      exact hy

theorem wp_noQ {P : Program} {o : Oper} {a : Act} {w : World} {K K' : Act → World → Prop} {Q : Exit → Act → World → Prop}
    (h : o.wp P a w K (fun _ _ _ => False)) (hk : ∀ a w, K a w → K' a w) : o.wp P a w K' Q := by
  unfold Oper.wp at *
  generalize (execOp a.eval o).run P w = r at *
  cases r with
  | ok x w' =>
    cases x <;> simp only [Oper.upon] at h ⊢ <;>
      first
        | exact hk _ _ h
        | exact Calls.mono h (fun e w'' he => by
            cases e with
            | returned v => exact hk _ _ he
            | panicked c => exact he.elim
            | outgrown => obtain ⟨_, _, hf⟩ := he; exact hf.elim)
        | exact Rows.mono h (fun _ _ he => hk _ _ he)
  | halt x w' => cases x <;> simp only [Oper.upon] at h ⊢ <;> exact h.elim

theorem want_real {ops : Array Oper} {C : Ctx} {ρ : Rho} {σ : ASt} {a : Act} {w : World} (hR : Rep C ρ σ a w) {o : Oper} {b : Bool}
    (h : wantA ops σ.env o = some b) : Region.wanted o (yielded ops a.tmps) = b := by
  unfold wantA at h
  unfold Region.wanted
  cases hg : o.guard with
  | none => rw [hg] at h; simpa using h
  | some p =>
    obtain ⟨j, want⟩ := p
    rw [hg] at h
    simp only at h ⊢
    unfold yielded
    cases ht : (ops[j]?).bind (·.dst) with
    | none => rw [ht] at h; simp only [Option.bind_none]; simp at h; subst h; rfl
    | some t =>
      rw [ht] at h
      simp only at h
      cases hE : σ.env t with
      | none => rw [hE] at h; simp at h
      | some v =>
        rw [hE] at h
        obtain ⟨u, hu, hv⟩ := hR.env t v hE
        simp only [Option.bind_some, hu]
        cases v with
        | bool c =>
          obtain rfl := flat_inv hv rfl
          simp only [Option.some.injEq] at h ⊢
          rw [← h]; cases c <;> cases want <;> rfl
        | tuple vs =>
          simp only at h
          split at h
          · rename_i he
            obtain rfl := flat_inv hv (by simpa [flatV] using he)
            cases h; rfl
          · cases h
        | _ => simp at h

theorem One.real {P : Program} {ops : Array Oper} {n : Nat} {o : Oper} {e : Eff} {σ : ASt} {v : Value} (h : One P ops n o e σ v) {C : Ctx} {ρ : Rho} {a : Act} {w : World}
    (hR : Rep C ρ σ a w) (hn : C.n = n) {i : Nat} (hi : ops[i]? = some o) {Q : Exit → Act → World → Prop} {K : Act → World → Prop}
    (hK : ∀ ρ' a' w', Rep C ρ' (σ.step o v e) a' w' → K a' w') : wpOp P ops Q i K a w := by
  unfold wpOp
  simp only [hi]
  rcases h.2 with ⟨hw, hf, hnw⟩ | ⟨hw, rfl, he⟩
  · rw [want_real hR hw]
    simp only [if_true]
    refine .inl (wp_noQ (hf σ.env σ.mem (fun _ _ => rfl) (fun _ _ => rfl) hnw C ρ a w hR) ?_)
    rintro a' w' ⟨u, rfl, ρ', hR', hv⟩
    exact hK ρ' _ w' (hR'.put (fun t ht => by rw [hn]; exact h.1 t ht) hv)
  · rw [want_real hR hw]
    simp only [Bool.false_eq_true, if_false]
    refine hK ρ _ w ?_
    have := hR.put (d := o.dst) (v := undef) (u := undef) (fun t ht => by rw [hn]; exact h.1 t ht) (.flat _ rfl)
    simp only [ASt.step, he, upds]
    exact this

theorem wpOps_of_run {P : Program} {ops : Array Oper} {n : Nat} {Q : Exit → Act → World → Prop} {C : Ctx} (hn : C.n = n) {σ' : ASt}
    (hQ : ∀ ρ a w, Rep C ρ σ' a w → Q .normal a w) :
    ∀ (L : List (Nat × Oper × Eff)) {σ : ASt}, (∀ x ∈ L, ops[x.1]? = some x.2.1) → ARun P ops n L σ σ' →
      ∀ ρ a w, Rep C ρ σ a w → wpOps P ops Q (L.map (·.1)) a w
  | [], σ, _, h, ρ, a, w, hR => by cases h; exact hQ ρ a w hR
  | (i, o, e) :: r, σ, hi, h, ρ, a, w, hR => by
    cases h with
    | cons v h1 hr =>
      rw [List.map_cons, wpOps_cons]
      exact h1.real hR hn (hi _ (List.mem_cons_self ..)) fun ρ' a' w' hR' =>
        wpOps_of_run hn hQ r (fun x hx => hi x (List.mem_cons_of_mem _ hx)) hr ρ' a' w' hR'

/-! ### an order that is drawn -/

def bnd (e : Edge) : Bool := Region.binds .any e

def anc (bf : List Nat) (j i : Nat) : Bool := (bf.getD i 0).testBit j

def certOk (ops : Array Oper) (bf : List Nat) : Bool :=
  (List.range ops.size).all fun i =>
    match ops[i]? with
    | none => true
    | some o => (o.after.toList.all fun e => !bnd e || decide (e.on < i)) &&
      (List.range ops.size).all fun j => !anc bf j i || o.after.toList.any fun e => bnd e && (e.on == j || anc bf j e.on)

def Closed (ops : Array Oper) (listed : Array Bool) : Prop :=
  ∀ j oj, ops[j]? = some oj → listed.getD j false = true → ∀ e ∈ oj.after, bnd e = true → listed.getD e.on false = true

theorem cert_edge {ops : Array Oper} {bf : List Nat} (h : certOk ops bf = true) {i : Nat} {o : Oper} (hi : ops[i]? = some o) :
    (∀ e ∈ o.after, bnd e = true → e.on < i) ∧ (∀ j, j < ops.size → anc bf j i = true → ∃ e ∈ o.after, bnd e = true ∧ (e.on = j ∨ anc bf j e.on = true)) := by
  have hlt : i < ops.size := (Array.getElem?_eq_some_iff.1 hi).1
  unfold certOk at h
  have h1 := List.all_eq_true.1 h i (List.mem_range.2 hlt)
  rw [hi] at h1
  simp only [Bool.and_eq_true] at h1
  refine ⟨fun e he hb => ?_, fun j hj ha => ?_⟩
  · have := List.all_eq_true.1 h1.1 e (Array.mem_toList_iff.2 he)
    simpa [hb] using this
  · have := List.all_eq_true.1 h1.2 j (List.mem_range.2 hj)
    rw [ha] at this
    simp only [Bool.not_true, Bool.false_or] at this
    obtain ⟨e, he, h2⟩ := List.any_eq_true.1 this
    simp only [Bool.and_eq_true, Bool.or_eq_true, beq_iff_eq] at h2
    exact ⟨e, Array.mem_toList_iff.1 he, h2.1, h2.2⟩

theorem anc_listed {ops : Array Oper} {bf : List Nat} (hc : certOk ops bf = true) {listed : Array Bool} (hcl : Closed ops listed) :
    ∀ (N i : Nat), i < N → ∀ o, ops[i]? = some o → (∀ e ∈ o.after, bnd e = true → listed.getD e.on false = true) →
      ∀ j, j < ops.size → anc bf j i = true → listed.getD j false = true := by
  intro N
  induction N with
  | zero => intro i h; omega
  | succ N ih =>
    intro i hiN o hi hall j hj ha
    obtain ⟨e, he, hb, h⟩ := (cert_edge hc hi).2 j hj ha
    have hlt := (cert_edge hc hi).1 e he hb
    have hl := hall e he hb
    rcases h with h | h
    · rw [← h]; exact hl
    · have hsz : e.on < ops.size := by
        have := (Array.getElem?_eq_some_iff.1 hi).1
        omega
      exact ih e.on (by omega) _ (Array.getElem?_eq_getElem hsz) (hcl _ _ (Array.getElem?_eq_getElem hsz) hl) j hj h

/-- the pairs of a region that may come in either order -/
def PW (ops : Array Oper) (bf : List Nat) (x y : Nat × Oper × Eff) : Prop := anc bf x.1 y.1 = true ∨ Comm ops x y

theorem getD_neg {listed : Array Bool} {i : Nat} (hi : i < listed.size) : listed.getD i true = listed.getD i false := by
  simp [hi]

theorem wpAny_of_run {P : Program} {ops : Array Oper} {n : Nat} {bf : List Nat} {Q : Exit → Act → World → Prop} {C : Ctx} (hn : C.n = n) {σ' : ASt}
    (hQ : ∀ ρ a w, Rep C ρ σ' a w → Q .normal a w) (hcert : certOk ops bf = true) :
    ∀ (f : Nat) (L : List (Nat × Oper × Eff)) (σ : ASt) (listed : Array Bool), L.length = f → listed.size = ops.size → Closed ops listed →
      (∀ x ∈ L, ops[x.1]? = some x.2.1) → (L.map (·.1)).Pairwise (· < ·) → (∀ i, i < ops.size → (listed.getD i false = false ↔ i ∈ L.map (·.1))) →
      L.Pairwise (PW ops bf) → ARun P ops n L σ σ' → ∀ ρ a w, Rep C ρ σ a w → wpAny P .any ops Q f listed a w := by
  intro f
  induction f with
  | zero =>
    intro L σ listed hlen hsz hcl hi hs hl hp h ρ a w hR
    obtain rfl : L = [] := List.length_eq_zero_iff.1 hlen
    cases h
    refine ⟨?_, hQ ρ a w hR⟩
    refine List.eq_nil_iff_forall_not_mem.2 fun i hi' => ?_
    obtain ⟨h0, o, ho, _⟩ := mem_ready.1 hi'
    have hlt : i < ops.size := (Array.getElem?_eq_some_iff.1 ho).1
    rw [getD_neg (by omega)] at h0
    have := (hl i hlt).1 h0
    simp at this
  | succ f ih =>
    intro L σ listed hlen hsz hcl hi hs hl hp h ρ a w hR
    refine ⟨fun hr => ?_, fun i hri => ?_⟩
    · exfalso
      obtain ⟨x, r, rfl⟩ : ∃ x r, L = x :: r := by cases L with
        | nil => simp at hlen
        | cons x r => exact ⟨x, r, rfl⟩
      have hx := hi x (List.mem_cons_self ..)
      have hlt : x.1 < ops.size := (Array.getElem?_eq_some_iff.1 hx).1
      have : x.1 ∈ Region.ready .any ops listed := by
        refine mem_ready.2 ⟨by rw [getD_neg (by omega)]; exact (hl _ hlt).2 (by simp), x.2.1, hx, fun e he hb => ?_⟩
        have hon := (cert_edge hcert hx).1 e he hb
        cases hv : listed.getD e.on false with
        | true => rfl
        | false =>
          have hm := (hl e.on (by omega)).1 hv
          simp only [List.map_cons, List.mem_cons] at hm
          rcases hm with hm | hm
          · omega
          · have hlt2 : x.1 < e.on := (List.pairwise_cons.1 hs).1 _ hm
            omega
      rw [hr] at this
      cases this
    · obtain ⟨h0, o, ho, hall⟩ := mem_ready.1 hri
      have hlt : i < ops.size := (Array.getElem?_eq_some_iff.1 ho).1
      rw [getD_neg (by omega)] at h0
      have hm := (hl i hlt).1 h0
      obtain ⟨y, hy, hyi⟩ := List.mem_map.1 hm
      obtain ⟨pre, post, rfl⟩ := List.append_of_mem hy
      have hpre : ∀ x ∈ pre, Comm ops x y := by
        intro x hx
        have h1 := (List.pairwise_append.1 hp).2.2 x hx y (List.mem_cons_self ..)
        rcases h1 with h1 | h1
        · exfalso
          have hxlt : x.1 < ops.size := (Array.getElem?_eq_some_iff.1 (hi x (List.mem_append_left _ hx))).1
          have := anc_listed hcert hcl (i + 1) i (by omega) o ho hall x.1 hxlt (by rw [← hyi]; exact h1)
          have h2 := (hl x.1 hxlt).2 (List.mem_map.2 ⟨x, List.mem_append_left _ hx, rfl⟩)
          rw [this] at h2
          cases h2
        · exact h1
      have hrun := ARun.front pre h hpre
      obtain ⟨iy, oy, ey⟩ := y
      obtain rfl : iy = i := hyi
      have hoy : oy = o := by
        have := hi (iy, oy, ey) hy
        rw [ho] at this
        exact (Option.some.inj this).symm
      subst hoy
      cases hrun with
      | cons v h1 hr =>
        have hsub : ∀ x, x ∈ pre ++ post → x ∈ pre ++ (iy, oy, ey) :: post := by
          intro x hx
          rcases List.mem_append.1 hx with hx | hx
          · exact List.mem_append_left _ hx
          · exact List.mem_append_right _ (List.mem_cons_of_mem _ hx)
        have hsl : (pre ++ post).Sublist (pre ++ (iy, oy, ey) :: post) := (List.Sublist.refl pre).append (List.sublist_cons_self _ _)
        have hnd := hs
        refine h1.real hR hn ho fun ρ' a' w' hR' => ih (pre ++ post) _ _ ?_ ?_ ?_ (fun x hx => hi x (hsub x hx)) ?_ ?_ (hp.sublist hsl) hr ρ' a' w' hR'
        · simp only [List.length_append, List.length_cons] at hlen ⊢; omega
        · simp [hsz]
        · intro j oj hj hlj e he hb
          by_cases hji : iy = j
          · subst hji
            rw [ho] at hj; cases hj
            exact getD_set_true (hall e he hb)
          · rw [getD_set_ne false hji] at hlj
            exact getD_set_true (hcl j oj hj hlj e he hb)
        · exact hnd.sublist (hsl.map _)
        · intro k hk
          by_cases hki : iy = k
          · subst hki
            simp only [List.map_append, List.mem_append]
            constructor
            · intro h2; simp [hsz, hlt] at h2
            · intro h2
              exfalso
              rw [List.map_append, List.map_cons, List.pairwise_append] at hnd
              rcases h2 with h2 | h2
              · have := hnd.2.2 _ h2 _ (List.mem_cons_self ..)
                simp at this
              · have := (List.pairwise_cons.1 hnd.2.1).1 _ h2
                simp at this
          · rw [getD_set_ne false hki, hl k hk]
            simp only [List.map_append, List.map_cons, List.mem_append, List.mem_cons]
            constructor
            · rintro (h2 | h2 | h2)
              · exact .inl h2
              · exact absurd h2.symm hki
              · exact .inr h2
            · rintro (h2 | h2)
              · exact .inl h2
              · exact .inr (.inr h2)

end Go.Proofs.Ytiikffiembcboaa.Sim
