/- What the proof stands on, part 3: the walk of each function, and plain laws of numbers. -/
import Derived.Test.YtlfadlfjjkppfaaGreatDoorK2
import Derived.Recover
import Derived.ChangeSame
import Derived.Test.YtlfadlfjjkppfaaGreatDoorRows
import Derived.LaidMore
import Derived.Stop.Joined
import Derived.ProofKit
import Derived.OpenShut
namespace Go.Proofs.YtlfadlfjjkppfaaGreatDoor.Sim
open Go
def AWc (P : Program) (n m : Nat) (c : Code) (σ : ASt) (Q : Exit → ASt → Prop) : Prop :=
  ∀ ds, ∀ C : Ctx, C.n = n → C.m = m → ∀ ρ a w, RepD ds C ρ σ a w → c.wp P (RQX ds C Q) a w
section
variable {P : Program} {n m : Nat} {σ : ASt} {Q : Exit → ASt → Prop}
theorem AWc.ofX {c : Code} (h : AWX P n m c σ Q) : AWc P n m c σ Q := fun ds C hn hm ρ a w hR => (wpIn_wide (n := 0)).1 (h none ds C hn hm ρ a w hR)
theorem AWc.mono {c : Code} {Q' : Exit → ASt → Prop} (h : AWc P n m c σ Q') (hq : ∀ e σ, Q' e σ → Q e σ) : AWc P n m c σ Q :=
  fun ds C hn hm ρ a w hR => wp_mono (h ds C hn hm ρ a w hR) fun _ _ _ ⟨ρ', σ', hR', hQ⟩ => ⟨ρ', σ', hR', hq _ _ hQ⟩
theorem AWc.skip (h : Q .normal σ) : AWc P n m .skip σ Q := fun _ _ _ _ ρ _ _ hR => wp_skip ⟨ρ, σ, hR, h⟩
theorem AWc.exit {id : Nat} (h : Q (.exit id) σ) : AWc P n m (.exit id) σ Q := fun _ _ _ _ ρ _ _ hR => wp_exit ⟨ρ, σ, hR, h⟩
theorem AWc.ret (h : Q .ret σ) : AWc P n m .ret σ Q := fun _ _ _ _ ρ _ _ hR => wp_ret ⟨ρ, σ, hR, h⟩
theorem AWc.seq {x y : Code} (h : AWc P n m x σ (thenA (fun σ' => AWc P n m y σ' Q) Q)) : AWc P n m (.seq x y) σ Q :=
  fun ds C hn hm ρ a w hR => wp_seq (wp_mono (h ds C hn hm ρ a w hR) fun e a' w' ⟨ρ', σ', hR', hQ⟩ => by
    cases e with
    | normal => exact hQ ds C hn hm ρ' a' w' hR'
    | _ => exact ⟨ρ', σ', hR', hQ⟩)
theorem AWc.cond {c : Operand} {x y : Code} {b : Bool} (hc : aev σ.env c = some (.bool b)) (ht : b = true → AWc P n m x σ Q) (hf : b = false → AWc P n m y σ Q) :
    AWc P n m (.cond c x y) σ Q :=
  fun ds C hn hm ρ a w hR => wp_cond_split (flat_inv (hR.eval hc) rfl) (fun h => ht h ds C hn hm ρ a w hR) (fun h => hf h ds C hn hm ρ a w hR)
theorem AWc.condT {c : Operand} {x y : Code} (hc : aev σ.env c = some (.bool true)) (h : AWc P n m x σ Q) : AWc P n m (.cond c x y) σ Q := AWc.cond hc (fun _ => h) (fun h => by cases h)
theorem AWc.condF {c : Operand} {x y : Code} (hc : aev σ.env c = some (.bool false)) (h : AWc P n m y σ Q) : AWc P n m (.cond c x y) σ Q := AWc.cond hc (fun h => by cases h) (fun _ => h)
theorem AWc.block {id : Nat} {c : Code} (h : AWc P n m c σ (inBlockA id Q)) : AWc P n m (.block id c) σ Q :=
  fun ds C hn hm ρ a w hR => wp_block (wp_mono (h ds C hn hm ρ a w hR) fun e a' w' ⟨ρ', σ', hR', hQ⟩ => by
    cases e with
    | exit id' =>
      simp only [inBlockA, Exit.inBlock] at hQ ⊢
      split
      · rename_i h1; rw [if_pos h1] at hQ; exact ⟨ρ', σ', hR', hQ⟩
      · rename_i h1; rw [if_neg h1] at hQ; exact ⟨ρ', σ', hR', hQ⟩
    | _ => exact ⟨ρ', σ', hR', hQ⟩)
theorem AWc.region {id : Nat} {ops : Array Oper} (h : AWo P ops n 0 ops.toList σ (fun _ => True) (Q .normal)) (hnd : ops.toList.all nd = true := by rfl) : AWc P n m (.region id ops false) σ Q := AWc.ofX (AWX.region h hnd)
theorem AWc.seqR {id : Nat} {ops : Array Oper} {y : Code} (h : AWo P ops n 0 ops.toList σ (fun _ => True) (fun σ' => AWc P n m y σ' Q)) (hnd : ops.toList.all nd = true := by rfl) : AWc P n m (.seq (.region id ops false) y) σ Q :=
  AWc.seq (AWc.region h hnd)
theorem AWc.recell {c : Code} {E : Env} {M : Mem} (j : Nat) {es : Nat} {rw : Bool} {cs : List Value} (cs' : List Value) (hj : M j = some ⟨cs, rw, es⟩) (hl : cs'.length = cs.length)
    (hc : ∀ (k : Nat) (v' : Value), cs'[k]? = some v' → ∃ v, cs[k]? = some v ∧ ∀ D ρ u, VR .real D ρ v u → VR .real D ρ v' u) (h : AWc P n m c ⟨E, upd M j ⟨cs', rw, es⟩⟩ Q) : AWc P n m c ⟨E, M⟩ Q := by
  intro ds C hC hm ρ a w hR
  exact h ds C hC hm ρ a w ⟨hR.1, hR.2.recell hj hl fun k v' hv => by obtain ⟨v, h1, h2⟩ := hc k v' hv; exact ⟨v, h1, fun u hu => h2 _ _ u hu⟩⟩
theorem AWc.ghost {c : Code} {E : Env} {M : Mem} (id es : Nat) (hid : M id = none) (h : AWc P n m c ⟨E, upd M id ⟨[], true, es⟩⟩ Q) : AWc P n m c ⟨E, M⟩ Q :=
  fun ds C hn hm _ a w hR => let ⟨ρ', hR'⟩ := hR.2.ghost es hid; h ds C hn hm ρ' a w ⟨hR.1, hR'⟩
theorem nil_as {D : Nat → Prop} {ρ : Rho} {u : Value} {p : Addr} (h : VR .real D ρ (.slice none 0 0) u) : VR .real D ρ (.slice (some p) 0 0) u := by
  rw [flat_inv h rfl]; exact .nilS p (by simp)
def roundsC (P : Program) (n m : Nat) (c : Code) (Q : Exit → ASt → Prop) : Nat → ASt → Prop
  | 0, _ => False
  | k + 1, σ => AWc P n m c σ (thenA (roundsC P n m c Q k) Q)
theorem roundsC_succ {c : Code} {k : Nat} (h : AWc P n m c σ (thenA (roundsC P n m c Q k) Q)) : roundsC P n m c Q (k + 1) σ := h
theorem AWc.rounds {c : Code} (k : Nat) (h : roundsC P n m c Q k σ) : AWc P n m (.loop c) σ Q := by
  intro ds C hn hm ρ a w hR b k' cs
  have key : ∀ k σ ρ a w, roundsC P n m c Q k σ → RepD ds C ρ σ a w →
      ∃ e a' w', RQX ds C Q e a' w' ∧ Arrives P (lone (b.at a (.code c :: .inLoop c :: k')) cs w) b k' cs e a' w' := by
    intro k
    induction k with
    | zero => intro σ ρ a w h; exact h.elim
    | succ k ih =>
      intro σ ρ a w hI hR
      obtain ⟨e, a₁, w₁, ⟨ρ1, σ1, hR1, hq⟩, harr⟩ := hI ds C hn hm ρ a w hR b (.inLoop c :: k') cs
      cases e with
      | normal =>
        obtain ⟨e₂, a₂, w₂, hq₂, harr₂⟩ := ih σ1 ρ1 a₁ w₁ hq hR1
        exact ⟨e₂, a₂, w₂, hq₂, .of_steps (Steps.trans harr (.one step_inLoop)) harr₂⟩
      | exit id => exact ⟨_, a₁, w₁, ⟨ρ1, σ1, hR1, hq⟩, .pass (x := .inLoop c) rfl (fun _ _ => .inl (by simp)) harr⟩
      | goto l => exact ⟨_, a₁, w₁, ⟨ρ1, σ1, hR1, hq⟩, .pass (x := .inLoop c) rfl (fun _ _ => .inl (by simp)) harr⟩
      | ret => exact ⟨_, a₁, w₁, ⟨ρ1, σ1, hR1, hq⟩, .pass (x := .inLoop c) rfl (fun _ _ => .inl (by simp)) harr⟩
      | panic ch => exact ⟨_, a₁, w₁, ⟨ρ1, σ1, hR1, hq⟩, .pass (x := .inLoop c) rfl (fun _ _ => .inl (by simp)) harr⟩
      | outgrown => exact ⟨_, a₁, w₁, ⟨ρ1, σ1, hR1, hq⟩, .pass (x := .inLoop c) rfl (fun _ _ => .inl (by simp)) harr⟩
  obtain ⟨e, a', w', hq, harr⟩ := key k σ ρ a w h hR
  exact ⟨e, a', w', hq, .of_steps (.one step_loop) harr⟩
end
theorem Ctr.introR {P : Program} {f g : FuncId} {fn : Func} {args : List Value} {M0 : List Blk} {res : Value} {Mo : List Blk} {id0 id1 t : Nat} {ops0 : Array Oper} {caps : Array Operand} {rest : Code}
    {ty1 ty2 : TypeId} {p1 p2 : String} {af1 af2 : Array Edge}
    (hf : P.funcs[f]? = some fn)
    (hb : fn.body = some (.seq (.region id0 ops0 false) (.seq (.region id1 #[⟨some t, .makeFunc (.func g) #[] caps, ty1, p1, af1, none⟩, ⟨none, .defer ⟨.value (.tmp t), #[], #[]⟩, ty2, p2, af2, none⟩] false) rest)))
    (hlen : args.length ≤ fn.ntmps) (hM : M0.length ≤ Mo.length) (ht : t < fn.ntmps) (hbg : Bodied P g)
    (hD : ∀ (cap : Array Value) (w : World), cap.size = caps.size → CallsD P g cap .returning w fun e u' w' => (∃ v, e = .returned v) ∧ u' = .returning ∧ w' = w)
    (h : AWo P ops0 fn.ntmps 0 ops0.toList ⟨envL args, memL M0⟩ (fun _ => True) (fun σ => ∃ vs : List Value, Evs σ.env caps.toList vs ∧ AWc P fn.ntmps M0.length rest ⟨upd σ.env t (.func (.func g) #[] vs.toArray), σ.mem⟩ (RetQ P fn M0.length res Mo))) :
    Ctr P f args M0 res Mo := by
  refine ⟨hM, fun ρ w rargs hmem him hgl hl hargs => ?_⟩
  refine calls_of_wp_defers hf hb ?_
  have hR : Rep { n := fn.ntmps, m := M0.length, w0 := w, ρ0 := ρ, RW := RWof M0 ρ } ρ ⟨envL args, memL M0⟩ { tmps := rargs.toArray ++ Array.replicate (fn.ntmps - rargs.toArray.size) undef, defers := [] } w := by
    refine ⟨?_, rfl, fun t v hv => ?_, hmem, fun _ _ => rfl, fun i hi => ⟨M0[i], List.getElem?_eq_getElem hi⟩, fun i b hb hr => .inl ⟨i, b, hb, hr, rfl⟩, Fr.refl _ _, him, fun _ h => h, fun _ h => .inl h, hgl⟩
    · show (rargs.toArray ++ Array.replicate (fn.ntmps - rargs.toArray.size) undef).size = fn.ntmps
      simp only [Array.size_append, Array.size_replicate, List.size_toArray]
      omega
    · simp only [envL] at hv
      have ht : t < rargs.length := by rw [← hl]; exact (List.getElem?_eq_some_iff.1 hv).1
      refine ⟨rargs[t], ?_, hargs t v _ hv (List.getElem?_eq_getElem ht)⟩
      rw [Array.getElem?_append_left (by simpa using ht)]
      simp [ht]
  refine wp_seq (wp_mono (AW.region (m := M0.length) (Q := fun e σ => e = .normal ∧ ∃ vs : List Value, Evs σ.env caps.toList vs ∧ AWc P fn.ntmps M0.length rest ⟨upd σ.env t (.func (.func g) #[] vs.toArray), σ.mem⟩ (RetQ P fn M0.length res Mo)) (by
    obtain ⟨es, σ', h1, h2, h3, h4⟩ := h
    exact ⟨es, σ', h1, h2, h3, rfl, h4⟩) _ rfl rfl ρ _ w hR) ?_)
  rintro e a1 w1 ⟨ρ1, σ1, hR1, rfl, vs, hvs, hrest⟩
  refine wp_seq (wp_region ?_)
  have hcap : VR .real (dom σ1.mem) ρ1 (.func (.func g) #[] vs.toArray) (.func (.func g) #[] (caps.map a1.eval)) := by
    have hm := hvs.map
    have hsz : vs.length = caps.size := by simpa using (congrArg List.length hm).symm
    refine .func _ _ _ _ _ rfl rfl (by simp [hsz]) (fun k x y hx => by simp at hx) (fun k x y hx hy => ?_)
    rw [List.getElem?_toArray] at hx
    have hk : k < caps.size := by rw [← hsz]; exact (List.getElem?_eq_some_iff.1 hx).1
    obtain ⟨v', hv1, hv2⟩ := map_some_get hm (k := k) (x := caps[k]) (by simp [hk])
    rw [hx] at hv1; cases hv1
    rw [Array.getElem?_map, Array.getElem?_eq_getElem hk] at hy
    cases hy
    exact hR1.eval hv2
  have hR2 := hR1.put (d := some t) (fun k hk => by cases hk; exact ht) hcap
  show wpOps P _ _ [0, 1] a1 w1
  rw [wpOps_cons]
  unfold wpOp
  simp only [List.getElem?_toArray, List.getElem?_cons_zero]
  rw [if_pos (show Region.wanted _ _ = true from rfl)]
  refine .inl ?_
  unfold Oper.wp
  have e0 : (execOp a1.eval ⟨some t, .makeFunc (.func g) #[] caps, ty1, p1, af1, none⟩).run P w1 = .ok (.value (.func (.func g) #[] (caps.map a1.eval))) w1 := by
    simp [execOp, Instr.makeFunc]
  rw [e0, Oper.upon_value, wpOps_cons]
  unfold wpOp
  simp only [List.getElem?_toArray, List.getElem?_cons_succ, List.getElem?_cons_zero]
  rw [if_pos (show Region.wanted _ _ = true from rfl)]
  refine .inl ?_
  unfold Oper.wp
  have e1 : (a1.put (some t) (.func (.func g) #[] (caps.map a1.eval))).eval (.tmp t) = .func (.func g) #[] (caps.map a1.eval) := by
    have : t < a1.tmps.size := by rw [hR1.size]; exact ht
    show ((a1.tmps.setIfInBounds t _).getD t undef) = _
    rw [Array.getD_eq_getD_getElem?, Array.getElem?_setIfInBounds_self_of_lt this]; rfl
  have e2 : (execOp (a1.put (some t) (.func (.func g) #[] (caps.map a1.eval))).eval ⟨none, .defer ⟨.value (.tmp t), #[], #[]⟩, ty2, p2, af2, none⟩).run P w1 = .ok (.defer { target := .fn (.func g) (caps.map a1.eval), args := #[] }) w1 := by
    simp [execOp, resolve, e1, Deferred.ofValue]
  rw [e2, Oper.upon_defer]
  show Exit.then _ _ .normal _ _
  have hd2 := hR2.defers
  generalize hA : a1.put (some t) (.func (.func g) #[] (caps.map a1.eval)) = a2 at hR2 hd2 ⊢
  have hRD : RepD [{ target := .fn (.func g) (caps.map a1.eval), args := #[] }] { n := fn.ntmps, m := M0.length, w0 := w, ρ0 := ρ, RW := RWof M0 ρ } ρ1 ⟨upd σ1.env t (.func (.func g) #[] vs.toArray), σ1.mem⟩
      { a2 with defers := { target := .fn (.func g) (caps.map a1.eval), args := #[] } :: a2.defers } w1 := by
    refine ⟨by show _ :: a2.defers = _; rw [hd2], ?_⟩
    have : ({ a2 with defers := [] } : Act) = a2 := by cases a2; cases hd2; rfl
    show Rep _ ρ1 _ ({ a2 with defers := [] } : Act) w1
    rw [this]
    exact hR2
  refine wp_mono (hrest _ _ rfl rfl ρ1 _ w1 hRD) ?_
  rintro e a' w' ⟨ρ', σ', hR', he, nids, v, hres, ho⟩
  have goal : Leaves P fn a'.tmps (fun e w' => ∃ u ρ', e = .returned u ∧ (∀ i, i < M0.length → ρ' i = ρ i) ∧
      (∀ i b, M0.length ≤ i → Mo[i]? = some b → b.solid (ρ' i) → w.heap.size ≤ (ρ' i).blk ∨ RWof M0 ρ (ρ' i).blk) ∧ VR .real (dom (memL Mo)) ρ' res u ∧ MemOk ρ' (memL Mo) w' ∧ Fr w w' (RWof M0 ρ) ∧ ImStep M0 Mo ρ ρ' w w') a'.defers .returning w' := by
    rw [hR'.1]
    refine ⟨by simp, .func g, caps.map a1.eval, g, caps.map a1.eval, rfl, ?_, ?_⟩
    · have hmm : (#[] : Array Value) ++ (caps.map a1.eval) = caps.map a1.eval := by simp
      simp [invoke, run_callFunc hbg]
    · refine (hD (caps.map a1.eval) w' (by simp)).mono ?_
      rintro e u' w'' ⟨⟨v', rfl⟩, rfl, rfl⟩
      exact hR'.2.fin hres ho
  rcases he with rfl | rfl <;> exact goal
end Go.Proofs.YtlfadlfjjkppfaaGreatDoor.Sim
namespace Go.Proofs.YtlfadlfjjkppfaaGreatDoor.Sim
open Go Go.RowKit Go.ChangeShapes Go.WideShapes
theorem fm_get {α β : Type} {g : α → List β} {n : Nat} (hg : ∀ y, (g y).length = n) (hn : 0 < n) : ∀ {L : List α} {j : Nat} {v : β}, (L.flatMap g)[j]? = some v → ∃ y, L[j / n]? = some y ∧ (g y)[j % n]? = some v
  | [], j, v, h => by simp at h
  | x :: L, j, v, h => by
    rw [List.flatMap_cons] at h
    rcases Nat.lt_or_ge j n with hj | hj
    · rw [List.getElem?_append_left (by rw [hg]; exact hj)] at h
      exact ⟨x, by rw [Nat.div_eq_of_lt hj]; rfl, by rw [Nat.mod_eq_of_lt hj]; exact h⟩
    · rw [List.getElem?_append_right (by rw [hg]; exact hj), hg] at h
      obtain ⟨y, h1, h2⟩ := fm_get hg hn h
      refine ⟨y, ?_, ?_⟩
      · rw [Nat.div_eq_sub_div hn hj, List.getElem?_cons_succ]; exact h1
      · rw [Nat.mod_eq_sub_mod hj]; exact h2
end Go.Proofs.YtlfadlfjjkppfaaGreatDoor.Sim
namespace Go.Proofs.YtlfadlfjjkppfaaGreatDoor.Sim
open Go Go.RowKit Go.ChangeShapes Go.WideShapes
section
variable {H : Type} {enc : TypeId × Value → H} {P : Program} {W : World} {base : Nat} {held : Bool}
theorem open_db {t e : TypeId} {k : IntKind} {r : Reach} {base' : Nat} {v : Value} {d : DataW H} {pl : List MemPlace} (ht : P.underlying t = some (.slice e)) (he : P.underlying e = some (.int k)) (hc : P.cellsOf e = 1)
    (hv : Value.okWide P W r base' t v) (h : DataW.Trod enc P W base (fun _ => true) held t v d pl) :
    ∃ (zs : List Int) (ims : List Imm), (∀ d ∈ ims, ∀ ims', IOk W ims' d) ∧ (∀ ims', (∀ d ∈ ims, d ∈ ims') → VR .real (fun _ => False) ⟨pl0, ims'⟩ (deep zs.length 1 (zs.map (Value.int k))) v) ∧ ∀ z ∈ zs, (Lit.int k z).wf = true := by
  obtain ⟨a0, len0, cap0, rfl⟩ := okWide_slice ht hv
  obtain ⟨fuel, hf⟩ := h
  obtain ⟨zs, d, u, e1, e2, e3, e4⟩ := nums_deep ht he hc hf
  have e5 : Value.slice a0 len0 cap0 = u := by simpa [Value.cells] using e1
  subst e5
  exact ⟨zs, [d], fun d' hd => by simp at hd; subst hd; exact e2, fun ims' hI => e3 ims' (hI d (List.mem_singleton.2 rfl)), e4⟩
theorem four_cells {t e0 s e : TypeId} {k0 k : IntKind} {fuel : Nat} {cs : List Value} {x : DataW H × List MemPlace} {f0 f1 f2 f3 : Field} (ht : P.underlying t = some (.struct #[f0, f1, f2, f3])) (h0 : f0.type = e0) (h1 : f1.type = e0) (h2 : f2.type = e0) (h3 : f3.type = s)
    (o0 : f0.offset = 0) (o1 : f1.offset = 1) (o2 : f2.offset = 2) (o3 : f3.offset = 3) (he0 : P.underlying e0 = some (.int k0)) (hs : P.underlying s = some (.slice e)) (he : P.underlying e = some (.int k))
    (hc0 : P.cellsOf e0 = 1) (hcs : P.cellsOf s = 1) (hc : P.cellsOf e = 1) (hct : P.cellsOf t = 4)
    (h : DataW.trod enc P W base (fun _ => true) held fuel t cs = some x) :
    ∃ (a b c : Int) (zs : List Int) (d : Imm) (u : Value), cs = [.int k0 a, .int k0 b, .int k0 c, u] ∧ (∀ ims, IOk W ims d) ∧ (∀ ims, d ∈ ims → VR .real (fun _ => False) ⟨pl0, ims⟩ (deep zs.length 1 (zs.map (Value.int k))) u) ∧
      (∀ z ∈ zs, (Lit.int k z).wf = true) ∧ (Lit.int k0 a).wf = true ∧ (Lit.int k0 b).wf = true ∧ (Lit.int k0 c).wf = true := by
  obtain ⟨xs, n, _, rfl, hl, hlen, hf⟩ := DataW.trod_struct ht h
  match xs, hlen with
  | [y0, y1, y2, y3], _ =>
    have a0 := hf 0 f0 rfl
    have a1 := hf 1 f1 rfl
    have a2 := hf 2 f2 rfl
    have a3 := hf 3 f3 rfl
    rw [h0, o0, hc0] at a0
    rw [h1, o1, hc0] at a1
    rw [h2, o2, hc0] at a2
    rw [h3, o3, hcs] at a3
    rw [hct] at hl
    obtain ⟨z0, b0, _, w0⟩ := DataW.trod_int he0 a0
    obtain ⟨z1, b1, _, w1⟩ := DataW.trod_int he0 a1
    obtain ⟨z2, b2, _, w2⟩ := DataW.trod_int he0 a2
    obtain ⟨zs, d, u, g1, g2, g3, g4⟩ := nums_deep hs he hc a3
    match cs, hl with
    | [c0, c1, c2, c3], _ =>
      simp at b0 b1 b2 g1
      exact ⟨z0, z1, z2, zs, d, u, by rw [b0, b1, b2, g1], g2, g3, g4, w0, w1, w2⟩
theorem open_opns {tt t e0 s e : TypeId} {k0 k : IntKind} {r : Reach} {base' : Nat} {v : Value} {d : DataW H} {pl : List MemPlace} {f0 f1 f2 f3 : Field} (htt : P.underlying tt = some (.slice t)) (ht : P.underlying t = some (.struct #[f0, f1, f2, f3])) (h0 : f0.type = e0) (h1 : f1.type = e0) (h2 : f2.type = e0) (h3 : f3.type = s)
    (o0 : f0.offset = 0) (o1 : f1.offset = 1) (o2 : f2.offset = 2) (o3 : f3.offset = 3) (he0 : P.underlying e0 = some (.int k0)) (hs : P.underlying s = some (.slice e)) (he : P.underlying e = some (.int k))
    (hc0 : P.cellsOf e0 = 1) (hcs : P.cellsOf s = 1) (hc : P.cellsOf e = 1) (hct : P.cellsOf t = 4)
    (hv : Value.okWide P W r base' tt v) (h : DataW.Trod enc P W base (fun _ => true) held tt v d pl) :
    ∃ (p : Pl) (L : List ((Int × Int × Int) × List Int)) (ims : List Imm), ROkD W ims p (L.flatMap fun y => [.int k0 y.1.1, .int k0 y.1.2.1, .int k0 y.1.2.2, deep y.2.length 1 (y.2.map (Value.int k))]) 4 ∧ (∀ d ∈ ims, ∀ ims', IOk W ims' d) ∧ SlArg p L.length v ∧
      ∀ x ∈ L, (∀ z ∈ x.2, (Lit.int k z).wf = true) ∧ (Lit.int k0 x.1.1).wf = true ∧ (Lit.int k0 x.1.2.1).wf = true ∧ (Lit.int k0 x.1.2.2).wf = true := by
  obtain ⟨a0, len0, cap0, rfl⟩ := okWide_slice htt hv
  obtain ⟨fuel, hf⟩ := h
  rcases DataW.trod_slice htt hf with ⟨hcs', _⟩ | ⟨a, len, cap, elems, rest, m, _, hcs', _, _, hl, _, hlen, hel, _, _⟩
  · have hcs2 : Value.slice a0 len0 cap0 = .slice none 0 0 := by simpa [Value.cells] using hcs'
    exact ⟨⟨0, 0, none, 4⟩, [], [], ⟨rfl, rfl, fun i v h => by simp at h⟩, fun d hd => by simp at hd, .inr ⟨rfl, hcs2⟩, fun x h => by simp at h⟩
  · have hcs2 : Value.slice a0 len0 cap0 = .slice (some a) len cap := by simpa [Value.cells] using hcs'
    rw [hcs2] at hv ⊢
    have hsp := spot_none htt hv
    obtain ⟨bb, oo, sp⟩ := a
    simp only at hsp; subst hsp
    rw [hct] at hel
    have each : ∀ i, i < len → ∃ (y : (Int × Int × Int) × List Int) (d : Imm) (u : Value), W.cells? base ((⟨bb, oo, none⟩ : Addr).add (i * 4)) 4 = some [.int k0 y.1.1, .int k0 y.1.2.1, .int k0 y.1.2.2, u] ∧ (∀ ims, IOk W ims d) ∧
        (∀ ims, d ∈ ims → VR .real (fun _ => False) ⟨pl0, ims⟩ (deep y.2.length 1 (y.2.map (Value.int k))) u) ∧ (∀ z ∈ y.2, (Lit.int k z).wf = true) ∧ (Lit.int k0 y.1.1).wf = true ∧ (Lit.int k0 y.1.2.1).wf = true ∧ (Lit.int k0 y.1.2.2).wf = true := by
      intro i hi
      have h1' := hel i hi
      rw [List.getElem?_eq_getElem (by omega), Option.bind_eq_some_iff] at h1'
      obtain ⟨cs, h2', h3'⟩ := h1'
      obtain ⟨a, b, c, zs, d, u, g0, g1, g2, g3, w⟩ := four_cells ht h0 h1 h2 h3 o0 o1 o2 o3 he0 hs he hc0 hcs hc hct h3'
      subst g0
      exact ⟨((a, b, c), zs), d, u, h2', g1, g2, g3, w⟩
    have build : ∀ m, m ≤ len → ∃ (L : List ((Int × Int × Int) × List Int)) (ims : List Imm), L.length = m ∧ (∀ d ∈ ims, ∀ ims', IOk W ims' d) ∧ (∀ x ∈ L, (∀ z ∈ x.2, (Lit.int k z).wf = true) ∧ (Lit.int k0 x.1.1).wf = true ∧ (Lit.int k0 x.1.2.1).wf = true ∧ (Lit.int k0 x.1.2.2).wf = true) ∧
        ∀ i y, L[i]? = some y → ∃ u, W.cells? base ((⟨bb, oo, none⟩ : Addr).add (i * 4)) 4 = some [.int k0 y.1.1, .int k0 y.1.2.1, .int k0 y.1.2.2, u] ∧ VR .real (fun _ => False) ⟨pl0, ims⟩ (deep y.2.length 1 (y.2.map (Value.int k))) u := by
      intro m
      induction m with
      | zero => intro _; exact ⟨[], [], rfl, fun d hd => by simp at hd, fun x hx => by simp at hx, fun i zs h => by simp at h⟩
      | succ m ih =>
        intro hm
        obtain ⟨L, ims, l1, l2, l3, l4⟩ := ih (by omega)
        obtain ⟨y, d, u, e1, e2, e3, e4⟩ := each m (by omega)
        refine ⟨L ++ [y], d :: ims, by simp [l1], fun d' hd => ?_, fun x hx => ?_, fun i ys hi => ?_⟩
        · rcases List.mem_cons.1 hd with rfl | hd
          · exact e2
          · exact l2 d' hd
        · rcases List.mem_append.1 hx with hx | hx
          · exact l3 x hx
          · simp at hx; subst hx; exact e4
        · rcases Nat.lt_or_ge i L.length with hil | hil
          · rw [List.getElem?_append_left hil] at hi
            obtain ⟨u', g1, g2⟩ := l4 i ys hi
            exact ⟨u', g1, g2.ims fun d' hd => List.mem_cons_of_mem _ hd⟩
          · rw [List.getElem?_append_right hil] at hi
            have h5 : i - L.length = 0 := by
              have := (List.getElem?_eq_some_iff.1 hi).1
              simp at this; omega
            rw [h5] at hi
            simp at hi; subst hi
            have : i = m := by omega
            subst this
            exact ⟨u, e1, e3 _ (List.mem_cons_self ..)⟩
    obtain ⟨L, ims, l1, l2, l3, l4⟩ := build len (Nat.le_refl _)
    refine ⟨⟨bb, oo, none, 4⟩, L, ims, ⟨rfl, rfl, fun j w hj => ?_⟩, l2, .inl ⟨cap, by rw [l1], by rw [l1]; exact hl⟩, l3⟩
    obtain ⟨y, hy, hyv⟩ := fm_get (n := 4) (fun _ => rfl) (by decide) hj
    obtain ⟨u, g1, g2⟩ := l4 _ y hy
    obtain ⟨_, _, h8⟩ := World.cells?_some g1
    have hj4 : j % 4 < 4 := Nat.mod_lt j (by decide)
    have h9 := h8 (j % 4) hj4
    rw [addr_add, addr_add] at h9
    have e : oo + j / 4 * 4 + j % 4 = oo + j := by omega
    rw [e] at h9
    show ∃ u, W.cell? ⟨bb, oo + j, none⟩ = some u ∧ _
    rw [h9]
    have h5 : j % 4 = 0 ∨ j % 4 = 1 ∨ j % 4 = 2 ∨ j % 4 = 3 := by omega
    rcases h5 with h5 | h5 | h5 | h5 <;> rw [h5] at hyv ⊢
    · cases hyv; exact ⟨_, rfl, .flat _ rfl⟩
    · cases hyv; exact ⟨_, rfl, .flat _ rfl⟩
    · cases hyv; exact ⟨_, rfl, .flat _ rfl⟩
    · cases hyv; exact ⟨_, rfl, g2⟩
end
end Go.Proofs.YtlfadlfjjkppfaaGreatDoor.Sim
namespace Go.Proofs.YtlfadlfjjkppfaaGreatDoor
open Go Sim Go.ChangeShapes Go.WideShapes Go.ChangeAt Go.RowKit
set_option maxRecDepth 10000
set_option maxRecDepth 100000
def laids : List (String × DataW Unit) := [("avouch/keccak.constants", Rows.laid_avouch_keccak_constants)]
def tabl : List Int := [1, 32898, 9223372036854808714, 9223372039002292224, 32907, 2147483649, 9223372039002292353, 9223372036854808585, 138, 136, 2147516425, 2147483658, 2147516555, 9223372036854775947, 9223372036854808713, 9223372036854808579, 9223372036854808578, 9223372036854775936, 32778, 9223372039002259466, 9223372039002292353, 9223372036854808704, 2147483649, 9223372039002292232]
abbrev TN (n : Nat) : TypeId := n
theorem gTabK : Tryz.prog.globalNamed "avouch/keccak.constants" = some 0 := by kernel_rfl
theorem tTabK : (Tryz.prog.globals[0]?).map (·.type) = some (TN 292) := by kernel_rfl
theorem door_met (os : Os) (args : Array Value) : laidMetH Tryz.prog laids ((World.doorLaid Tryz.prog (2000 + 2000) os).forCall (fun _ _ => 0) ⟨#[], args, []⟩).memory :=
  laidMetH_of_parts3 (fuel := 8) (laidMet_of_run' 8 (by kernel_rfl) (by kernel_rfl)) (by kernel_rfl) (by kernel_rfl)
theorem of_laid {W : World} (h : laidMetH Tryz.prog laids W) : ∀ d ∈ GLB, ∀ ims, IOk W ims d := by
  rw [MakeChecks.laidMetH_plain _ _ _ (by kernel_rfl)] at h
  obtain ⟨ps, ⟨g1, t1, cs1, f1, p1, q1, hg1, ht1, hv1, hd1, _, _⟩, _, _⟩ := h
  obtain rfl := Option.some.inj (gTabK.symm.trans hg1)
  obtain rfl := Option.some.inj (tTabK.symm.trans ht1)
  obtain ⟨xs, m1, rfl, hx1, hlen, hn, hel⟩ := DataW.trod_array Tryz.underlying292 hd1
  have c1 : Tryz.prog.cellsOf (TN 51) = 1 := by kernel_rfl
  simp only [c1, Nat.mul_one] at hel
  intro d hd ims
  have hde : d = ⟨0, 0, tabl.map (Value.int .u64)⟩ := List.mem_singleton.1 (show d ∈ [(⟨0, 0, tabl.map (Value.int .u64)⟩ : Imm)] from hd)
  subst hde
  refine ⟨fun k v hk => ?_⟩
  have hk : (tabl.map (Value.int .u64))[k]? = some v := hk
  rw [List.getElem?_map] at hk
  cases ht : tabl[k]? with
  | none => rw [ht] at hk; cases hk
  | some z =>
    rw [ht] at hk
    obtain rfl := Option.some.inj hk
    refine ⟨_, ?_, .flat _ rfl⟩
    have hk24 : k < 24 := (List.getElem?_eq_some_iff.1 ht).1
    have hi := hel k hk24
    obtain ⟨x, hx⟩ : ∃ x, xs[k]? = some x := ⟨_, List.getElem?_eq_getElem (by omega)⟩
    rw [hx] at hi
    obtain ⟨n, e1, e2, _⟩ := DataW.trod_int Tryz.underlying51 hi
    have hagg : Rows.laid_avouch_keccak_constants (H := Unit) = .agg (xs.map (·.1)) := congrArg Prod.fst hx1
    have e3 : Rows.laid_avouch_keccak_constants (H := Unit) = .agg (tabl.map fun z => .lit (.int .u64 z)) := rfl
    have e4 := hagg.symm.trans e3
    simp only [DataW.agg.injEq] at e4
    have e5 := congrArg (fun l => l[k]?) e4
    simp only [List.getElem?_map, hx, e2, ht, Option.map_some, Option.some.injEq, DataW.lit.injEq, Lit.int.injEq, true_and] at e5
    subst e5
    show W.cell? ⟨0, 0 + k, none⟩ = _
    rw [Nat.zero_add, World.var?_cell hg1 hv1 k]
    obtain ⟨l1⟩ := cs1
    have e6 := congrArg (fun l => l[0]?) (show (l1.drop k).take 1 = [Value.int .u64 n] from e1)
    simpa using e6
end Go.Proofs.YtlfadlfjjkppfaaGreatDoor
