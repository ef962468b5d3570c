/- Contracts: how one is proved from a body, how one is used at a call; forgetting and renaming at a loop's head. -/
import Derived.Test.YtiikffiembcboaaSim3
namespace Go.Proofs.Ytiikffiembcboaa.Sim
open Go

def memL (l : List Blk) : Mem := fun i => l[i]?

theorem dom_memL {l : List Blk} {i : Nat} : dom (memL l) i ↔ i < l.length := by
  unfold dom memL
  constructor
  · rintro ⟨b, hb⟩; exact (List.getElem?_eq_some_iff.1 hb).1
  · intro h; exact ⟨l[i], List.getElem?_eq_getElem h⟩

def RWof (M0 : List Blk) (ρ : Rho) (k : Nat) : Prop := ∃ i b, M0[i]? = some b ∧ b.own (ρ i) ∧ (ρ i).blk = k

/-- called with these arguments, in whatever world that holds these blocks: it returns this, and the blocks then hold that; nothing else has turned -/
def Ctr (P : Program) (f : FuncId) (args : List Value) (M0 : List Blk) (res : Value) (Mo : List Blk) : Prop :=
  M0.length ≤ Mo.length ∧
  ∀ (ρ : Rho) (w : World) (rargs : List Value), MemOk ρ (memL M0) w → args.length = rargs.length →
    (∀ (k : Nat) (v u : Value), args[k]? = some v → rargs[k]? = some u → VR .real (dom (memL M0)) ρ v u) →
    Calls P f rargs.toArray w fun e w' => ∃ u ρ', e = .returned u ∧ (∀ i, i < M0.length → ρ' i = ρ i) ∧
      (∀ i b, M0.length ≤ i → Mo[i]? = some b → b.solid (ρ' i) → w.heap.size ≤ (ρ' i).blk ∨ RWof M0 ρ (ρ' i).blk) ∧ VR .real (dom (memL Mo)) ρ' res u ∧ MemOk ρ' (memL Mo) w' ∧ Fr w w' (RWof M0 ρ)

theorem cell?_of_heap {w w' : World} {b o : Nat} (h : w'.heap[b]? = w.heap[b]?) : w'.cell? ⟨b, o, none⟩ = w.cell? ⟨b, o, none⟩ := by
  simp only [World.cell?, h]

theorem frozen?_of_heap {w w' : World} {b o : Nat} (h : w'.heap[b]? = w.heap[b]?) : w'.frozen? ⟨b, o, none⟩ = w.frozen? ⟨b, o, none⟩ := by
  simp only [World.frozen?, h]

/-! ### from a body -/

def hmap (m : Nat) (nids : List Nat) : Rho := fun k => if k < m then ⟨k, 0, none, 1⟩ else ⟨nids.getD (k - m) 0, 0, none, 1⟩

/-- what the results read as at the end -/
def ARes (P : Program) (fn : Func) (σ : ASt) (v : Value) : Prop :=
  ∀ C ρ a w, Rep C ρ σ a w → ∃ u, (results fn a.tmps).run P w = .ok u w ∧ VR .real (dom σ.mem) ρ v u

structure Out (m : Nat) (σ : ASt) (v : Value) (res : Value) (Mo : List Blk) (nids : List Nat) : Prop where
  len : Mo.length = m + nids.length
  res : VR .arg (dom (memL Mo)) (hmap m nids) res v
  blk : ∀ k b, Mo[k]? = some b → ∃ b', σ.mem (hmap m nids k).blk = some b' ∧
    (∀ (c : Nat) (x : Value), b.cells[c]? = some x → ∃ y, b'.cells[c]? = some y ∧ VR .arg (dom (memL Mo)) (hmap m nids) x y) ∧
    (b.rw = true ∨ (m ≤ k ∧ b.cells ≠ []) → b'.rw = true) ∧ b'.es = b.es ∧ b.cells.length ≤ b'.cells.length
  nodup : nids.Nodup
  far : ∀ i ∈ nids, m ≤ i

def RetQ (P : Program) (fn : Func) (m : Nat) (res : Value) (Mo : List Blk) : Exit → ASt → Prop := fun e σ =>
  (e = .ret ∨ e = .normal) ∧ ∃ nids v, ARes P fn σ v ∧ Out m σ v res Mo nids

def envL (l : List Value) : Env := fun t => l[t]?

theorem hmap_inj {m : Nat} {nids : List Nat} (hn : nids.Nodup) (hf : ∀ i ∈ nids, m ≤ i) {k k' : Nat} (hk : k < m + nids.length) (hk' : k' < m + nids.length)
    (h : (hmap m nids k).blk = (hmap m nids k').blk) : k = k' := by
  unfold hmap at h
  by_cases h1 : k < m <;> by_cases h2 : k' < m
  · simpa [h1, h2] using h
  · rw [if_pos h1, if_neg h2] at h
    have : nids.getD (k' - m) 0 ∈ nids := by
      rw [List.getD_eq_getElem?_getD, List.getElem?_eq_getElem (by omega)]
      exact List.getElem_mem _
    have := hf _ this
    simp only at h
    omega
  · rw [if_neg h1, if_pos h2] at h
    have : nids.getD (k - m) 0 ∈ nids := by
      rw [List.getD_eq_getElem?_getD, List.getElem?_eq_getElem (by omega)]
      exact List.getElem_mem _
    have := hf _ this
    simp only at h
    omega
  · rw [if_neg h1, if_neg h2] at h
    simp only [List.getD_eq_getElem?_getD, List.getElem?_eq_getElem (show k - m < nids.length by omega), List.getElem?_eq_getElem (show k' - m < nids.length by omega), Option.getD_some] at h
    have := (List.getElem_inj hn).1 h
    omega

theorem Ctr.intro {P : Program} {f : FuncId} {fn : Func} {c : Code} {args : List Value} {M0 : List Blk} {res : Value} {Mo : List Blk}
    (hf : P.funcs[f]? = some fn) (hb : fn.body = some c) (hlen : args.length ≤ fn.ntmps) (hM : M0.length ≤ Mo.length)
    (h : AW P fn.ntmps M0.length c ⟨envL args, memL M0⟩ (RetQ P fn M0.length res Mo)) : Ctr P f args M0 res Mo := by
  refine ⟨hM, fun ρ w rargs hmem hl hargs => ?_⟩
  refine calls_of_wp hf hb ?_
  let C : Ctx := { n := fn.ntmps, m := M0.length, w0 := w, ρ0 := ρ, RW := RWof M0 ρ }
  have hR : Rep C ρ ⟨envL args, memL M0⟩ { tmps := rargs.toArray ++ Array.replicate (fn.ntmps - rargs.toArray.size) undef, defers := [] } w := by
    refine ⟨?_, rfl, fun t v hv => ?_, hmem, fun _ _ => rfl, fun i hi => ⟨M0[i], List.getElem?_eq_getElem hi⟩, fun i b hb hr => .inl ⟨i, b, hb, hr, rfl⟩, Fr.refl _ _⟩
    · show (rargs.toArray ++ Array.replicate (fn.ntmps - rargs.toArray.size) undef).size = fn.ntmps
      simp only [Array.size_append, Array.size_replicate, List.size_toArray]
      omega
    · simp only [envL] at hv
      have ht : t < rargs.length := by rw [← hl]; exact (List.getElem?_eq_some_iff.1 hv).1
      refine ⟨rargs[t], ?_, hargs t v _ hv (List.getElem?_eq_getElem ht)⟩
      rw [Array.getElem?_append_left (by simpa using ht)]
      simp [ht]
  refine wp_mono (h C rfl rfl ρ _ w hR) fun e a' w' ⟨ρ', σ, hR', he, nids, v, hres, ho⟩ => ?_
  have goal : a'.defers = [] ∧ ∃ v, (results fn a'.tmps).run P w' = .ok v w' ∧ ∃ u ρ', Ending.returned v = .returned u ∧ (∀ i, i < M0.length → ρ' i = ρ i) ∧
      (∀ i b, M0.length ≤ i → Mo[i]? = some b → b.solid (ρ' i) → w.heap.size ≤ (ρ' i).blk ∨ RWof M0 ρ (ρ' i).blk) ∧ VR .real (dom (memL Mo)) ρ' res u ∧ MemOk ρ' (memL Mo) w' ∧ Fr w w' (RWof M0 ρ) := by
    refine ⟨hR'.defers, ?_⟩
    obtain ⟨u, hu, hv⟩ := hres C ρ' a' w' hR'
    have hold : ∀ i, i < M0.length → comp ρ' (hmap M0.length nids) i = ρ i := by
      intro i hi
      have h1 : ρ' i = ρ i := hR'.agree i hi
      rw [← h1]
      simp only [comp, hmap, hi, if_true, Nat.add_zero]
    have hmid : ∀ k b, Mo[k]? = some b → k < Mo.length := fun k b hk => (List.getElem?_eq_some_iff.1 hk).1
    have hoff : ∀ k, (hmap M0.length nids k).off = 0 := fun k => by unfold hmap; split <;> rfl
    have hfresh : ∀ i b, M0.length ≤ i → Mo[i]? = some b → b.solid (comp ρ' (hmap M0.length nids) i) → w.heap.size ≤ (comp ρ' (hmap M0.length nids) i).blk ∨ RWof M0 ρ (comp ρ' (hmap M0.length nids) i).blk := by
      intro i b h1 hib hsol
      obtain ⟨b', hb', _, hrw0, _, hroom0⟩ := ho.blk i b hib
      have hrw : b'.own (ρ' (hmap M0.length nids i).blk) := by
        rcases hsol with h | h
        · exact ⟨hrw0 (.inl h.1), h.2⟩
        · exact (hR'.mem _ _ hb').owned (hrw0 (.inr ⟨h1, h⟩)) (Nat.lt_of_lt_of_le (List.length_pos_iff.2 h) hroom0)
      exact (hR'.own _ _ hb' hrw).symm
    refine ⟨u, hu, u, comp ρ' (hmap M0.length nids), rfl, hold, hfresh, VR.comp (by simp) ho.res hv, ?_, ?_⟩
    · intro k b hk
      obtain ⟨b', hb', hcells, hrw, hes, hroom⟩ := ho.blk k b hk
      have hB := hR'.mem _ _ hb'
      refine ⟨fun hs => hB.lt (hs.imp (fun h => ⟨hrw (.inl h.1), h.2⟩) fun h e => h (List.length_eq_zero_iff.1 (by rw [e] at hroom; simpa using hroom))), fun c x hc => ?_, fun hr => ?_, hB.es.trans hes, fun L hL => by
        have := hB.room L hL
        simp only [comp, hoff, Nat.add_zero]
        omega⟩
      · obtain ⟨y, hy, hxy⟩ := hcells c x hc
        obtain ⟨u', hu', hv'⟩ := hB.cells c y hy
        refine ⟨u', ?_, VR.comp (by simp) hxy hv'⟩
        simp only [comp, hoff, Nat.add_zero]
        exact hu'
      · have hW := hB.rw ⟨hrw (.inl hr.1), hr.2⟩
        refine ⟨by simp only [comp, hoff, hW.off], hW.soft, hW.lim, fun j bj hj hsj hne => ?_⟩
        obtain ⟨b'', hb'', _, hrw'', _, hroom''⟩ := ho.blk j bj hj
        refine hW.lone _ b'' hb'' (hsj.imp (fun h => ⟨hrw'' (.inl h.1), h.2⟩) fun h e => h (List.length_eq_zero_iff.1 (by rw [e] at hroom''; simpa using hroom''))) fun e => hne ?_
        exact hmap_inj ho.nodup ho.far (by have := ho.len; have := hmid j bj hj; omega) (by have := ho.len; have := hmid k b hk; omega) e
    · exact hR'.frame
  rcases he with rfl | rfl <;> exact goal

/-! ### at a call -/

/-- the callee's ids in the caller's names -/
def gmap (g : List (Nat × Nat)) (nids : List Nat) : Rho := fun k =>
  if k < g.length then ⟨(g.getD k (0, 0)).1, (g.getD k (0, 0)).2, none, 1⟩ else ⟨nids.getD (k - g.length) 0, 0, none, 1⟩

structure Fits (M : Mem) (M0 Mo : List Blk) (g : List (Nat × Nat)) (nids : List Nat) (new : List (Nat × Blk)) : Prop where
  glen : g.length = M0.length
  nlen : Mo.length = M0.length + nids.length
  fit : ∀ k b0, M0[k]? = some b0 → ∃ b, M (gmap g nids k).blk = some b ∧
    (∀ (c : Nat) (x : Value), b0.cells[c]? = some x → ∃ y, b.cells[(gmap g nids k).off + c]? = some y ∧ VR .arg (dom (memL M0)) (gmap g nids) x y) ∧
    b.es = b0.es ∧ (gmap g nids k).off + b0.cells.length ≤ b.cells.length ∧
    (b0.rw = true → b.rw = true ∧ (gmap g nids k).off = 0 ∧ (∀ k' b', M0[k']? = some b' → k' ≠ k → (gmap g nids k').blk ≠ (gmap g nids k).blk) ∧ (gmap g nids k).blk ∈ keys new)
  hnew : ∀ p ∈ new, ∃ k b0, Mo[k]? = some b0 ∧ p.1 = (gmap g nids k).blk ∧ (M0.length ≤ k ∨ ∃ bi, M0[k]? = some bi ∧ bi.rw = true) ∧
    (∀ (c : Nat) (y : Value), p.2.cells[c]? = some y → ∃ x, b0.cells[c]? = some x ∧ VR .res (dom (memL Mo)) (gmap g nids) x y) ∧ (p.2.rw = true → b0.rw = true) ∧ p.2.es = b0.es ∧ p.2.cells.length ≤ b0.cells.length
  hnids : ∀ i ∈ nids, i ∈ keys new ∧ i ∉ g.map (·.1)
  nodup : nids.Nodup

theorem upds_get {M : Mem} {new : List (Nat × Blk)} {i : Nat} {b : Blk} (h : upds M new i = some b) (hi : i ∈ keys new) : ∃ p ∈ new, p.1 = i ∧ p.2 = b := by
  induction new with
  | nil => simp [keys] at hi
  | cons p r ih =>
    obtain ⟨k, b'⟩ := p
    simp only [upds, upd] at h
    by_cases hk : i = k
    · rw [if_pos hk] at h; cases h; exact ⟨_, List.mem_cons_self .., hk.symm, rfl⟩
    · rw [if_neg hk] at h
      simp only [keys, List.map_cons, List.mem_cons] at hi
      obtain ⟨p, hp, h1⟩ := ih h (hi.resolve_left hk)
      exact ⟨p, List.mem_cons_of_mem _ hp, h1⟩

theorem keys_dom {M : Mem} {new : List (Nat × Blk)} {i : Nat} (hi : i ∈ keys new) : dom (upds M new) i := by
  induction new with
  | nil => simp [keys] at hi
  | cons p r ih =>
    obtain ⟨k, b'⟩ := p
    simp only [dom, upds, upd]
    by_cases hk : i = k
    · exact ⟨b', by simp [hk]⟩
    · rw [if_neg hk]
      simp only [keys, List.map_cons, List.mem_cons] at hi
      exact ih (hi.resolve_left hk)

theorem gmap_new {g : List (Nat × Nat)} {nids : List Nat} {j : Nat} (hj : ¬ j < g.length) : (gmap g nids j).blk = nids.getD (j - g.length) 0 := by
  simp only [gmap, hj, if_false]

theorem call_sound {P : Program} {f : FuncId} {args : List Value} {M0 : List Blk} {res : Value} {Mo : List Blk} (S : Ctr P f args M0 res Mo)
    {g : List (Nat × Nat)} {nids : List Nat} {new : List (Nat × Blk)} {M : Mem} (F : Fits M M0 Mo g nids new)
    {E' : Env} {M' : Mem} (hfp : ∀ i ∈ g.map (·.1), M' i = M i) (hfr : ∀ i ∈ nids, M' i = none) {C : Ctx} {ρ : Rho} {a : Act} {w : World} (hR : Rep C ρ ⟨E', M'⟩ a w)
    {vals rargs : List Value} (hl : args.length = vals.length) (hl' : vals.length = rargs.length)
    (hav : ∀ (k : Nat) (x y : Value), args[k]? = some x → vals[k]? = some y → VR .arg (dom (memL M0)) (gmap g nids) x y)
    (hvu : ∀ (k : Nat) (y u : Value), vals[k]? = some y → rargs[k]? = some u → VR .real (dom M') ρ y u)
    {vres : Value} (hres : VR .res (dom (memL Mo)) (gmap g nids) res vres) :
    Calls P f rargs.toArray w fun e w' => ∃ u ρ', e = .returned u ∧ Rep C ρ' ⟨E', upds M' new⟩ a w' ∧ VR .real (dom (upds M' new)) ρ' vres u := by
  have hgl : ∀ k, k < M0.length → (gmap g nids k).blk ∈ g.map (·.1) := by
    intro k hk
    have hk' : k < g.length := by rw [F.glen]; exact hk
    simp only [gmap, hk', if_true, List.getD_eq_getElem?_getD, List.getElem?_eq_getElem hk', Option.getD_some]
    exact List.mem_map.2 ⟨_, List.getElem_mem _, rfl⟩
  have hgM : ∀ k, k < M0.length → M' (gmap g nids k).blk = M (gmap g nids k).blk := fun k hk => hfp _ (hgl k hk)
  have hnew : ∀ k, M0.length ≤ k → k < Mo.length → (gmap g nids k).blk ∈ nids := by
    intro k h1 h2
    have hk' : ¬ k < g.length := by rw [F.glen]; omega
    have hk2 : k - g.length < nids.length := by rw [F.glen]; have := F.nlen; omega
    simp only [gmap, hk', if_false, List.getD_eq_getElem?_getD, List.getElem?_eq_getElem hk2, Option.getD_some]
    exact List.getElem_mem _
  have hnoff : ∀ k, M0.length ≤ k → (gmap g nids k).off = 0 := by
    intro k h1
    have hk' : ¬ k < g.length := by rw [F.glen]; omega
    simp only [gmap, hk', if_false]
  have hninj : ∀ k k', M0.length ≤ k → k < Mo.length → M0.length ≤ k' → k' < Mo.length → (gmap g nids k).blk = (gmap g nids k').blk → k = k' := by
    intro k k' h1 h2 h3 h4 he
    have hk' : ¬ k < g.length := by rw [F.glen]; omega
    have hk2 : k - g.length < nids.length := by rw [F.glen]; have := F.nlen; omega
    have hj' : ¬ k' < g.length := by rw [F.glen]; omega
    have hj2 : k' - g.length < nids.length := by rw [F.glen]; have := F.nlen; omega
    simp only [gmap, hk', hj', if_false, List.getD_eq_getElem?_getD, List.getElem?_eq_getElem hk2, List.getElem?_eq_getElem hj2, Option.getD_some] at he
    have := (List.getElem_inj F.nodup).1 he
    omega
  -- the callee's own reading of the world
  have hmem0 : MemOk (comp ρ (gmap g nids)) (memL M0) w := by
    intro k b0 hk
    have hklt : k < M0.length := (List.getElem?_eq_some_iff.1 hk).1
    obtain ⟨b, hb, hcells, hes, hrm, hrw⟩ := F.fit k b0 hk
    have hb' : M' (gmap g nids k).blk = some b := by rw [hgM k hklt]; exact hb
    have hB := hR.mem _ _ hb'
    refine ⟨fun hs => hB.lt (hs.imp (fun h => ⟨(hrw h.1).1, h.2⟩) fun h e => h (List.length_eq_zero_iff.1 (by rw [e] at hrm; simp only [List.length_nil] at hrm; omega))), fun c x hc => ?_, fun hr => ?_, hB.es.trans hes, fun L hL => by
      have := hB.room L hL
      simp only [comp]
      omega⟩
    · obtain ⟨y, hy, hxy⟩ := hcells c x hc
      obtain ⟨u', hu', hv'⟩ := hB.cells _ y hy
      refine ⟨u', ?_, VR.comp (by simp) hxy hv'⟩
      simp only [comp]
      rw [Nat.add_assoc]
      exact hu'
    · obtain ⟨h1, h2, h3, _⟩ := hrw hr.1
      have hW := hB.rw ⟨h1, hr.2⟩
      refine ⟨by simp only [comp, h2, hW.off], hW.soft, hW.lim, fun j bj hj hsj hne => ?_⟩
      obtain ⟨b2, hb2, _, _, hrm2, hrw2⟩ := F.fit j bj hj
      have hjlt : j < M0.length := (List.getElem?_eq_some_iff.1 hj).1
      have hb2' : M' (gmap g nids j).blk = some b2 := by rw [hgM j hjlt]; exact hb2
      exact hW.lone _ b2 hb2' (hsj.imp (fun h => ⟨(hrw2 h.1).1, h.2⟩) fun h e => h (List.length_eq_zero_iff.1 (by rw [e] at hrm2; simp only [List.length_nil] at hrm2; omega))) (h3 j bj hj hne)
  refine (S.2 (comp ρ (gmap g nids)) w rargs hmem0 (hl.trans hl') (fun k v u hv hu => ?_)).mono ?_
  · have hkv : k < vals.length := by rw [← hl]; exact (List.getElem?_eq_some_iff.1 hv).1
    exact VR.comp (by simp) (hav k v _ hv (List.getElem?_eq_getElem hkv)) (hvu k _ u (List.getElem?_eq_getElem hkv) hu)
  rintro e w' ⟨u, ρc, rfl, hold, hfar, hvres, hmo, hfrm⟩
  -- the caller's new placement
  let ρ2 : Rho := fun id => if id ∈ nids then ρc (M0.length + nids.idxOf id) else ρ id
  have hρ2old : ∀ id, dom M' id → ρ2 id = ρ id := by
    rintro id ⟨b, hb⟩
    have : id ∉ nids := fun h => by rw [hfr id h] at hb; cases hb
    simp only [ρ2, this, if_false]
  have hρ2new : ∀ k, M0.length ≤ k → k < Mo.length → ρ2 (gmap g nids k).blk = ρc k := by
    intro k h1 h2
    have hin := hnew k h1 h2
    simp only [ρ2, hin, if_true]
    congr 1
    have hidx : nids.idxOf (gmap g nids k).blk < nids.length := List.idxOf_lt_length_of_mem hin
    have hlt : M0.length + nids.idxOf (gmap g nids k).blk < Mo.length := by have := F.nlen; omega
    refine hninj _ _ (by omega) hlt h1 h2 ?_
    have hk' : ¬ M0.length + nids.idxOf (gmap g nids k).blk < g.length := by rw [F.glen]; omega
    have e1 : (gmap g nids (M0.length + nids.idxOf (gmap g nids k).blk)).blk = nids.getD (nids.idxOf (gmap g nids k).blk) 0 := by
      rw [gmap_new hk', F.glen, Nat.add_sub_cancel_left]
    rw [e1, List.getD_eq_getElem?_getD, List.getElem?_eq_getElem hidx, Option.getD_some]
    exact List.getElem_idxOf hidx
  have hcomp : ∀ k, k < Mo.length → comp ρ2 (gmap g nids) k = ρc k := by
    intro k hk
    rcases Nat.lt_or_ge k M0.length with h1 | h1
    · rw [hold k h1]
      obtain ⟨b, hb, _⟩ := F.fit k _ (List.getElem?_eq_getElem h1)
      have : ρ2 (gmap g nids k).blk = ρ (gmap g nids k).blk := hρ2old _ ⟨b, by rw [hgM k h1]; exact hb⟩
      simp only [comp, this]
    · simp only [comp, hρ2new k h1 hk, hnoff k h1, Nat.add_zero]
  have hdomNew : ∀ i, dom M' i → dom (upds M' new) i := fun i hi => upds_dom hi
  have hkeydom : ∀ i, i ∈ keys new → dom (upds M' new) i := fun i hi => keys_dom hi
  have hdomMo : ∀ k, dom (memL Mo) k → dom (upds M' new) (gmap g nids k).blk := by
    intro k hk
    have hk := dom_memL.1 hk
    rcases Nat.lt_or_ge k M0.length with h1 | h1
    · obtain ⟨b, hb, _⟩ := F.fit k _ (List.getElem?_eq_getElem h1)
      exact hdomNew _ ⟨b, by rw [hgM k h1]; exact hb⟩
    · exact hkeydom _ (F.hnids _ (hnew k h1 hk)).1
  have hpush : ∀ {x y u : Value}, VR .res (dom (memL Mo)) (gmap g nids) x y → VR .real (dom (memL Mo)) ρc x u → VR .real (dom (upds M' new)) ρ2 y u := by
    intro x y u h1 h2
    exact VR.push h1 hdomMo (h2.mono (fun _ h => h) fun i hi => hcomp i (dom_memL.1 hi))
  have hmono : ∀ {x u : Value}, VR .real (dom M') ρ x u → VR .real (dom (upds M' new)) ρ2 x u := fun h => h.mono hdomNew hρ2old
  -- blocks that the callee may not write
  have hkeep : ∀ id b, M' id = some b → b.solid (ρ id) → id ∉ keys new → w'.heap[(ρ id).blk]? = w.heap[(ρ id).blk]? := by
    intro id b hb hsb hk
    have hB := hR.mem id b hb
    refine hfrm.block _ (hB.lt hsb) ?_
    rintro ⟨i, b0, hi, hr, he⟩
    have hilt : i < M0.length := (List.getElem?_eq_some_iff.1 hi).1
    obtain ⟨b1, hb1, _, _, _, hrw⟩ := F.fit i b0 hi
    obtain ⟨h1, h2, h3, h4⟩ := hrw hr.1
    have hb1' : M' (gmap g nids i).blk = some b1 := by rw [hgM i hilt]; exact hb1
    have hne : id ≠ (gmap g nids i).blk := fun e => hk (e ▸ h4)
    exact ((hR.mem _ _ hb1').rw ⟨h1, hr.2⟩).lone id b hb hsb hne he.symm
  refine ⟨u, ρ2, rfl, ?_, hpush hres hvres⟩
  refine ⟨hR.size, hR.defers, fun t v hv => ?_, ?_, fun i hi => ?_, fun i hi => ?_, ?_, ?_⟩
  · obtain ⟨x, hx, hv'⟩ := hR.env t v hv
    exact ⟨x, hx, hmono hv'⟩
  · -- memory
    intro id b hb
    by_cases hk : id ∈ keys new
    · obtain ⟨p, hp, rfl, rfl⟩ := upds_get hb hk
      obtain ⟨k, b0, hkb, hpk, hkind, hcells, hprw, hpes, hprm⟩ := F.hnew p hp
      have hklt : k < Mo.length := (List.getElem?_eq_some_iff.1 hkb).1
      have hB := hmo k b0 hkb
      have hoff0 : (gmap g nids k).off = 0 := by
        rcases hkind with h1 | ⟨bi, hbi, hbr⟩
        · exact hnoff k h1
        · obtain ⟨_, _, _, _, _, hrw⟩ := F.fit k bi hbi
          exact (hrw hbr).2.1
      have hρk : ρ2 p.1 = ρc k := by
        have := hcomp k hklt
        simp only [comp, hoff0, Nat.add_zero] at this
        rw [hpk]; exact this
      refine ⟨fun hs => by rw [hρk]; exact hB.lt (hs.imp (fun h => ⟨hprw h.1, by rw [← hρk]; exact h.2⟩) fun h e => h (List.length_eq_zero_iff.1 (by rw [e] at hprm; simpa using hprm))), fun c y hy => ?_, fun hr => ?_, by rw [hρk]; exact hB.es.trans hpes.symm, fun L hL => by
        rw [hρk] at hL ⊢
        have := hB.room L hL
        omega⟩
      · obtain ⟨x, hx, hxy⟩ := hcells c y hy
        obtain ⟨u', hu', hv'⟩ := hB.cells c x hx
        exact ⟨u', by rw [hρk]; exact hu', hpush hxy hv'⟩
      · have hW := hB.rw ⟨hprw hr.1, by rw [← hρk]; exact hr.2⟩
        refine ⟨by rw [hρk]; exact hW.off, by rw [hρk]; exact hW.soft, by rw [hρk]; exact hW.lim, fun j bj hj hsj hne => ?_⟩
        rw [hρk]
        by_cases hjk : j ∈ keys new
        · obtain ⟨p', hp', rfl, rfl⟩ := upds_get hj hjk
          obtain ⟨k', b0', hkb', hpk', hkind', _, hprw', _, hprm'⟩ := F.hnew p' hp'
          have hklt' : k' < Mo.length := (List.getElem?_eq_some_iff.1 hkb').1
          have hoff0' : (gmap g nids k').off = 0 := by
            rcases hkind' with h1 | ⟨bi, hbi, hbr⟩
            · exact hnoff k' h1
            · obtain ⟨_, _, _, _, _, hrw⟩ := F.fit k' bi hbi
              exact (hrw hbr).2.1
          have hρk' : ρ2 p'.1 = ρc k' := by
            have := hcomp k' hklt'
            simp only [comp, hoff0', Nat.add_zero] at this
            rw [hpk']; exact this
          rw [hρk']
          exact hW.lone k' b0' hkb' (hsj.imp (fun h => ⟨hprw' h.1, by rw [← hρk']; exact h.2⟩) fun h e => h (List.length_eq_zero_iff.1 (by rw [e] at hprm'; simpa using hprm'))) fun e => hne (by rw [hpk', hpk, e])
        · change upds M' new j = some bj at hj
          rw [upds_out hjk] at hj
          rw [hρ2old j ⟨bj, hj⟩] at hsj ⊢
          rcases hkind with h1 | ⟨bi, hbi, hbr⟩
          · have h3 := (hR.mem j bj hj).lt hsj
            rcases hfar k b0 h1 hkb (.inl ⟨hprw hr.1, by rw [← hρk]; exact hr.2⟩) with h2 | ⟨ir, br, hir, hbr, he⟩
            · omega
            · have hirl : ir < M0.length := (List.getElem?_eq_some_iff.1 hir).1
              obtain ⟨b1, hb1, _, _, _, hrw⟩ := F.fit ir br hir
              obtain ⟨g1, _, _, g4⟩ := hrw hbr.1
              have hb1' : M' (gmap g nids ir).blk = some b1 := by rw [hgM ir hirl]; exact hb1
              have h5 := ((hR.mem _ _ hb1').rw ⟨g1, hbr.2⟩).lone j bj hj hsj (fun e => hjk (e ▸ g4))
              rw [← he]
              exact h5
          · have hki : k < M0.length := (List.getElem?_eq_some_iff.1 hbi).1
            obtain ⟨b1, hb1, _, _, _, hrw⟩ := F.fit k bi hbi
            obtain ⟨g1, g2, g3, g4⟩ := hrw hbr
            have hb1' : M' (gmap g nids k).blk = some b1 := by rw [hgM k hki]; exact hb1
            have := ((hR.mem _ _ hb1').rw ⟨g1, by rw [← hρ2old _ ⟨b1, hb1'⟩, ← hpk]; exact hr.2⟩).lone j bj hj hsj (fun e => hne (by rw [e, hpk]))
            rw [← hρk, hpk, hρ2old _ ⟨b1, hb1'⟩]
            exact this
    · change upds M' new id = some b at hb
      rw [upds_out hk] at hb
      have hB := hR.mem id b hb
      have hρo := hρ2old id ⟨b, hb⟩
      have hheap := fun hs => hkeep id b hb hs hk
      refine ⟨fun hs => by rw [hρo]; exact Nat.lt_of_lt_of_le (hB.lt (by rw [← hρo]; exact hs)) hfrm.size, fun c y hy => ?_, fun hr => ?_, by rw [hρo]; exact hB.es, by rw [hρo]; exact hB.room⟩
      · obtain ⟨u', hu', hv'⟩ := hB.cells c y hy
        rw [hρo]
        exact ⟨u', by rw [cell?_of_heap (hheap (Blk.solid_get hy))]; exact hu', hmono hv'⟩
      · rw [hρo] at hr
        have hW := hB.rw hr

        have hheap := hheap (.inl hr)
        refine ⟨by rw [hρo]; exact hW.off, fun o => by rw [hρo, frozen?_of_heap hheap]; exact hW.soft o, ?_, fun j bj hj hsj hne => ?_⟩
        · obtain ⟨L, hL, hc⟩ := hW.lim
          rw [hρo]
          exact ⟨L, hL, fun k hk => by rw [cell?_of_heap hheap]; exact hc k hk⟩
        · rw [hρo]
          by_cases hjk : j ∈ keys new
          · obtain ⟨p', hp', rfl, rfl⟩ := upds_get hj hjk
            obtain ⟨k', b0', hkb', hpk', hkind', _, hprw', _, hprm'⟩ := F.hnew p' hp'
            have hklt' : k' < Mo.length := (List.getElem?_eq_some_iff.1 hkb').1
            rcases hkind' with h1 | ⟨bi, hbi, hbr⟩
            · have : ρ2 p'.1 = ρc k' := by rw [hpk']; exact hρ2new k' h1 hklt'
              rw [this]
              have h3 := hB.lt (.inl hr)
              rcases hfar k' b0' h1 hkb' (hsj.imp (fun h => ⟨hprw' h.1, by rw [← this]; exact h.2⟩) fun h e => h (List.length_eq_zero_iff.1 (by rw [e] at hprm'; simpa using hprm'))) with h2 | ⟨ir, br, hir, hbr, he⟩
              · omega
              · have hirl : ir < M0.length := (List.getElem?_eq_some_iff.1 hir).1
                obtain ⟨b1, hb1, _, _, _, hrw⟩ := F.fit ir br hir
                obtain ⟨g1, _, _, g4⟩ := hrw hbr.1
                have hb1' : M' (gmap g nids ir).blk = some b1 := by rw [hgM ir hirl]; exact hb1
                have h5 := ((hR.mem _ _ hb1').rw ⟨g1, hbr.2⟩).lone id b hb (.inl hr) (fun e => hk (e ▸ g4))
                rw [← he]
                exact Ne.symm h5
            · have hki : k' < M0.length := (List.getElem?_eq_some_iff.1 hbi).1
              obtain ⟨b1, hb1, _, _, _, hrw⟩ := F.fit k' bi hbi
              have hb1' : M' (gmap g nids k').blk = some b1 := by rw [hgM k' hki]; exact hb1
              have hlm : (ρ (gmap g nids k').blk).lim ≠ some 0 := by
                rcases hsj with h | h
                · rw [← hρ2old _ ⟨b1, hb1'⟩, ← hpk']; exact h.2
                · intro e
                  have hc := hcomp k' hklt'
                  have := (hmo k' b0' hkb').room 0 (by rw [← hc]; simp only [comp, hρ2old _ ⟨b1, hb1'⟩]; exact e)
                  exact h (List.length_eq_zero_iff.1 (by omega))
              rw [hpk', hρ2old _ ⟨b1, hb1'⟩]
              exact hW.lone _ b1 hb1' (.inl ⟨(hrw hbr).1, hlm⟩) (fun e => hne (by rw [hpk', e]))
          · change upds M' new j = some bj at hj
            rw [upds_out hjk] at hj
            rw [hρ2old j ⟨bj, hj⟩] at hsj ⊢
            exact hW.lone j bj hj hsj hne
  · obtain ⟨b, hb⟩ := hR.low i hi
    rw [hρ2old i ⟨b, hb⟩]
    exact hR.agree i hi
  · exact upds_dom (hR.low i hi)
  · intro id b hb hr
    by_cases hk : id ∈ keys new
    · obtain ⟨p, hp, rfl, rfl⟩ := upds_get hb hk
      obtain ⟨k, b0, hkb, hpk, hkind, _, hprw, _⟩ := F.hnew p hp
      have hklt : k < Mo.length := (List.getElem?_eq_some_iff.1 hkb).1
      rcases hkind with h1 | ⟨bi, hbi, hbr⟩
      · rw [hpk, hρ2new k h1 hklt]
        rcases hfar k b0 h1 hkb (.inl ⟨hprw hr.1, by rw [← hρ2new k h1 hklt, ← hpk]; exact hr.2⟩) with h2 | ⟨ir, br, hir, hbr, he⟩
        · exact .inr (Nat.le_trans hR.frame.size h2)
        · have hirl : ir < M0.length := (List.getElem?_eq_some_iff.1 hir).1
          obtain ⟨b1, hb1, _, _, _, hrw⟩ := F.fit ir br hir
          have hb1' : M' (gmap g nids ir).blk = some b1 := by rw [hgM ir hirl]; exact hb1
          rw [← he]
          exact hR.own _ _ hb1' ⟨(hrw hbr.1).1, hbr.2⟩
      · have hki : k < M0.length := (List.getElem?_eq_some_iff.1 hbi).1
        obtain ⟨b1, hb1, _, _, _, hrw⟩ := F.fit k bi hbi
        have hb1' : M' (gmap g nids k).blk = some b1 := by rw [hgM k hki]; exact hb1
        have hlm : (ρ (gmap g nids k).blk).lim ≠ some 0 := by rw [← hρ2old _ ⟨b1, hb1'⟩, ← hpk]; exact hr.2
        rw [hpk, hρ2old _ ⟨b1, hb1'⟩]
        exact hR.own _ _ hb1' ⟨(hrw hbr).1, hlm⟩
    · change upds M' new id = some b at hb
      rw [upds_out hk] at hb
      rw [hρ2old id ⟨b, hb⟩] at hr ⊢
      exact hR.own id b hb hr
  · refine hR.frame.trans hfrm fun k hk => ?_
    rintro ⟨i, b0, hi, hr, he⟩
    have hilt : i < M0.length := (List.getElem?_eq_some_iff.1 hi).1
    obtain ⟨b1, hb1, _, _, _, hrw⟩ := F.fit i b0 hi
    have hb1' : M' (gmap g nids i).blk = some b1 := by rw [hgM i hilt]; exact hb1
    have h1 : (ρ (gmap g nids i).blk).blk = k := he
    rcases hR.own _ _ hb1' ⟨(hrw hr.1).1, hr.2⟩ with h2 | h2
    · rw [h1] at h2; exact h2
    · rw [h1] at h2; omega

end Go.Proofs.Ytiikffiembcboaa.Sim
