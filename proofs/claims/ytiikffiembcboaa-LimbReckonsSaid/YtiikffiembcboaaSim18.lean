/- append. -/
import Derived.Test.YtiikffiembcboaaSim17
import Derived.ArgAppend
namespace Go.Proofs.Ytiikffiembcboaa.Sim
open Go Go.RowKit
theorem run_appendOp {P : Program} {x y : Operand} {t : TypeId} {d : Option Tmp} {ty : TypeId} {ps : String} {af : Array Edge} {g : Option (Nat × Bool)} (ev : Operand → Value) (w : World) {v : Value} {w' : World}
    (h : (Builtin.append_ #[t, t] ty #[ev x, ev y]).run P w = .ok v w') : (execOp ev ⟨d, .call ⟨.builtin .append, #[x, y], #[t, t]⟩, ty, ps, af, g⟩).run P w = .ok (.value v) w' := by
  simp [execOp, resolve, invoke, builtin, h]
theorem run_append_nilY {P : Program} {t ty e : TypeId} {sz : Nat} (ht : P.underlying t = some (.slice e)) (hs : (P.info? e).map (·.size) = some sz) (base : Option Addr) (n c : Nat) (h : n ≤ c) (w : World) :
    (Builtin.append_ #[t, t] ty #[.slice base n c, .slice none 0 0]).run P w = .ok (.slice base n c) w := by
  cases base <;> simp [Builtin.append_, run_underlying ht, run_size hs, Builtin.lenOf, h, Builtin.firstCells, storeCells]
theorem run_append_none0 {P : Program} {t ty e : TypeId} {sz : Nat} (ht : P.underlying t = some (.slice e)) (hs : (P.info? e).map (·.size) = some sz) (a : Addr) (c : Nat) (w : World) :
    (Builtin.append_ #[t, t] ty #[.slice none 0 0, .slice (some a) 0 c]).run P w = .ok (.slice none 0 0) w := by
  simp [Builtin.append_, run_underlying ht, run_size hs, Builtin.lenOf, Builtin.firstCells, loadCells, loadCellsFrom]

theorem Rep.pushAll {C : Ctx} {ρ : Rho} {E : Env} {a : Act} {id L : Nat} (hL : (ρ id).lim = some L) : ∀ (news us : List Value) {M : Mem} {w : World} {b : Blk}, Rep C ρ ⟨E, M⟩ a w → M id = some b → b.rw = true →
    b.cells.length + news.length ≤ L → news.length = us.length → (∀ (k : Nat) (v u : Value), news[k]? = some v → us[k]? = some u → VR .real (dom M) ρ v u) →
    Rep C ρ ⟨E, upd M id ⟨b.cells ++ news, true, b.es⟩⟩ a (w.setCells (ρ id).blk ((ρ id).off + b.cells.length) us)
  | [], us, M, w, b, hR, hb, hr, _, hl, _ => by
    obtain rfl : us = [] := by simpa using hl.symm
    have : (⟨b.cells ++ [], true, b.es⟩ : Blk) = b := by cases b; simp only [List.append_nil] at *; subst hr; rfl
    rw [this, upd_self hb]
    exact hR
  | v :: vs, us, M, w, b, hR, hb, hr, hlen, hl, hrel => by
    obtain ⟨u, us, rfl⟩ : ∃ u r, us = u :: r := by cases us with
      | nil => simp at hl
      | cons u r => exact ⟨u, r, rfl⟩
    simp only [List.length_cons, Nat.add_right_cancel_iff] at hl hlen
    have hR1 := hR.push hb hr hL (by omega) (hrel 0 v u rfl rfl)
    have hdm : ∀ j, dom M j → dom (upd M id ⟨b.cells ++ [v], true, b.es⟩) j := by
      rintro j ⟨bj, hj⟩
      by_cases hji : j = id
      · rw [hji]; exact dom_upd
      · exact ⟨bj, by simp only [upd, hji, if_false]; exact hj⟩
    have := Rep.pushAll hL vs us hR1 (b := ⟨b.cells ++ [v], true, b.es⟩) (by simp only [upd, if_true]) rfl (by simp; omega) hl
      (fun k v' u' h1 h2 => (hrel (k + 1) v' u' (by simpa using h1) (by simpa using h2)).mono hdm fun _ _ => rfl)
    rw [upd_upd] at this
    simp only [List.append_assoc, List.singleton_append, List.length_append, List.length_singleton] at this
    rw [World.setCells, Nat.add_assoc]
    exact this


theorem drewRep {C : Ctx} {ρ : Rho} {σ : ASt} {a : Act} {w : World} (h : Rep C ρ σ a w) : Rep C ρ σ a w.drew := h.drew

/-- append to an own slice: its block goes over to a new name -/
theorem FStep.append {P : Program} {E : Env} {M : Mem} {d : Option Tmp} {ty : TypeId} {ps : String} {af : Array Edge} {g : Option (Nat × Bool)} {x y : Operand} {t e : TypeId} {id jd o n m es by' : Nat} {cs news : List Value} {bj : Blk} {z : Value} (nid : Nat)
    (hx : aev E x = some (.slice (some ⟨id, 0, none⟩) n 0)) (hy : aev E y = some (.slice (some ⟨jd, o, none⟩) m 0)) (hb : M id = some ⟨cs, true, es⟩) (hj : M jd = some bj)
    (hn : cs.length = n * es) (hnw : (bj.cells.drop o).take (m * es) = news) (ho : o + m * es ≤ bj.cells.length) (_ : jd ≠ id) (hnid : nid ≠ id) (hnjd : nid ≠ jd)
    (ht : P.underlying t = some (.slice e)) (hs : (P.info? e).map (·.size) = some es) (h0 : es ≠ 0) (hz : (P.info? e).map (·.zero) = some (some z)) (hzs : z.cells.size = es) (hby : (P.info? e).map (·.bytes) = some by')
    (hlen : (n + m) * by' ≤ 140737488355328) (hmax : n + m < 9223372036854775808) (hone : news.all (·.oneCell') = true) :
    FStep P ⟨d, .call ⟨.builtin .append, #[x, y], #[t, t]⟩, ty, ps, af, g⟩ E M (.slice (some ⟨nid, 0, none⟩) (n + m) 0) ⟨[id, jd], [(nid, ⟨cs ++ news, true, es⟩), (id, ⟨[], false, es⟩)]⟩ := by
  intro E' M' h1 h2 h3 C ρ ac w hR
  have hb' : M' id = some ⟨cs, true, es⟩ := by rw [h2 id (by simp)]; exact hb
  have hj' : M' jd = some bj := by rw [h2 jd (by simp)]; exact hj
  have hn' : M' nid = none := h3 _ (List.mem_cons_self ..) (by simp [hnid, hnjd])
  have hxv := hR.eval (x := x) (by rw [h1 x (by simp [Op.operands, Call.operands])]; exact hx)
  have hyv := hR.eval (x := y) (by rw [h1 y (by simp [Op.operands, Call.operands])]; exact hy)
  obtain ⟨info, hi, hisz⟩ := info_of hs
  have hibz : info.zero = some z := by rw [hi] at hz; simpa using hz
  have hiby : info.bytes = by' := by rw [hi] at hby; simpa using hby
  subst hisz
  have hBid := hR.mem id _ hb'
  obtain ⟨us, hul, hus, hrel⟩ := pick_list (o := o) (hR.mem jd bj hj').cells (m * info.size) ho
  obtain ⟨olds, hol, hos, horel⟩ := pick_list (o := 0) hBid.cells cs.length (by simp)
  have hnl : news.length = m * info.size := by rw [← hnw]; simp; omega
  have hrel' : ∀ (k : Nat) (v u : Value), news[k]? = some v → us[k]? = some u → VR .real (dom M') ρ v u := fun k v u a b => hrel k v u (by rw [hnw]; exact a) b
  have hu1 : ∀ u ∈ us, u.oneCell' = true := fun u hu => by
    obtain ⟨k, hk, rfl⟩ := List.mem_iff_getElem.1 hu
    have hk2 : k < news.length := by omega
    exact one_rel (hrel' k _ _ (List.getElem?_eq_getElem hk2) (List.getElem?_eq_getElem hk)) (List.all_eq_true.1 hone _ (List.getElem_mem hk2))
  -- a new block
  have fresh : ∀ (rc : Array Value) (w' : World), w' = w.drew.alloc (.cells rc e) → (∀ (k : Nat) (u : Value), (olds ++ us)[k]? = some u → rc[k]? = some u) → cs.length + news.length ≤ rc.size →
      ∃ ρ', Rep C ρ' ⟨E', upds M' [(nid, ⟨cs ++ news, true, info.size⟩), (id, ⟨[], false, info.size⟩)]⟩ ac w' ∧ ρ' nid = ⟨w.heap.size, 0, some rc.size, info.size⟩ := by
    rintro rc w' rfl hrc hsz
    have hk := hR.kill hb'
    have hm2 : (upd M' id (⟨[], false, info.size⟩ : Blk)) nid = none := by simp only [upd, hnid, if_false]; exact hn'
    have hdm : ∀ j, dom M' j → dom (upd M' id (⟨[], false, info.size⟩ : Blk)) j := by
      rintro j ⟨bj, hj⟩
      by_cases hji : j = id
      · rw [hji]; exact dom_upd
      · exact ⟨bj, by simp only [upd, hji, if_false]; exact hj⟩
    obtain ⟨ρ', hR', hρ, _⟩ := (hk.drew).alloc hm2 (cells := cs ++ news) (rcells := rc) (elem := e) info.size (by simpa using hsz) (fun k v u a b => by
      have hol' : olds.length = cs.length := hol
      rcases Nat.lt_or_ge k cs.length with hk | hk
      · rw [List.getElem?_append_left hk] at a
        have h7 := hrc k _ (by rw [List.getElem?_append_left (by omega)]; exact List.getElem?_eq_getElem (by omega))
        rw [b] at h7; cases h7
        exact (horel k v _ (by simpa [List.getElem?_take, hk] using a) (List.getElem?_eq_getElem (by omega))).mono hdm fun _ _ => rfl
      · rw [List.getElem?_append_right hk] at a
        have hk2 : k - cs.length < news.length := (List.getElem?_eq_some_iff.1 a).1
        have h7 := hrc k _ (by rw [List.getElem?_append_right (by omega)]; exact List.getElem?_eq_getElem (by omega))
        rw [b] at h7; cases h7
        exact (hrel' _ v _ a (by rw [← hol']; exact List.getElem?_eq_getElem (by omega))).mono hdm fun _ _ => rfl)
    exact ⟨ρ', hR', hρ⟩
  have done : ∀ (v' : Value) (w' : World), (Builtin.append_ #[t, t] ty #[ac.eval x, ac.eval y]).run P w = .ok v' w' →
      (∃ ρ', Rep C ρ' ⟨E', upds M' [(nid, ⟨cs ++ news, true, info.size⟩), (id, ⟨[], false, info.size⟩)]⟩ ac w' ∧ VR .real (dom (upds M' [(nid, ⟨cs ++ news, true, info.size⟩), (id, ⟨[], false, info.size⟩)])) ρ' (.slice (some ⟨nid, 0, none⟩) (n + m) 0) v') →
      StepTo P ⟨d, .call ⟨.builtin .append, #[x, y], #[t, t]⟩, ty, ps, af, g⟩ ac w fun u w' => ∃ ρ', Rep C ρ' ⟨E', upds M' [(nid, ⟨cs ++ news, true, info.size⟩), (id, ⟨[], false, info.size⟩)]⟩ ac w' ∧
        VR .real (dom (upds M' [(nid, ⟨cs ++ news, true, info.size⟩), (id, ⟨[], false, info.size⟩)])) ρ' (.slice (some ⟨nid, 0, none⟩) (n + m) 0) u := fun v' w' hrun hR' => by
    unfold StepTo Oper.wp
    rw [run_appendOp ac.eval w hrun]
    exact ⟨v', rfl, hR'⟩
  have hD2 : dom (upds M' [(nid, ⟨cs ++ news, true, info.size⟩), (id, ⟨[], false, info.size⟩)]) nid := keys_dom (by simp [keys])
  -- the block that is moved
  have moved : ∀ (w' : World), Rep C ρ ⟨E', upd M' id ⟨cs ++ news, true, info.size⟩⟩ ac w' → ∃ ρ', Rep C ρ' ⟨E', upds M' [(nid, ⟨cs ++ news, true, info.size⟩), (id, ⟨[], false, info.size⟩)]⟩ ac w' ∧ ρ' nid = ρ id := by
    intro w' hR1
    obtain ⟨ρ', h5, h6, _⟩ := hR1.move (id := id) (nid := nid) (b := ⟨cs ++ news, true, info.size⟩) (by simp only [upd, if_true]) (by simp only [upd, hnid, if_false]; exact hn')
    rw [upd_upd] at h5
    exact ⟨ρ', h5, h6⟩
  have same : news = [] → Rep C ρ ⟨E', upd M' id ⟨cs ++ news, true, info.size⟩⟩ ac w := fun e => by rw [e, List.append_nil, upd_self hb']; exact hR
  have grow_cells : ∀ (k : Nat) (q : Nat), ∀ (k' : Nat) (u : Value), (olds ++ us)[k']? = some u → (olds.toArray ++ us.toArray ++ Builtin.zeroCells z.cells q)[k']? = some u := fun _ q k' u hk => by
    have : k' < (olds ++ us).length := (List.getElem?_eq_some_iff.1 hk).1
    rw [Array.getElem?_append_left (by simpa using this)]
    simpa using hk
  have hneeds : ∀ q, n + m ≤ q → (olds.toArray ++ us.toArray ++ Builtin.zeroCells z.cells (q - (n + m))).size = q * info.size := fun q hq => by
    simp only [Array.size_append, List.size_toArray, size_zeroCells, hzs, hol, hul, hn, ← Nat.add_mul]
    congr 1; omega
  generalize hux : ac.eval x = ux at hxv done
  generalize huy : ac.eval y = uy at hyv done
  cases hxv with
  | flat _ hf => simp [flatV] at hf
  | nilS =>
    have hcs0 : cs = [] := List.length_eq_zero_iff.1 (by rw [hn]; simp)
    subst hcs0
    cases hyv with
    | flat _ hf => simp [flatV] at hf
    | nilS =>
      have hnw0 : news = [] := List.length_eq_zero_iff.1 (by rw [hnl]; simp)
      obtain ⟨ρ', h5, h6⟩ := moved w (same hnw0)
      exact done _ _ (run_append_nilY ht hs _ 0 0 (Nat.le_refl _) w) ⟨ρ', h5, .nilS _ (by simp)⟩
    | slice _ _ _ c' hd' g1' g2' =>
      by_cases hm0 : m = 0
      · subst hm0
        have hnw0 : news = [] := List.length_eq_zero_iff.1 (by rw [hnl]; simp)
        obtain ⟨ρ', h5, h6⟩ := moved w (same hnw0)
        exact done _ _ (run_append_none0 ht hs _ _ w) ⟨ρ', h5, .nilS _ (by simp)⟩
      · have hfit : m * info.bytes ≤ 281474976710656 := by rw [hiby]; rw [Nat.zero_add] at hlen; omega
        have hrun := run_append_nil (P := P) w t ty e info z ht hi hibz ⟨(ρ jd).blk, (ρ jd).off + o, none⟩ m c' us hul (fun j v hv => by rw [addr_add]; exact hus j v hv) (by omega) (by omega) hfit
        have hge := grownCap_ge w m 0 e
        have ho0 : olds = [] := List.length_eq_zero_iff.1 (by rw [hol]; rfl)
        have hsz : (us.toArray ++ Builtin.zeroCells z.cells (grownCap w m 0 e - m)).size = grownCap w m 0 e * info.size := by
          simp only [Array.size_append, List.size_toArray, size_zeroCells, hzs, hul, ← Nat.add_mul]
          congr 1; omega
        obtain ⟨ρ', h5, h6⟩ := fresh _ _ rfl (fun k u hk => by
          rw [ho0, List.nil_append] at hk
          have : k < us.length := (List.getElem?_eq_some_iff.1 hk).1
          have e1 : (us.toArray ++ Builtin.zeroCells z.cells (grownCap w m 0 e - m))[k]? = us.toArray[k]? := Array.getElem?_append_left (show k < us.toArray.size by rw [List.size_toArray]; exact this)
          rw [e1, List.getElem?_toArray]
          exact hk) (by rw [hsz, hnl]; simp only [List.length_nil, Nat.zero_add]; exact Nat.mul_le_mul_right _ hge)
        refine done _ _ hrun ⟨ρ', h5, ?_⟩
        have := VR.slice (m := .real) (ρ := ρ') nid 0 (0 + m) (grownCap w m 0 e) hD2 (by simp) (fun _ => ⟨by omega, fun L hL => by
          rw [h6] at hL ⊢
          simp only [Option.some.injEq] at hL
          rw [hsz] at hL
          simp only; omega⟩)
        rw [h6, Nat.zero_add] at this
        rw [Nat.zero_add]
        exact this
  | slice _ _ _ c hd g1 g2 =>
    obtain ⟨g3, g4⟩ := g2 rfl
    cases hyv with
    | flat _ hf => simp [flatV] at hf
    | nilS =>
      have hnw0 : news = [] := List.length_eq_zero_iff.1 (by rw [hnl]; simp)
      obtain ⟨ρ', h5, h6⟩ := moved w (same hnw0)
      refine done _ _ (run_append_nilY ht hs _ n c g3 w) ⟨ρ', h5, ?_⟩
      have := VR.slice (m := .real) (ρ := ρ') nid 0 n c hD2 (by simp) (fun _ => ⟨g3, fun L hL => by rw [h6] at hL ⊢; exact g4 L hL⟩)
      rw [h6] at this
      exact this
    | slice _ _ _ c' hd' g1' g2' =>
      by_cases hroom : n + m ≤ c
      · obtain ⟨L, hL, hLl⟩ := hR.lim hb' rfl
        have hes : (ρ id).es = info.size := hBid.es
        have hcL := g4 L hL
        rw [hes] at hcL
        have hnm : n * info.size + m * info.size ≤ c * info.size := by rw [← Nat.add_mul]; exact Nat.mul_le_mul_right _ hroom
        have hW : ∀ j, j < us.length → RwOk ρ M' w id := fun j hj => hBid.rw ⟨rfl, by rw [hL]; simp only [ne_eq, Option.some.injEq]; omega⟩
        have hrun := run_append_room_cells (P := P) w t ty e info ht hi (ρ id).blk ((ρ id).off + 0) n c ⟨(ρ jd).blk, (ρ jd).off + o, none⟩ m c' us hul (fun j v hv => by rw [addr_add]; exact hus j v hv) hu1 hroom
          (fun j hj => by
            obtain ⟨L', hL', hx⟩ := (hW j hj).lim
            rw [hL] at hL'; cases hL'
            obtain ⟨x, hx⟩ := hx (n * info.size + j) (by omega)
            simp only [(hW j hj).off, Nat.zero_add]; rw [hx]; rfl)
          (fun j hj => (hW j hj).soft _)
        have hp := Rep.pushAll hL news us hR hb' rfl (by simp only; omega) (by omega) hrel'
        simp only [hn] at hp
        obtain ⟨ρ', h5, h6⟩ := moved _ hp
        refine done _ _ (by rw [Nat.add_zero] at hrun ⊢; exact hrun) ⟨ρ', h5, ?_⟩
        have := VR.slice (m := .real) (ρ := ρ') nid 0 (n + m) c hD2 (by simp) (fun _ => ⟨hroom, fun L hL => by rw [h6] at hL ⊢; exact g4 L hL⟩)
        rw [h6] at this
        exact this
      · have hfit := growslice_fits (need := n + m) (old := c) (by omega) (by rw [hiby]; exact hlen : (n + m) * info.bytes ≤ 140737488355328)
        have hrun := run_append_grow (P := P) w t ty e info z ht hi hibz ⟨(ρ id).blk, (ρ id).off + 0, none⟩ n c olds (by omega) (fun j v hv => by rw [addr_add]; exact hos j v hv)
          ⟨(ρ jd).blk, (ρ jd).off + o, none⟩ m c' us hul (fun j v hv => by rw [addr_add]; exact hus j v hv) (by omega) (by omega) hfit
        have hge := grownCap_ge w (n + m) c e
        obtain ⟨ρ', h5, h6⟩ := fresh _ _ rfl (grow_cells 0 _) (by rw [hneeds _ hge, hn, hnl, ← Nat.add_mul]; exact Nat.mul_le_mul_right _ hge)
        refine done _ _ hrun ⟨ρ', h5, ?_⟩
        have := VR.slice (m := .real) (ρ := ρ') nid 0 (n + m) (grownCap w (n + m) c e) hD2 (by simp) (fun _ => ⟨hge, fun L hL => by
          rw [h6] at hL ⊢
          simp only [Option.some.injEq] at hL
          rw [hneeds _ hge] at hL
          simp only; omega⟩)
        rw [h6] at this
        exact this

section
variable {P : Program} {T : Tab} (H : TabOk P T)
variable {ops : Array Oper} {k i : Nat} {os : List Oper} {E : Env} {M : Mem} {D : List Eff → Prop} {K : ASt → Prop}
  {d : Tmp} {ty : TypeId} {ps : String} {af : Array Edge} {g : Option (Nat × Bool)}
include H

theorem AWo.append {x y : Operand} {t e : TypeId} {id jd o n m es by' : Nat} {cs news all : List Value} {bj : Blk} {z : Value} (nid : Nat)
    (hx : aev E x = some (.slice (some ⟨id, 0, none⟩) n 0)) (hy : aev E y = some (.slice (some ⟨jd, o, none⟩) m 0)) (hb : M id = some ⟨cs, true, es⟩) (hj : M jd = some bj)
    (hn : cs.length = n * es) (hnw : (bj.cells.drop o).take (m * es) = news) (ho : o + m * es ≤ bj.cells.length) (hne : jd ≠ id) (hid : M nid = none)
    (ht : T.sl.lookup t = some e) (hs : T.sz.lookup e = some es) (h0 : es ≠ 0) (hz : T.zero.lookup e = some z) (hzs : z.cells.size = es) (hby : T.by'.lookup e = some by')
    (hlen : (n + m) * by' ≤ 140737488355328) (hmax : n + m < 9223372036854775808) (hone : news.all (·.oneCell') = true) (hall : cs ++ news = all)
    (hw : wantA ops E ⟨some d, .call ⟨.builtin .append, #[x, y], #[t, t]⟩, ty, ps, af, g⟩ = some true) (hd : Nat.blt d k = true)
    (hr : AWo P ops k (i + 1) os ⟨upd E d (.slice (some ⟨nid, 0, none⟩) (n + m) 0), upd (upd M id ⟨[], false, es⟩) nid ⟨all, true, es⟩⟩
      (fun es' => D (⟨[id, jd], [(nid, ⟨all, true, es⟩), (id, ⟨[], false, es⟩)]⟩ :: es')) K) :
    AWo P ops k i (⟨some d, .call ⟨.builtin .append, #[x, y], #[t, t]⟩, ty, ps, af, g⟩ :: os) ⟨E, M⟩ D K := by
  subst hall
  have h1 : nid ≠ id := fun e => by rw [e, hb] at hid; cases hid
  have h2 : nid ≠ jd := fun e => by rw [e, hj] at hid; cases hid
  refine AWo.step (FStep.append nid hx hy hb hj hn hnw ho hne h1 h2 (H.sl t _ ht) (H.sz e _ hs) h0 (H.zero e _ hz) hzs (H.by' e _ hby) hlen hmax hone) hw hd (fun p hp hq => ?_) hr
  simp only [List.mem_cons, List.not_mem_nil, or_false] at hp
  rcases hp with rfl | rfl
  · exact hid
  · simp at hq
end

end Go.Proofs.Ytiikffiembcboaa.Sim
