/- What the proof stands on, part 2: the walk of each function, and plain laws of numbers. -/
import Derived.Test.YtpahdiljpnfkdaaK1
import Derived.ArgAppend
import Derived.ChangeSlices
import Derived.WideShapes
import Derived.OpenShut
import Derived.Carry
import Derived.Laws.StructEq
import Derived.ChangeKeysEq
import Derived.Laws.BytesString
namespace Go.Proofs.Ytpahdiljpnfkdaa.Sim
open Go Go.RowKit
theorem run_appendOp {P : Program} {x y : Operand} {t : TypeId} {d : Option Tmp} {ty : TypeId} {ps : String} {af : Array Edge} {g : Option (Nat × Bool)} (ev : Operand → Value) (w : World) {v : Value} {w' : World}
    (h : (Builtin.append_ #[t, t] ty #[ev x, ev y]).run P w = .ok v w') : (execOp ev ⟨d, .call ⟨.builtin .append, #[x, y], #[t, t]⟩, ty, ps, af, g⟩).run P w = .ok (.value v) w' := by
  simp [execOp, resolve, invoke, builtin, h]
theorem run_append_nilY {P : Program} {t ty e : TypeId} {sz : Nat} (ht : P.underlying t = some (.slice e)) (hs : (P.info? e).map (·.size) = some sz) (base : Option Addr) (n c : Nat) (h : n ≤ c) (w : World) :
    (Builtin.append_ #[t, t] ty #[.slice base n c, .slice none 0 0]).run P w = .ok (.slice base n c) w := by
  cases base <;> simp [Builtin.append_, run_underlying ht, run_size hs, Builtin.lenOf, h, Builtin.firstCells, storeCells]
theorem run_append_zeroY {P : Program} {t ty e : TypeId} {sz : Nat} (ht : P.underlying t = some (.slice e)) (hs : (P.info? e).map (·.size) = some sz) (base : Option Addr) (n c : Nat) (h : n ≤ c) (b : Addr) (c' : Nat) (w : World) :
    (Builtin.append_ #[t, t] ty #[.slice base n c, .slice (some b) 0 c']).run P w = .ok (.slice base n c) w := by
  cases base <;> simp [Builtin.append_, run_underlying ht, run_size hs, Builtin.lenOf, h, Builtin.firstCells, storeCells, loadCells, loadCellsFrom]
theorem run_append_none0 {P : Program} {t ty e : TypeId} {sz : Nat} (ht : P.underlying t = some (.slice e)) (hs : (P.info? e).map (·.size) = some sz) (a : Addr) (c : Nat) (w : World) :
    (Builtin.append_ #[t, t] ty #[.slice none 0 0, .slice (some a) 0 c]).run P w = .ok (.slice none 0 0) w := by
  simp [Builtin.append_, run_underlying ht, run_size hs, Builtin.lenOf, Builtin.firstCells, loadCells, loadCellsFrom]
theorem Rep.pushAll {C : Ctx} {ρ : Rho} {E : Env} {a : Act} {id L : Nat} (hL : (ρ id).lim = some L) : ∀ (news us : List Value) {M : Mem} {w : World} {b : Blk}, Rep C ρ ⟨E, M⟩ a w → M id = some b → b.rw = true →
    b.cells.length + news.length ≤ L → news.length = us.length → (∀ (k : Nat) (v u : Value), news[k]? = some v → us[k]? = some u → VR .real (dom M) ρ v u) →
    Rep C ρ ⟨E, upd M id ⟨b.cells ++ news, true, b.es⟩⟩ a (w.setCells (ρ id).blk ((ρ id).off + b.cells.length) us)
  | [], us, M, w, b, hR, hb, hr, _, hl, _ => by
    obtain rfl : us = [] := by simpa using hl.symm
    have : (⟨b.cells ++ [], true, b.es⟩ : Blk) = b := by cases b; simp only [List.append_nil] at *; subst hr; rfl
    rw [this, upd_self hb]
    exact hR
  | v :: vs, us, M, w, b, hR, hb, hr, hlen, hl, hrel => by
    obtain ⟨u, us, rfl⟩ : ∃ u r, us = u :: r := by cases us with
      | nil => simp at hl
      | cons u r => exact ⟨u, r, rfl⟩
    simp only [List.length_cons, Nat.add_right_cancel_iff] at hl hlen
    have hR1 := hR.push hb hr hL (by omega) (hrel 0 v u rfl rfl)
    have hdm : ∀ j, dom M j → dom (upd M id ⟨b.cells ++ [v], true, b.es⟩) j := by
      rintro j ⟨bj, hj⟩
      by_cases hji : j = id
      · rw [hji]; exact dom_upd
      · exact ⟨bj, by simp only [upd, hji, if_false]; exact hj⟩
    have := Rep.pushAll hL vs us hR1 (b := ⟨b.cells ++ [v], true, b.es⟩) (by simp only [upd, if_true]) rfl (by simp; omega) hl
      (fun k v' u' h1 h2 => (hrel (k + 1) v' u' (by simpa using h1) (by simpa using h2)).mono hdm (fun _ _ => rfl) fun _ h => h)
    rw [upd_upd] at this
    simp only [List.append_assoc, List.singleton_append, List.length_append, List.length_singleton] at this
    rw [World.setCells, Nat.add_assoc]
    exact this
theorem FStep.append {P : Program} {E : Env} {M : Mem} {d : Option Tmp} {ty : TypeId} {ps : String} {af : Array Edge} {g : Option (Nat × Bool)} {x y : Operand} {t e : TypeId} {id jd o n m es by' : Nat} {cs news : List Value} {bj : Blk} {z : Value} (nid : Nat)
    (hx : aev E x = some (.slice (some ⟨id, 0, none⟩) n 0)) (hy : aev E y = some (.slice (some ⟨jd, o, none⟩) m 0)) (hb : M id = some ⟨cs, true, es⟩) (hj : M jd = some bj)
    (hn : cs.length = n * es) (hnw : (bj.cells.drop o).take (m * es) = news) (ho : o + m * es ≤ bj.cells.length) (_ : jd ≠ id) (hnid : nid ≠ id) (hnjd : nid ≠ jd)
    (ht : P.underlying t = some (.slice e)) (hs : (P.info? e).map (·.size) = some es) (h0 : es ≠ 0) (hz : (P.info? e).map (·.zero) = some (some z)) (hzs : z.cells.size = es) (hby : (P.info? e).map (·.bytes) = some by')
    (hlen : (n + m) * by' ≤ 140737488355328) (hmax : n + m < 9223372036854775808) (hone : news.all (·.oneCell') = true) :
    FStep P ⟨d, .call ⟨.builtin .append, #[x, y], #[t, t]⟩, ty, ps, af, g⟩ E M (.slice (some ⟨nid, 0, none⟩) (n + m) 0) ⟨[id, jd], [(nid, ⟨cs ++ news, true, es⟩), (id, ⟨[], false, es⟩)]⟩ := by
  intro E' M' h1 h2 h3 C ρ ac w hR
  have hb' : M' id = some ⟨cs, true, es⟩ := by rw [h2 id (by simp)]; exact hb
  have hj' : M' jd = some bj := by rw [h2 jd (by simp)]; exact hj
  have hn' : M' nid = none := h3 _ (List.mem_cons_self ..) (by simp [hnid, hnjd])
  have hxv := hR.eval (x := x) (by rw [h1 x (by simp [Op.operands, Call.operands])]; exact hx)
  have hyv := hR.eval (x := y) (by rw [h1 y (by simp [Op.operands, Call.operands])]; exact hy)
  obtain ⟨info, hi, hisz⟩ := info_of hs
  have hibz : info.zero = some z := by rw [hi] at hz; simpa using hz
  have hiby : info.bytes = by' := by rw [hi] at hby; simpa using hby
  subst hisz
  have hBid := hR.mem id _ hb'
  obtain ⟨us, hul, hus, hrel⟩ := pick_list (o := o) (hR.mem jd bj hj').cells (m * info.size) ho
  obtain ⟨olds, hol, hos, horel⟩ := pick_list (o := 0) hBid.cells cs.length (by simp)
  have hnl : news.length = m * info.size := by rw [← hnw]; simp; omega
  have hrel' : ∀ (k : Nat) (v u : Value), news[k]? = some v → us[k]? = some u → VR .real (dom M') ρ v u := fun k v u a b => hrel k v u (by rw [hnw]; exact a) b
  have hu1 : ∀ u ∈ us, u.oneCell' = true := fun u hu => by
    obtain ⟨k, hk, rfl⟩ := List.mem_iff_getElem.1 hu
    have hk2 : k < news.length := by omega
    exact one_rel (hrel' k _ _ (List.getElem?_eq_getElem hk2) (List.getElem?_eq_getElem hk)) (List.all_eq_true.1 hone _ (List.getElem_mem hk2))
  have fresh : ∀ (rc : Array Value) (w' : World), w' = w.drew.alloc (.cells rc e) → (∀ (k : Nat) (u : Value), (olds ++ us)[k]? = some u → rc[k]? = some u) → cs.length + news.length ≤ rc.size →
      ∃ ρ', Rep C ρ' ⟨E', upds M' [(nid, ⟨cs ++ news, true, info.size⟩), (id, ⟨[], false, info.size⟩)]⟩ ac w' ∧ ρ' nid = ⟨w.heap.size, 0, some rc.size, info.size⟩ := by
    rintro rc w' rfl hrc hsz
    have hk := hR.kill hb'
    have hm2 : (upd M' id (⟨[], false, info.size⟩ : Blk)) nid = none := by simp only [upd, hnid, if_false]; exact hn'
    have hdm : ∀ j, dom M' j → dom (upd M' id (⟨[], false, info.size⟩ : Blk)) j := by
      rintro j ⟨bj, hj⟩
      by_cases hji : j = id
      · rw [hji]; exact dom_upd
      · exact ⟨bj, by simp only [upd, hji, if_false]; exact hj⟩
    obtain ⟨ρ', hR', hρ, _⟩ := (hk.drew).alloc hm2 (cells := cs ++ news) (rcells := rc) (elem := e) info.size (by simpa using hsz) (fun k v u a b => by
      have hol' : olds.length = cs.length := hol
      rcases Nat.lt_or_ge k cs.length with hk | hk
      · rw [List.getElem?_append_left hk] at a
        have h7 := hrc k _ (by rw [List.getElem?_append_left (by omega)]; exact List.getElem?_eq_getElem (by omega))
        rw [b] at h7; cases h7
        exact (horel k v _ (by simpa [List.getElem?_take, hk] using a) (List.getElem?_eq_getElem (by omega))).mono hdm (fun _ _ => rfl) fun _ h => h
      · rw [List.getElem?_append_right hk] at a
        have hk2 : k - cs.length < news.length := (List.getElem?_eq_some_iff.1 a).1
        have h7 := hrc k _ (by rw [List.getElem?_append_right (by omega)]; exact List.getElem?_eq_getElem (by omega))
        rw [b] at h7; cases h7
        exact (hrel' _ v _ a (by rw [← hol']; exact List.getElem?_eq_getElem (by omega))).mono hdm (fun _ _ => rfl) fun _ h => h)
    exact ⟨ρ', hR', hρ⟩
  have done : ∀ (v' : Value) (w' : World), (Builtin.append_ #[t, t] ty #[ac.eval x, ac.eval y]).run P w = .ok v' w' →
      (∃ ρ', Rep C ρ' ⟨E', upds M' [(nid, ⟨cs ++ news, true, info.size⟩), (id, ⟨[], false, info.size⟩)]⟩ ac w' ∧ VR .real (dom (upds M' [(nid, ⟨cs ++ news, true, info.size⟩), (id, ⟨[], false, info.size⟩)])) ρ' (.slice (some ⟨nid, 0, none⟩) (n + m) 0) v') →
      StepTo P ⟨d, .call ⟨.builtin .append, #[x, y], #[t, t]⟩, ty, ps, af, g⟩ ac w fun u w' => ∃ ρ', Rep C ρ' ⟨E', upds M' [(nid, ⟨cs ++ news, true, info.size⟩), (id, ⟨[], false, info.size⟩)]⟩ ac w' ∧
        VR .real (dom (upds M' [(nid, ⟨cs ++ news, true, info.size⟩), (id, ⟨[], false, info.size⟩)])) ρ' (.slice (some ⟨nid, 0, none⟩) (n + m) 0) u := fun v' w' hrun hR' => by
    unfold StepTo Oper.wp
    rw [run_appendOp ac.eval w hrun]
    exact ⟨v', rfl, hR'⟩
  have hD2 : dom (upds M' [(nid, ⟨cs ++ news, true, info.size⟩), (id, ⟨[], false, info.size⟩)]) nid := keys_dom (by simp [keys])
  have moved : ∀ (w' : World), Rep C ρ ⟨E', upd M' id ⟨cs ++ news, true, info.size⟩⟩ ac w' → ∃ ρ', Rep C ρ' ⟨E', upds M' [(nid, ⟨cs ++ news, true, info.size⟩), (id, ⟨[], false, info.size⟩)]⟩ ac w' ∧ ρ' nid = ρ id := by
    intro w' hR1
    obtain ⟨ρ', h5, h6, _⟩ := hR1.move (id := id) (nid := nid) (b := ⟨cs ++ news, true, info.size⟩) (by simp only [upd, if_true]) (by simp only [upd, hnid, if_false]; exact hn')
    rw [upd_upd] at h5
    exact ⟨ρ', h5, h6⟩
  have same : news = [] → Rep C ρ ⟨E', upd M' id ⟨cs ++ news, true, info.size⟩⟩ ac w := fun e => by rw [e, List.append_nil, upd_self hb']; exact hR
  have grow_cells : ∀ (k : Nat) (q : Nat), ∀ (k' : Nat) (u : Value), (olds ++ us)[k']? = some u → (olds.toArray ++ us.toArray ++ Builtin.zeroCells z.cells q)[k']? = some u := fun _ q k' u hk => by
    have : k' < (olds ++ us).length := (List.getElem?_eq_some_iff.1 hk).1
    rw [Array.getElem?_append_left (by simpa using this)]
    simpa using hk
  have hneeds : ∀ q, n + m ≤ q → (olds.toArray ++ us.toArray ++ Builtin.zeroCells z.cells (q - (n + m))).size = q * info.size := fun q hq => by
    simp only [Array.size_append, List.size_toArray, size_zeroCells, hzs, hol, hul, hn, ← Nat.add_mul]
    congr 1; omega
  generalize hux : ac.eval x = ux at hxv done
  generalize huy : ac.eval y = uy at hyv done
  cases hxv with
  | flat _ hf => simp [flatV] at hf
  | nilS =>
    have hcs0 : cs = [] := List.length_eq_zero_iff.1 (by rw [hn]; simp)
    subst hcs0
    cases hyv with
    | flat _ hf => simp [flatV] at hf
    | nilS =>
      have hnw0 : news = [] := List.length_eq_zero_iff.1 (by rw [hnl]; simp)
      obtain ⟨ρ', h5, h6⟩ := moved w (same hnw0)
      exact done _ _ (run_append_nilY ht hs _ 0 0 (Nat.le_refl _) w) ⟨ρ', h5, .nilS _ (by simp)⟩
    | zeroS =>
      have hnw0 : news = [] := List.length_eq_zero_iff.1 (by rw [hnl]; simp)
      obtain ⟨ρ', h5, h6⟩ := moved w (same hnw0)
      exact done _ _ (run_append_none0 ht hs _ _ w) ⟨ρ', h5, .nilS _ (by simp)⟩
    | slice _ _ _ c' hd' g1' g2' =>
      by_cases hm0 : m = 0
      · subst hm0
        have hnw0 : news = [] := List.length_eq_zero_iff.1 (by rw [hnl]; simp)
        obtain ⟨ρ', h5, h6⟩ := moved w (same hnw0)
        exact done _ _ (run_append_none0 ht hs _ _ w) ⟨ρ', h5, .nilS _ (by simp)⟩
      · have hfit : m * info.bytes ≤ 281474976710656 := by rw [hiby]; rw [Nat.zero_add] at hlen; omega
        have hrun := run_append_nil (P := P) w t ty e info z ht hi hibz ⟨(ρ jd).blk, (ρ jd).off + o, none⟩ m c' us hul (fun j v hv => by rw [addr_add]; exact hus j v hv) (by omega) (by omega) hfit
        have hge := grownCap_ge w m 0 e
        have ho0 : olds = [] := List.length_eq_zero_iff.1 (by rw [hol]; rfl)
        have hsz : (us.toArray ++ Builtin.zeroCells z.cells (grownCap w m 0 e - m)).size = grownCap w m 0 e * info.size := by
          simp only [Array.size_append, List.size_toArray, size_zeroCells, hzs, hul, ← Nat.add_mul]
          congr 1; omega
        obtain ⟨ρ', h5, h6⟩ := fresh _ _ rfl (fun k u hk => by
          rw [ho0, List.nil_append] at hk
          have : k < us.length := (List.getElem?_eq_some_iff.1 hk).1
          have e1 : (us.toArray ++ Builtin.zeroCells z.cells (grownCap w m 0 e - m))[k]? = us.toArray[k]? := Array.getElem?_append_left (show k < us.toArray.size by rw [List.size_toArray]; exact this)
          rw [e1, List.getElem?_toArray]
          exact hk) (by rw [hsz, hnl]; simp only [List.length_nil, Nat.zero_add]; exact Nat.mul_le_mul_right _ hge)
        refine done _ _ hrun ⟨ρ', h5, ?_⟩
        have := VR.slice (m := .real) (ρ := ρ') nid 0 (0 + m) (grownCap w m 0 e) hD2 (by simp) (fun _ => ⟨by omega, fun L hL => by
          rw [h6] at hL ⊢
          simp only [Option.some.injEq] at hL
          rw [hsz] at hL
          simp only; omega⟩)
        rw [h6, Nat.zero_add] at this
        rw [Nat.zero_add]
        exact this
  | zeroS _ a0 =>
    have hcs0 : cs = [] := List.length_eq_zero_iff.1 (by rw [hn]; simp)
    subst hcs0
    cases hyv with
    | flat _ hf => simp [flatV] at hf
    | nilS =>
      have hnw0 : news = [] := List.length_eq_zero_iff.1 (by rw [hnl]; simp)
      obtain ⟨ρ', h5, h6⟩ := moved w (same hnw0)
      exact done _ _ (run_append_nilY ht hs _ 0 0 (Nat.le_refl _) w) ⟨ρ', h5, .zeroS _ a0 rfl⟩
    | zeroS =>
      have hnw0 : news = [] := List.length_eq_zero_iff.1 (by rw [hnl]; simp)
      obtain ⟨ρ', h5, h6⟩ := moved w (same hnw0)
      exact done _ _ (run_append_zeroY ht hs _ 0 0 (Nat.le_refl _) _ _ w) ⟨ρ', h5, .zeroS _ a0 rfl⟩
    | slice _ _ _ c' hd' g1' g2' =>
      by_cases hm0 : m = 0
      · subst hm0
        have hnw0 : news = [] := List.length_eq_zero_iff.1 (by rw [hnl]; simp)
        obtain ⟨ρ', h5, h6⟩ := moved w (same hnw0)
        exact done _ _ (run_append_zeroY ht hs _ 0 0 (Nat.le_refl _) _ _ w) ⟨ρ', h5, .zeroS _ a0 rfl⟩
      · have ho0 : olds = [] := List.length_eq_zero_iff.1 (by rw [hol]; rfl)
        subst ho0
        have hfit := growslice_fits (need := 0 + m) (old := 0) (by omega) (by rw [hiby]; exact hlen : (0 + m) * info.bytes ≤ 140737488355328)
        have hrun := run_append_grow (P := P) w t ty e info z ht hi hibz a0 0 0 [] (by simp) (fun j v hv => by simp at hv)
          ⟨(ρ jd).blk, (ρ jd).off + o, none⟩ m c' us hul (fun j v hv => by rw [addr_add]; exact hus j v hv) (by omega) (by omega) hfit
        have hge := grownCap_ge w (0 + m) 0 e
        obtain ⟨ρ', h5, h6⟩ := fresh _ _ rfl (grow_cells 0 _) (by rw [hneeds _ hge, hn, hnl, ← Nat.add_mul]; exact Nat.mul_le_mul_right _ hge)
        refine done _ _ hrun ⟨ρ', h5, ?_⟩
        have := VR.slice (m := .real) (ρ := ρ') nid 0 (0 + m) (grownCap w (0 + m) 0 e) hD2 (by simp) (fun _ => ⟨hge, fun L hL => by
          rw [h6] at hL ⊢
          simp only [Option.some.injEq] at hL
          rw [hneeds _ hge] at hL
          simp only; omega⟩)
        rw [h6] at this
        exact this
  | slice _ _ _ c hd g1 g2 =>
    obtain ⟨g3, g4⟩ := g2 rfl
    cases hyv with
    | flat _ hf => simp [flatV] at hf
    | nilS =>
      have hnw0 : news = [] := List.length_eq_zero_iff.1 (by rw [hnl]; simp)
      obtain ⟨ρ', h5, h6⟩ := moved w (same hnw0)
      refine done _ _ (run_append_nilY ht hs _ n c g3 w) ⟨ρ', h5, ?_⟩
      have := VR.slice (m := .real) (ρ := ρ') nid 0 n c hD2 (by simp) (fun _ => ⟨g3, fun L hL => by rw [h6] at hL ⊢; exact g4 L hL⟩)
      rw [h6] at this
      exact this
    | zeroS =>
      have hnw0 : news = [] := List.length_eq_zero_iff.1 (by rw [hnl]; simp)
      obtain ⟨ρ', h5, h6⟩ := moved w (same hnw0)
      refine done _ _ (run_append_zeroY ht hs _ n c g3 _ _ w) ⟨ρ', h5, ?_⟩
      have := VR.slice (m := .real) (ρ := ρ') nid 0 n c hD2 (by simp) (fun _ => ⟨g3, fun L hL => by rw [h6] at hL ⊢; exact g4 L hL⟩)
      rw [h6] at this
      exact this
    | slice _ _ _ c' hd' g1' g2' =>
      by_cases hroom : n + m ≤ c
      · obtain ⟨L, hL, hLl⟩ := hR.lim hb' rfl
        have hes : (ρ id).es = info.size := hBid.es
        have hcL := g4 L hL
        rw [hes] at hcL
        have hnm : n * info.size + m * info.size ≤ c * info.size := by rw [← Nat.add_mul]; exact Nat.mul_le_mul_right _ hroom
        have hW : ∀ j, j < us.length → RwOk ρ M' w id := fun j hj => hBid.rw ⟨rfl, by rw [hL]; simp only [ne_eq, Option.some.injEq]; omega⟩
        have hrun := run_append_room_cells (P := P) w t ty e info ht hi (ρ id).blk ((ρ id).off + 0) n c ⟨(ρ jd).blk, (ρ jd).off + o, none⟩ m c' us hul (fun j v hv => by rw [addr_add]; exact hus j v hv) hu1 hroom
          (fun j hj => by
            obtain ⟨L', hL', hx⟩ := (hW j hj).lim
            rw [hL] at hL'; cases hL'
            obtain ⟨x, hx⟩ := hx (n * info.size + j) (by omega)
            simp only [(hW j hj).off, Nat.zero_add]; rw [hx]; rfl)
          (fun j hj => (hW j hj).soft _)
        have hp := Rep.pushAll hL news us hR hb' rfl (by simp only; omega) (by omega) hrel'
        simp only [hn] at hp
        obtain ⟨ρ', h5, h6⟩ := moved _ hp
        refine done _ _ (by rw [Nat.add_zero] at hrun ⊢; exact hrun) ⟨ρ', h5, ?_⟩
        have := VR.slice (m := .real) (ρ := ρ') nid 0 (n + m) c hD2 (by simp) (fun _ => ⟨hroom, fun L hL => by rw [h6] at hL ⊢; exact g4 L hL⟩)
        rw [h6] at this
        exact this
      · have hfit := growslice_fits (need := n + m) (old := c) (by omega) (by rw [hiby]; exact hlen : (n + m) * info.bytes ≤ 140737488355328)
        have hrun := run_append_grow (P := P) w t ty e info z ht hi hibz ⟨(ρ id).blk, (ρ id).off + 0, none⟩ n c olds (by omega) (fun j v hv => by rw [addr_add]; exact hos j v hv)
          ⟨(ρ jd).blk, (ρ jd).off + o, none⟩ m c' us hul (fun j v hv => by rw [addr_add]; exact hus j v hv) (by omega) (by omega) hfit
        have hge := grownCap_ge w (n + m) c e
        obtain ⟨ρ', h5, h6⟩ := fresh _ _ rfl (grow_cells 0 _) (by rw [hneeds _ hge, hn, hnl, ← Nat.add_mul]; exact Nat.mul_le_mul_right _ hge)
        refine done _ _ hrun ⟨ρ', h5, ?_⟩
        have := VR.slice (m := .real) (ρ := ρ') nid 0 (n + m) (grownCap w (n + m) c e) hD2 (by simp) (fun _ => ⟨hge, fun L hL => by
          rw [h6] at hL ⊢
          simp only [Option.some.injEq] at hL
          rw [hneeds _ hge] at hL
          simp only; omega⟩)
        rw [h6] at this
        exact this
section
variable {P : Program} {T : Tab} (H : TabOk P T)
variable {ops : Array Oper} {k i : Nat} {os : List Oper} {E : Env} {M : Mem} {D : List Eff → Prop} {K : ASt → Prop}
  {d : Tmp} {ty : TypeId} {ps : String} {af : Array Edge} {g : Option (Nat × Bool)}
include H
theorem AWo.append {x y : Operand} {t e : TypeId} {id jd o n m es by' : Nat} {cs news all : List Value} {bj : Blk} {z : Value} (nid : Nat)
    (hx : aev E x = some (.slice (some ⟨id, 0, none⟩) n 0)) (hy : aev E y = some (.slice (some ⟨jd, o, none⟩) m 0)) (hb : M id = some ⟨cs, true, es⟩) (hj : M jd = some bj)
    (hn : cs.length = n * es) (hnw : (bj.cells.drop o).take (m * es) = news) (ho : o + m * es ≤ bj.cells.length) (hne : jd ≠ id) (hid : M nid = none)
    (ht : T.sl.lookup t = some e) (hs : T.sz.lookup e = some es) (h0 : es ≠ 0) (hz : T.zero.lookup e = some z) (hzs : z.cells.size = es) (hby : T.by'.lookup e = some by')
    (hlen : (n + m) * by' ≤ 140737488355328) (hmax : n + m < 9223372036854775808) (hone : news.all (·.oneCell') = true) (hall : cs ++ news = all)
    (hw : wantA ops E ⟨some d, .call ⟨.builtin .append, #[x, y], #[t, t]⟩, ty, ps, af, g⟩ = some true) (hd : Nat.blt d k = true)
    (hr : AWo P ops k (i + 1) os ⟨upd E d (.slice (some ⟨nid, 0, none⟩) (n + m) 0), upd (upd M id ⟨[], false, es⟩) nid ⟨all, true, es⟩⟩
      (fun es' => D (⟨[id, jd], [(nid, ⟨all, true, es⟩), (id, ⟨[], false, es⟩)]⟩ :: es')) K) :
    AWo P ops k i (⟨some d, .call ⟨.builtin .append, #[x, y], #[t, t]⟩, ty, ps, af, g⟩ :: os) ⟨E, M⟩ D K := by
  subst hall
  have h1 : nid ≠ id := fun e => by rw [e, hb] at hid; cases hid
  have h2 : nid ≠ jd := fun e => by rw [e, hj] at hid; cases hid
  refine AWo.step (FStep.append nid hx hy hb hj hn hnw ho hne h1 h2 (H.sl t _ ht) (H.sz e _ hs) h0 (H.zero e _ hz) hzs (H.by' e _ hby) hlen hmax hone) hw hd (fun p hp hq => ?_) hr
  simp only [List.mem_cons, List.not_mem_nil, or_false] at hp
  rcases hp with rfl | rfl
  · exact hid
  · simp at hq
end
end Go.Proofs.Ytpahdiljpnfkdaa.Sim
namespace Go.Proofs.Ytpahdiljpnfkdaa.Sim
open Go
theorem AW.move {P : Program} {n m : Nat} {c : Code} {E : Env} {M : Mem} {Q : Exit → ASt → Prop} (id nid t : Nat) {b : Blk} {k o : Nat} (hid : M id = some b) (hn : M nid = none)
    (ht : E t = some (.slice (some ⟨id, o, none⟩) k 0))
    (h : AW P n m c ⟨upd E t (.slice (some ⟨nid, o, none⟩) k 0), upd (upd M id ⟨[], false, b.es⟩) nid b⟩ Q) : AW P n m c ⟨E, M⟩ Q := by
  intro C hC hm ρ a w hR
  obtain ⟨ρ', hR', hρ, hρ'⟩ := hR.move hid hn
  refine h C hC hm ρ' a w ⟨hR'.size, hR'.defers, fun t' v hv => ?_, hR'.mem, hR'.agree, hR'.low, hR'.own, hR'.frame, hR'.im, hR'.imsub, hR'.imnew, hR'.gl⟩
  simp only [upd] at hv
  by_cases htt : t' = t
  · rw [if_pos htt] at hv; cases hv; subst htt
    obtain ⟨u, hu, hr⟩ := hR.env _ _ ht
    refine ⟨u, hu, ?_⟩
    have hd : dom (upd (upd M id (⟨[], false, b.es⟩ : Blk)) nid b) nid := ⟨b, by simp only [upd, if_true]⟩
    cases hr with
    | flat _ hf => simp [flatV] at hf
    | nilS => exact .nilS _ (by simp)
    | zeroS _ a => exact .zeroS _ a rfl
    | slice _ _ _ c hd0 h1 h2 =>
      have := VR.slice (m := .real) (ρ := ρ') nid o k c hd (by simp) (by rw [hρ]; exact h2)
      rw [hρ] at this
      exact this
  · rw [if_neg htt] at hv
    exact hR'.env t' v hv
end Go.Proofs.Ytpahdiljpnfkdaa.Sim
namespace Go.Proofs.Ytpahdiljpnfkdaa.Sim
open Go
inductive OptI (E : Env) : Option Operand → Nat → Nat → Prop
  | none {d : Nat} : OptI E none d d
  | some {x : Operand} {k : IntKind} {d n : Nat} (h : aev E x = some (.int k (n : Nat))) : OptI E (some x) d n
section
variable {P : Program} {E : Env} {M : Mem} {d : Option Tmp} {ty : TypeId} {ps : String} {af : Array Edge} {g : Option (Nat × Bool)}
theorem run_bounds {ev : Operand → Value} {lo hi : Option Operand} {l h n c : Nat} (isS : Bool) (hlo : OptI E lo 0 l) (hhi : OptI E hi n h) (hev : ∀ x, (lo = some x ∨ hi = some x) → ∀ v, aev E x = some v → flatV v = true → ev x = v)
    (hlh : l ≤ h) (hhc : h ≤ c) (w : World) : (Instr.sliceBounds isS n c (lo.map ev) (hi.map ev) none).run P w = .ok (l, h, c) w := by
  cases hlo with
  | none =>
    cases hhi with
    | none => simp [Instr.sliceBounds]
    | some hx =>
      have := hev _ (.inr rfl) _ hx rfl
      simp [Instr.sliceBounds, Instr.sliceBound, this, asIntOf, hhc]
  | some hy =>
    have h2 := hev _ (.inl rfl) _ hy rfl
    cases hhi with
    | none =>
      simp [Instr.sliceBounds, Instr.sliceBound, h2, asIntOf, hlh]
    | some hx =>
      have := hev _ (.inr rfl) _ hx rfl
      simp [Instr.sliceBounds, Instr.sliceBound, this, h2, asIntOf, hhc, hlh]
theorem opt_mem {lo hi : Option Operand} {x y : Operand} {t : TypeId} (h : lo = some y ∨ hi = some y) : y ∈ (Op.slice t x lo hi none).operands := by
  rcases h with rfl | rfl <;> simp [Op.operands]
theorem FStep.sliceS {t e : TypeId} {x : Operand} {lo hi : Option Operand} {id o n l h sz : Nat} {b : Blk} (hx : aev E x = some (.slice (some ⟨id, o, none⟩) n 0)) (hlo : OptI E lo 0 l) (hhi : OptI E hi n h)
    (hb : M id = some b) (hs : b.es = sz) (ht : P.underlying t = some (.slice e)) (hsz : (P.info? e).map (·.size) = some sz) (hlh : l ≤ h) (hhn : h ≤ n) (hne : l = 0 ∨ l < h) :
    FStep P ⟨d, .slice t x lo hi none, ty, ps, af, g⟩ E M (.slice (some ⟨id, o + l * sz, none⟩) (h - l) 0) ⟨[id], []⟩ := by
  intro E' M' h1 h2 _ C ρ ac w hR
  have hb' : M' id = some b := by rw [h2 id (by simp)]; exact hb
  have hxv := hR.eval (x := x) (by rw [h1 x (by simp [Op.operands])]; exact hx)
  have hev : ∀ y, (lo = some y ∨ hi = some y) → ∀ v, aev E y = some v → flatV v = true → ac.eval y = v := fun y hy v hv hf =>
    flat_inv (hR.eval (x := y) (by rw [h1 y (opt_mem hy)]; exact hv)) hf
  unfold StepTo Oper.wp
  rcases slice_inv hxv with ⟨c, e1, hc, hD, hlim⟩ | ⟨h0, e1 | ⟨a0, e1⟩⟩
  · have hrun : (execOp ac.eval ⟨d, .slice t x lo hi none, ty, ps, af, g⟩).run P w = .ok (.value (.slice (some (if c = l then ⟨(ρ id).blk, (ρ id).off + o, none⟩ else ⟨(ρ id).blk, (ρ id).off + o + l * sz, none⟩)) (h - l) (c - l))) w := by
      by_cases hcl : c = l
      · simp only [execOp, e1, Instr.sliceAt, Instr.slice, Sem.run_bind, run_underlying ht, Result.andThen_ok, Option.map_none, run_bounds (P := P) true hlo hhi hev hlh (Nat.le_trans hhn hc), run_size hsz, Sem.run_pure, if_pos hcl]
      · simp only [execOp, e1, Instr.sliceAt, Instr.slice, Sem.run_bind, run_underlying ht, Result.andThen_ok, Option.map_none, run_bounds (P := P) true hlo hhi hev hlh (Nat.le_trans hhn hc), run_size hsz, Sem.run_pure, if_neg hcl, Option.map_some, addr_add]
    rw [hrun]
    refine ⟨_, rfl, ρ, hR, ?_⟩
    have hes := (hR.mem id b hb').es
    have h0 : c = l → l = 0 := fun hcl => by rcases hne with h | h <;> omega
    have hw : (if c = l then (⟨(ρ id).blk, (ρ id).off + o, none⟩ : Addr) else ⟨(ρ id).blk, (ρ id).off + o + l * sz, none⟩) = ⟨(ρ id).blk, (ρ id).off + (o + l * sz), none⟩ := by
      by_cases hcl : c = l
      · rw [if_pos hcl, h0 hcl]; simp
      · rw [if_neg hcl, Nat.add_assoc]
    rw [hw]
    refine VR.slice id (o + l * sz) (h - l) (c - l) hD (by simp) (fun _ => ⟨by omega, fun L hL => ?_⟩)
    have := hlim L hL
    rw [hes, hs] at this ⊢
    have e3 : l * sz + (c - l) * sz = c * sz := by rw [← Nat.add_mul]; congr 1; omega
    omega
  · subst h0
    obtain rfl : h = 0 := by omega
    obtain rfl : l = 0 := by omega
    have hrun : (execOp ac.eval ⟨d, .slice t x lo hi none, ty, ps, af, g⟩).run P w = .ok (.value (.slice none 0 0)) w := by
      simp only [execOp, e1, Instr.sliceAt, Instr.slice, Sem.run_bind, run_underlying ht, Result.andThen_ok, Option.map_none, run_bounds (P := P) true hlo hhi hev hlh (Nat.le_refl _), run_size hsz, Sem.run_pure, if_true, Nat.sub_zero]
    rw [hrun]
    exact ⟨_, rfl, ρ, hR, .nilS _ (by simp)⟩
  · subst h0
    obtain rfl : h = 0 := by omega
    obtain rfl : l = 0 := by omega
    have hrun : (execOp ac.eval ⟨d, .slice t x lo hi none, ty, ps, af, g⟩).run P w = .ok (.value (.slice (some a0) 0 0)) w := by
      simp only [execOp, e1, Instr.sliceAt, Instr.slice, Sem.run_bind, run_underlying ht, Result.andThen_ok, Option.map_none, run_bounds (P := P) true hlo hhi hev hlh (Nat.le_refl _), run_size hsz, Sem.run_pure, if_true, Nat.sub_zero]
    rw [hrun]
    exact ⟨_, rfl, ρ, hR, .zeroS _ a0 rfl⟩
theorem FStep.sliceA {t e : TypeId} {x : Operand} {lo hi : Option Operand} {id o n l h sz : Nat} {b : Blk} (hx : aev E x = some (.pointer (some ⟨id, o, none⟩))) (hlo : OptI E lo 0 l) (hhi : OptI E hi n h)
    (hb : M id = some b) (hs : b.es = sz) (ht : P.underlying t = some (.array n e)) (hsz : (P.info? e).map (·.size) = some sz) (hlh : l ≤ h) (hhn : h ≤ n) (hne : l = 0 ∨ l < n) (hroom : o + n * sz ≤ b.cells.length) :
    FStep P ⟨d, .slice t x lo hi none, ty, ps, af, g⟩ E M (.slice (some ⟨id, o + l * sz, none⟩) (h - l) 0) ⟨[id], []⟩ := by
  intro E' M' h1 h2 _ C ρ ac w hR
  have hb' : M' id = some b := by rw [h2 id (by simp)]; exact hb
  obtain ⟨e1, hD⟩ := ptr_inv (hR.eval (x := x) (by rw [h1 x (by simp [Op.operands])]; exact hx))
  have hev : ∀ y, (lo = some y ∨ hi = some y) → ∀ v, aev E y = some v → flatV v = true → ac.eval y = v := fun y hy v hv hf =>
    flat_inv (hR.eval (x := y) (by rw [h1 y (opt_mem hy)]; exact hv)) hf
  unfold StepTo Oper.wp
  have hrun : (execOp ac.eval ⟨d, .slice t x lo hi none, ty, ps, af, g⟩).run P w = .ok (.value (.slice (some ⟨(ρ id).blk, (ρ id).off + (o + l * sz), none⟩) (h - l) (n - l))) w := by
    by_cases hcl : n = l
    · have h0 : l = 0 := by rcases hne with h | h <;> omega
      simp only [execOp, e1, Instr.sliceAt, Instr.sureAddr, Sem.run_bind, run_underlying ht, Result.andThen_ok, Option.map_none, run_bounds (P := P) false hlo hhi hev hlh hhn, run_size hsz, Sem.run_pure, if_pos hcl]
      simp [h0]
    · simp only [execOp, e1, Instr.sliceAt, Instr.sureAddr, Sem.run_bind, run_underlying ht, Result.andThen_ok, Option.map_none, run_bounds (P := P) false hlo hhi hev hlh hhn, run_size hsz, Sem.run_pure, if_neg hcl, addr_add, Nat.add_assoc]
  rw [hrun]
  refine ⟨_, rfl, ρ, hR, VR.slice id (o + l * sz) (h - l) (n - l) hD (by simp) (fun _ => ⟨by omega, fun L hL => ?_⟩)⟩
  have hr := (hR.mem id b hb').room L hL
  rw [(hR.mem id b hb').es, hs]
  have e3 : l * sz + (n - l) * sz = n * sz := by rw [← Nat.add_mul]; congr 1; omega
  omega
theorem PureOp.toArr {t e : TypeId} {x : Operand} {id o n k : Nat} (hx : aev E x = some (.slice (some ⟨id, o, none⟩) n 0)) (ht : P.underlying t = some (.array k e)) (hk : k ≤ n) (h0 : n ≠ 0) :
    PureOp P (.sliceToArrayPointer t x) E (.pointer (some ⟨id, o, none⟩)) := fun D ρ ev hev => by
  obtain ⟨c, e1, hc, hD, _⟩ | ⟨h1, _⟩ := slice_inv (hev x (by simp [Op.operands]) _ hx)
  · have hk' : ¬ n < k := by omega
    exact ⟨_, .ptr id o hD, fun _ _ _ _ _ w => by simp [execOp, e1, Instr.arrayAt, run_underlying ht, hk']⟩
  · exact absurd h1 h0
end
theorem oneM {α : Type} {f : α → Value} (hf : ∀ x, (f x).oneCell' = true) (l : List α) : (l.map f).all (·.oneCell') = true := by
  rw [List.all_eq_true]
  intro x hx
  obtain ⟨y, _, rfl⟩ := List.mem_map.1 hx
  exact hf y
theorem OutL.husk {m : Nat} {nids : List Nat} {M : Mem} {n k es : Nat} {b' : Blk} {r : List Blk} (hM : M (hmap m nids k).blk = some b') (he : b'.es = es) (hr : OutL m nids M n (k + 1) r) : OutL m nids M n k (⟨[], false, es⟩ :: r) :=
  ⟨⟨b', hM, by simp, fun x hx => by simp at hx, fun h => by rcases h with h | h; cases h; exact absurd rfl h.2, he, Nat.zero_le _⟩, hr⟩
theorem OutL.part {m : Nat} {nids : List Nat} {M : Mem} {n k : Nat} {c c' : List Value} {rw rw' : Bool} {es : Nat} {r : List Blk} (hM : M (hmap m nids k).blk = some ⟨c', rw', es⟩)
    (hc : c'.take c.length = c) (hf : ∀ x ∈ c, flatV x = true) (hrw : rw = true ∨ (m ≤ k ∧ c ≠ []) → rw' = true) (hl : c.length ≤ c'.length) (hr : OutL m nids M n (k + 1) r) : OutL m nids M n k (⟨c, rw, es⟩ :: r) :=
  ⟨⟨_, hM, by rw [flat_map_ren hf]; exact hc, OkL.flat hf, hrw, rfl, hl⟩, hr⟩
theorem FitL.part {h : Rho} {n : Nat} {M : Mem} {c c' : List Value} {rw' : Bool} {es : Nat} {p : Nat × Nat} {r : List Blk} {g : List (Nat × Nat)} (h1 : M p.1 = some ⟨c', rw', es⟩) (h2 : (c'.drop p.2).take c.length = c)
    (h3 : ∀ x ∈ c, flatV x = true) (h4 : p.2 + c.length ≤ c'.length) (hr : FitL h n M r g) : FitL h n M (⟨c, false, es⟩ :: r) (p :: g) :=
  .cons h1 (by rw [flat_map_ren h3]; exact h2) (OkL.flat h3) h4 rfl (fun e => by cases e) hr
section
variable {P : Program} {T : Tab} (H : TabOk P T)
variable {ops : Array Oper} {k i : Nat} {os : List Oper} {E : Env} {M : Mem} {D : List Eff → Prop} {K : ASt → Prop}
  {d : Tmp} {ty : TypeId} {ps : String} {af : Array Edge} {g : Option (Nat × Bool)}
include H
theorem AWo.sliceS {t e : TypeId} {x : Operand} {lo hi : Option Operand} {id o n l h sz : Nat} {b : Blk} {v : Value} (hx : aev E x = some (.slice (some ⟨id, o, none⟩) n 0)) (hlo : OptI E lo 0 l) (hhi : OptI E hi n h)
    (hb : M id = some b) (hs : b.es = sz) (ht : T.sl.lookup t = some e) (hsz : T.sz.lookup e = some sz) (hlh : l ≤ h) (hhn : h ≤ n) (hne : l = 0 ∨ l < h) (hv : .slice (some ⟨id, o + l * sz, none⟩) (h - l) 0 = v)
    (hw : wantA ops E ⟨some d, .slice t x lo hi none, ty, ps, af, g⟩ = some true) (hd : Nat.blt d k = true)
    (hr : AWo P ops k (i + 1) os ⟨upd E d v, M⟩ (fun es' => D (⟨[id], []⟩ :: es')) K) :
    AWo P ops k i (⟨some d, .slice t x lo hi none, ty, ps, af, g⟩ :: os) ⟨E, M⟩ D K := by
  subst hv
  exact AWo.step (FStep.sliceS hx hlo hhi hb hs (H.sl t _ ht) (H.sz e _ hsz) hlh hhn hne) hw hd (fun p hp => by simp at hp) hr
theorem AWo.sliceA {t e : TypeId} {x : Operand} {lo hi : Option Operand} {id o n l h sz : Nat} {b : Blk} {v : Value} (hx : aev E x = some (.pointer (some ⟨id, o, none⟩))) (hlo : OptI E lo 0 l) (hhi : OptI E hi n h)
    (hb : M id = some b) (hs : b.es = sz) (ht : T.arr.lookup t = some (n, e)) (hsz : T.sz.lookup e = some sz) (hlh : l ≤ h) (hhn : h ≤ n) (hne : l = 0 ∨ l < n) (hroom : o + n * sz ≤ b.cells.length)
    (hv : .slice (some ⟨id, o + l * sz, none⟩) (h - l) 0 = v) (hw : wantA ops E ⟨some d, .slice t x lo hi none, ty, ps, af, g⟩ = some true) (hd : Nat.blt d k = true)
    (hr : AWo P ops k (i + 1) os ⟨upd E d v, M⟩ (fun es' => D (⟨[id], []⟩ :: es')) K) :
    AWo P ops k i (⟨some d, .slice t x lo hi none, ty, ps, af, g⟩ :: os) ⟨E, M⟩ D K := by
  subst hv
  exact AWo.step (FStep.sliceA hx hlo hhi hb hs (H.arr t _ _ ht) (H.sz e _ hsz) hlh hhn hne hroom) hw hd (fun p hp => by simp at hp) hr
theorem AWo.storeAllN {t : TypeId} {a x : Operand} {id sz : Nat} {cells : List Value} {es : Nat} {vs : List Value} (ha : aev E a = some (.pointer (some ⟨id, 0, none⟩))) (hx : aev E x = some (.agg vs.toArray))
    (hb : M id = some ⟨cells, true, es⟩) (hs : T.sz.lookup t = some sz) (hl : vs.length = sz) (ho : cells.length = sz) (hc : vs.all (·.oneCell') = true)
    (hw : wantA ops E ⟨none, .store t a x, ty, ps, af, g⟩ = some true)
    (hr' : AWo P ops k (i + 1) os ⟨E, upd M id ⟨vs, true, es⟩⟩ (fun es' => D (⟨[id], [(id, ⟨vs, true, es⟩)]⟩ :: es')) K) :
    AWo P ops k i (⟨none, .store t a x, ty, ps, af, g⟩ :: os) ⟨E, M⟩ D K :=
  AWo.storeAll H ha hx hb (by rw [hl]; exact hs) (by omega) hc hw hr'
theorem PureOp.buildArr {t e : TypeId} {n sz : Nat} {parts : Array (Nat × Operand)} {z : Value} (vals : List (Nat × Value)) {out : List Value} (ht : T.arr.lookup t = some (n, e)) (hs : T.sz.lookup e = some sz)
    (hz : T.zero.lookup t = some z) (hzf : z.cells.toList.all flatV = true) (hp : parts.toList.map (fun p => (p.1, aev E p.2)) = vals.map (fun p => (p.1, some p.2)))
    (hf : fillL (fun i => some (i * sz, sz)) z.cells.toList vals = some out) : PureOp P (.build t parts) E (.agg out.toArray) := fun D ρ ev hx => by
  obtain ⟨out', h1, h2⟩ := fill_rel (D := D) (ρ := ρ) (ev := ev) parts.toList vals (rs := z.cells) (fun p hp v' hv => hx p.2 (by simp only [Op.operands, List.mem_toArray, List.mem_map]; exact ⟨p, hp, rfl⟩) v' hv) hp
    ⟨rfl, fun k x y h1 h2 => by rw [h1] at h2; cases h2; exact .flat _ (List.all_eq_true.1 hzf x (List.mem_of_getElem? h1))⟩ hf
  refine ⟨.agg out', .agg _ _ (by simpa using h2.1) fun k x y h3 h4 => h2.2 k x y (by simpa using h3) (by simpa using h4), fun _ _ _ _ _ w => ?_⟩
  have hpt : (parts.map fun p => (p.1, ev p.2)).toList = parts.toList.map fun p => (p.1, ev p.2) := by simp
  have h6 : Instr.fill (fun i => some (i * sz, sz)) z.cells (parts.map fun p => (p.1, ev p.2)).toList = some out' := by rw [hpt]; exact h1
  simp only [execOp, Instr.build, Sem.run_bind, run_zero (H.zero t _ hz), Result.andThen_ok, run_underlying (H.arr t _ _ ht), run_size (H.sz e _ hs), h6]
  simp
theorem PureOp.toArrT {t e : TypeId} {x : Operand} {id o n k : Nat} (hx : aev E x = some (.slice (some ⟨id, o, none⟩) n 0)) (ht : T.arr.lookup t = some (k, e)) (hk : k ≤ n) (h0 : n ≠ 0) :
    PureOp P (.sliceToArrayPointer t x) E (.pointer (some ⟨id, o, none⟩)) := PureOp.toArr hx (H.arr t _ _ ht) hk h0
end
end Go.Proofs.Ytpahdiljpnfkdaa.Sim
namespace Go.Proofs.Ytpahdiljpnfkdaa.Sim
open Go Go.RowKit Go.ChangeShapes Go.WideShapes
structure ROk (W : World) (p : Pl) (cells : List Value) (es : Nat) : Prop where
  lim : p.lim = none
  es : p.es = es
  at' : ∀ (i : Nat) (v : Value), cells[i]? = some v → W.cell? ⟨p.blk, p.off + i, none⟩ = some v
  flat : ∀ v ∈ cells, flatV v = true
theorem cell?_lt {W : World} {a : Addr} {v : Value} (h : W.cell? a = some v) : a.block < W.heap.size := by
  unfold World.cell? at h
  cases hb : W.heap[a.block]? with
  | none => rw [hb] at h; cases h
  | some o => exact (Array.getElem?_eq_some_iff.1 hb).1
theorem MemOk.ro {W : World} {ps : List Pl} {M0 : List Blk} (h : ∀ (k : Nat) (b : Blk), M0[k]? = some b → b.rw = false ∧ ∃ p, ps[k]? = some p ∧ ROk W p b.cells b.es) :
    MemOk ⟨fun k => (ps[k]?).getD ⟨0, 0, none, 1⟩, []⟩ (memL M0) W := by
  intro i b hb
  obtain ⟨hrw, p, hp, hk⟩ := h i b hb
  have e : (⟨fun k => (ps[k]?).getD ⟨0, 0, none, 1⟩, []⟩ : Rho) i = p := by simp only [hp, Option.getD_some]
  refine ⟨fun hs => ?_, fun k v hv => ?_, fun hr => ?_, ?_, fun L hL => ?_⟩
  · rw [e]
    rcases hs with hs | hs
    · have := hs.1; rw [hrw] at this; cases this
    · obtain ⟨v, hv⟩ : ∃ v, b.cells[0]? = some v := by
        cases hc : b.cells with
        | nil => exact absurd hc hs
        | cons x r => exact ⟨x, rfl⟩
      exact cell?_lt (hk.at' 0 v hv)
  · exact ⟨v, by rw [e]; exact hk.at' k v hv, .flat v (hk.flat v (List.mem_of_getElem? hv))⟩
  · have := hr.1; rw [hrw] at this; cases this
  · rw [e]; exact hk.es
  · rw [e, hk.lim] at hL; cases hL
def SlArg (p : Pl) (n : Nat) (u : Value) : Prop := (∃ c, u = .slice (some ⟨p.blk, p.off, none⟩) n c ∧ n ≤ c) ∨ (n = 0 ∧ u = .slice none 0 0)
inductive LawArgs (ps : List Pl) : List Value → List Value → Prop
  | nil : LawArgs ps [] []
  | pure {v : Value} {vs us : List Value} (h : pureV v = true) (hr : LawArgs ps vs us) : LawArgs ps (v :: vs) (v :: us)
  | slice {k n : Nat} {p : Pl} {u : Value} {vs us : List Value} (hk : ps[k]? = some p) (hl : p.lim = none) (h : SlArg p n u) (hr : LawArgs ps vs us) : LawArgs ps (.slice (some ⟨k, 0, none⟩) n 0 :: vs) (u :: us)
theorem LawArgs.rel {ps : List Pl} {vs us : List Value} (h : LawArgs ps vs us) {D : Nat → Prop} (hD : ∀ k, k < ps.length → D k) :
    vs.length = us.length ∧ ∀ (k : Nat) (v u : Value), vs[k]? = some v → us[k]? = some u → VR .real D ⟨fun k => (ps[k]?).getD ⟨0, 0, none, 1⟩, []⟩ v u := by
  induction h with
  | nil => exact ⟨rfl, fun k v u h => by simp at h⟩
  | pure h _ ih =>
    refine ⟨by simp [ih.1], fun k v u h1 h2 => ?_⟩
    cases k with
    | zero => simp at h1 h2; subst h1; subst h2; exact .pure h
    | succ k => exact ih.2 k v u (by simpa using h1) (by simpa using h2)
  | @slice k0 n p u vs us hk hl h _ ih =>
    refine ⟨by simp [ih.1], fun k v u h1 h2 => ?_⟩
    cases k with
    | zero =>
      simp at h1 h2; subst h1; subst h2
      rcases h with ⟨c, rfl, hc⟩ | ⟨rfl, rfl⟩
      · have := VR.slice (m := .real) (ρ := ⟨fun k => (ps[k]?).getD ⟨0, 0, none, 1⟩, []⟩) (D := D) k0 0 n c (hD _ (List.getElem?_eq_some_iff.1 hk).1) (by simp) (fun _ => ⟨hc, fun L hL => by simp only [hk, Option.getD_some, hl] at hL; cases hL⟩)
        simpa only [hk, Option.getD_some, Nat.add_zero] using this
      · exact .nilS _ (by simp)
    | succ k => exact ih.2 k v u (by simpa using h1) (by simpa using h2)
theorem GC.law {P : Program} {f : FuncId} {args : List Value} {M0 Mo : List Blk} (S : GC P f args M0 [.bool true] Mo) {W : World} (ps : List Pl) (hps : ps.length = M0.length)
    (hm : ∀ (k : Nat) (b : Blk), M0[k]? = some b → b.rw = false ∧ ∃ p, ps[k]? = some p ∧ ROk W p b.cells b.es) {rargs : List Value} (ha : LawArgs ps args rargs) (hgl : ∀ d ∈ GLB, d ∈ ([] : List Imm) := by exact fun d hd => absurd hd List.not_mem_nil) :
    Calls P f rargs.toArray W fun e W' => e = .returned (.bool true) ∧ Below W.heap.size W W' := by
  have hD : ∀ k, k < ps.length → dom (memL M0) k := fun k hk => dom_memL.2 (by omega)
  obtain ⟨h1, h2⟩ := ha.rel hD
  exact Ctr.law S (fun b hb => by obtain ⟨k, hk⟩ := List.mem_iff_getElem?.1 hb; exact (hm k b hk).1) (MemOk.ro hm) (ImOk.nil rfl) hgl h1 h2
end Go.Proofs.Ytpahdiljpnfkdaa.Sim
namespace Go.Proofs.Ytpahdiljpnfkdaa.Sim
open Go
section
variable {P : Program} {T : Tab} (H : TabOk P T) {E : Env}
include H
theorem TabOk.isAgg {t : TypeId} {b : Bool} (ht : T.agg.lookup t = some b) (w : World) : (Go.isAgg t).run P w = .ok b w := by
  rw [run_agg (H.agg t _ ht).1, (H.agg t _ ht).2]
omit H in
theorem PureOp.idxStr {x ix : Operand} {t : TypeId} {s : ByteArray} {j : Nat} {b : UInt8} {kd : IntKind} (hx : aev E x = some (.string s)) (hi : aev E ix = some (.int kd (j : Nat))) (ht : P.underlying t = some .string) (hb : s[j]? = some b) :
    PureOp P (.index t x ix) E (vi .u8 b.toNat) := fun D ρ ev hev => by
  have e1 := flat_inv (hev x (by simp [Op.operands]) _ hx) rfl
  have e2 := flat_inv (hev ix (by simp [Op.operands]) _ hi) rfl
  refine ⟨_, .flat _ rfl, fun _ _ _ _ _ w => ?_⟩
  simp [execOp, e1, e2, Instr.index, asIntOf, run_underlying ht, hb, vi]
omit H in
theorem PureOp.negU {x : Operand} {t : TypeId} {k : IntKind} {a : Nat} (m : Nat) (hx : aev E x = some (vi k a)) (hs : k.signed = false) (hm : 2 ^ k.bits = m) (ha : a ≤ m) : PureOp P (.unOp .neg t x) E (vi k ((m - a) % m)) :=
  (PureOp.neg hx).mono (by
    simp only [vi, Value.int.injEq, true_and]
    rw [← wrap_uns hs hm]
    subst hm
    simp only [IntKind.wrap, hs, Bool.false_and, Bool.false_eq_true, if_false]
    rw [Int.natCast_sub ha]
    have e : (((2 ^ k.bits : Nat) : Int) - a) = (0 - a) + (2 ^ k.bits : Int) := by simp; omega
    rw [e, Int.add_emod_right])
end
end Go.Proofs.Ytpahdiljpnfkdaa.Sim
namespace Go.Proofs.Ytpahdiljpnfkdaa.Sim
open Go
def vp (r : Nat) : Value := .int .i64 ((r : Int) - 1)
theorem vp_succ (q : Nat) : vp (q + 1) = vi .i64 q := by simp only [vp, vi]; congr 1; omega
section
variable {P : Program} {E : Env} {t t' : TypeId} {x y : Operand}
theorem PureOp.geP {r : Nat} (h1 : aev E x = some (vp r)) (h2 : aev E y = some (.int .i64 0)) : PureOp P (.binOp .geq t x y t') E (.bool (decide (0 < r))) :=
  PureOp.bin h1 h2 (by simp only [evalBin, Option.some.injEq, Value.bool.injEq]; rw [Bool.eq_iff_iff]; simp; omega)
theorem PureOp.subP {a : Nat} (h1 : aev E x = some (vi .i64 a)) (h2 : aev E y = some (.int .i64 1)) (h : a < 9223372036854775808) : PureOp P (.binOp .sub t x y t') E (vp a) :=
  PureOp.bin h1 h2 (by simp only [evalBin, vp]; rw [IntWalk.i64_in _ (by omega)])
theorem AW.joinT {n m : Nat} {σ : ASt} {Q : Exit → ASt → Prop} {c y : Code} (I : ASt → Prop) (h : AW P n m c σ (thenA (fun σ' => ∃ fm τ, Wk m fm σ' τ ∧ I τ) Q)) (h2 : ∀ τ, I τ → AW P n m y τ Q) :
    AW P n m c σ (thenA (fun σ' => AW P n m y σ' Q) Q) :=
  AW.mono h fun e σ' hq => by
    cases e with
    | normal => obtain ⟨fm, τ, hw, hI⟩ := hq; exact AW.weaken hw (h2 τ hI)
    | _ => exact hq
end
end Go.Proofs.Ytpahdiljpnfkdaa.Sim
namespace Go.Proofs.Ytpahdiljpnfkdaa.Sim
open Go
section
variable {P : Program} {E : Env}
theorem run_slNil' (d : Nat) {t e : TypeId} (a : Addr) (n c : Nat) (h : P.underlying t = some (.slice e)) (w : World) : (Op.equalIn (d + 1) t (.slice (some a) n c) (.slice none 0 0)).run P w = .ok false w := by
  simp [Op.equalIn, run_underlying h]
theorem run_slNil {t e : TypeId} (a : Addr) (n c : Nat) (h : P.underlying t = some (.slice e)) (w : World) : (Op.equal t (.slice (some a) n c) (.slice none 0 0)).run P w = .ok false w := run_slNil' 9999 a n c h w
theorem PureOp.slEqNil {t t' e : TypeId} {x : Operand} {id o n : Nat} (hu : P.underlying t = some (.slice e)) (h1 : aev E x = some (.slice (some ⟨id, o, none⟩) n 0)) (hn : n ≠ 0) :
    PureOp P (.binOp .eql t x (.const (.slice none 0 0)) t') E (.bool false) := fun D ρ ev hx => by
  have e2 : ev (.const (.slice none 0 0)) = .slice none 0 0 := flat_inv (hx (.const (.slice none 0 0)) (by simp [Op.operands]) _ rfl) rfl
  rcases slice_inv (hx x (by simp [Op.operands]) _ h1) with ⟨c, e1, _, _, _⟩ | ⟨h0, _⟩
  · exact ⟨_, .flat _ rfl, fun _ _ _ _ _ w => by simp [execOp, e1, e2, eqGuard, binOp, run_slNil _ _ _ hu]⟩
  · exact absurd h0 hn
end
end Go.Proofs.Ytpahdiljpnfkdaa.Sim
namespace Go.Proofs.Ytpahdiljpnfkdaa.Sim
open Go
section
variable {P : Program}
theorem run_eqItems_ints (d : Nat) {e : TypeId} {k : IntKind} (he : P.underlying e = some (.int k)) (hc : P.cellsOf e = 1) (l l' : List Nat) (w : World) : ∀ (is : List Nat), (∀ i ∈ is, i < l.length ∧ i < l'.length) →
    (Op.eqItems (d + 1) e (P.cellsOf e) (l.map (vi k)).toArray (l'.map (vi k)).toArray is).run P w = .ok (is.all fun i => l.getD i 0 == l'.getD i 0) w
  | [], _ => by simp [Op.eqItems]
  | i :: is, h => by
    obtain ⟨h1, h2⟩ := h i (List.mem_cons_self ..)
    have ih := run_eqItems_ints d he hc l l' w is fun j hj => h j (List.mem_cons_of_mem _ hj)
    have a1 : ((l.map (vi k)).toArray)[i]? = some (vi k (l.getD i 0)) := by rw [List.getElem?_toArray]; exact getM 0 h1
    have a2 : ((l'.map (vi k)).toArray)[i]? = some (vi k (l'.getD i 0)) := by rw [List.getElem?_toArray]; exact getM 0 h2
    have hp : ∀ (cs : Array Value) (v : Value), cs[i]? = some v → (part e cs i).run P w = .ok v w := fun cs v hv => by simp [part, isAgg, run_underlying he, hv]
    have e3 : (Op.equalIn (d + 1) e (vi k (l.getD i 0)) (vi k (l'.getD i 0))).run P w = .ok (l.getD i 0 == l'.getD i 0) w := by
      simp only [Op.equalIn, vi, Sem.run_bind, run_underlying he, Result.andThen_ok, if_true, Sem.run_pure]
      congr 1
      rw [Bool.eq_iff_iff]; simp; omega
    rw [hc] at ih
    simp only [Op.eqItems, Sem.run_bind, hc, Nat.mul_one, hp _ _ a1, hp _ _ a2, e3, Result.andThen_ok, Sem.run_ite, List.all_cons]
    cases hx : (l.getD i 0 == l'.getD i 0) with
    | true => simpa using ih
    | false => simp
theorem range_all (l l' : List Nat) (n : Nat) (hl : l.length = n) (hl' : l'.length = n) : ((List.range n).all fun i => l.getD i 0 == l'.getD i 0) = decide (l = l') := by
  rw [Bool.eq_iff_iff]
  simp only [List.all_eq_true, List.mem_range, beq_iff_eq, decide_eq_true_eq]
  refine ⟨fun h => ?_, fun h i _ => by rw [h]⟩
  apply List.ext_getElem (by omega)
  intro i h1 h2
  have := h i (by omega)
  rw [List.getD_eq_getElem?_getD, List.getD_eq_getElem?_getD, List.getElem?_eq_getElem h1, List.getElem?_eq_getElem h2] at this
  exact this
theorem run_eqArr (d : Nat) {t e : TypeId} {k : IntKind} {n : Nat} (hu : P.underlying t = some (.array n e)) (he : P.underlying e = some (.int k)) (hs : (P.info? e).map (·.size) = some 1) (hc : P.cellsOf e = 1) {l l' : List Nat} (hl : l.length = n) (hl' : l'.length = n) (w : World) :
    (Op.equalIn (d + 2) t (.agg (l.map (vi k)).toArray) (.agg (l'.map (vi k)).toArray)).run P w = .ok (decide (l = l')) w := by
  obtain ⟨i, hi, _⟩ := info_of hs
  rw [run_equalIn_array w (d + 1) _ _ hu hi, run_eqItems_ints d he hc l l' w _ (fun j hj => by have := List.mem_range.1 hj; omega), range_all l l' n hl hl']
theorem PureOp.eqArr {E : Env} {x y : Operand} {t t' e : TypeId} {k : IntKind} {n : Nat} {l l' : List Nat} (h1 : aev E x = some (.agg (l.map (vi k)).toArray)) (h2 : aev E y = some (.agg (l'.map (vi k)).toArray))
    (hg : P.eqGuardType P.depth t = false) (hu : P.underlying t = some (.array n e)) (he : P.underlying e = some (.int k)) (hsz : (P.info? e).map (·.size) = some 1) (hc : P.cellsOf e = 1) (hl : l.length = n) (hl' : l'.length = n) :
    PureOp P (.binOp .eql t x y t') E (.bool (decide (l = l'))) := fun D ρ ev hx => by
  have e1 := flat_pure_inv (hx x (by simp [Op.operands]) _ h1) (pure_aggM flat_vi)
  have e2 := flat_pure_inv (hx y (by simp [Op.operands]) _ h2) (pure_aggM flat_vi)
  refine ⟨_, .flat _ rfl, fun _ _ _ _ _ w => ?_⟩
  have hr : (Op.equal t (.agg (l.map (vi k)).toArray) (.agg (l'.map (vi k)).toArray)).run P w = .ok (decide (l = l')) w := run_eqArr 9998 hu he hsz hc hl hl' w
  simp [execOp, e1, e2, eqGuard, hg, binOp, hr]
end
end Go.Proofs.Ytpahdiljpnfkdaa.Sim
namespace Go.Proofs.Ytpahdiljpnfkdaa.Sim
open Go Go.RowKit Go.ChangeShapes Go.WideShapes
def okI (ids : List Nat) : Value → Bool
  | .pointer (some ⟨i, _, none⟩) => ids.contains i
  | .slice (some ⟨i, _, none⟩) _ 0 => ids.contains i
  | v => flatV v
theorem okI_rel {m : Md} (hm : m ≠ .real) {D : Nat → Prop} {h : Rho} {ids : List Nat} {v : Value} (hv : okI ids v = true) (hD : ∀ i ∈ ids, D i) : VR m D h v (ren1 h v) := by
  unfold okI at hv
  split at hv
  · exact .ptr _ _ (hD _ (List.contains_iff_mem.1 hv))
  · exact .slice _ _ _ 0 (hD _ (List.contains_iff_mem.1 hv)) (fun _ => rfl) (fun e => absurd e hm)
  · rw [flat_ren1 hv]; exact .flat _ hv
theorem dom_all {N : Mem} {ids : List Nat} (h : (ids.all fun i => (N i).isSome) = true) : ∀ i ∈ ids, dom N i := fun i hi => by
  have := List.all_eq_true.1 h i hi
  exact Option.isSome_iff_exists.1 this
theorem WkM.ren {Dm : Nat → Prop} {fm : List (Nat × Nat)} {M N : Mem} {i : Nat} {cells c' : List Value} {rw rw' : Bool} {es : Nat} (ids : List Nat) (h1 : M ((fm.lookup i).getD i) = some ⟨c', rw', es⟩) (hc : cells.map (ren1 (idm fm)) = c')
    (hok : cells.all (okI ids) = true) (hD : ∀ i ∈ ids, Dm i) (h3 : rw = true → rw' = true) (h : WkM Dm fm M N) : WkM Dm fm M (Sim.upd N i ⟨cells, rw, es⟩) := by
  subst hc
  exact WkM.upd h1 (fun c x hx => ⟨ren1 (idm fm) x, by rw [List.getElem?_map, hx]; rfl, okI_rel (by simp) (List.all_eq_true.1 hok x (List.mem_of_getElem? hx)) hD⟩) h3 rfl (by simp) h
def numV : Value → Int
  | .int _ n => n
  | _ => 0
section
variable {H : Type} {enc : TypeId × Value → H} {P : Program} {W : World} {base : Nat} {spare : Nat → Bool} {held : Bool}
theorem arr_cells {t e : TypeId} {k : IntKind} {n fuel : Nat} {cs : List Value} {x : DataW H × List MemPlace} (ht : P.underlying t = some (.array n e)) (he : P.underlying e = some (.int k)) (hc : P.cellsOf e = 1) (hct : P.cellsOf t = n)
    (h : DataW.trod enc P W base spare held fuel t cs = some x) : cs = (cs.map numV).map (Value.int k) ∧ cs.length = n ∧ ∀ z ∈ cs.map numV, (Lit.int k z).wf = true := by
  obtain ⟨xs, m, _, _, hl, hxl, hx⟩ := DataW.trod_array ht h
  rw [hct] at hl
  have key : ∀ (i : Nat) (v : Value), cs[i]? = some v → ∃ z, v = Value.int k z ∧ (Lit.int k z).wf = true := by
    intro i v hv
    have hi : i < cs.length := (List.getElem?_eq_some_iff.1 hv).1
    have h1 := hx i (by omega)
    rw [hc, Nat.mul_one, List.getElem?_eq_getElem (by omega)] at h1
    obtain ⟨z, hz, _, hw⟩ := DataW.trod_int he h1
    rw [List.drop_eq_getElem_cons hi, List.take_succ_cons, List.take_zero] at hz
    rw [List.getElem?_eq_getElem hi] at hv
    cases hv
    exact ⟨z, by simpa using hz, hw⟩
  refine ⟨?_, hl, fun z hz => ?_⟩
  · apply List.ext_getElem?
    intro i
    rw [List.map_map, List.getElem?_map]
    cases hv : cs[i]? with
    | none => rfl
    | some v => obtain ⟨z, rfl, _⟩ := key i v hv; rfl
  · obtain ⟨v, hv, rfl⟩ := List.mem_map.1 hz
    obtain ⟨i, hi⟩ := List.mem_iff_getElem?.1 hv
    obtain ⟨z, rfl, hw⟩ := key i v hi
    exact hw
theorem okWide_arr {t e : TypeId} {n : Nat} {r : Reach} {base : Nat} {v : Value} (ht : P.underlying t = some (.array n e)) (h : Value.okWide P W r base t v) : ∃ cs, v = .agg cs := by
  simp only [Value.okWide, ht] at h
  obtain ⟨cs, rfl, _⟩ := h
  exact ⟨cs, rfl⟩
theorem open_arr {t e : TypeId} {k : IntKind} {n : Nat} {r : Reach} {base' : Nat} {v : Value} {d : DataW H} {pl : List MemPlace} (ht : P.underlying t = some (.array n e)) (he : P.underlying e = some (.int k)) (hc : P.cellsOf e = 1) (hct : P.cellsOf t = n)
    (hv : Value.okWide P W r base' t v) (h : DataW.Trod enc P W base spare held t v d pl) : ∃ zs : List Int, v = .agg (zs.map (Value.int k)).toArray ∧ zs.length = n ∧ ∀ z ∈ zs, (Lit.int k z).wf = true := by
  obtain ⟨cs, rfl⟩ := okWide_arr ht hv
  obtain ⟨fuel, hf⟩ := h
  obtain ⟨h1, h2, h3⟩ := arr_cells ht he hc hct hf
  refine ⟨(Value.agg cs).cells.toList.map numV, ?_, by simpa using h2, h3⟩
  congr 1
  apply Array.ext'
  exact h1
end
theorem nat_map {k : IntKind} {zs : List Int} (h : ∀ z ∈ zs, 0 ≤ z) : zs.map (Value.int k) = (zs.map Int.toNat).map (vi k) := by
  rw [List.map_map]
  refine List.map_congr_left fun z hz => ?_
  have := h z hz
  simp only [Function.comp, vi]
  congr 1
  omega
end Go.Proofs.Ytpahdiljpnfkdaa.Sim
namespace Go.Proofs.Ytpahdiljpnfkdaa.Sim
open Go
def bstr (l : List Nat) : ByteArray := (l.map fun (n : Nat) => (n : Int)).foldl (fun r n => r.push (UInt8.ofNat n.toNat)) ByteArray.empty
section
variable {P : Program} {T : Tab} (H : TabOk P T) {E : Env} {M : Mem} {n' i : Nat} {d : Tmp} {ty : TypeId} {ps : String} {af : Array Edge} {g : Option (Nat × Bool)} {ops : Array Oper} {os : List Oper} {D : List Eff → Prop} {K : ASt → Prop}
include H
end
end Go.Proofs.Ytpahdiljpnfkdaa.Sim
namespace Go.Proofs.Ytpahdiljpnfkdaa.Sim
open Go
def clo1 (v : Value) : Bool := flatV v || isDeep v
def cloV : Value → Bool
  | .agg cs => cs.toList.all clo1
  | v => clo1 v
theorem clo1_rel {D D' : Nat → Prop} {ρ : Rho} {v u : Value} (hc : clo1 v = true) (h : VR .real D ρ v u) : VR .real D' ρ v u := by
  simp only [clo1, Bool.or_eq_true] at hc
  rcases hc with hc | hc
  · rw [flat_inv h hc]; exact .flat v hc
  · obtain ⟨n, es, cs, rfl⟩ := isDeep_inv hc
    cases h with
    | flat _ hf => simp [flatV] at hf
    | iface _ _ _ ht => exact absurd rfl ht
    | deepA _ _ _ hm => exact absurd rfl hm
    | deepR _ _ c o _ d hm hd hn hcs ho hc => exact .deepR n es c o cs d rfl hd hn hcs ho hc
    | deepN => exact .deepN es (by simp)
    | deepE _ a c _ ha => exact .deepE es a c rfl ha
theorem clo_rel {D D' : Nat → Prop} {ρ : Rho} {v u : Value} (hc : cloV v = true) (h : VR .real D ρ v u) : VR .real D' ρ v u := by
  unfold cloV at hc
  split at hc
  · rename_i cs
    rw [List.all_eq_true] at hc
    cases h with
    | flat _ hf => simp [flatV] at hf
    | agg _ ys hs hh => exact .agg cs ys hs fun k x y hx hy => clo1_rel (hc x (Array.mem_toList_iff.2 (Array.mem_of_getElem? hx))) (hh k x y hx hy)
  · exact clo1_rel hc h
theorem clo1_refl {m : Md} (hm : m ≠ .real) {D : Nat → Prop} {h : Rho} {v : Value} (hc : clo1 v = true) : VR m D h v v := by
  simp only [clo1, Bool.or_eq_true] at hc
  rcases hc with hc | hc
  · exact .flat v hc
  · exact deep_rel hm hc
theorem clo_refl {m : Md} (hm : m ≠ .real) {D : Nat → Prop} {h : Rho} {v : Value} (hc : cloV v = true) : VR m D h v v := by
  unfold cloV at hc
  split at hc
  · rename_i cs
    rw [List.all_eq_true] at hc
    refine .agg cs cs rfl fun k x y hx hy => ?_
    rw [hx] at hy; cases hy
    exact clo1_refl hm (hc x (Array.mem_toList_iff.2 (Array.mem_of_getElem? hx)))
  · exact clo1_refl hm hc
theorem clo1_ren1 {h : Rho} {v : Value} (hc : clo1 v = true) : ren1 h v = v := by
  simp only [clo1, Bool.or_eq_true] at hc
  rcases hc with hc | hc
  · exact flat_ren1 hc
  · exact deep_ren1 hc
theorem clo1_ok1 {n : Nat} {v : Value} (hc : clo1 v = true) : ok1 n v = true := by
  simp only [clo1, Bool.or_eq_true] at hc
  rcases hc with hc | hc
  · exact flat_ok1 hc
  · obtain ⟨_, _, _, rfl⟩ := isDeep_inv hc; rfl
theorem clo_ren {h : Rho} {v : Value} (hc : cloV v = true) : ren h v = v := by
  unfold cloV at hc
  split at hc
  · rename_i cs
    rw [List.all_eq_true] at hc
    simp only [ren]
    congr 1
    apply Array.ext'
    show cs.toList.map (ren1 h) = cs.toList
    conv => rhs; rw [← List.map_id cs.toList]
    exact List.map_congr_left fun x hx => clo1_ren1 (hc x hx)
  · simp only [clo1, Bool.or_eq_true] at hc
    rcases hc with hc | hc
    · exact flat_ren hc
    · exact deep_ren hc
theorem clo_okV {n : Nat} {v : Value} (hc : cloV v = true) : okV n v = true := by
  unfold cloV at hc
  split at hc
  · simp only [okV, List.all_eq_true] at hc ⊢; exact fun x hx => clo1_ok1 (hc x hx)
  · simp only [clo1, Bool.or_eq_true] at hc
    rcases hc with hc | hc
    · exact flat_okV hc
    · exact deep_okV hc
theorem cloM {α : Type} {f : α → Value} {l : List α} (hf : ∀ x, cloV (f x) = true) : ∀ x ∈ l.map f, cloV x = true := by
  intro x hx
  obtain ⟨y, _, rfl⟩ := List.mem_map.1 hx
  exact hf y
theorem clo_map_ren {h : Rho} {l : List Value} (hl : ∀ x ∈ l, cloV x = true) : l.map (ren h) = l := by
  conv => rhs; rw [← List.map_id l]
  exact List.map_congr_left fun x hx => clo_ren (hl x hx)
theorem OkL.clo {n : Nat} {l : List Value} (h : ∀ x ∈ l, cloV x = true) : OkL n l := fun x hx => clo_okV (h x hx)
theorem WkM.clo {Dm : Nat → Prop} {fm : List (Nat × Nat)} {M N : Mem} {i : Nat} {cells : List Value} {rw rw' : Bool} {es : Nat} (h1 : M ((fm.lookup i).getD i) = some ⟨cells, rw', es⟩)
    (hf : ∀ v ∈ cells, cloV v = true) (h3 : rw = true → rw' = true) (h : WkM Dm fm M N) : WkM Dm fm M (Sim.upd N i ⟨cells, rw, es⟩) :=
  WkM.upd h1 (fun _ x hx => ⟨x, hx, clo_refl (by simp) (hf x (List.mem_of_getElem? hx))⟩) h3 rfl (Nat.le_refl _) h
theorem WkM.cloM {α : Type} {f : α → Value} {l l' : List α} {Dm : Nat → Prop} {fm : List (Nat × Nat)} {M N : Mem} {i : Nat} {rw rw' : Bool} {es : Nat} (h1 : M ((fm.lookup i).getD i) = some ⟨l'.map f, rw', es⟩)
    (he : l = l') (hf : ∀ x, cloV (f x) = true) (h3 : rw = true → rw' = true) (h : WkM Dm fm M N) : WkM Dm fm M (Sim.upd N i ⟨l.map f, rw, es⟩) := by
  subst he
  exact WkM.clo h1 (Sim.cloM hf) h3 h
theorem OutL.clo {m : Nat} {nids : List Nat} {M : Mem} {n k : Nat} {c : List Value} {rw rw' : Bool} {es : Nat} {r : List Blk} (hM : M (hmap m nids k).blk = some ⟨c, rw', es⟩)
    (hf : ∀ x ∈ c, cloV x = true) (hrw : rw = true ∨ (m ≤ k ∧ c ≠ []) → rw' = true) (hr : OutL m nids M n (k + 1) r) : OutL m nids M n k (⟨c, rw, es⟩ :: r) :=
  OutL.whole hM (clo_map_ren hf) (OkL.clo hf) hrw hr
theorem FitL.clo {h : Rho} {n : Nat} {M : Mem} {c : List Value} {rw rw' : Bool} {es id : Nat} {r : List Blk} {g : List (Nat × Nat)} (h1 : M id = some ⟨c, rw', es⟩) (h3 : ∀ x ∈ c, cloV x = true)
    (h6 : rw = true → rw' = true) (hr : FitL h n M r g) : FitL h n M (⟨c, rw, es⟩ :: r) ((id, 0) :: g) :=
  .whole h1 (clo_map_ren h3) (OkL.clo h3) h6 hr
theorem RelL.clo {h : Rho} {n : Nat} {x : Value} {r s : List Value} (h1 : cloV x = true) (hr : RelL h n r s) : RelL h n (x :: r) (x :: s) := .cons (clo_okV h1) (clo_ren h1) hr
theorem RelR.clo {h : Rho} {n : Nat} {x : Value} {r s : List Value} (h1 : cloV x = true) (hr : RelR h n r s) : RelR h n (x :: r) (x :: s) := .cons (clo_okV h1) (clo_ren h1) hr
end Go.Proofs.Ytpahdiljpnfkdaa.Sim
namespace Go.Proofs.Ytpahdiljpnfkdaa.Sim
open Go
inductive DA : List Blk → Nat → List Value → List Value → Prop
  | nil {k : Nat} : DA [] k [] []
  | pure {M : List Blk} {k : Nat} {v : Value} {vs us : List Value} (h : cloV v = true) (r : DA M k vs us) : DA M k (v :: vs) (v :: us)
  | deep {M : List Blk} {k n es : Nat} {cells : List Value} {vs us : List Value} (r : DA M (k + 1) vs us) : DA (⟨cells, false, es⟩ :: M) k (.slice (some ⟨k, 0, none⟩) n 0 :: vs) (deep n es cells :: us)
structure Lies (ρ : Rho) (w : World) (p : Pl) (b : Blk) : Prop where
  rw : b.rw = false
  es : p.es = b.es
  lim : p.lim = none
  lt : b.cells ≠ [] → p.blk < w.heap.size
  cells : ∀ k v, b.cells[k]? = some v → ∃ u, w.cell? ⟨p.blk, p.off + k, none⟩ = some u ∧ VR .real (fun _ => False) ρ v u
  src : b.cells = [] ∨ ∃ d o, d ∈ ρ.im ∧ p.blk = d.blk ∧ p.off = d.off + o ∧ (d.cells.drop o).take b.cells.length = b.cells ∧ o + b.cells.length ≤ d.cells.length
theorem deep_lies {D : Nat → Prop} {ρ : Rho} {M : Mem} {w : World} (him : ImOk ρ M w) {n es : Nat} {cells : List Value} {u : Value} (h : VR .real D ρ (deep n es cells) u) :
    ∃ p, Lies ρ w p ⟨cells, false, es⟩ ∧ ((∃ c, u = .slice (some ⟨p.blk, p.off, none⟩) n c ∧ n ≤ c) ∨ (n = 0 ∧ (u = .slice none 0 0 ∨ ∃ a0, u = .slice (some a0) 0 0))) := by
  unfold deep at h
  cases h with
  | flat _ hf => simp [flatV] at hf
  | iface _ _ _ ht => exact absurd rfl ht
  | deepA _ _ _ hm => exact absurd rfl hm
  | deepR _ _ c o _ d hm hd hn hcs ho hc =>
    have hd' := him d hd
    simp only [List.size_toArray] at hcs ho hn
    have hne : cells ≠ [] → d.cells ≠ [] := fun h1 e => by
      rw [e] at ho
      exact h1 (List.length_eq_zero_iff.1 (by simp only [List.length_nil] at ho; omega))
    refine ⟨⟨d.blk, d.off + o, none, es⟩, ⟨rfl, rfl, rfl, fun h1 => hd'.lt (hne h1), fun k v hk => ?_, .inr ⟨d, o, hd, rfl, rfl, hcs, ho⟩⟩, .inl ⟨c, rfl, hc⟩⟩
    have h1 : d.cells[o + k]? = some v := by
      have h2 : ((d.cells.drop o).take cells.length)[k]? = some v := by rw [hcs]; exact hk
      have hk' : k < cells.length := (List.getElem?_eq_some_iff.1 hk).1
      rwa [List.getElem?_take, if_pos hk', List.getElem?_drop] at h2
    obtain ⟨x, g1, g2⟩ := hd'.cells _ v h1
    exact ⟨x, by rw [Nat.add_assoc]; exact g1, g2⟩
  | deepN => exact ⟨⟨0, 0, none, es⟩, ⟨rfl, rfl, rfl, fun h1 => absurd rfl h1, fun k v hk => by simp at hk, .inl rfl⟩, .inr ⟨rfl, .inl rfl⟩⟩
  | deepE _ a0 c _ ha =>
    by_cases hs : a0.spot = none
    · obtain ⟨bb, oo, ss⟩ := a0
      simp only at hs; subst hs
      exact ⟨⟨bb, oo, none, es⟩, ⟨rfl, rfl, rfl, fun h1 => absurd rfl h1, fun k v hk => by simp at hk, .inl rfl⟩, .inl ⟨c, rfl, Nat.zero_le _⟩⟩
    · obtain rfl := ha.resolve_left hs
      exact ⟨⟨0, 0, none, es⟩, ⟨rfl, rfl, rfl, fun h1 => absurd rfl h1, fun k v hk => by simp at hk, .inl rfl⟩, .inr ⟨rfl, .inr ⟨a0, rfl⟩⟩⟩
theorem DA.place {D0 : Nat → Prop} {ρ : Rho} {MM : Mem} {w : World} (him : ImOk ρ MM w) : ∀ {M : List Blk} {k : Nat} {vs us : List Value}, DA M k vs us → ∀ {rs : List Value}, us.length = rs.length →
    (∀ (i : Nat) (v u : Value), us[i]? = some v → rs[i]? = some u → VR .real D0 ρ v u) →
    ∃ pls : List Pl, pls.length = M.length ∧ (∀ (j : Nat) (b : Blk), M[j]? = some b → ∃ p, pls[j]? = some p ∧ Lies ρ w p b) ∧ vs.length = rs.length ∧
      ∀ (pl : Nat → Pl), (∀ j p, pls[j]? = some p → pl (k + j) = p) → ∀ D : Nat → Prop, (∀ j, j < M.length → D (k + j)) → ∀ (i : Nat) (v u : Value), vs[i]? = some v → rs[i]? = some u → VR .real D ⟨pl, ρ.im⟩ v u := by
  intro M k vs us h
  induction h with
  | nil =>
    intro rs hl _
    exact ⟨[], rfl, fun j b hj => by simp at hj, hl, fun pl _ D _ i v u hv => by simp at hv⟩
  | @pure M k v vs us hc _ ih =>
    intro rs hl hr
    cases rs with
    | nil => simp at hl
    | cons r rs =>
      obtain ⟨pls, h1, h2, h3, h4⟩ := ih (rs := rs) (by simpa using hl) fun i v u hv hu => hr (i + 1) v u (by simpa using hv) (by simpa using hu)
      refine ⟨pls, h1, h2, by simp [h3], fun pl hp D hD i x u hx hu => ?_⟩
      cases i with
      | zero =>
        simp at hx hu; subst hx; subst hu
        exact (clo_rel (D' := fun _ => False) hc (hr 0 v r rfl rfl)).closed (ρ' := ⟨pl, ρ.im⟩) fun _ h => h
      | succ i => exact h4 pl hp D hD i x u (by simpa using hx) (by simpa using hu)
  | @deep M k n es cells vs us _ ih =>
    intro rs hl hr
    cases rs with
    | nil => simp at hl
    | cons r rs =>
      obtain ⟨pls, h1, h2, h3, h4⟩ := ih (rs := rs) (by simpa using hl) fun i v u hv hu => hr (i + 1) v u (by simpa using hv) (by simpa using hu)
      obtain ⟨p, hp, hu0⟩ := deep_lies him (hr 0 _ r rfl rfl)
      refine ⟨p :: pls, by simp [h1], fun j b hj => ?_, by simp [h3], fun pl hpl D hD i x u hx hu => ?_⟩
      · cases j with
        | zero => simp at hj; subst hj; exact ⟨p, rfl, hp⟩
        | succ j => obtain ⟨q, g1, g2⟩ := h2 j b (by simpa using hj); exact ⟨q, by simpa using g1, g2⟩
      · cases i with
        | zero =>
          simp at hx hu; subst hx; subst hu
          have hk : pl k = p := by have := hpl 0 p rfl; rwa [Nat.add_zero] at this
          rcases hu0 with ⟨c, rfl, hc⟩ | ⟨rfl, rfl | ⟨a0, rfl⟩⟩
          · have := VR.slice (m := .real) (ρ := ⟨pl, ρ.im⟩) (D := D) k 0 n c (by have := hD 0 (by simp); rwa [Nat.add_zero] at this) (by simp) (fun _ => ⟨hc, fun L hL => by
              have h9 : (pl k).lim = some L := hL
              rw [hk, hp.lim] at h9; cases h9⟩)
            have e : (⟨pl, ρ.im⟩ : Rho) k = p := hk
            rw [e, Nat.add_zero] at this
            exact this
          · exact .nilS _ (by simp)
          · exact .zeroS _ a0 rfl
        | succ i => exact h4 pl (fun j q hq => by rw [Nat.add_assoc, Nat.add_comm 1]; exact hpl (j + 1) q (by simpa using hq)) D (fun j hj => by rw [Nat.add_assoc, Nat.add_comm 1]; exact hD (j + 1) (by simp; omega)) i x u (by simpa using hx) (by simpa using hu)
end Go.Proofs.Ytpahdiljpnfkdaa.Sim
namespace Go.Proofs.Ytpahdiljpnfkdaa.Sim
open Go Go.RowKit Go.ChangeShapes Go.WideShapes
def pl0 : Nat → Pl := fun _ => ⟨0, 0, none, 1⟩
structure IOk (W : World) (ims : List Imm) (d : Imm) : Prop where
  cells : ∀ k v, d.cells[k]? = some v → ∃ u, W.cell? ⟨d.blk, d.off + k, none⟩ = some u ∧ VR .real (fun _ => False) ⟨pl0, ims⟩ v u
structure ROkD (W : World) (ims : List Imm) (p : Pl) (cells : List Value) (es : Nat) : Prop where
  lim : p.lim = none
  es : p.es = es
  at' : ∀ (i : Nat) (v : Value), cells[i]? = some v → ∃ u, W.cell? ⟨p.blk, p.off + i, none⟩ = some u ∧ VR .real (fun _ => False) ⟨pl0, ims⟩ v u
theorem ROk.deep {W : World} {p : Pl} {cells : List Value} {es : Nat} (h : ROk W p cells es) (ims : List Imm) : ROkD W ims p cells es :=
  ⟨h.lim, h.es, fun i v hi => ⟨v, h.at' i v hi, .flat v (h.flat v (List.mem_of_getElem? hi))⟩⟩
theorem VR.ims {m : Md} {D : Nat → Prop} {pl pl' : Nat → Pl} {ims ims' : List Imm} {v u : Value} (h : VR m (fun _ => False) ⟨pl, ims⟩ v u) (hI : ∀ d ∈ ims, d ∈ ims') : VR m D ⟨pl', ims'⟩ v u :=
  h.mono (fun _ h => h.elim) (fun _ h => h.elim) hI
theorem IOk.mono {W : World} {ims ims' : List Imm} {d : Imm} (h : IOk W ims d) (hI : ∀ d ∈ ims, d ∈ ims') : IOk W ims' d :=
  ⟨fun k v hk => by obtain ⟨u, h1, h2⟩ := h.cells k v hk; exact ⟨u, h1, h2.ims hI⟩⟩
theorem ROkD.mono {W : World} {ims ims' : List Imm} {p : Pl} {cells : List Value} {es : Nat} (h : ROkD W ims p cells es) (hI : ∀ d ∈ ims, d ∈ ims') : ROkD W ims' p cells es :=
  ⟨h.lim, h.es, fun k v hk => by obtain ⟨u, h1, h2⟩ := h.at' k v hk; exact ⟨u, h1, h2.ims hI⟩⟩
theorem MemOk.roD {W : World} {ims : List Imm} {ps : List Pl} {M0 : List Blk} (h : ∀ (k : Nat) (b : Blk), M0[k]? = some b → b.rw = false ∧ ∃ p, ps[k]? = some p ∧ ROkD W ims p b.cells b.es) :
    MemOk ⟨fun k => (ps[k]?).getD ⟨0, 0, none, 1⟩, ims⟩ (memL M0) W := by
  intro i b hb
  obtain ⟨hrw, p, hp, hk⟩ := h i b hb
  have e : (⟨fun k => (ps[k]?).getD ⟨0, 0, none, 1⟩, ims⟩ : Rho) i = p := by simp only [hp, Option.getD_some]
  refine ⟨fun hs => ?_, fun k v hv => ?_, fun hr => ?_, ?_, fun L hL => ?_⟩
  · rw [e]
    rcases hs with hs | hs
    · have := hs.1; rw [hrw] at this; cases this
    · obtain ⟨v, hv⟩ : ∃ v, b.cells[0]? = some v := by
        cases hc : b.cells with
        | nil => exact absurd hc hs
        | cons x r => exact ⟨x, rfl⟩
      obtain ⟨u, hu, _⟩ := hk.at' 0 v hv
      exact cell?_lt hu
  · obtain ⟨u, hu, hr⟩ := hk.at' k v hv
    exact ⟨u, by rw [e]; exact hu, hr.ims fun _ h => h⟩
  · have := hr.1; rw [hrw] at this; cases this
  · rw [e]; exact hk.es
  · rw [e, hk.lim] at hL; cases hL
inductive LawArgsD (ims : List Imm) (ps : List Pl) : List Value → List Value → Prop
  | nil : LawArgsD ims ps [] []
  | pure {v : Value} {vs us : List Value} (h : pureV v = true) (hr : LawArgsD ims ps vs us) : LawArgsD ims ps (v :: vs) (v :: us)
  | rel {v u : Value} {vs us : List Value} (h : VR .real (fun _ => False) ⟨pl0, ims⟩ v u) (hr : LawArgsD ims ps vs us) : LawArgsD ims ps (v :: vs) (u :: us)
  | slice {k n : Nat} {p : Pl} {u : Value} {vs us : List Value} (hk : ps[k]? = some p) (hl : p.lim = none) (h : SlArg p n u) (hr : LawArgsD ims ps vs us) : LawArgsD ims ps (.slice (some ⟨k, 0, none⟩) n 0 :: vs) (u :: us)
theorem LawArgsD.vr {ims : List Imm} {ps : List Pl} {vs us : List Value} (h : LawArgsD ims ps vs us) {D : Nat → Prop} (hD : ∀ k, k < ps.length → D k) :
    vs.length = us.length ∧ ∀ (k : Nat) (v u : Value), vs[k]? = some v → us[k]? = some u → VR .real D ⟨fun k => (ps[k]?).getD ⟨0, 0, none, 1⟩, ims⟩ v u := by
  induction h with
  | nil => exact ⟨rfl, fun k v u h => by simp at h⟩
  | pure h _ ih =>
    refine ⟨by simp [ih.1], fun k v u h1 h2 => ?_⟩
    cases k with
    | zero => simp at h1 h2; subst h1; subst h2; exact .pure h
    | succ k => exact ih.2 k v u (by simpa using h1) (by simpa using h2)
  | rel h _ ih =>
    refine ⟨by simp [ih.1], fun k v u h1 h2 => ?_⟩
    cases k with
    | zero => simp at h1 h2; subst h1; subst h2; exact h.ims fun _ h => h
    | succ k => exact ih.2 k v u (by simpa using h1) (by simpa using h2)
  | @slice k0 n p u vs us hk hl h _ ih =>
    refine ⟨by simp [ih.1], fun k v u h1 h2 => ?_⟩
    cases k with
    | zero =>
      simp at h1 h2; subst h1; subst h2
      rcases h with ⟨c, rfl, hc⟩ | ⟨rfl, rfl⟩
      · have := VR.slice (m := .real) (ρ := ⟨fun k => (ps[k]?).getD ⟨0, 0, none, 1⟩, ims⟩) (D := D) k0 0 n c (hD _ (List.getElem?_eq_some_iff.1 hk).1) (by simp) (fun _ => ⟨hc, fun L hL => by simp only [hk, Option.getD_some, hl] at hL; cases hL⟩)
        simpa only [hk, Option.getD_some, Nat.add_zero] using this
      · exact .nilS _ (by simp)
    | succ k => exact ih.2 k v u (by simpa using h1) (by simpa using h2)
theorem GC.lawD {P : Program} {f : FuncId} {args : List Value} {M0 Mo : List Blk} (S : GC P f args M0 [.bool true] Mo) {W : World} (ims : List Imm) (ps : List Pl) (hps : ps.length = M0.length)
    (hm : ∀ (k : Nat) (b : Blk), M0[k]? = some b → b.rw = false ∧ ∃ p, ps[k]? = some p ∧ ROkD W ims p b.cells b.es) (him : ∀ d ∈ ims, IOk W ims d) {rargs : List Value} (ha : LawArgsD ims ps args rargs) (hgl : ∀ d ∈ GLB, d ∈ ims := by exact fun d hd => absurd hd List.not_mem_nil) :
    Calls P f rargs.toArray W fun e W' => e = .returned (.bool true) ∧ Below W.heap.size W W' := by
  have hD : ∀ k, k < ps.length → dom (memL M0) k := fun k hk => dom_memL.2 (by omega)
  obtain ⟨h1, h2⟩ := ha.vr hD
  refine Ctr.law S (fun b hb => by obtain ⟨k, hk⟩ := List.mem_iff_getElem?.1 hb; exact (hm k b hk).1) (MemOk.roD hm) (fun d hd => ?_) hgl h1 h2
  refine ⟨fun hne => ?_, fun k v hk => ?_, fun _ i b hb hown => ?_⟩
  · obtain ⟨v, hv⟩ : ∃ v, d.cells[0]? = some v := by
      cases hc : d.cells with
      | nil => exact absurd hc hne
      | cons x r => exact ⟨x, rfl⟩
    obtain ⟨u, hu, _⟩ := (him d hd).cells 0 v hv
    exact cell?_lt hu
  · obtain ⟨u, hu, hr⟩ := (him d hd).cells k v hk
    exact ⟨u, hu, hr.ims fun _ h => h⟩
  · have := hown.1
    rw [(hm i b hb).1] at this
    cases this
section
variable {P : Program} {T : Tab} (H : TabOk P T)
variable {ops : Array Oper} {k i : Nat} {os : List Oper} {E : Env} {M : Mem} {D : List Eff → Prop} {K : ASt → Prop}
  {d : Tmp} {ty : TypeId} {ps : String} {af : Array Edge} {g : Option (Nat × Bool)}
include H
end
end Go.Proofs.Ytpahdiljpnfkdaa.Sim
namespace Go.Proofs.Ytpahdiljpnfkdaa.Sim
open Go
section
variable {P : Program}
theorem PureOp.neArr {E : Env} {x y : Operand} {t t' e : TypeId} {k : IntKind} {n : Nat} {l l' : List Nat} (h1 : aev E x = some (.agg (l.map (vi k)).toArray)) (h2 : aev E y = some (.agg (l'.map (vi k)).toArray))
    (hg : P.eqGuardType P.depth t = false) (hu : P.underlying t = some (.array n e)) (he : P.underlying e = some (.int k)) (hsz : (P.info? e).map (·.size) = some 1) (hc : P.cellsOf e = 1) (hl : l.length = n) (hl' : l'.length = n) :
    PureOp P (.binOp .neq t x y t') E (.bool (!decide (l = l'))) := fun D ρ ev hx => by
  have e1 := flat_pure_inv (hx x (by simp [Op.operands]) _ h1) (pure_aggM flat_vi)
  have e2 := flat_pure_inv (hx y (by simp [Op.operands]) _ h2) (pure_aggM flat_vi)
  refine ⟨_, .flat _ rfl, fun _ _ _ _ _ w => ?_⟩
  have hr : (Op.equal t (.agg (l.map (vi k)).toArray) (.agg (l'.map (vi k)).toArray)).run P w = .ok (decide (l = l')) w := run_eqArr 9998 hu he hsz hc hl hl' w
  simp [execOp, e1, e2, eqGuard, hg, binOp, hr]
end
end Go.Proofs.Ytpahdiljpnfkdaa.Sim
namespace Go.Proofs.Ytpahdiljpnfkdaa.Sim
open Go Go.RowKit
def tightV (id o n : Nat) : Value := .iface 987654321 (.slice (some ⟨id, o, none⟩) n 0)
theorem FStep.sliceT {P : Program} {E : Env} {M : Mem} {d : Option Tmp} {ty : TypeId} {ps : String} {af : Array Edge} {g : Option (Nat × Bool)} {t e : TypeId} {x : Operand} {id o n sz : Nat} (hx : aev E x = some (.pointer (some ⟨id, o, none⟩)))
    (ht : P.underlying t = some (.array n e)) (hsz : (P.info? e).map (·.size) = some sz) :
    FStep P ⟨d, .slice t x none none none, ty, ps, af, g⟩ E M (tightV id o n) ⟨[id], []⟩ := by
  intro E' M' h1 h2 _ C ρ ac w hR
  obtain ⟨e1, hD⟩ := ptr_inv (hR.eval (x := x) (by rw [h1 x (by simp [Op.operands])]; exact hx))
  have hgen : ∀ (lo hi : Option Operand), OptI E lo 0 0 → OptI E hi n n → (∀ y, (lo = some y ∨ hi = some y) → ∀ v, aev E y = some v → flatV v = true → ac.eval y = v) →
      (execOp ac.eval ⟨d, .slice t x lo hi none, ty, ps, af, g⟩).run P w = .ok (.value (.slice (some ⟨(ρ id).blk, (ρ id).off + (o + 0 * sz), none⟩) (n - 0) (n - 0))) w := by
    intro lo hi hlo hhi hev
    by_cases hcl : n = 0
    · simp only [execOp, e1, Instr.sliceAt, Instr.sureAddr, Sem.run_bind, run_underlying ht, Result.andThen_ok, Option.map_none, run_bounds (P := P) false hlo hhi hev (Nat.zero_le n) (Nat.le_refl n), run_size hsz, Sem.run_pure, if_pos hcl]
      simp
    · simp only [execOp, e1, Instr.sliceAt, Instr.sureAddr, Sem.run_bind, run_underlying ht, Result.andThen_ok, Option.map_none, run_bounds (P := P) false hlo hhi hev (Nat.zero_le n) (Nat.le_refl n), run_size hsz, Sem.run_pure, if_neg hcl, addr_add, Nat.add_assoc]
  have hrun := hgen none none .none .none (fun y hy => by rcases hy with h | h <;> cases h)
  unfold StepTo Oper.wp
  rw [hrun]
  refine ⟨_, rfl, ρ, hR, ?_⟩
  rw [Nat.zero_mul, Nat.add_zero, Nat.sub_zero]
  exact .tight id o n hD rfl
theorem FStep.appendX {P : Program} {E : Env} {M : Mem} {d : Option Tmp} {ty : TypeId} {ps : String} {af : Array Edge} {g : Option (Nat × Bool)} {x y : Operand} {t e : TypeId} {id jd o0 o n m es by' : Nat} {cs news : List Value} {b bj : Blk} {z : Value} (nid : Nat)
    (hx : aev E x = some (tightV id o0 n)) (hy : aev E y = some (.slice (some ⟨jd, o, none⟩) m 0)) (hb : M id = some b) (hj : M jd = some bj)
    (hcs : (b.cells.drop o0).take (n * es) = cs) (ho0 : o0 + n * es ≤ b.cells.length) (hnw : (bj.cells.drop o).take (m * es) = news) (ho : o + m * es ≤ bj.cells.length) (hm : m ≠ 0) (hnid : nid ≠ id) (hnjd : nid ≠ jd)
    (ht : P.underlying t = some (.slice e)) (hs : (P.info? e).map (·.size) = some es) (h0 : es ≠ 0) (hz : (P.info? e).map (·.zero) = some (some z)) (hzs : z.cells.size = es) (hby : (P.info? e).map (·.bytes) = some by')
    (hlen : (n + m) * by' ≤ 140737488355328) (hmax : n + m < 9223372036854775808) :
    FStep P ⟨d, .call ⟨.builtin .append, #[x, y], #[t, t]⟩, ty, ps, af, g⟩ E M (.slice (some ⟨nid, 0, none⟩) (n + m) 0) ⟨[id, jd], [(nid, ⟨cs ++ news, true, es⟩)]⟩ := by
  intro E' M' h1 h2 h3 C ρ ac w hR
  have hb' : M' id = some b := by rw [h2 id (by simp)]; exact hb
  have hj' : M' jd = some bj := by rw [h2 jd (by simp)]; exact hj
  have hn' : M' nid = none := h3 _ (List.mem_singleton_self _) (by simp [hnid, hnjd])
  have hxv := hR.eval (x := x) (by rw [h1 x (by simp [Op.operands, Call.operands])]; exact hx)
  have hyv := hR.eval (x := y) (by rw [h1 y (by simp [Op.operands, Call.operands])]; exact hy)
  obtain ⟨info, hi, hisz⟩ := info_of hs
  have hibz : info.zero = some z := by rw [hi] at hz; simpa using hz
  have hiby : info.bytes = by' := by rw [hi] at hby; simpa using hby
  subst hisz
  have hBid := hR.mem id _ hb'
  obtain ⟨us, hul, hus, hrel⟩ := pick_list (o := o) (hR.mem jd bj hj').cells (m * info.size) ho
  obtain ⟨olds, hol, hos, horel⟩ := pick_list (o := o0) hBid.cells (n * info.size) ho0
  have hnl : news.length = m * info.size := by rw [← hnw]; simp; omega
  have hcl : cs.length = n * info.size := by rw [← hcs]; simp; omega
  have hrel' : ∀ (k : Nat) (v u : Value), news[k]? = some v → us[k]? = some u → VR .real (dom M') ρ v u := fun k v u a b => hrel k v u (by rw [hnw]; exact a) b
  have horel' : ∀ (k : Nat) (v u : Value), cs[k]? = some v → olds[k]? = some u → VR .real (dom M') ρ v u := fun k v u a b => horel k v u (by rw [hcs]; exact a) b
  have fresh : ∀ (rc : Array Value) (w' : World), w' = w.drew.alloc (.cells rc e) → (∀ (k : Nat) (u : Value), (olds ++ us)[k]? = some u → rc[k]? = some u) → cs.length + news.length ≤ rc.size →
      ∃ ρ', Rep C ρ' ⟨E', upds M' [(nid, ⟨cs ++ news, true, info.size⟩)]⟩ ac w' ∧ ρ' nid = ⟨w.heap.size, 0, some rc.size, info.size⟩ := by
    rintro rc w' rfl hrc hsz
    obtain ⟨ρ', hR', hρ, _⟩ := (hR.drew).alloc hn' (cells := cs ++ news) (rcells := rc) (elem := e) info.size (by simpa using hsz) (fun k v u a b => by
      rcases Nat.lt_or_ge k cs.length with hk | hk
      · rw [List.getElem?_append_left hk] at a
        have h7 := hrc k _ (by rw [List.getElem?_append_left (by omega)]; exact List.getElem?_eq_getElem (by omega))
        rw [b] at h7; cases h7
        exact horel' k v _ a (List.getElem?_eq_getElem (by omega))
      · rw [List.getElem?_append_right hk] at a
        have hk2 : k - cs.length < news.length := (List.getElem?_eq_some_iff.1 a).1
        have h7 := hrc k _ (by rw [List.getElem?_append_right (by omega)]; exact List.getElem?_eq_getElem (by omega))
        rw [b] at h7; cases h7
        exact hrel' _ v _ a (by rw [hcl, ← hol]; exact List.getElem?_eq_getElem (by omega)))
    exact ⟨ρ', hR', hρ⟩
  have done : ∀ (v' : Value) (w' : World), (Builtin.append_ #[t, t] ty #[ac.eval x, ac.eval y]).run P w = .ok v' w' →
      (∃ ρ', Rep C ρ' ⟨E', upds M' [(nid, ⟨cs ++ news, true, info.size⟩)]⟩ ac w' ∧ VR .real (dom (upds M' [(nid, ⟨cs ++ news, true, info.size⟩)])) ρ' (.slice (some ⟨nid, 0, none⟩) (n + m) 0) v') →
      StepTo P ⟨d, .call ⟨.builtin .append, #[x, y], #[t, t]⟩, ty, ps, af, g⟩ ac w fun u w' => ∃ ρ', Rep C ρ' ⟨E', upds M' [(nid, ⟨cs ++ news, true, info.size⟩)]⟩ ac w' ∧
        VR .real (dom (upds M' [(nid, ⟨cs ++ news, true, info.size⟩)])) ρ' (.slice (some ⟨nid, 0, none⟩) (n + m) 0) u := fun v' w' hrun hR' => by
    unfold StepTo Oper.wp
    rw [run_appendOp ac.eval w hrun]
    exact ⟨v', rfl, hR'⟩
  have hD2 : dom (upds M' [(nid, ⟨cs ++ news, true, info.size⟩)]) nid := keys_dom (by simp [keys])
  have grow_cells : ∀ (q : Nat), ∀ (k' : Nat) (u : Value), (olds ++ us)[k']? = some u → (olds.toArray ++ us.toArray ++ Builtin.zeroCells z.cells q)[k']? = some u := fun q k' u hk => by
    have : k' < (olds ++ us).length := (List.getElem?_eq_some_iff.1 hk).1
    rw [Array.getElem?_append_left (by simpa using this)]
    simpa using hk
  have hneeds : ∀ q, n + m ≤ q → (olds.toArray ++ us.toArray ++ Builtin.zeroCells z.cells (q - (n + m))).size = q * info.size := fun q hq => by
    simp only [Array.size_append, List.size_toArray, size_zeroCells, hzs, hol, hul, ← Nat.add_mul]
    congr 1; omega
  generalize hux : ac.eval x = ux at hxv done
  generalize huy : ac.eval y = uy at hyv done
  unfold tightV at hxv
  cases hxv with
  | flat _ hf => simp [flatV] at hf
  | iface _ _ _ ht => exact absurd rfl ht
  | tight _ _ _ hd =>
    cases hyv with
    | flat _ hf => simp [flatV] at hf
    | nilS => exact absurd rfl hm
    | zeroS => exact absurd rfl hm
    | slice _ _ _ c' hd' g1' g2' =>
      have hfit := growslice_fits (need := n + m) (old := n) (by omega) (by rw [hiby]; exact hlen : (n + m) * info.bytes ≤ 140737488355328)
      have hrun := run_append_grow (P := P) w t ty e info z ht hi hibz ⟨(ρ id).blk, (ρ id).off + o0, none⟩ n n olds (by omega) (fun j v hv => by rw [addr_add]; exact hos j v hv)
        ⟨(ρ jd).blk, (ρ jd).off + o, none⟩ m c' us hul (fun j v hv => by rw [addr_add]; exact hus j v hv) (by omega) (by omega) hfit
      have hge := grownCap_ge w (n + m) n e
      obtain ⟨ρ', h5, h6⟩ := fresh _ _ rfl (grow_cells _) (by rw [hneeds _ hge, hcl, hnl, ← Nat.add_mul]; exact Nat.mul_le_mul_right _ hge)
      refine done _ _ hrun ⟨ρ', h5, ?_⟩
      have := VR.slice (m := .real) (ρ := ρ') nid 0 (n + m) (grownCap w (n + m) n e) hD2 (by simp) (fun _ => ⟨hge, fun L hL => by
        rw [h6] at hL ⊢
        simp only [Option.some.injEq] at hL
        rw [hneeds _ hge] at hL
        simp only; omega⟩)
      rw [h6] at this
      exact this
section
variable {P : Program} {T : Tab} (H : TabOk P T)
variable {ops : Array Oper} {k i : Nat} {os : List Oper} {E : Env} {M : Mem} {D : List Eff → Prop} {K : ASt → Prop}
  {d : Tmp} {ty : TypeId} {ps : String} {af : Array Edge} {g : Option (Nat × Bool)}
include H
theorem AWo.sliceT {t e : TypeId} {x : Operand} {id o n sz : Nat} (hx : aev E x = some (.pointer (some ⟨id, o, none⟩)))
    (ht : T.arr.lookup t = some (n, e)) (hsz : T.sz.lookup e = some sz) (hw : wantA ops E ⟨some d, .slice t x none none none, ty, ps, af, g⟩ = some true) (hd : Nat.blt d k = true)
    (hr : AWo P ops k (i + 1) os ⟨upd E d (tightV id o n), M⟩ (fun es' => D (⟨[id], []⟩ :: es')) K) :
    AWo P ops k i (⟨some d, .slice t x none none none, ty, ps, af, g⟩ :: os) ⟨E, M⟩ D K :=
  AWo.step (FStep.sliceT hx (H.arr t _ _ ht) (H.sz e _ hsz)) hw hd (fun p hp => by simp at hp) hr
theorem AWo.appendX {x y : Operand} {t e : TypeId} {id jd o0 o n m es by' : Nat} {cs news all : List Value} {b bj : Blk} {z : Value} (nid : Nat)
    (hx : aev E x = some (tightV id o0 n)) (hy : aev E y = some (.slice (some ⟨jd, o, none⟩) m 0)) (hb : M id = some b) (hj : M jd = some bj)
    (hcs : (b.cells.drop o0).take (n * es) = cs) (ho0 : o0 + n * es ≤ b.cells.length) (hnw : (bj.cells.drop o).take (m * es) = news) (ho : o + m * es ≤ bj.cells.length) (hm : m ≠ 0) (hid : M nid = none)
    (ht : T.sl.lookup t = some e) (hs : T.sz.lookup e = some es) (h0 : es ≠ 0) (hz : T.zero.lookup e = some z) (hzs : z.cells.size = es) (hby : T.by'.lookup e = some by')
    (hlen : (n + m) * by' ≤ 140737488355328) (hmax : n + m < 9223372036854775808) (hall : cs ++ news = all)
    (hw : wantA ops E ⟨some d, .call ⟨.builtin .append, #[x, y], #[t, t]⟩, ty, ps, af, g⟩ = some true) (hd : Nat.blt d k = true)
    (hr : AWo P ops k (i + 1) os ⟨upd E d (.slice (some ⟨nid, 0, none⟩) (n + m) 0), upd M nid ⟨all, true, es⟩⟩
      (fun es' => D (⟨[id, jd], [(nid, ⟨all, true, es⟩)]⟩ :: es')) K) :
    AWo P ops k i (⟨some d, .call ⟨.builtin .append, #[x, y], #[t, t]⟩, ty, ps, af, g⟩ :: os) ⟨E, M⟩ D K := by
  subst hall
  have h1 : nid ≠ id := fun e => by rw [e, hb] at hid; cases hid
  have h2 : nid ≠ jd := fun e => by rw [e, hj] at hid; cases hid
  refine AWo.step (FStep.appendX nid hx hy hb hj hcs ho0 hnw ho hm h1 h2 (H.sl t _ ht) (H.sz e _ hs) h0 (H.zero e _ hz) hzs (H.by' e _ hby) hlen hmax) hw hd (fun p hp hq => ?_) hr
  simp only [List.mem_cons, List.not_mem_nil, or_false] at hp
  subst hp
  exact hid
end
end Go.Proofs.Ytpahdiljpnfkdaa.Sim
