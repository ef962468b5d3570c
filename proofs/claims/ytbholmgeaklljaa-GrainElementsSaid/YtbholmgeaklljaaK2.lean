/- What the proof stands on, part 2: the walk of each function, and plain laws of numbers. -/
import Derived.Test.YtbholmgeaklljaaK1
import Derived.ArgAppend
import Derived.ChangeSlices
import Derived.WideShapes
import Derived.OpenShut
import Derived.Carry
import Derived.Laws.BytesString
import Derived.KernelRfl
namespace Go.Proofs.Ytbholmgeaklljaa.Sim
open Go Go.RowKit
theorem run_appendOp {P : Program} {x y : Operand} {t : TypeId} {d : Option Tmp} {ty : TypeId} {ps : String} {af : Array Edge} {g : Option (Nat × Bool)} (ev : Operand → Value) (w : World) {v : Value} {w' : World}
    (h : (Builtin.append_ #[t, t] ty #[ev x, ev y]).run P w = .ok v w') : (execOp ev ⟨d, .call ⟨.builtin .append, #[x, y], #[t, t]⟩, ty, ps, af, g⟩).run P w = .ok (.value v) w' := by
  simp [execOp, resolve, invoke, builtin, h]
theorem run_append_nilY {P : Program} {t ty e : TypeId} {sz : Nat} (ht : P.underlying t = some (.slice e)) (hs : (P.info? e).map (·.size) = some sz) (base : Option Addr) (n c : Nat) (h : n ≤ c) (w : World) :
    (Builtin.append_ #[t, t] ty #[.slice base n c, .slice none 0 0]).run P w = .ok (.slice base n c) w := by
  cases base <;> simp [Builtin.append_, run_underlying ht, run_size hs, Builtin.lenOf, h, Builtin.firstCells, storeCells]
theorem run_append_zeroY {P : Program} {t ty e : TypeId} {sz : Nat} (ht : P.underlying t = some (.slice e)) (hs : (P.info? e).map (·.size) = some sz) (base : Option Addr) (n c : Nat) (h : n ≤ c) (b : Addr) (c' : Nat) (w : World) :
    (Builtin.append_ #[t, t] ty #[.slice base n c, .slice (some b) 0 c']).run P w = .ok (.slice base n c) w := by
  cases base <;> simp [Builtin.append_, run_underlying ht, run_size hs, Builtin.lenOf, h, Builtin.firstCells, storeCells, loadCells, loadCellsFrom]
theorem run_append_none0 {P : Program} {t ty e : TypeId} {sz : Nat} (ht : P.underlying t = some (.slice e)) (hs : (P.info? e).map (·.size) = some sz) (a : Addr) (c : Nat) (w : World) :
    (Builtin.append_ #[t, t] ty #[.slice none 0 0, .slice (some a) 0 c]).run P w = .ok (.slice none 0 0) w := by
  simp [Builtin.append_, run_underlying ht, run_size hs, Builtin.lenOf, Builtin.firstCells, loadCells, loadCellsFrom]
theorem Rep.pushAll {C : Ctx} {ρ : Rho} {E : Env} {a : Act} {id L : Nat} (hL : (ρ id).lim = some L) : ∀ (news us : List Value) {M : Mem} {w : World} {b : Blk}, Rep C ρ ⟨E, M⟩ a w → M id = some b → b.rw = true →
    b.cells.length + news.length ≤ L → news.length = us.length → (∀ (k : Nat) (v u : Value), news[k]? = some v → us[k]? = some u → VR .real (dom M) ρ v u) →
    Rep C ρ ⟨E, upd M id ⟨b.cells ++ news, true, b.es⟩⟩ a (w.setCells (ρ id).blk ((ρ id).off + b.cells.length) us)
  | [], us, M, w, b, hR, hb, hr, _, hl, _ => by
    obtain rfl : us = [] := by simpa using hl.symm
    have : (⟨b.cells ++ [], true, b.es⟩ : Blk) = b := by cases b; simp only [List.append_nil] at *; subst hr; rfl
    rw [this, upd_self hb]
    exact hR
  | v :: vs, us, M, w, b, hR, hb, hr, hlen, hl, hrel => by
    obtain ⟨u, us, rfl⟩ : ∃ u r, us = u :: r := by cases us with
      | nil => simp at hl
      | cons u r => exact ⟨u, r, rfl⟩
    simp only [List.length_cons, Nat.add_right_cancel_iff] at hl hlen
    have hR1 := hR.push hb hr hL (by omega) (hrel 0 v u rfl rfl)
    have hdm : ∀ j, dom M j → dom (upd M id ⟨b.cells ++ [v], true, b.es⟩) j := by
      rintro j ⟨bj, hj⟩
      by_cases hji : j = id
      · rw [hji]; exact dom_upd
      · exact ⟨bj, by simp only [upd, hji, if_false]; exact hj⟩
    have := Rep.pushAll hL vs us hR1 (b := ⟨b.cells ++ [v], true, b.es⟩) (by simp only [upd, if_true]) rfl (by simp; omega) hl
      (fun k v' u' h1 h2 => (hrel (k + 1) v' u' (by simpa using h1) (by simpa using h2)).mono hdm (fun _ _ => rfl) fun _ h => h)
    rw [upd_upd] at this
    simp only [List.append_assoc, List.singleton_append, List.length_append, List.length_singleton] at this
    rw [World.setCells, Nat.add_assoc]
    exact this
theorem FStep.append {P : Program} {E : Env} {M : Mem} {d : Option Tmp} {ty : TypeId} {ps : String} {af : Array Edge} {g : Option (Nat × Bool)} {x y : Operand} {t e : TypeId} {id jd o n m es by' : Nat} {cs news : List Value} {bj : Blk} {z : Value} (nid : Nat)
    (hx : aev E x = some (.slice (some ⟨id, 0, none⟩) n 0)) (hy : aev E y = some (.slice (some ⟨jd, o, none⟩) m 0)) (hb : M id = some ⟨cs, true, es⟩) (hj : M jd = some bj)
    (hn : cs.length = n * es) (hnw : (bj.cells.drop o).take (m * es) = news) (ho : o + m * es ≤ bj.cells.length) (_ : jd ≠ id) (hnid : nid ≠ id) (hnjd : nid ≠ jd)
    (ht : P.underlying t = some (.slice e)) (hs : (P.info? e).map (·.size) = some es) (h0 : es ≠ 0) (hz : (P.info? e).map (·.zero) = some (some z)) (hzs : z.cells.size = es) (hby : (P.info? e).map (·.bytes) = some by')
    (hlen : (n + m) * by' ≤ 140737488355328) (hmax : n + m < 9223372036854775808) (hone : news.all (·.oneCell') = true) :
    FStep P ⟨d, .call ⟨.builtin .append, #[x, y], #[t, t]⟩, ty, ps, af, g⟩ E M (.slice (some ⟨nid, 0, none⟩) (n + m) 0) ⟨[id, jd], [(nid, ⟨cs ++ news, true, es⟩), (id, ⟨[], false, es⟩)]⟩ := by
  intro E' M' h1 h2 h3 C ρ ac w hR
  have hb' : M' id = some ⟨cs, true, es⟩ := by rw [h2 id (by simp)]; exact hb
  have hj' : M' jd = some bj := by rw [h2 jd (by simp)]; exact hj
  have hn' : M' nid = none := h3 _ (List.mem_cons_self ..) (by simp [hnid, hnjd])
  have hxv := hR.eval (x := x) (by rw [h1 x (by simp [Op.operands, Call.operands])]; exact hx)
  have hyv := hR.eval (x := y) (by rw [h1 y (by simp [Op.operands, Call.operands])]; exact hy)
  obtain ⟨info, hi, hisz⟩ := info_of hs
  have hibz : info.zero = some z := by rw [hi] at hz; simpa using hz
  have hiby : info.bytes = by' := by rw [hi] at hby; simpa using hby
  subst hisz
  have hBid := hR.mem id _ hb'
  obtain ⟨us, hul, hus, hrel⟩ := pick_list (o := o) (hR.mem jd bj hj').cells (m * info.size) ho
  obtain ⟨olds, hol, hos, horel⟩ := pick_list (o := 0) hBid.cells cs.length (by simp)
  have hnl : news.length = m * info.size := by rw [← hnw]; simp; omega
  have hrel' : ∀ (k : Nat) (v u : Value), news[k]? = some v → us[k]? = some u → VR .real (dom M') ρ v u := fun k v u a b => hrel k v u (by rw [hnw]; exact a) b
  have hu1 : ∀ u ∈ us, u.oneCell' = true := fun u hu => by
    obtain ⟨k, hk, rfl⟩ := List.mem_iff_getElem.1 hu
    have hk2 : k < news.length := by omega
    exact one_rel (hrel' k _ _ (List.getElem?_eq_getElem hk2) (List.getElem?_eq_getElem hk)) (List.all_eq_true.1 hone _ (List.getElem_mem hk2))
  have fresh : ∀ (rc : Array Value) (w' : World), w' = w.drew.alloc (.cells rc e) → (∀ (k : Nat) (u : Value), (olds ++ us)[k]? = some u → rc[k]? = some u) → cs.length + news.length ≤ rc.size →
      ∃ ρ', Rep C ρ' ⟨E', upds M' [(nid, ⟨cs ++ news, true, info.size⟩), (id, ⟨[], false, info.size⟩)]⟩ ac w' ∧ ρ' nid = ⟨w.heap.size, 0, some rc.size, info.size⟩ := by
    rintro rc w' rfl hrc hsz
    have hk := hR.kill hb'
    have hm2 : (upd M' id (⟨[], false, info.size⟩ : Blk)) nid = none := by simp only [upd, hnid, if_false]; exact hn'
    have hdm : ∀ j, dom M' j → dom (upd M' id (⟨[], false, info.size⟩ : Blk)) j := by
      rintro j ⟨bj, hj⟩
      by_cases hji : j = id
      · rw [hji]; exact dom_upd
      · exact ⟨bj, by simp only [upd, hji, if_false]; exact hj⟩
    obtain ⟨ρ', hR', hρ, _⟩ := (hk.drew).alloc hm2 (cells := cs ++ news) (rcells := rc) (elem := e) info.size (by simpa using hsz) (fun k v u a b => by
      have hol' : olds.length = cs.length := hol
      rcases Nat.lt_or_ge k cs.length with hk | hk
      · rw [List.getElem?_append_left hk] at a
        have h7 := hrc k _ (by rw [List.getElem?_append_left (by omega)]; exact List.getElem?_eq_getElem (by omega))
        rw [b] at h7; cases h7
        exact (horel k v _ (by simpa [List.getElem?_take, hk] using a) (List.getElem?_eq_getElem (by omega))).mono hdm (fun _ _ => rfl) fun _ h => h
      · rw [List.getElem?_append_right hk] at a
        have hk2 : k - cs.length < news.length := (List.getElem?_eq_some_iff.1 a).1
        have h7 := hrc k _ (by rw [List.getElem?_append_right (by omega)]; exact List.getElem?_eq_getElem (by omega))
        rw [b] at h7; cases h7
        exact (hrel' _ v _ a (by rw [← hol']; exact List.getElem?_eq_getElem (by omega))).mono hdm (fun _ _ => rfl) fun _ h => h)
    exact ⟨ρ', hR', hρ⟩
  have done : ∀ (v' : Value) (w' : World), (Builtin.append_ #[t, t] ty #[ac.eval x, ac.eval y]).run P w = .ok v' w' →
      (∃ ρ', Rep C ρ' ⟨E', upds M' [(nid, ⟨cs ++ news, true, info.size⟩), (id, ⟨[], false, info.size⟩)]⟩ ac w' ∧ VR .real (dom (upds M' [(nid, ⟨cs ++ news, true, info.size⟩), (id, ⟨[], false, info.size⟩)])) ρ' (.slice (some ⟨nid, 0, none⟩) (n + m) 0) v') →
      StepTo P ⟨d, .call ⟨.builtin .append, #[x, y], #[t, t]⟩, ty, ps, af, g⟩ ac w fun u w' => ∃ ρ', Rep C ρ' ⟨E', upds M' [(nid, ⟨cs ++ news, true, info.size⟩), (id, ⟨[], false, info.size⟩)]⟩ ac w' ∧
        VR .real (dom (upds M' [(nid, ⟨cs ++ news, true, info.size⟩), (id, ⟨[], false, info.size⟩)])) ρ' (.slice (some ⟨nid, 0, none⟩) (n + m) 0) u := fun v' w' hrun hR' => by
    unfold StepTo Oper.wp
    rw [run_appendOp ac.eval w hrun]
    exact ⟨v', rfl, hR'⟩
  have hD2 : dom (upds M' [(nid, ⟨cs ++ news, true, info.size⟩), (id, ⟨[], false, info.size⟩)]) nid := keys_dom (by simp [keys])
  have moved : ∀ (w' : World), Rep C ρ ⟨E', upd M' id ⟨cs ++ news, true, info.size⟩⟩ ac w' → ∃ ρ', Rep C ρ' ⟨E', upds M' [(nid, ⟨cs ++ news, true, info.size⟩), (id, ⟨[], false, info.size⟩)]⟩ ac w' ∧ ρ' nid = ρ id := by
    intro w' hR1
    obtain ⟨ρ', h5, h6, _⟩ := hR1.move (id := id) (nid := nid) (b := ⟨cs ++ news, true, info.size⟩) (by simp only [upd, if_true]) (by simp only [upd, hnid, if_false]; exact hn')
    rw [upd_upd] at h5
    exact ⟨ρ', h5, h6⟩
  have same : news = [] → Rep C ρ ⟨E', upd M' id ⟨cs ++ news, true, info.size⟩⟩ ac w := fun e => by rw [e, List.append_nil, upd_self hb']; exact hR
  have grow_cells : ∀ (k : Nat) (q : Nat), ∀ (k' : Nat) (u : Value), (olds ++ us)[k']? = some u → (olds.toArray ++ us.toArray ++ Builtin.zeroCells z.cells q)[k']? = some u := fun _ q k' u hk => by
    have : k' < (olds ++ us).length := (List.getElem?_eq_some_iff.1 hk).1
    rw [Array.getElem?_append_left (by simpa using this)]
    simpa using hk
  have hneeds : ∀ q, n + m ≤ q → (olds.toArray ++ us.toArray ++ Builtin.zeroCells z.cells (q - (n + m))).size = q * info.size := fun q hq => by
    simp only [Array.size_append, List.size_toArray, size_zeroCells, hzs, hol, hul, hn, ← Nat.add_mul]
    congr 1; omega
  generalize hux : ac.eval x = ux at hxv done
  generalize huy : ac.eval y = uy at hyv done
  cases hxv with
  | flat _ hf => simp [flatV] at hf
  | nilS =>
    have hcs0 : cs = [] := List.length_eq_zero_iff.1 (by rw [hn]; simp)
    subst hcs0
    cases hyv with
    | flat _ hf => simp [flatV] at hf
    | nilS =>
      have hnw0 : news = [] := List.length_eq_zero_iff.1 (by rw [hnl]; simp)
      obtain ⟨ρ', h5, h6⟩ := moved w (same hnw0)
      exact done _ _ (run_append_nilY ht hs _ 0 0 (Nat.le_refl _) w) ⟨ρ', h5, .nilS _ (by simp)⟩
    | zeroS =>
      have hnw0 : news = [] := List.length_eq_zero_iff.1 (by rw [hnl]; simp)
      obtain ⟨ρ', h5, h6⟩ := moved w (same hnw0)
      exact done _ _ (run_append_none0 ht hs _ _ w) ⟨ρ', h5, .nilS _ (by simp)⟩
    | slice _ _ _ c' hd' g1' g2' =>
      by_cases hm0 : m = 0
      · subst hm0
        have hnw0 : news = [] := List.length_eq_zero_iff.1 (by rw [hnl]; simp)
        obtain ⟨ρ', h5, h6⟩ := moved w (same hnw0)
        exact done _ _ (run_append_none0 ht hs _ _ w) ⟨ρ', h5, .nilS _ (by simp)⟩
      · have hfit : m * info.bytes ≤ 281474976710656 := by rw [hiby]; rw [Nat.zero_add] at hlen; omega
        have hrun := run_append_nil (P := P) w t ty e info z ht hi hibz ⟨(ρ jd).blk, (ρ jd).off + o, none⟩ m c' us hul (fun j v hv => by rw [addr_add]; exact hus j v hv) (by omega) (by omega) hfit
        have hge := grownCap_ge w m 0 e
        have ho0 : olds = [] := List.length_eq_zero_iff.1 (by rw [hol]; rfl)
        have hsz : (us.toArray ++ Builtin.zeroCells z.cells (grownCap w m 0 e - m)).size = grownCap w m 0 e * info.size := by
          simp only [Array.size_append, List.size_toArray, size_zeroCells, hzs, hul, ← Nat.add_mul]
          congr 1; omega
        obtain ⟨ρ', h5, h6⟩ := fresh _ _ rfl (fun k u hk => by
          rw [ho0, List.nil_append] at hk
          have : k < us.length := (List.getElem?_eq_some_iff.1 hk).1
          have e1 : (us.toArray ++ Builtin.zeroCells z.cells (grownCap w m 0 e - m))[k]? = us.toArray[k]? := Array.getElem?_append_left (show k < us.toArray.size by rw [List.size_toArray]; exact this)
          rw [e1, List.getElem?_toArray]
          exact hk) (by rw [hsz, hnl]; simp only [List.length_nil, Nat.zero_add]; exact Nat.mul_le_mul_right _ hge)
        refine done _ _ hrun ⟨ρ', h5, ?_⟩
        have := VR.slice (m := .real) (ρ := ρ') nid 0 (0 + m) (grownCap w m 0 e) hD2 (by simp) (fun _ => ⟨by omega, fun L hL => by
          rw [h6] at hL ⊢
          simp only [Option.some.injEq] at hL
          rw [hsz] at hL
          simp only; omega⟩)
        rw [h6, Nat.zero_add] at this
        rw [Nat.zero_add]
        exact this
  | zeroS _ a0 =>
    have hcs0 : cs = [] := List.length_eq_zero_iff.1 (by rw [hn]; simp)
    subst hcs0
    cases hyv with
    | flat _ hf => simp [flatV] at hf
    | nilS =>
      have hnw0 : news = [] := List.length_eq_zero_iff.1 (by rw [hnl]; simp)
      obtain ⟨ρ', h5, h6⟩ := moved w (same hnw0)
      exact done _ _ (run_append_nilY ht hs _ 0 0 (Nat.le_refl _) w) ⟨ρ', h5, .zeroS _ a0 rfl⟩
    | zeroS =>
      have hnw0 : news = [] := List.length_eq_zero_iff.1 (by rw [hnl]; simp)
      obtain ⟨ρ', h5, h6⟩ := moved w (same hnw0)
      exact done _ _ (run_append_zeroY ht hs _ 0 0 (Nat.le_refl _) _ _ w) ⟨ρ', h5, .zeroS _ a0 rfl⟩
    | slice _ _ _ c' hd' g1' g2' =>
      by_cases hm0 : m = 0
      · subst hm0
        have hnw0 : news = [] := List.length_eq_zero_iff.1 (by rw [hnl]; simp)
        obtain ⟨ρ', h5, h6⟩ := moved w (same hnw0)
        exact done _ _ (run_append_zeroY ht hs _ 0 0 (Nat.le_refl _) _ _ w) ⟨ρ', h5, .zeroS _ a0 rfl⟩
      · have ho0 : olds = [] := List.length_eq_zero_iff.1 (by rw [hol]; rfl)
        subst ho0
        have hfit := growslice_fits (need := 0 + m) (old := 0) (by omega) (by rw [hiby]; exact hlen : (0 + m) * info.bytes ≤ 140737488355328)
        have hrun := run_append_grow (P := P) w t ty e info z ht hi hibz a0 0 0 [] (by simp) (fun j v hv => by simp at hv)
          ⟨(ρ jd).blk, (ρ jd).off + o, none⟩ m c' us hul (fun j v hv => by rw [addr_add]; exact hus j v hv) (by omega) (by omega) hfit
        have hge := grownCap_ge w (0 + m) 0 e
        obtain ⟨ρ', h5, h6⟩ := fresh _ _ rfl (grow_cells 0 _) (by rw [hneeds _ hge, hn, hnl, ← Nat.add_mul]; exact Nat.mul_le_mul_right _ hge)
        refine done _ _ hrun ⟨ρ', h5, ?_⟩
        have := VR.slice (m := .real) (ρ := ρ') nid 0 (0 + m) (grownCap w (0 + m) 0 e) hD2 (by simp) (fun _ => ⟨hge, fun L hL => by
          rw [h6] at hL ⊢
          simp only [Option.some.injEq] at hL
          rw [hneeds _ hge] at hL
          simp only; omega⟩)
        rw [h6] at this
        exact this
  | slice _ _ _ c hd g1 g2 =>
    obtain ⟨g3, g4⟩ := g2 rfl
    cases hyv with
    | flat _ hf => simp [flatV] at hf
    | nilS =>
      have hnw0 : news = [] := List.length_eq_zero_iff.1 (by rw [hnl]; simp)
      obtain ⟨ρ', h5, h6⟩ := moved w (same hnw0)
      refine done _ _ (run_append_nilY ht hs _ n c g3 w) ⟨ρ', h5, ?_⟩
      have := VR.slice (m := .real) (ρ := ρ') nid 0 n c hD2 (by simp) (fun _ => ⟨g3, fun L hL => by rw [h6] at hL ⊢; exact g4 L hL⟩)
      rw [h6] at this
      exact this
    | zeroS =>
      have hnw0 : news = [] := List.length_eq_zero_iff.1 (by rw [hnl]; simp)
      obtain ⟨ρ', h5, h6⟩ := moved w (same hnw0)
      refine done _ _ (run_append_zeroY ht hs _ n c g3 _ _ w) ⟨ρ', h5, ?_⟩
      have := VR.slice (m := .real) (ρ := ρ') nid 0 n c hD2 (by simp) (fun _ => ⟨g3, fun L hL => by rw [h6] at hL ⊢; exact g4 L hL⟩)
      rw [h6] at this
      exact this
    | slice _ _ _ c' hd' g1' g2' =>
      by_cases hroom : n + m ≤ c
      · obtain ⟨L, hL, hLl⟩ := hR.lim hb' rfl
        have hes : (ρ id).es = info.size := hBid.es
        have hcL := g4 L hL
        rw [hes] at hcL
        have hnm : n * info.size + m * info.size ≤ c * info.size := by rw [← Nat.add_mul]; exact Nat.mul_le_mul_right _ hroom
        have hW : ∀ j, j < us.length → RwOk ρ M' w id := fun j hj => hBid.rw ⟨rfl, by rw [hL]; simp only [ne_eq, Option.some.injEq]; omega⟩
        have hrun := run_append_room_cells (P := P) w t ty e info ht hi (ρ id).blk ((ρ id).off + 0) n c ⟨(ρ jd).blk, (ρ jd).off + o, none⟩ m c' us hul (fun j v hv => by rw [addr_add]; exact hus j v hv) hu1 hroom
          (fun j hj => by
            obtain ⟨L', hL', hx⟩ := (hW j hj).lim
            rw [hL] at hL'; cases hL'
            obtain ⟨x, hx⟩ := hx (n * info.size + j) (by omega)
            simp only [(hW j hj).off, Nat.zero_add]; rw [hx]; rfl)
          (fun j hj => (hW j hj).soft _)
        have hp := Rep.pushAll hL news us hR hb' rfl (by simp only; omega) (by omega) hrel'
        simp only [hn] at hp
        obtain ⟨ρ', h5, h6⟩ := moved _ hp
        refine done _ _ (by rw [Nat.add_zero] at hrun ⊢; exact hrun) ⟨ρ', h5, ?_⟩
        have := VR.slice (m := .real) (ρ := ρ') nid 0 (n + m) c hD2 (by simp) (fun _ => ⟨hroom, fun L hL => by rw [h6] at hL ⊢; exact g4 L hL⟩)
        rw [h6] at this
        exact this
      · have hfit := growslice_fits (need := n + m) (old := c) (by omega) (by rw [hiby]; exact hlen : (n + m) * info.bytes ≤ 140737488355328)
        have hrun := run_append_grow (P := P) w t ty e info z ht hi hibz ⟨(ρ id).blk, (ρ id).off + 0, none⟩ n c olds (by omega) (fun j v hv => by rw [addr_add]; exact hos j v hv)
          ⟨(ρ jd).blk, (ρ jd).off + o, none⟩ m c' us hul (fun j v hv => by rw [addr_add]; exact hus j v hv) (by omega) (by omega) hfit
        have hge := grownCap_ge w (n + m) c e
        obtain ⟨ρ', h5, h6⟩ := fresh _ _ rfl (grow_cells 0 _) (by rw [hneeds _ hge, hn, hnl, ← Nat.add_mul]; exact Nat.mul_le_mul_right _ hge)
        refine done _ _ hrun ⟨ρ', h5, ?_⟩
        have := VR.slice (m := .real) (ρ := ρ') nid 0 (n + m) (grownCap w (n + m) c e) hD2 (by simp) (fun _ => ⟨hge, fun L hL => by
          rw [h6] at hL ⊢
          simp only [Option.some.injEq] at hL
          rw [hneeds _ hge] at hL
          simp only; omega⟩)
        rw [h6] at this
        exact this
section
variable {P : Program} {T : Tab} (H : TabOk P T)
variable {ops : Array Oper} {k i : Nat} {os : List Oper} {E : Env} {M : Mem} {D : List Eff → Prop} {K : ASt → Prop}
  {d : Tmp} {ty : TypeId} {ps : String} {af : Array Edge} {g : Option (Nat × Bool)}
include H
theorem AWo.append {x y : Operand} {t e : TypeId} {id jd o n m es by' : Nat} {cs news all : List Value} {bj : Blk} {z : Value} (nid : Nat)
    (hx : aev E x = some (.slice (some ⟨id, 0, none⟩) n 0)) (hy : aev E y = some (.slice (some ⟨jd, o, none⟩) m 0)) (hb : M id = some ⟨cs, true, es⟩) (hj : M jd = some bj)
    (hn : cs.length = n * es) (hnw : (bj.cells.drop o).take (m * es) = news) (ho : o + m * es ≤ bj.cells.length) (hne : jd ≠ id) (hid : M nid = none)
    (ht : T.sl.lookup t = some e) (hs : T.sz.lookup e = some es) (h0 : es ≠ 0) (hz : T.zero.lookup e = some z) (hzs : z.cells.size = es) (hby : T.by'.lookup e = some by')
    (hlen : (n + m) * by' ≤ 140737488355328) (hmax : n + m < 9223372036854775808) (hone : news.all (·.oneCell') = true) (hall : cs ++ news = all)
    (hw : wantA ops E ⟨some d, .call ⟨.builtin .append, #[x, y], #[t, t]⟩, ty, ps, af, g⟩ = some true) (hd : Nat.blt d k = true)
    (hr : AWo P ops k (i + 1) os ⟨upd E d (.slice (some ⟨nid, 0, none⟩) (n + m) 0), upd (upd M id ⟨[], false, es⟩) nid ⟨all, true, es⟩⟩
      (fun es' => D (⟨[id, jd], [(nid, ⟨all, true, es⟩), (id, ⟨[], false, es⟩)]⟩ :: es')) K) :
    AWo P ops k i (⟨some d, .call ⟨.builtin .append, #[x, y], #[t, t]⟩, ty, ps, af, g⟩ :: os) ⟨E, M⟩ D K := by
  subst hall
  have h1 : nid ≠ id := fun e => by rw [e, hb] at hid; cases hid
  have h2 : nid ≠ jd := fun e => by rw [e, hj] at hid; cases hid
  refine AWo.step (FStep.append nid hx hy hb hj hn hnw ho hne h1 h2 (H.sl t _ ht) (H.sz e _ hs) h0 (H.zero e _ hz) hzs (H.by' e _ hby) hlen hmax hone) hw hd (fun p hp hq => ?_) hr
  simp only [List.mem_cons, List.not_mem_nil, or_false] at hp
  rcases hp with rfl | rfl
  · exact hid
  · simp at hq
end
end Go.Proofs.Ytbholmgeaklljaa.Sim
namespace Go.Proofs.Ytbholmgeaklljaa.Sim
open Go
theorem AW.move {P : Program} {n m : Nat} {c : Code} {E : Env} {M : Mem} {Q : Exit → ASt → Prop} (id nid t : Nat) {b : Blk} {k o : Nat} (hid : M id = some b) (hn : M nid = none)
    (ht : E t = some (.slice (some ⟨id, o, none⟩) k 0))
    (h : AW P n m c ⟨upd E t (.slice (some ⟨nid, o, none⟩) k 0), upd (upd M id ⟨[], false, b.es⟩) nid b⟩ Q) : AW P n m c ⟨E, M⟩ Q := by
  intro C hC hm ρ a w hR
  obtain ⟨ρ', hR', hρ, hρ'⟩ := hR.move hid hn
  refine h C hC hm ρ' a w ⟨hR'.size, hR'.defers, fun t' v hv => ?_, hR'.mem, hR'.agree, hR'.low, hR'.own, hR'.frame, hR'.im, hR'.imsub, hR'.imnew, hR'.gl⟩
  simp only [upd] at hv
  by_cases htt : t' = t
  · rw [if_pos htt] at hv; cases hv; subst htt
    obtain ⟨u, hu, hr⟩ := hR.env _ _ ht
    refine ⟨u, hu, ?_⟩
    have hd : dom (upd (upd M id (⟨[], false, b.es⟩ : Blk)) nid b) nid := ⟨b, by simp only [upd, if_true]⟩
    cases hr with
    | flat _ hf => simp [flatV] at hf
    | nilS => exact .nilS _ (by simp)
    | zeroS _ a => exact .zeroS _ a rfl
    | slice _ _ _ c hd0 h1 h2 =>
      have := VR.slice (m := .real) (ρ := ρ') nid o k c hd (by simp) (by rw [hρ]; exact h2)
      rw [hρ] at this
      exact this
  · rw [if_neg htt] at hv
    exact hR'.env t' v hv
end Go.Proofs.Ytbholmgeaklljaa.Sim
namespace Go.Proofs.Ytbholmgeaklljaa.Sim
open Go
inductive OptI (E : Env) : Option Operand → Nat → Nat → Prop
  | none {d : Nat} : OptI E none d d
  | some {x : Operand} {k : IntKind} {d n : Nat} (h : aev E x = some (.int k (n : Nat))) : OptI E (some x) d n
section
variable {P : Program} {E : Env} {M : Mem} {d : Option Tmp} {ty : TypeId} {ps : String} {af : Array Edge} {g : Option (Nat × Bool)}
theorem run_bounds {ev : Operand → Value} {lo hi : Option Operand} {l h n c : Nat} (isS : Bool) (hlo : OptI E lo 0 l) (hhi : OptI E hi n h) (hev : ∀ x, (lo = some x ∨ hi = some x) → ∀ v, aev E x = some v → flatV v = true → ev x = v)
    (hlh : l ≤ h) (hhc : h ≤ c) (w : World) : (Instr.sliceBounds isS n c (lo.map ev) (hi.map ev) none).run P w = .ok (l, h, c) w := by
  cases hlo with
  | none =>
    cases hhi with
    | none => simp [Instr.sliceBounds]
    | some hx =>
      have := hev _ (.inr rfl) _ hx rfl
      simp [Instr.sliceBounds, Instr.sliceBound, this, asIntOf, hhc]
  | some hy =>
    have h2 := hev _ (.inl rfl) _ hy rfl
    cases hhi with
    | none =>
      simp [Instr.sliceBounds, Instr.sliceBound, h2, asIntOf, hlh]
    | some hx =>
      have := hev _ (.inr rfl) _ hx rfl
      simp [Instr.sliceBounds, Instr.sliceBound, this, h2, asIntOf, hhc, hlh]
theorem opt_mem {lo hi : Option Operand} {x y : Operand} {t : TypeId} (h : lo = some y ∨ hi = some y) : y ∈ (Op.slice t x lo hi none).operands := by
  rcases h with rfl | rfl <;> simp [Op.operands]
theorem FStep.sliceS {t e : TypeId} {x : Operand} {lo hi : Option Operand} {id o n l h sz : Nat} {b : Blk} (hx : aev E x = some (.slice (some ⟨id, o, none⟩) n 0)) (hlo : OptI E lo 0 l) (hhi : OptI E hi n h)
    (hb : M id = some b) (hs : b.es = sz) (ht : P.underlying t = some (.slice e)) (hsz : (P.info? e).map (·.size) = some sz) (hlh : l ≤ h) (hhn : h ≤ n) (hne : l = 0 ∨ l < h) :
    FStep P ⟨d, .slice t x lo hi none, ty, ps, af, g⟩ E M (.slice (some ⟨id, o + l * sz, none⟩) (h - l) 0) ⟨[id], []⟩ := by
  intro E' M' h1 h2 _ C ρ ac w hR
  have hb' : M' id = some b := by rw [h2 id (by simp)]; exact hb
  have hxv := hR.eval (x := x) (by rw [h1 x (by simp [Op.operands])]; exact hx)
  have hev : ∀ y, (lo = some y ∨ hi = some y) → ∀ v, aev E y = some v → flatV v = true → ac.eval y = v := fun y hy v hv hf =>
    flat_inv (hR.eval (x := y) (by rw [h1 y (opt_mem hy)]; exact hv)) hf
  unfold StepTo Oper.wp
  rcases slice_inv hxv with ⟨c, e1, hc, hD, hlim⟩ | ⟨h0, e1 | ⟨a0, e1⟩⟩
  · have hrun : (execOp ac.eval ⟨d, .slice t x lo hi none, ty, ps, af, g⟩).run P w = .ok (.value (.slice (some (if c = l then ⟨(ρ id).blk, (ρ id).off + o, none⟩ else ⟨(ρ id).blk, (ρ id).off + o + l * sz, none⟩)) (h - l) (c - l))) w := by
      by_cases hcl : c = l
      · simp only [execOp, e1, Instr.sliceAt, Instr.slice, Sem.run_bind, run_underlying ht, Result.andThen_ok, Option.map_none, run_bounds (P := P) true hlo hhi hev hlh (Nat.le_trans hhn hc), run_size hsz, Sem.run_pure, if_pos hcl]
      · simp only [execOp, e1, Instr.sliceAt, Instr.slice, Sem.run_bind, run_underlying ht, Result.andThen_ok, Option.map_none, run_bounds (P := P) true hlo hhi hev hlh (Nat.le_trans hhn hc), run_size hsz, Sem.run_pure, if_neg hcl, Option.map_some, addr_add]
    rw [hrun]
    refine ⟨_, rfl, ρ, hR, ?_⟩
    have hes := (hR.mem id b hb').es
    have h0 : c = l → l = 0 := fun hcl => by rcases hne with h | h <;> omega
    have hw : (if c = l then (⟨(ρ id).blk, (ρ id).off + o, none⟩ : Addr) else ⟨(ρ id).blk, (ρ id).off + o + l * sz, none⟩) = ⟨(ρ id).blk, (ρ id).off + (o + l * sz), none⟩ := by
      by_cases hcl : c = l
      · rw [if_pos hcl, h0 hcl]; simp
      · rw [if_neg hcl, Nat.add_assoc]
    rw [hw]
    refine VR.slice id (o + l * sz) (h - l) (c - l) hD (by simp) (fun _ => ⟨by omega, fun L hL => ?_⟩)
    have := hlim L hL
    rw [hes, hs] at this ⊢
    have e3 : l * sz + (c - l) * sz = c * sz := by rw [← Nat.add_mul]; congr 1; omega
    omega
  · subst h0
    obtain rfl : h = 0 := by omega
    obtain rfl : l = 0 := by omega
    have hrun : (execOp ac.eval ⟨d, .slice t x lo hi none, ty, ps, af, g⟩).run P w = .ok (.value (.slice none 0 0)) w := by
      simp only [execOp, e1, Instr.sliceAt, Instr.slice, Sem.run_bind, run_underlying ht, Result.andThen_ok, Option.map_none, run_bounds (P := P) true hlo hhi hev hlh (Nat.le_refl _), run_size hsz, Sem.run_pure, if_true, Nat.sub_zero]
    rw [hrun]
    exact ⟨_, rfl, ρ, hR, .nilS _ (by simp)⟩
  · subst h0
    obtain rfl : h = 0 := by omega
    obtain rfl : l = 0 := by omega
    have hrun : (execOp ac.eval ⟨d, .slice t x lo hi none, ty, ps, af, g⟩).run P w = .ok (.value (.slice (some a0) 0 0)) w := by
      simp only [execOp, e1, Instr.sliceAt, Instr.slice, Sem.run_bind, run_underlying ht, Result.andThen_ok, Option.map_none, run_bounds (P := P) true hlo hhi hev hlh (Nat.le_refl _), run_size hsz, Sem.run_pure, if_true, Nat.sub_zero]
    rw [hrun]
    exact ⟨_, rfl, ρ, hR, .zeroS _ a0 rfl⟩
theorem FStep.sliceA {t e : TypeId} {x : Operand} {lo hi : Option Operand} {id o n l h sz : Nat} {b : Blk} (hx : aev E x = some (.pointer (some ⟨id, o, none⟩))) (hlo : OptI E lo 0 l) (hhi : OptI E hi n h)
    (hb : M id = some b) (hs : b.es = sz) (ht : P.underlying t = some (.array n e)) (hsz : (P.info? e).map (·.size) = some sz) (hlh : l ≤ h) (hhn : h ≤ n) (hne : l = 0 ∨ l < n) (hroom : o + n * sz ≤ b.cells.length) :
    FStep P ⟨d, .slice t x lo hi none, ty, ps, af, g⟩ E M (.slice (some ⟨id, o + l * sz, none⟩) (h - l) 0) ⟨[id], []⟩ := by
  intro E' M' h1 h2 _ C ρ ac w hR
  have hb' : M' id = some b := by rw [h2 id (by simp)]; exact hb
  obtain ⟨e1, hD⟩ := ptr_inv (hR.eval (x := x) (by rw [h1 x (by simp [Op.operands])]; exact hx))
  have hev : ∀ y, (lo = some y ∨ hi = some y) → ∀ v, aev E y = some v → flatV v = true → ac.eval y = v := fun y hy v hv hf =>
    flat_inv (hR.eval (x := y) (by rw [h1 y (opt_mem hy)]; exact hv)) hf
  unfold StepTo Oper.wp
  have hrun : (execOp ac.eval ⟨d, .slice t x lo hi none, ty, ps, af, g⟩).run P w = .ok (.value (.slice (some ⟨(ρ id).blk, (ρ id).off + (o + l * sz), none⟩) (h - l) (n - l))) w := by
    by_cases hcl : n = l
    · have h0 : l = 0 := by rcases hne with h | h <;> omega
      simp only [execOp, e1, Instr.sliceAt, Instr.sureAddr, Sem.run_bind, run_underlying ht, Result.andThen_ok, Option.map_none, run_bounds (P := P) false hlo hhi hev hlh hhn, run_size hsz, Sem.run_pure, if_pos hcl]
      simp [h0]
    · simp only [execOp, e1, Instr.sliceAt, Instr.sureAddr, Sem.run_bind, run_underlying ht, Result.andThen_ok, Option.map_none, run_bounds (P := P) false hlo hhi hev hlh hhn, run_size hsz, Sem.run_pure, if_neg hcl, addr_add, Nat.add_assoc]
  rw [hrun]
  refine ⟨_, rfl, ρ, hR, VR.slice id (o + l * sz) (h - l) (n - l) hD (by simp) (fun _ => ⟨by omega, fun L hL => ?_⟩)⟩
  have hr := (hR.mem id b hb').room L hL
  rw [(hR.mem id b hb').es, hs]
  have e3 : l * sz + (n - l) * sz = n * sz := by rw [← Nat.add_mul]; congr 1; omega
  omega
theorem FStep.makeSliceC {t e : TypeId} {x y : Operand} {n k sz by' : Nat} {c z : Value} (id : Nat) (hx : aev E x = some (.int .i64 n)) (hy : aev E y = some (.int .i64 k)) (hnk : n ≤ k)
    (ht : P.underlying t = some (.slice e)) (hs : (P.info? e).map (·.size) = some sz) (h0 : sz ≠ 0) (hz : (P.info? e).map (·.zero) = some (some z)) (hzc : z.cells = Array.replicate sz c) (hc : flatV c = true)
    (hby : (P.info? e).map (·.bytes) = some by') (hlen : by' * k ≤ 281474976710656) (hn : k < 9223372036854775808) :
    FStep P ⟨d, .makeSlice t x y, ty, ps, af, g⟩ E M (.slice (some ⟨id, 0, none⟩) n 0) ⟨[], [(id, ⟨List.replicate (n * sz) c, true, sz⟩)]⟩ := by
  intro E' M' h1 _ h3 C ρ ac w hR
  have hid : M' id = none := h3 _ (List.mem_singleton_self _) (by simp)
  have e1 := flat_inv (hR.eval (x := x) (by rw [h1 x (by simp [Op.operands])]; exact hx)) rfl
  have e2 := flat_inv (hR.eval (x := y) (by rw [h1 y (by simp [Op.operands])]; exact hy)) rfl
  obtain ⟨ρ', hR', hρ, _⟩ := hR.alloc hid (cells := List.replicate (n * sz) c) (rcells := Array.replicate (k * sz) c) (elem := e) sz (by simpa using Nat.mul_le_mul_right _ hnk) (fun k y u h1 h2 => by
    have a1 := (List.getElem?_eq_some_iff.1 h1).2
    have a2 := (Array.getElem?_eq_some_iff.1 h2).2
    simp at a1 a2
    rw [← a1, ← a2]
    exact .flat _ hc)
  obtain ⟨info, hi, _⟩ := info_of hs
  have hby2 : info.bytes = by' := by rw [hi] at hby; simpa using hby
  have hwrap : IntKind.i64.wrap (n : Int) = n := IntWalk.i64_in _ (by omega)
  have hwrapk : IntKind.i64.wrap (k : Int) = k := IntWalk.i64_in _ (by omega)
  unfold StepTo Oper.wp
  have hlen' : ¬ (281474976710656 : Int) < (info.bytes : Int) * (k : Int) := by
    rw [hby2]
    have h9 := Int.ofNat_le.mpr hlen
    rw [Int.natCast_mul] at h9
    omega
  have : (execOp ac.eval ⟨d, .makeSlice t x y, ty, ps, af, g⟩).run P w = .ok (.value (.slice (some ⟨w.heap.size, 0, none⟩) n k)) (pushW w (.cells (Array.replicate (k * sz) c) e)) := by
    have hn0 : ¬ (n : Int) < 0 := by omega
    have hk0 : ¬ (k : Int) < 0 := by omega
    have hnk' : ¬ (k : Int) < (n : Int) := by omega
    simp only [execOp, e1, e2, Instr.makeSlice, Sem.run_bind, run_underlying ht, Result.andThen_ok, asInt, asIntOf, Sem.run_pure, typeInfo, hi, run_program, hwrap, hwrapk]
    simp only [hn0, hk0, hnk', decide_false, Bool.or_false, gt_iff_lt, hlen', show (2 : Int) ^ 48 = 281474976710656 from rfl, if_false, Bool.false_eq_true, Sem.run_bind,
      Result.andThen_ok, run_askRoom, Int.toNat_natCast, run_size hs]
    by_cases hz0 : k * sz = 0
    · simp [hz0, newRow, pushW, show Array.range 0 = #[] from rfl]
    · have hm := mod_replicate sz k c (.inr h0)
      rw [Array.size_replicate] at hm
      simp [hz0, run_zero hz, newRow, pushW, hzc, hm]
  rw [this]
  refine ⟨_, rfl, ρ', hR', ?_⟩
  have := VR.slice (m := .real) (ρ := ρ') (D := dom (upds M' [(id, ⟨List.replicate (n * sz) c, true, sz⟩)])) id 0 n k dom_upd (by simp) (fun _ => ⟨hnk, fun L hL => by
    rw [hρ] at hL ⊢
    simp only [Array.size_replicate, Option.some.injEq] at hL
    simp only; omega⟩)
  rw [hρ] at this
  exact this
theorem PureOp.toArr {t e : TypeId} {x : Operand} {id o n k : Nat} (hx : aev E x = some (.slice (some ⟨id, o, none⟩) n 0)) (ht : P.underlying t = some (.array k e)) (hk : k ≤ n) (h0 : n ≠ 0) :
    PureOp P (.sliceToArrayPointer t x) E (.pointer (some ⟨id, o, none⟩)) := fun D ρ ev hev => by
  obtain ⟨c, e1, hc, hD, _⟩ | ⟨h1, _⟩ := slice_inv (hev x (by simp [Op.operands]) _ hx)
  · have hk' : ¬ n < k := by omega
    exact ⟨_, .ptr id o hD, fun _ _ _ _ _ w => by simp [execOp, e1, Instr.arrayAt, run_underlying ht, hk']⟩
  · exact absurd h1 h0
end
theorem oneM {α : Type} {f : α → Value} (hf : ∀ x, (f x).oneCell' = true) (l : List α) : (l.map f).all (·.oneCell') = true := by
  rw [List.all_eq_true]
  intro x hx
  obtain ⟨y, _, rfl⟩ := List.mem_map.1 hx
  exact hf y
theorem OutL.husk {m : Nat} {nids : List Nat} {M : Mem} {n k es : Nat} {b' : Blk} {r : List Blk} (hM : M (hmap m nids k).blk = some b') (he : b'.es = es) (hr : OutL m nids M n (k + 1) r) : OutL m nids M n k (⟨[], false, es⟩ :: r) :=
  ⟨⟨b', hM, by simp, fun x hx => by simp at hx, fun h => by rcases h with h | h; cases h; exact absurd rfl h.2, he, Nat.zero_le _⟩, hr⟩
theorem OutL.part {m : Nat} {nids : List Nat} {M : Mem} {n k : Nat} {c c' : List Value} {rw rw' : Bool} {es : Nat} {r : List Blk} (hM : M (hmap m nids k).blk = some ⟨c', rw', es⟩)
    (hc : c'.take c.length = c) (hf : ∀ x ∈ c, flatV x = true) (hrw : rw = true ∨ (m ≤ k ∧ c ≠ []) → rw' = true) (hl : c.length ≤ c'.length) (hr : OutL m nids M n (k + 1) r) : OutL m nids M n k (⟨c, rw, es⟩ :: r) :=
  ⟨⟨_, hM, by rw [flat_map_ren hf]; exact hc, OkL.flat hf, hrw, rfl, hl⟩, hr⟩
theorem FitL.part {h : Rho} {n : Nat} {M : Mem} {c c' : List Value} {rw' : Bool} {es : Nat} {p : Nat × Nat} {r : List Blk} {g : List (Nat × Nat)} (h1 : M p.1 = some ⟨c', rw', es⟩) (h2 : (c'.drop p.2).take c.length = c)
    (h3 : ∀ x ∈ c, flatV x = true) (h4 : p.2 + c.length ≤ c'.length) (hr : FitL h n M r g) : FitL h n M (⟨c, false, es⟩ :: r) (p :: g) :=
  .cons h1 (by rw [flat_map_ren h3]; exact h2) (OkL.flat h3) h4 rfl (fun e => by cases e) hr
section
variable {P : Program} {T : Tab} (H : TabOk P T)
variable {ops : Array Oper} {k i : Nat} {os : List Oper} {E : Env} {M : Mem} {D : List Eff → Prop} {K : ASt → Prop}
  {d : Tmp} {ty : TypeId} {ps : String} {af : Array Edge} {g : Option (Nat × Bool)}
include H
theorem AWo.sliceS {t e : TypeId} {x : Operand} {lo hi : Option Operand} {id o n l h sz : Nat} {b : Blk} {v : Value} (hx : aev E x = some (.slice (some ⟨id, o, none⟩) n 0)) (hlo : OptI E lo 0 l) (hhi : OptI E hi n h)
    (hb : M id = some b) (hs : b.es = sz) (ht : T.sl.lookup t = some e) (hsz : T.sz.lookup e = some sz) (hlh : l ≤ h) (hhn : h ≤ n) (hne : l = 0 ∨ l < h) (hv : .slice (some ⟨id, o + l * sz, none⟩) (h - l) 0 = v)
    (hw : wantA ops E ⟨some d, .slice t x lo hi none, ty, ps, af, g⟩ = some true) (hd : Nat.blt d k = true)
    (hr : AWo P ops k (i + 1) os ⟨upd E d v, M⟩ (fun es' => D (⟨[id], []⟩ :: es')) K) :
    AWo P ops k i (⟨some d, .slice t x lo hi none, ty, ps, af, g⟩ :: os) ⟨E, M⟩ D K := by
  subst hv
  exact AWo.step (FStep.sliceS hx hlo hhi hb hs (H.sl t _ ht) (H.sz e _ hsz) hlh hhn hne) hw hd (fun p hp => by simp at hp) hr
theorem AWo.sliceA {t e : TypeId} {x : Operand} {lo hi : Option Operand} {id o n l h sz : Nat} {b : Blk} {v : Value} (hx : aev E x = some (.pointer (some ⟨id, o, none⟩))) (hlo : OptI E lo 0 l) (hhi : OptI E hi n h)
    (hb : M id = some b) (hs : b.es = sz) (ht : T.arr.lookup t = some (n, e)) (hsz : T.sz.lookup e = some sz) (hlh : l ≤ h) (hhn : h ≤ n) (hne : l = 0 ∨ l < n) (hroom : o + n * sz ≤ b.cells.length)
    (hv : .slice (some ⟨id, o + l * sz, none⟩) (h - l) 0 = v) (hw : wantA ops E ⟨some d, .slice t x lo hi none, ty, ps, af, g⟩ = some true) (hd : Nat.blt d k = true)
    (hr : AWo P ops k (i + 1) os ⟨upd E d v, M⟩ (fun es' => D (⟨[id], []⟩ :: es')) K) :
    AWo P ops k i (⟨some d, .slice t x lo hi none, ty, ps, af, g⟩ :: os) ⟨E, M⟩ D K := by
  subst hv
  exact AWo.step (FStep.sliceA hx hlo hhi hb hs (H.arr t _ _ ht) (H.sz e _ hsz) hlh hhn hne hroom) hw hd (fun p hp => by simp at hp) hr
theorem AWo.makeSliceC {t e : TypeId} {x y : Operand} {n c' sz by' : Nat} {c z : Value} (id : Nat) (cells : List Value) (hx : aev E x = some (.int .i64 n)) (hy : aev E y = some (.int .i64 c')) (hnk : n ≤ c')
    (ht : T.sl.lookup t = some e) (hs : T.sz.lookup e = some sz) (h0 : sz ≠ 0) (hz : T.zero.lookup e = some z) (hzc : z.cells = Array.replicate sz c) (hc : flatV c = true)
    (hby : T.by'.lookup e = some by') (hlen : by' * c' ≤ 281474976710656) (hn : c' < 9223372036854775808) (hcl : List.replicate (n * sz) c = cells) (hid : M id = none)
    (hw : wantA ops E ⟨some d, .makeSlice t x y, ty, ps, af, g⟩ = some true) (hd : Nat.blt d k = true)
    (hr : AWo P ops k (i + 1) os ⟨upd E d (.slice (some ⟨id, 0, none⟩) n 0), upd M id ⟨cells, true, sz⟩⟩ (fun es' => D (⟨[], [(id, ⟨cells, true, sz⟩)]⟩ :: es')) K) :
    AWo P ops k i (⟨some d, .makeSlice t x y, ty, ps, af, g⟩ :: os) ⟨E, M⟩ D K := by
  subst hcl
  exact AWo.step (FStep.makeSliceC id hx hy hnk (H.sl t _ ht) (H.sz e _ hs) h0 (H.zero e _ hz) hzc hc (H.by' e _ hby) hlen hn) hw hd (fun p hp _ => by simp at hp; subst hp; exact hid) hr
theorem AWo.storeAllN {t : TypeId} {a x : Operand} {id sz : Nat} {cells : List Value} {es : Nat} {vs : List Value} (ha : aev E a = some (.pointer (some ⟨id, 0, none⟩))) (hx : aev E x = some (.agg vs.toArray))
    (hb : M id = some ⟨cells, true, es⟩) (hs : T.sz.lookup t = some sz) (hl : vs.length = sz) (ho : cells.length = sz) (hc : vs.all (·.oneCell') = true)
    (hw : wantA ops E ⟨none, .store t a x, ty, ps, af, g⟩ = some true)
    (hr' : AWo P ops k (i + 1) os ⟨E, upd M id ⟨vs, true, es⟩⟩ (fun es' => D (⟨[id], [(id, ⟨vs, true, es⟩)]⟩ :: es')) K) :
    AWo P ops k i (⟨none, .store t a x, ty, ps, af, g⟩ :: os) ⟨E, M⟩ D K :=
  AWo.storeAll H ha hx hb (by rw [hl]; exact hs) (by omega) hc hw hr'
theorem PureOp.buildArr {t e : TypeId} {n sz : Nat} {parts : Array (Nat × Operand)} {z : Value} (vals : List (Nat × Value)) {out : List Value} (ht : T.arr.lookup t = some (n, e)) (hs : T.sz.lookup e = some sz)
    (hz : T.zero.lookup t = some z) (hzf : z.cells.toList.all flatV = true) (hp : parts.toList.map (fun p => (p.1, aev E p.2)) = vals.map (fun p => (p.1, some p.2)))
    (hf : fillL (fun i => some (i * sz, sz)) z.cells.toList vals = some out) : PureOp P (.build t parts) E (.agg out.toArray) := fun D ρ ev hx => by
  obtain ⟨out', h1, h2⟩ := fill_rel (D := D) (ρ := ρ) (ev := ev) parts.toList vals (rs := z.cells) (fun p hp v' hv => hx p.2 (by simp only [Op.operands, List.mem_toArray, List.mem_map]; exact ⟨p, hp, rfl⟩) v' hv) hp
    ⟨rfl, fun k x y h1 h2 => by rw [h1] at h2; cases h2; exact .flat _ (List.all_eq_true.1 hzf x (List.mem_of_getElem? h1))⟩ hf
  refine ⟨.agg out', .agg _ _ (by simpa using h2.1) fun k x y h3 h4 => h2.2 k x y (by simpa using h3) (by simpa using h4), fun _ _ _ _ _ w => ?_⟩
  have hpt : (parts.map fun p => (p.1, ev p.2)).toList = parts.toList.map fun p => (p.1, ev p.2) := by simp
  have h6 : Instr.fill (fun i => some (i * sz, sz)) z.cells (parts.map fun p => (p.1, ev p.2)).toList = some out' := by rw [hpt]; exact h1
  simp only [execOp, Instr.build, Sem.run_bind, run_zero (H.zero t _ hz), Result.andThen_ok, run_underlying (H.arr t _ _ ht), run_size (H.sz e _ hs), h6]
  simp
theorem PureOp.toArrT {t e : TypeId} {x : Operand} {id o n k : Nat} (hx : aev E x = some (.slice (some ⟨id, o, none⟩) n 0)) (ht : T.arr.lookup t = some (k, e)) (hk : k ≤ n) (h0 : n ≠ 0) :
    PureOp P (.sliceToArrayPointer t x) E (.pointer (some ⟨id, o, none⟩)) := PureOp.toArr hx (H.arr t _ _ ht) hk h0
end
end Go.Proofs.Ytbholmgeaklljaa.Sim
namespace Go.Proofs.Ytbholmgeaklljaa.Sim
open Go Go.RowKit Go.ChangeShapes Go.WideShapes
structure ROk (W : World) (p : Pl) (cells : List Value) (es : Nat) : Prop where
  lim : p.lim = none
  es : p.es = es
  at' : ∀ (i : Nat) (v : Value), cells[i]? = some v → W.cell? ⟨p.blk, p.off + i, none⟩ = some v
  flat : ∀ v ∈ cells, flatV v = true
theorem cell?_lt {W : World} {a : Addr} {v : Value} (h : W.cell? a = some v) : a.block < W.heap.size := by
  unfold World.cell? at h
  cases hb : W.heap[a.block]? with
  | none => rw [hb] at h; cases h
  | some o => exact (Array.getElem?_eq_some_iff.1 hb).1
theorem MemOk.ro {W : World} {ps : List Pl} {M0 : List Blk} (h : ∀ (k : Nat) (b : Blk), M0[k]? = some b → b.rw = false ∧ ∃ p, ps[k]? = some p ∧ ROk W p b.cells b.es) :
    MemOk ⟨fun k => (ps[k]?).getD ⟨0, 0, none, 1⟩, []⟩ (memL M0) W := by
  intro i b hb
  obtain ⟨hrw, p, hp, hk⟩ := h i b hb
  have e : (⟨fun k => (ps[k]?).getD ⟨0, 0, none, 1⟩, []⟩ : Rho) i = p := by simp only [hp, Option.getD_some]
  refine ⟨fun hs => ?_, fun k v hv => ?_, fun hr => ?_, ?_, fun L hL => ?_⟩
  · rw [e]
    rcases hs with hs | hs
    · have := hs.1; rw [hrw] at this; cases this
    · obtain ⟨v, hv⟩ : ∃ v, b.cells[0]? = some v := by
        cases hc : b.cells with
        | nil => exact absurd hc hs
        | cons x r => exact ⟨x, rfl⟩
      exact cell?_lt (hk.at' 0 v hv)
  · exact ⟨v, by rw [e]; exact hk.at' k v hv, .flat v (hk.flat v (List.mem_of_getElem? hv))⟩
  · have := hr.1; rw [hrw] at this; cases this
  · rw [e]; exact hk.es
  · rw [e, hk.lim] at hL; cases hL
def SlArg (p : Pl) (n : Nat) (u : Value) : Prop := (∃ c, u = .slice (some ⟨p.blk, p.off, none⟩) n c ∧ n ≤ c) ∨ (n = 0 ∧ u = .slice none 0 0)
inductive LawArgs (ps : List Pl) : List Value → List Value → Prop
  | nil : LawArgs ps [] []
  | pure {v : Value} {vs us : List Value} (h : pureV v = true) (hr : LawArgs ps vs us) : LawArgs ps (v :: vs) (v :: us)
  | slice {k n : Nat} {p : Pl} {u : Value} {vs us : List Value} (hk : ps[k]? = some p) (hl : p.lim = none) (h : SlArg p n u) (hr : LawArgs ps vs us) : LawArgs ps (.slice (some ⟨k, 0, none⟩) n 0 :: vs) (u :: us)
theorem LawArgs.rel {ps : List Pl} {vs us : List Value} (h : LawArgs ps vs us) {D : Nat → Prop} (hD : ∀ k, k < ps.length → D k) :
    vs.length = us.length ∧ ∀ (k : Nat) (v u : Value), vs[k]? = some v → us[k]? = some u → VR .real D ⟨fun k => (ps[k]?).getD ⟨0, 0, none, 1⟩, []⟩ v u := by
  induction h with
  | nil => exact ⟨rfl, fun k v u h => by simp at h⟩
  | pure h _ ih =>
    refine ⟨by simp [ih.1], fun k v u h1 h2 => ?_⟩
    cases k with
    | zero => simp at h1 h2; subst h1; subst h2; exact .pure h
    | succ k => exact ih.2 k v u (by simpa using h1) (by simpa using h2)
  | @slice k0 n p u vs us hk hl h _ ih =>
    refine ⟨by simp [ih.1], fun k v u h1 h2 => ?_⟩
    cases k with
    | zero =>
      simp at h1 h2; subst h1; subst h2
      rcases h with ⟨c, rfl, hc⟩ | ⟨rfl, rfl⟩
      · have := VR.slice (m := .real) (ρ := ⟨fun k => (ps[k]?).getD ⟨0, 0, none, 1⟩, []⟩) (D := D) k0 0 n c (hD _ (List.getElem?_eq_some_iff.1 hk).1) (by simp) (fun _ => ⟨hc, fun L hL => by simp only [hk, Option.getD_some, hl] at hL; cases hL⟩)
        simpa only [hk, Option.getD_some, Nat.add_zero] using this
      · exact .nilS _ (by simp)
    | succ k => exact ih.2 k v u (by simpa using h1) (by simpa using h2)
theorem GC.law {P : Program} {f : FuncId} {args : List Value} {M0 Mo : List Blk} (S : GC P f args M0 [.bool true] Mo) {W : World} (ps : List Pl) (hps : ps.length = M0.length)
    (hm : ∀ (k : Nat) (b : Blk), M0[k]? = some b → b.rw = false ∧ ∃ p, ps[k]? = some p ∧ ROk W p b.cells b.es) {rargs : List Value} (ha : LawArgs ps args rargs) (hgl : ∀ d ∈ GLB, d ∈ ([] : List Imm) := by exact fun d hd => absurd hd List.not_mem_nil) :
    Calls P f rargs.toArray W fun e W' => e = .returned (.bool true) ∧ Below W.heap.size W W' := by
  have hD : ∀ k, k < ps.length → dom (memL M0) k := fun k hk => dom_memL.2 (by omega)
  obtain ⟨h1, h2⟩ := ha.rel hD
  exact Ctr.law S (fun b hb => by obtain ⟨k, hk⟩ := List.mem_iff_getElem?.1 hb; exact (hm k b hk).1) (MemOk.ro hm) (ImOk.nil rfl) hgl h1 h2
end Go.Proofs.Ytbholmgeaklljaa.Sim
namespace Go.Proofs.Ytbholmgeaklljaa.Sim
open Go
theorem agg_inv {D : Nat → Prop} {ρ : Rho} {cs : Array Value} {u : Value} (h : VR .real D ρ (.agg cs) u) : ∃ ys, u = .agg ys ∧ cs.size = ys.size ∧ ∀ (k : Nat) (x y : Value), cs[k]? = some x → ys[k]? = some y → VR .real D ρ x y := by
  cases h with
  | flat _ hf => simp [flatV] at hf
  | agg _ ys hs h => exact ⟨ys, rfl, hs, h⟩
section
variable {P : Program} {T : Tab} (H : TabOk P T) {E : Env}
include H
theorem TabOk.isAgg {t : TypeId} {b : Bool} (ht : T.agg.lookup t = some b) (w : World) : (Go.isAgg t).run P w = .ok b w := by
  rw [run_agg (H.agg t _ ht).1, (H.agg t _ ht).2]
theorem PureOp.idxV {x ix : Operand} {t e : TypeId} {n j : Nat} {cs : Array Value} {v : Value} {kd : IntKind} (hx : aev E x = some (.agg cs)) (hi : aev E ix = some (.int kd (j : Nat))) (ht : T.arr.lookup t = some (n, e))
    (hs : T.sz.lookup e = some 1) (ha : T.agg.lookup e = some false) (hj : j < n) (hv : cs[j]? = some v) : PureOp P (.index t x ix) E v := fun D ρ ev hev => by
  obtain ⟨ys, e1, hsz, hrel⟩ := agg_inv (hev x (by simp [Op.operands]) _ hx)
  have e2 := flat_inv (hev ix (by simp [Op.operands]) _ hi) rfl
  have hlt : j < cs.size := get_lt hv
  obtain ⟨y, hy⟩ := exists_get hlt hsz
  refine ⟨y, hrel j v y hv hy, fun _ _ _ _ _ w => ?_⟩
  simp [execOp, e1, e2, Instr.index, asIntOf, run_underlying (H.arr t _ _ ht), hj, run_size (H.sz e _ hs), part, TabOk.isAgg H ha, hy]
theorem PureOp.idxVM {α : Type} {f : α → Value} {l : List α} (dflt : α) {x ix : Operand} {t e : TypeId} {n j : Nat} {kd : IntKind} (hx : aev E x = some (.agg (l.map f).toArray)) (hi : aev E ix = some (.int kd (j : Nat))) (ht : T.arr.lookup t = some (n, e))
    (hs : T.sz.lookup e = some 1) (ha : T.agg.lookup e = some false) (hj : j < n) (hl : l.length = n) : PureOp P (.index t x ix) E (f (l.getD j dflt)) :=
  PureOp.idxV H hx hi ht hs ha hj (by rw [List.getElem?_toArray]; exact getM dflt (by omega))
omit H in
theorem PureOp.negU {x : Operand} {t : TypeId} {k : IntKind} {a : Nat} (m : Nat) (hx : aev E x = some (vi k a)) (hs : k.signed = false) (hm : 2 ^ k.bits = m) (ha : a ≤ m) : PureOp P (.unOp .neg t x) E (vi k ((m - a) % m)) :=
  (PureOp.neg hx).mono (by
    simp only [vi, Value.int.injEq, true_and]
    rw [← wrap_uns hs hm]
    subst hm
    simp only [IntKind.wrap, hs, Bool.false_and, Bool.false_eq_true, if_false]
    rw [Int.natCast_sub ha]
    have e : (((2 ^ k.bits : Nat) : Int) - a) = (0 - a) + (2 ^ k.bits : Int) := by simp; omega
    rw [e, Int.add_emod_right])
end
end Go.Proofs.Ytbholmgeaklljaa.Sim
namespace Go.Proofs.Ytbholmgeaklljaa.Sim
open Go
def vp (r : Nat) : Value := .int .i64 ((r : Int) - 1)
theorem vp_succ (q : Nat) : vp (q + 1) = vi .i64 q := by simp only [vp, vi]; congr 1; omega
section
variable {P : Program} {E : Env} {t t' : TypeId} {x y : Operand}
theorem PureOp.geP {r : Nat} (h1 : aev E x = some (vp r)) (h2 : aev E y = some (.int .i64 0)) : PureOp P (.binOp .geq t x y t') E (.bool (decide (0 < r))) :=
  PureOp.bin h1 h2 (by simp only [evalBin, Option.some.injEq, Value.bool.injEq]; rw [Bool.eq_iff_iff]; simp; omega)
theorem PureOp.subP {a : Nat} (h1 : aev E x = some (vi .i64 a)) (h2 : aev E y = some (.int .i64 1)) (h : a < 9223372036854775808) : PureOp P (.binOp .sub t x y t') E (vp a) :=
  PureOp.bin h1 h2 (by simp only [evalBin, vp]; rw [IntWalk.i64_in _ (by omega)])
end
end Go.Proofs.Ytbholmgeaklljaa.Sim
namespace Go.Proofs.Ytbholmgeaklljaa.Sim
open Go Go.RowKit Go.ChangeShapes Go.WideShapes
def okI (ids : List Nat) : Value → Bool
  | .pointer (some ⟨i, _, none⟩) => ids.contains i
  | .slice (some ⟨i, _, none⟩) _ 0 => ids.contains i
  | v => flatV v
theorem okI_rel {m : Md} (hm : m ≠ .real) {D : Nat → Prop} {h : Rho} {ids : List Nat} {v : Value} (hv : okI ids v = true) (hD : ∀ i ∈ ids, D i) : VR m D h v (ren1 h v) := by
  unfold okI at hv
  split at hv
  · exact .ptr _ _ (hD _ (List.contains_iff_mem.1 hv))
  · exact .slice _ _ _ 0 (hD _ (List.contains_iff_mem.1 hv)) (fun _ => rfl) (fun e => absurd e hm)
  · rw [flat_ren1 hv]; exact .flat _ hv
theorem dom_all {N : Mem} {ids : List Nat} (h : (ids.all fun i => (N i).isSome) = true) : ∀ i ∈ ids, dom N i := fun i hi => by
  have := List.all_eq_true.1 h i hi
  exact Option.isSome_iff_exists.1 this
theorem WkM.ren {Dm : Nat → Prop} {fm : List (Nat × Nat)} {M N : Mem} {i : Nat} {cells c' : List Value} {rw rw' : Bool} {es : Nat} (ids : List Nat) (h1 : M ((fm.lookup i).getD i) = some ⟨c', rw', es⟩) (hc : cells.map (ren1 (idm fm)) = c')
    (hok : cells.all (okI ids) = true) (hD : ∀ i ∈ ids, Dm i) (h3 : rw = true → rw' = true) (h : WkM Dm fm M N) : WkM Dm fm M (Sim.upd N i ⟨cells, rw, es⟩) := by
  subst hc
  exact WkM.upd h1 (fun c x hx => ⟨ren1 (idm fm) x, by rw [List.getElem?_map, hx]; rfl, okI_rel (by simp) (List.all_eq_true.1 hok x (List.mem_of_getElem? hx)) hD⟩) h3 rfl (by simp) h
end Go.Proofs.Ytbholmgeaklljaa.Sim
namespace Go.Proofs.Ytbholmgeaklljaa.Sim
open Go
def bstr (l : List Nat) : ByteArray := (l.map fun (n : Nat) => (n : Int)).foldl (fun r n => r.push (UInt8.ofNat n.toNat)) ByteArray.empty
section
variable {P : Program} {E : Env} {M : Mem} {d : Option Tmp} {ty : TypeId} {ps : String} {af : Array Edge} {g : Option (Nat × Bool)}
theorem FStep.bytesStr {t s e : TypeId} {x : Operand} {id n : Nat} {b : Blk} {l : List Nat} (hx : aev E x = some (.slice (some ⟨id, 0, none⟩) n 0)) (hb : M id = some b)
    (hc : b.cells.take n = l.map (vi .u8)) (hn : l.length = n) (ht : P.underlying t = some (.slice e)) (he : P.underlying e = some (.int .u8)) (hs : P.underlying s = some .string) :
    FStep P ⟨d, .convert t s x, ty, ps, af, g⟩ E M (.string (bstr l)) ⟨[id], []⟩ := by
  intro E' M' h1 h2 _ C ρ ac w hR
  have hb' : M' id = some b := by rw [h2 id (by simp)]; exact hb
  have hxv := hR.eval (x := x) (by rw [h1 x (by simp [Op.operands])]; exact hx)
  have key : (execOp ac.eval ⟨d, .convert t s x, ty, ps, af, g⟩).run P w = .ok (.value (.string (bstr l))) w := by
    rcases slice_inv hxv with ⟨c, hu, _⟩ | ⟨h0, hu | ⟨a0, hu⟩⟩
    · have hle : 0 + n ≤ b.cells.length := by
        have := congrArg List.length hc
        rw [List.length_take, List.length_map, hn] at this
        omega
      obtain ⟨us, hul, hus, hrel⟩ := pick_list (o := 0) (hR.mem id b hb').cells n hle
      have hul2 : us = l.map (vi .u8) := by
        refine List.ext_getElem? fun j => ?_
        rcases Nat.lt_or_ge j n with hj | hj
        · have e1 : us[j]? = some us[j] := List.getElem?_eq_getElem (by omega)
          have e2 : ((b.cells.drop 0).take n)[j]? = some (vi .u8 l[j]) := by
            rw [List.drop_zero, hc, List.getElem?_map, List.getElem?_eq_getElem (by omega)]; rfl
          have := flat_inv (hrel j _ _ e2 e1) rfl
          rw [e1, this, List.getElem?_map, List.getElem?_eq_getElem (by omega)]
          rfl
        · rw [List.getElem?_eq_none (by omega), List.getElem?_eq_none (by simp; omega)]
      have hrun : (loadCells ⟨(ρ id).blk, (ρ id).off + 0, none⟩ n).run P w = .ok ((l.map fun (n : Nat) => (n : Int)).map (Value.int .u8)).toArray w := by
        rw [List.map_map, show (Value.int .u8 ∘ fun (n : Nat) => (n : Int)) = vi .u8 from rfl, ← hul2]
        have := run_loadCells_list (P := P) w ⟨(ρ id).blk, (ρ id).off + 0, none⟩ us fun j v hv => by rw [addr_add]; exact hus j v hv
        rw [hul] at this
        exact this
      have := run_bytesToString (P := P) w ⟨(ρ id).blk, (ρ id).off + 0, none⟩ n c _ hrun
      simp only [execOp, hu, Sem.run_bind, run_convert_bytes_string w t s e _ n c ht he hs, this]
      rfl
    · have hl0 : l = [] := by
        cases l with
        | nil => rfl
        | cons a r => simp at hn; omega
      have h3 : (Conv.bytesToString (.slice none 0 0)).run P w = .ok (.string (bstr l)) w := by
        rw [hl0]; rfl
      simp only [execOp, hu, Sem.run_bind, run_convert_bytes_string w t s e _ 0 0 ht he hs, h3]
      rfl
    · have hl0 : l = [] := by
        cases l with
        | nil => rfl
        | cons a r => simp at hn; omega
      have h3 := run_bytesToString (P := P) w a0 0 0 [] (run_loadCells_list (P := P) w a0 [] (fun j v hv => by simp at hv))
      have h4 : (Conv.bytesToString (.slice (some a0) 0 0)).run P w = .ok (.string (bstr l)) w := by
        rw [hl0, h3]; rfl
      simp only [execOp, hu, Sem.run_bind, run_convert_bytes_string w t s e _ 0 0 ht he hs, h4]
      rfl
  unfold StepTo Oper.wp
  rw [key]
  exact ⟨_, rfl, ρ, hR, .flat _ rfl⟩
end
section
variable {P : Program} {T : Tab} (H : TabOk P T) {E : Env} {M : Mem} {n' i : Nat} {d : Tmp} {ty : TypeId} {ps : String} {af : Array Edge} {g : Option (Nat × Bool)} {ops : Array Oper} {os : List Oper} {D : List Eff → Prop} {K : ASt → Prop}
include H
theorem AWo.bytesStr {t s e : TypeId} {x : Operand} {id n : Nat} {b : Blk} (l : List Nat) (hx : aev E x = some (.slice (some ⟨id, 0, none⟩) n 0)) (hb : M id = some b)
    (hc : b.cells.take n = l.map (vi .u8)) (hn : l.length = n) (ht : T.sl.lookup t = some e) (he : P.underlying e = some (.int .u8)) (hs : P.underlying s = some .string)
    (hw : wantA ops E ⟨some d, .convert t s x, ty, ps, af, g⟩ = some true) (hd : Nat.blt d n' = true)
    (hr : AWo P ops n' (i + 1) os ⟨upd E d (.string (bstr l)), M⟩ (fun es => D (⟨[id], []⟩ :: es)) K) :
    AWo P ops n' i (⟨some d, .convert t s x, ty, ps, af, g⟩ :: os) ⟨E, M⟩ D K :=
  AWo.step (FStep.bytesStr hx hb hc hn (H.sl t _ ht) he hs) hw hd (fun p hp => by cases hp) hr
end
theorem PureOp.sameStr {P : Program} {E : Env} {t t' : TypeId} {x y : Operand} {a : ByteArray} (h1 : aev E x = some (.string a)) (h2 : aev E y = some (.string a)) : PureOp P (.binOp .eql t x y t') E (.bool true) :=
  PureOp.eqlStr h1 h2 (fun w => by simp [Op.stringOp]) rfl
end Go.Proofs.Ytbholmgeaklljaa.Sim
namespace Go.Proofs.Ytbholmgeaklljaa.Sim
open Go
def clo1 (v : Value) : Bool := flatV v || isDeep v
def cloV : Value → Bool
  | .agg cs => cs.toList.all clo1
  | v => clo1 v
theorem clo1_rel {D D' : Nat → Prop} {ρ : Rho} {v u : Value} (hc : clo1 v = true) (h : VR .real D ρ v u) : VR .real D' ρ v u := by
  simp only [clo1, Bool.or_eq_true] at hc
  rcases hc with hc | hc
  · rw [flat_inv h hc]; exact .flat v hc
  · obtain ⟨n, es, cs, rfl⟩ := isDeep_inv hc
    cases h with
    | flat _ hf => simp [flatV] at hf
    | iface _ _ _ ht => exact absurd rfl ht
    | deepA _ _ _ hm => exact absurd rfl hm
    | deepR _ _ c o _ d hm hd hn hcs ho hc => exact .deepR n es c o cs d rfl hd hn hcs ho hc
    | deepN => exact .deepN es (by simp)
    | deepE _ a c _ ha => exact .deepE es a c rfl ha
theorem clo_rel {D D' : Nat → Prop} {ρ : Rho} {v u : Value} (hc : cloV v = true) (h : VR .real D ρ v u) : VR .real D' ρ v u := by
  unfold cloV at hc
  split at hc
  · rename_i cs
    rw [List.all_eq_true] at hc
    cases h with
    | flat _ hf => simp [flatV] at hf
    | agg _ ys hs hh => exact .agg cs ys hs fun k x y hx hy => clo1_rel (hc x (Array.mem_toList_iff.2 (Array.mem_of_getElem? hx))) (hh k x y hx hy)
  · exact clo1_rel hc h
theorem clo1_refl {m : Md} (hm : m ≠ .real) {D : Nat → Prop} {h : Rho} {v : Value} (hc : clo1 v = true) : VR m D h v v := by
  simp only [clo1, Bool.or_eq_true] at hc
  rcases hc with hc | hc
  · exact .flat v hc
  · exact deep_rel hm hc
theorem clo_refl {m : Md} (hm : m ≠ .real) {D : Nat → Prop} {h : Rho} {v : Value} (hc : cloV v = true) : VR m D h v v := by
  unfold cloV at hc
  split at hc
  · rename_i cs
    rw [List.all_eq_true] at hc
    refine .agg cs cs rfl fun k x y hx hy => ?_
    rw [hx] at hy; cases hy
    exact clo1_refl hm (hc x (Array.mem_toList_iff.2 (Array.mem_of_getElem? hx)))
  · exact clo1_refl hm hc
theorem clo1_ren1 {h : Rho} {v : Value} (hc : clo1 v = true) : ren1 h v = v := by
  simp only [clo1, Bool.or_eq_true] at hc
  rcases hc with hc | hc
  · exact flat_ren1 hc
  · exact deep_ren1 hc
theorem clo1_ok1 {n : Nat} {v : Value} (hc : clo1 v = true) : ok1 n v = true := by
  simp only [clo1, Bool.or_eq_true] at hc
  rcases hc with hc | hc
  · exact flat_ok1 hc
  · obtain ⟨_, _, _, rfl⟩ := isDeep_inv hc; rfl
theorem clo_ren {h : Rho} {v : Value} (hc : cloV v = true) : ren h v = v := by
  unfold cloV at hc
  split at hc
  · rename_i cs
    rw [List.all_eq_true] at hc
    simp only [ren]
    congr 1
    apply Array.ext'
    show cs.toList.map (ren1 h) = cs.toList
    conv => rhs; rw [← List.map_id cs.toList]
    exact List.map_congr_left fun x hx => clo1_ren1 (hc x hx)
  · simp only [clo1, Bool.or_eq_true] at hc
    rcases hc with hc | hc
    · exact flat_ren hc
    · exact deep_ren hc
theorem clo_okV {n : Nat} {v : Value} (hc : cloV v = true) : okV n v = true := by
  unfold cloV at hc
  split at hc
  · simp only [okV, List.all_eq_true] at hc ⊢; exact fun x hx => clo1_ok1 (hc x hx)
  · simp only [clo1, Bool.or_eq_true] at hc
    rcases hc with hc | hc
    · exact flat_okV hc
    · exact deep_okV hc
theorem cloM {α : Type} {f : α → Value} {l : List α} (hf : ∀ x, cloV (f x) = true) : ∀ x ∈ l.map f, cloV x = true := by
  intro x hx
  obtain ⟨y, _, rfl⟩ := List.mem_map.1 hx
  exact hf y
theorem clo_map_ren {h : Rho} {l : List Value} (hl : ∀ x ∈ l, cloV x = true) : l.map (ren h) = l := by
  conv => rhs; rw [← List.map_id l]
  exact List.map_congr_left fun x hx => clo_ren (hl x hx)
theorem OkL.clo {n : Nat} {l : List Value} (h : ∀ x ∈ l, cloV x = true) : OkL n l := fun x hx => clo_okV (h x hx)
theorem WkM.clo {Dm : Nat → Prop} {fm : List (Nat × Nat)} {M N : Mem} {i : Nat} {cells : List Value} {rw rw' : Bool} {es : Nat} (h1 : M ((fm.lookup i).getD i) = some ⟨cells, rw', es⟩)
    (hf : ∀ v ∈ cells, cloV v = true) (h3 : rw = true → rw' = true) (h : WkM Dm fm M N) : WkM Dm fm M (Sim.upd N i ⟨cells, rw, es⟩) :=
  WkM.upd h1 (fun _ x hx => ⟨x, hx, clo_refl (by simp) (hf x (List.mem_of_getElem? hx))⟩) h3 rfl (Nat.le_refl _) h
theorem WkM.cloM {α : Type} {f : α → Value} {l l' : List α} {Dm : Nat → Prop} {fm : List (Nat × Nat)} {M N : Mem} {i : Nat} {rw rw' : Bool} {es : Nat} (h1 : M ((fm.lookup i).getD i) = some ⟨l'.map f, rw', es⟩)
    (he : l = l') (hf : ∀ x, cloV (f x) = true) (h3 : rw = true → rw' = true) (h : WkM Dm fm M N) : WkM Dm fm M (Sim.upd N i ⟨l.map f, rw, es⟩) := by
  subst he
  exact WkM.clo h1 (Sim.cloM hf) h3 h
theorem OutL.clo {m : Nat} {nids : List Nat} {M : Mem} {n k : Nat} {c : List Value} {rw rw' : Bool} {es : Nat} {r : List Blk} (hM : M (hmap m nids k).blk = some ⟨c, rw', es⟩)
    (hf : ∀ x ∈ c, cloV x = true) (hrw : rw = true ∨ (m ≤ k ∧ c ≠ []) → rw' = true) (hr : OutL m nids M n (k + 1) r) : OutL m nids M n k (⟨c, rw, es⟩ :: r) :=
  OutL.whole hM (clo_map_ren hf) (OkL.clo hf) hrw hr
theorem FitL.clo {h : Rho} {n : Nat} {M : Mem} {c : List Value} {rw rw' : Bool} {es id : Nat} {r : List Blk} {g : List (Nat × Nat)} (h1 : M id = some ⟨c, rw', es⟩) (h3 : ∀ x ∈ c, cloV x = true)
    (h6 : rw = true → rw' = true) (hr : FitL h n M r g) : FitL h n M (⟨c, rw, es⟩ :: r) ((id, 0) :: g) :=
  .whole h1 (clo_map_ren h3) (OkL.clo h3) h6 hr
theorem RelL.clo {h : Rho} {n : Nat} {x : Value} {r s : List Value} (h1 : cloV x = true) (hr : RelL h n r s) : RelL h n (x :: r) (x :: s) := .cons (clo_okV h1) (clo_ren h1) hr
theorem RelR.clo {h : Rho} {n : Nat} {x : Value} {r s : List Value} (h1 : cloV x = true) (hr : RelR h n r s) : RelR h n (x :: r) (x :: s) := .cons (clo_okV h1) (clo_ren h1) hr
end Go.Proofs.Ytbholmgeaklljaa.Sim
namespace Go.Proofs.Ytbholmgeaklljaa.Sim
open Go
inductive DA : List Blk → Nat → List Value → List Value → Prop
  | nil {k : Nat} : DA [] k [] []
  | pure {M : List Blk} {k : Nat} {v : Value} {vs us : List Value} (h : cloV v = true) (r : DA M k vs us) : DA M k (v :: vs) (v :: us)
  | deep {M : List Blk} {k n es : Nat} {cells : List Value} {vs us : List Value} (r : DA M (k + 1) vs us) : DA (⟨cells, false, es⟩ :: M) k (.slice (some ⟨k, 0, none⟩) n 0 :: vs) (deep n es cells :: us)
structure Lies (ρ : Rho) (w : World) (p : Pl) (b : Blk) : Prop where
  rw : b.rw = false
  es : p.es = b.es
  lim : p.lim = none
  lt : b.cells ≠ [] → p.blk < w.heap.size
  cells : ∀ k v, b.cells[k]? = some v → ∃ u, w.cell? ⟨p.blk, p.off + k, none⟩ = some u ∧ VR .real (fun _ => False) ρ v u
  src : b.cells = [] ∨ ∃ d o, d ∈ ρ.im ∧ p.blk = d.blk ∧ p.off = d.off + o ∧ (d.cells.drop o).take b.cells.length = b.cells ∧ o + b.cells.length ≤ d.cells.length
theorem deep_lies {D : Nat → Prop} {ρ : Rho} {M : Mem} {w : World} (him : ImOk ρ M w) {n es : Nat} {cells : List Value} {u : Value} (h : VR .real D ρ (deep n es cells) u) :
    ∃ p, Lies ρ w p ⟨cells, false, es⟩ ∧ ((∃ c, u = .slice (some ⟨p.blk, p.off, none⟩) n c ∧ n ≤ c) ∨ (n = 0 ∧ (u = .slice none 0 0 ∨ ∃ a0, u = .slice (some a0) 0 0))) := by
  unfold deep at h
  cases h with
  | flat _ hf => simp [flatV] at hf
  | iface _ _ _ ht => exact absurd rfl ht
  | deepA _ _ _ hm => exact absurd rfl hm
  | deepR _ _ c o _ d hm hd hn hcs ho hc =>
    have hd' := him d hd
    simp only [List.size_toArray] at hcs ho hn
    have hne : cells ≠ [] → d.cells ≠ [] := fun h1 e => by
      rw [e] at ho
      exact h1 (List.length_eq_zero_iff.1 (by simp only [List.length_nil] at ho; omega))
    refine ⟨⟨d.blk, d.off + o, none, es⟩, ⟨rfl, rfl, rfl, fun h1 => hd'.lt (hne h1), fun k v hk => ?_, .inr ⟨d, o, hd, rfl, rfl, hcs, ho⟩⟩, .inl ⟨c, rfl, hc⟩⟩
    have h1 : d.cells[o + k]? = some v := by
      have h2 : ((d.cells.drop o).take cells.length)[k]? = some v := by rw [hcs]; exact hk
      have hk' : k < cells.length := (List.getElem?_eq_some_iff.1 hk).1
      rwa [List.getElem?_take, if_pos hk', List.getElem?_drop] at h2
    obtain ⟨x, g1, g2⟩ := hd'.cells _ v h1
    exact ⟨x, by rw [Nat.add_assoc]; exact g1, g2⟩
  | deepN => exact ⟨⟨0, 0, none, es⟩, ⟨rfl, rfl, rfl, fun h1 => absurd rfl h1, fun k v hk => by simp at hk, .inl rfl⟩, .inr ⟨rfl, .inl rfl⟩⟩
  | deepE _ a0 c _ ha =>
    by_cases hs : a0.spot = none
    · obtain ⟨bb, oo, ss⟩ := a0
      simp only at hs; subst hs
      exact ⟨⟨bb, oo, none, es⟩, ⟨rfl, rfl, rfl, fun h1 => absurd rfl h1, fun k v hk => by simp at hk, .inl rfl⟩, .inl ⟨c, rfl, Nat.zero_le _⟩⟩
    · obtain rfl := ha.resolve_left hs
      exact ⟨⟨0, 0, none, es⟩, ⟨rfl, rfl, rfl, fun h1 => absurd rfl h1, fun k v hk => by simp at hk, .inl rfl⟩, .inr ⟨rfl, .inr ⟨a0, rfl⟩⟩⟩
theorem DA.place {D0 : Nat → Prop} {ρ : Rho} {MM : Mem} {w : World} (him : ImOk ρ MM w) : ∀ {M : List Blk} {k : Nat} {vs us : List Value}, DA M k vs us → ∀ {rs : List Value}, us.length = rs.length →
    (∀ (i : Nat) (v u : Value), us[i]? = some v → rs[i]? = some u → VR .real D0 ρ v u) →
    ∃ pls : List Pl, pls.length = M.length ∧ (∀ (j : Nat) (b : Blk), M[j]? = some b → ∃ p, pls[j]? = some p ∧ Lies ρ w p b) ∧ vs.length = rs.length ∧
      ∀ (pl : Nat → Pl), (∀ j p, pls[j]? = some p → pl (k + j) = p) → ∀ D : Nat → Prop, (∀ j, j < M.length → D (k + j)) → ∀ (i : Nat) (v u : Value), vs[i]? = some v → rs[i]? = some u → VR .real D ⟨pl, ρ.im⟩ v u := by
  intro M k vs us h
  induction h with
  | nil =>
    intro rs hl _
    exact ⟨[], rfl, fun j b hj => by simp at hj, hl, fun pl _ D _ i v u hv => by simp at hv⟩
  | @pure M k v vs us hc _ ih =>
    intro rs hl hr
    cases rs with
    | nil => simp at hl
    | cons r rs =>
      obtain ⟨pls, h1, h2, h3, h4⟩ := ih (rs := rs) (by simpa using hl) fun i v u hv hu => hr (i + 1) v u (by simpa using hv) (by simpa using hu)
      refine ⟨pls, h1, h2, by simp [h3], fun pl hp D hD i x u hx hu => ?_⟩
      cases i with
      | zero =>
        simp at hx hu; subst hx; subst hu
        exact (clo_rel (D' := fun _ => False) hc (hr 0 v r rfl rfl)).closed (ρ' := ⟨pl, ρ.im⟩) fun _ h => h
      | succ i => exact h4 pl hp D hD i x u (by simpa using hx) (by simpa using hu)
  | @deep M k n es cells vs us _ ih =>
    intro rs hl hr
    cases rs with
    | nil => simp at hl
    | cons r rs =>
      obtain ⟨pls, h1, h2, h3, h4⟩ := ih (rs := rs) (by simpa using hl) fun i v u hv hu => hr (i + 1) v u (by simpa using hv) (by simpa using hu)
      obtain ⟨p, hp, hu0⟩ := deep_lies him (hr 0 _ r rfl rfl)
      refine ⟨p :: pls, by simp [h1], fun j b hj => ?_, by simp [h3], fun pl hpl D hD i x u hx hu => ?_⟩
      · cases j with
        | zero => simp at hj; subst hj; exact ⟨p, rfl, hp⟩
        | succ j => obtain ⟨q, g1, g2⟩ := h2 j b (by simpa using hj); exact ⟨q, by simpa using g1, g2⟩
      · cases i with
        | zero =>
          simp at hx hu; subst hx; subst hu
          have hk : pl k = p := by have := hpl 0 p rfl; rwa [Nat.add_zero] at this
          rcases hu0 with ⟨c, rfl, hc⟩ | ⟨rfl, rfl | ⟨a0, rfl⟩⟩
          · have := VR.slice (m := .real) (ρ := ⟨pl, ρ.im⟩) (D := D) k 0 n c (by have := hD 0 (by simp); rwa [Nat.add_zero] at this) (by simp) (fun _ => ⟨hc, fun L hL => by
              have h9 : (pl k).lim = some L := hL
              rw [hk, hp.lim] at h9; cases h9⟩)
            have e : (⟨pl, ρ.im⟩ : Rho) k = p := hk
            rw [e, Nat.add_zero] at this
            exact this
          · exact .nilS _ (by simp)
          · exact .zeroS _ a0 rfl
        | succ i => exact h4 pl (fun j q hq => by rw [Nat.add_assoc, Nat.add_comm 1]; exact hpl (j + 1) q (by simpa using hq)) D (fun j hj => by rw [Nat.add_assoc, Nat.add_comm 1]; exact hD (j + 1) (by simp; omega)) i x u (by simpa using hx) (by simpa using hu)
end Go.Proofs.Ytbholmgeaklljaa.Sim
namespace Go.Proofs.Ytbholmgeaklljaa
open Go
abbrev GS := List Bool × Nat
def gbit (s : GS) : Bool := (not ((not ((not ((not ((not ((s.1.getD s.2 false) == s.1.getD ((s.2 + 13) % 80) false)) == s.1.getD ((s.2 + 23) % 80) false)) == s.1.getD ((s.2 + 38) % 80) false)) == s.1.getD ((s.2 + 51) % 80) false)) == s.1.getD ((s.2 + 62) % 80) false))
def gst (s : GS) : GS := (s.1.set s.2 (gbit s), (s.2 + 1) % 80)
def GV (s : GS) : Prop := s.1.length = 80 ∧ s.2 < 80
def gw (s : GS) (j : Nat) : Bool := s.1.getD ((s.2 + j) % 80) false
def git : Nat → GS → GS
  | 0, s => s
  | n + 1, s => git n (gst s)
theorem GV.gst {s : GS} (h : GV s) : GV (gst s) := ⟨by simp [Proofs.Ytbholmgeaklljaa.gst, h.1], Nat.mod_lt _ (by decide)⟩
theorem GV.git {s : GS} (h : GV s) : ∀ (n : Nat), GV (git n s) := by
  intro n
  induction n generalizing s with
  | zero => exact h
  | succ n ih => exact ih h.gst
theorem gbit_w {s : GS} (h : GV s) : gbit s = (gw s 0 ^^ gw s 13 ^^ gw s 23 ^^ gw s 38 ^^ gw s 51 ^^ gw s 62) := by
  have e : gw s 0 = s.1.getD s.2 false := by simp only [gw, Nat.add_zero, Nat.mod_eq_of_lt h.2]
  simp only [gbit, e]
  simp only [gw]
  generalize s.1.getD s.2 false = a
  generalize s.1.getD ((s.2 + 13) % 80) false = b
  generalize s.1.getD ((s.2 + 23) % 80) false = c
  generalize s.1.getD ((s.2 + 38) % 80) false = d
  generalize s.1.getD ((s.2 + 51) % 80) false = e
  generalize s.1.getD ((s.2 + 62) % 80) false = f
  cases a <;> cases b <;> cases c <;> cases d <;> cases e <;> cases f <;> rfl
theorem gw_gst {s : GS} (h : GV s) {j : Nat} (hj : j < 79) : gw (gst s) j = gw s (j + 1) := by
  simp only [gw, gst]
  have e : ((s.2 + 1) % 80 + j) % 80 = (s.2 + (j + 1)) % 80 := by omega
  rw [e, List.getD_eq_getElem?_getD, List.getD_eq_getElem?_getD, List.getElem?_set_ne]
  have := h.2
  omega
theorem gw_gst79 {s : GS} (h : GV s) : gw (gst s) 79 = gbit s := by
  simp only [gw, gst]
  have h2 := h.2
  have e : ((s.2 + 1) % 80 + 79) % 80 = s.2 := by omega
  rw [e, List.getD_eq_getElem?_getD, List.getElem?_set_self (by rw [h.1]; exact h2)]
  rfl
def lin (m : Nat) (w : Nat → Bool) : Nat → Bool
  | 0 => false
  | n + 1 => lin m w n ^^ (m.testBit n && w n)
theorem lin_xor (m m' : Nat) (w : Nat → Bool) (n : Nat) : lin (m ^^^ m') w n = (lin m w n ^^ lin m' w n) := by
  induction n with
  | zero => rfl
  | succ n ih =>
    simp only [lin, ih, Nat.testBit_xor]
    generalize lin m w n = a
    generalize lin m' w n = b
    generalize m.testBit n = c
    generalize m'.testBit n = d
    generalize w n = e
    cases a <;> cases b <;> cases c <;> cases d <;> cases e <;> rfl
theorem lin_zero (w : Nat → Bool) (n : Nat) : lin 0 w n = false := by
  induction n with
  | zero => rfl
  | succ n ih => simp [lin, ih]
theorem lin_congr {m m' : Nat} {w w' : Nat → Bool} {n : Nat} (h : ∀ j, j < n → m.testBit j = m'.testBit j ∧ w j = w' j) : lin m w n = lin m' w' n := by
  induction n with
  | zero => rfl
  | succ n ih => rw [lin, lin, ih fun j hj => h j (by omega), (h n (by omega)).1, (h n (by omega)).2]
theorem lin_pow (w : Nat → Bool) (i n : Nat) : lin (2 ^ i) w n = (decide (i < n) && w i) := by
  induction n with
  | zero => rfl
  | succ n ih =>
    rw [lin, ih, Nat.testBit_two_pow]
    rcases Nat.lt_trichotomy i n with h | h | h
    · have h1 : ¬ i = n := by omega
      have h2 : i < n + 1 := by omega
      simp [h, h1, h2]
    · subst h; simp
    · have h1 : ¬ i = n := by omega
      have h2 : ¬ i < n := by omega
      have h3 : ¬ i < n + 1 := by omega
      simp [h1, h2, h3]
theorem lin_two (m : Nat) (w : Nat → Bool) (n : Nat) : lin (2 * m) w (n + 1) = lin m (fun j => w (j + 1)) n := by
  induction n with
  | zero => simp [lin]
  | succ n ih =>
    rw [lin, ih, lin]
    congr 2
    rw [Nat.testBit_succ]
    congr 1
    omega
def gtap : Nat := 4613937818241073152 * 0 + (2 ^ 0 ^^^ 2 ^ 13 ^^^ 2 ^ 23 ^^^ 2 ^ 38 ^^^ 2 ^ 51 ^^^ 2 ^ 62)
def gL (m : Nat) (s : GS) : Bool := lin m (gw s) 80
theorem gL_tap {s : GS} (h : GV s) : gbit s = gL gtap s := by
  rw [gbit_w h]
  simp only [gL, gtap, Nat.mul_zero, Nat.zero_add, lin_xor, lin_pow]
  simp
def gsh (m : Nat) : Nat := (2 * (m % 604462909807314587353088)) ^^^ (if m.testBit 79 then gtap else 0)
theorem gL_sh {s : GS} (h : GV s) (m : Nat) : gL m (gst s) = gL (gsh m) s := by
  have h1 : gL m (gst s) = (lin m (fun j => gw s (j + 1)) 79 ^^ (m.testBit 79 && gbit s)) := by
    rw [gL, lin, gw_gst79 h, lin_congr (n := 79) fun j hj => ⟨rfl, gw_gst h hj⟩]
  rw [h1, gL, gsh, lin_xor, lin_two]
  have h2 : lin m (fun j => gw s (j + 1)) 79 = lin (m % 604462909807314587353088) (fun j => gw s (j + 1)) 79 := lin_congr fun j hj => ⟨by
    rw [show (604462909807314587353088 : Nat) = 2 ^ 79 by decide, Nat.testBit_mod_two_pow]
    simp [hj], rfl⟩
  have h3 : (m.testBit 79 && gbit s) = lin (if m.testBit 79 = true then gtap else 0) (gw s) 80 := by
    cases m.testBit 79 with
    | true => rw [Bool.true_and, if_pos rfl]; exact gL_tap h
    | false => rw [Bool.false_and, if_neg (by decide), lin_zero]
  rw [← h2, h3]
theorem gL_xor (m m' : Nat) (s : GS) : gL (m ^^^ m') s = (gL m s ^^ gL m' s) := lin_xor m m' _ 80
theorem git_gst (n : Nat) (s : GS) : git n (gst s) = gst (git n s) := by
  induction n generalizing s with
  | zero => rfl
  | succ n ih => exact ih (gst s)
def gcomb (c m : Nat) : Nat → Nat
  | 0 => 0
  | n + 1 => (if c % 2 = 1 then m else 0) ^^^ gcomb (c / 2) (gsh (gsh m)) n
theorem gcomb_false {s : GS} (h : GV s) : ∀ (n c m : Nat), (∀ j, j < n → gL m (git (2 * j) s) = false) → gL (gcomb c m n) s = false := by
  intro n
  induction n with
  | zero => intro c m _; exact lin_zero _ _
  | succ n ih =>
    intro c m hj
    rw [gcomb, gL_xor, ih (c / 2) (gsh (gsh m)) fun j hj' => ?_, Bool.xor_false]
    · split
      · exact hj 0 (by omega)
      · exact lin_zero _ _
    · have h1 := h.git (2 * j)
      rw [← gL_sh h1, ← gL_sh h1.gst, ← git_gst, ← git_gst]
      exact hj (j + 1) (by omega)
def gcs : List Nat := [906780844837745629076032, 250779265704994904930841, 604631256123318728660097, 501558531409989809861682, 332078693915172014339, 1003117062819979619723364, 664157387830344028678, 797312915459823564746953, 1328314775660688057356, 385695397367474600001939, 2656629551321376114712, 771390794734949200003878, 5313259102642752229424, 333851155917725853754957, 10626518205285504458848, 667702311835451707509914, 21253036410571008917696, 126474194621780740323637, 42506072821142017835392, 252948389243561480647274, 85012145642284035670784, 505896778487122961294548, 170024291284568071341568, 1011793556974245922589096, 340048582569136142683136, 814656684899918926295889, 680097165138272285366272, 420382940751264933693091, 151263896724372024463361, 840765881502529867386182, 302527793448744048926722, 472610552824374304258701, 605055586897488097853444, 945221105648748608517402, 1180740242253893640201, 681521001116811786504757, 2361480484507787280402, 154120792052938125718635, 4722960969015574560804, 308241584105876251437270, 9445921938031149121608, 616483168211752502874540, 18891843876062298243216, 24045130746968958403417, 37783687752124596486432, 48090261493937916806834, 75567375504249192972864, 96180522987875833613668, 151134751008498385945728, 192361045975751667227336, 302269502016996771891456, 384722091951503334454672, 604539004033993543782912, 769444183903006668909344, 147574515814541296641, 329957934253840808343105, 295149031629082593282, 659915868507681616686210, 590298063258165186564, 110910526835227541895429, 1180596126516330373128, 221821053670455083790858, 2361192253032660746256, 443642107340910167581716, 4722384506065321492512, 887284214681820335163432, 9444769012130642985024, 565647219183504995627089, 18889538024261285970048, 1131294438367009991254178, 37779076048522571940096, 1053667671056934162587973, 75558152097045143880192, 898404913064745650479755, 151116304194090287760384, 587879392576768998892823, 302232608388180575520768, 1175758785153537997785646, 604465216776361151041536, 1142596360126940304094301]
theorem gcs_ok : ((List.range 80).all fun i => gcomb (gcs.getD i 0) gtap 80 == 2 ^ i) = true := by kernel_rfl
def GZ (s : GS) : Prop := ∀ i, i < 80 → gw s i = false
theorem gz_of {s : GS} (h : GV s) (h0 : ∀ j, j < 80 → gbit (git (2 * j) s) = false) : GZ s := by
  intro i hi
  have h1 := List.all_eq_true.1 gcs_ok i (List.mem_range.2 hi)
  have h2 := gcomb_false h 80 (gcs.getD i 0) gtap fun j hj => by rw [← gL_tap (h.git _)]; exact h0 j hj
  rw [eq_of_beq h1, gL, lin_pow] at h2
  simpa [hi] using h2
theorem gz_back {s : GS} (h : GV s) (hz : GZ (gst s)) : GZ s := by
  have h1 : ∀ i, i < 79 → gw s (i + 1) = false := fun i hi => by rw [← gw_gst h hi]; exact hz i (by omega)
  intro i hi
  rcases Nat.eq_zero_or_pos i with h0 | h0
  · subst h0
    have h2 := hz 79 (by decide)
    rw [gw_gst79 h, gbit_w h, h1 12 (by decide), h1 22 (by decide), h1 37 (by decide), h1 50 (by decide), h1 61 (by decide)] at h2
    simpa using h2
  · have := h1 (i - 1) (by omega)
    rwa [Nat.sub_add_cancel h0] at this
def gN : Nat → GS → Option (GS × Bool)
  | 0, _ => none
  | k + 1, s => if gbit s then some (gst (gst s), gbit (gst s)) else gN k (gst (gst s))
theorem gN_none {k : Nat} : ∀ {s : GS}, gN k s = none → ∀ j, j < k → gbit (git (2 * j) s) = false := by
  induction k with
  | zero => intro s _ j hj; omega
  | succ k ih =>
    intro s h j hj
    simp only [gN] at h
    split at h
    · cases h
    · rename_i hb
      cases j with
      | zero => show gbit s = false; simpa using hb
      | succ j => exact ih h j (by omega)
theorem gN_good {k : Nat} : ∀ {s : GS} {p : GS × Bool}, GV s → ¬ GZ s → gN k s = some p → GV p.1 ∧ ¬ GZ p.1 := by
  induction k with
  | zero => intro s p _ _ h; cases h
  | succ k ih =>
    intro s p hv hz h
    simp only [gN] at h
    have h1 : ¬ GZ (gst (gst s)) := fun e => hz (gz_back hv (gz_back hv.gst e))
    split at h
    · cases h; exact ⟨hv.gst.gst, h1⟩
    · exact ih hv.gst.gst h1 h
def gnx (s : GS) : GS × Bool := (gN 80 s).getD (s, false)
def GG (s : GS) : Prop := GV s ∧ ¬ GZ s
theorem gnx_eq {s : GS} (h : GG s) : gN 80 s = some (gnx s) := by
  cases hn : gN 80 s with
  | none => exact absurd (gz_of h.1 (gN_none hn)) h.2
  | some p => simp [gnx, hn]
theorem GG.nx {s : GS} (h : GG s) : GG (gnx s).1 := gN_good h.1 h.2 (gnx_eq h)
def gpre : Nat → GS → Nat × GS
  | 0, s => (0, s)
  | i + 1, s => (if (gnx (gpre i s).2).2 then (gpre i s).1 * 2 % 18446744073709551616 ||| 1 else (gpre i s).1 * 2 % 18446744073709551616, (gnx (gpre i s).2).1)
theorem GG.pre {s : GS} (h : GG s) (i : Nat) : GG (gpre i s).2 := by
  induction i with
  | zero => exact h
  | succ i ih => exact ih.nx
end Go.Proofs.Ytbholmgeaklljaa
namespace Go.Proofs.Ytbholmgeaklljaa
def Irr (p : Nat) : Prop := 2 ≤ p ∧ ∀ d, d ∣ p → d = 1 ∨ d = p
theorem Irr.pos {p : Nat} (h : Irr p) : 0 < p := by have := h.1; omega
theorem Irr.coprime {p a : Nat} (h : Irr p) (ha : ¬ p ∣ a) : Nat.Coprime p a := by
  rcases h.2 (Nat.gcd p a) (Nat.gcd_dvd_left p a) with h1 | h1
  · exact h1
  · exact absurd (h1 ▸ Nat.gcd_dvd_right p a) ha
theorem Irr.euclid {p a b : Nat} (h : Irr p) (hd : p ∣ a * b) : p ∣ a ∨ p ∣ b := by
  by_cases ha : p ∣ a
  · exact .inl ha
  · exact .inr ((h.coprime ha).dvd_of_dvd_mul_left hd)
theorem exists_irr : ∀ {n : Nat}, 2 ≤ n → ∃ p, Irr p ∧ p ∣ n := by
  intro n
  induction n using Nat.strongRecOn with
  | _ n ih =>
    intro hn
    by_cases h : ∃ d, d ∣ n ∧ d ≠ 1 ∧ d ≠ n
    · obtain ⟨d, hd, h1, h2⟩ := h
      have hle := Nat.le_of_dvd (by omega) hd
      have h0 : d ≠ 0 := fun e => by subst e; have := Nat.eq_zero_of_zero_dvd hd; omega
      obtain ⟨p, hp, hpd⟩ := ih d (by omega) (by omega)
      exact ⟨p, hp, Nat.dvd_trans hpd hd⟩
    · refine ⟨n, ⟨hn, fun d hd => ?_⟩, Nat.dvd_refl n⟩
      by_cases h1 : d = 1
      · exact .inl h1
      · by_cases h2 : d = n
        · exact .inr h2
        · exact absurd ⟨d, hd, h1, h2⟩ h
theorem irr_of_small {n : Nat} (hn : 2 ≤ n) (h : ∀ p, Irr p → p ∣ n → n < p * p) : Irr n := by
  refine ⟨hn, fun d hd => ?_⟩
  obtain ⟨e, he⟩ := hd
  by_cases h1 : d = 1
  · exact .inl h1
  by_cases h2 : e = 1
  · subst h2; exact .inr (by omega)
  have hd0 : d ≠ 0 := fun e' => by subst e'; omega
  have he0 : e ≠ 0 := fun e' => by subst e'; omega
  obtain ⟨p, hp, a, rfl⟩ := exists_irr (n := d) (by omega)
  obtain ⟨q, hq, b, rfl⟩ := exists_irr (n := e) (by omega)
  exfalso
  have g1 := h p hp ⟨a * (q * b), by rw [he, Nat.mul_assoc]⟩
  have g2 := h q hq ⟨p * a * b, by rw [he]; simp [Nat.mul_comm, Nat.mul_left_comm]⟩
  have ha : a ≠ 0 := fun e' => by subst e'; simp at hd0
  have hb : b ≠ 0 := fun e' => by subst e'; simp at he0
  have g3 : p * q ≤ n := by
    rw [he]
    have : p * q * 1 ≤ p * q * (a * b) := Nat.mul_le_mul_left _ (Nat.mul_pos (by omega) (by omega))
    calc p * q = p * q * 1 := (Nat.mul_one _).symm
      _ ≤ p * q * (a * b) := this
      _ = p * a * (q * b) := by simp [Nat.mul_comm, Nat.mul_left_comm]
  rcases Nat.le_total p q with hle | hle
  · have := Nat.mul_le_mul_left p hle
    omega
  · have := Nat.mul_le_mul_right q hle
    omega
theorem pow_one_mod {a n k : Nat} (h : a % n = 1 % n) : a ^ k % n = 1 % n := by
  rw [Nat.pow_mod, h, ← Nat.pow_mod, Nat.one_pow]
theorem mul_mod_one {a b n : Nat} (ha : a % n = 1 % n) : a * b % n = b % n := by
  rw [Nat.mul_mod, ha, ← Nat.mul_mod, Nat.one_mul]
theorem pow_sub_mod {a n m k : Nat} (hk : a ^ k % n = 1 % n) (hm : a ^ m % n = 1 % n) : a ^ (m % k) % n = 1 % n := by
  have h : a ^ m = (a ^ k) ^ (m / k) * a ^ (m % k) := by
    rw [← Nat.pow_mul, ← Nat.pow_add, Nat.div_add_mod]
  rw [h, mul_mod_one (pow_one_mod hk)] at hm
  exact hm
theorem pow_gcd_mod {a n : Nat} : ∀ (k m : Nat), a ^ k % n = 1 % n → a ^ m % n = 1 % n → a ^ Nat.gcd k m % n = 1 % n := by
  intro k
  induction k using Nat.strongRecOn with
  | _ k ih =>
    intro m hk hm
    by_cases h0 : k = 0
    · subst h0; simpa using hm
    · rw [Nat.gcd_rec]
      exact ih (m % k) (Nat.mod_lt _ (by omega)) k (pow_sub_mod hk hm) hk
theorem dvd_pow_irr {q : Nat} (hq : Irr q) : ∀ {e d : Nat}, d ∣ q ^ e → ∃ j, j ≤ e ∧ d = q ^ j
  | 0, d, h => ⟨0, Nat.le_refl _, by simpa using h⟩
  | e + 1, d, h => by
    by_cases hd : q ∣ d
    · obtain ⟨c, rfl⟩ := hd
      rw [Nat.pow_succ, Nat.mul_comm (q ^ e) q] at h
      obtain ⟨j, hj, rfl⟩ := dvd_pow_irr hq (Nat.dvd_of_mul_dvd_mul_left hq.pos h)
      exact ⟨j + 1, by omega, by rw [Nat.pow_succ, Nat.mul_comm]⟩
    · have hc : Nat.Coprime d q := (hq.coprime hd).symm
      rw [Nat.pow_succ] at h
      obtain ⟨j, hj, rfl⟩ := dvd_pow_irr hq (hc.dvd_of_dvd_mul_right h)
      exact ⟨j, by omega, rfl⟩
def prodL : List Nat → Nat
  | [] => 1
  | x :: l => x * prodL l
theorem prodL_perm {l m : List Nat} (h : l.Perm m) : prodL l = prodL m := by
  induction h with
  | nil => rfl
  | cons x _ ih => simp [prodL, ih]
  | swap x y l => simp [prodL, Nat.mul_left_comm]
  | trans _ _ ih1 ih2 => exact ih1.trans ih2
theorem prodL_map_mod (a p : Nat) : ∀ l : List Nat, prodL (l.map fun i => a * i % p) % p = a ^ l.length * prodL l % p
  | [] => by simp [prodL]
  | x :: l => by
    simp only [List.map_cons, prodL, List.length_cons]
    rw [Nat.mul_mod, prodL_map_mod a p l, Nat.mod_mod, ← Nat.mul_mod, Nat.pow_succ]
    rw [Nat.mul_comm (a ^ l.length) a, Nat.mul_assoc, Nat.mul_assoc, Nat.mul_left_comm x]
theorem nodup_sub_perm {l m : List Nat} (hl : l.Nodup) (hs : ∀ x ∈ l, x ∈ m) (hlen : m.length ≤ l.length) : l.Perm m := by
  induction l generalizing m with
  | nil =>
    have : m = [] := List.length_eq_zero_iff.1 (by simpa using hlen)
    subst this; exact .nil
  | cons x l ih =>
    have hx := hs x (List.mem_cons_self ..)
    have hp := List.perm_cons_erase hx
    refine List.Perm.trans (.cons x (ih (List.nodup_cons.1 hl).2 (fun y hy => ?_) ?_)) hp.symm
    · have hne : y ≠ x := fun e => (List.nodup_cons.1 hl).1 (e ▸ hy)
      exact (List.mem_erase_of_ne hne).2 (hs y (List.mem_cons_of_mem _ hy))
    · rw [List.length_erase_of_mem hx]
      simp only [List.length_cons] at hlen
      omega
theorem prodL_not_dvd {p : Nat} (hp : Irr p) : ∀ {l : List Nat}, (∀ x ∈ l, ¬ p ∣ x) → ¬ p ∣ prodL l
  | [], _ => fun h => by have := Nat.le_of_dvd (by decide) h; have := hp.1; simp [prodL] at *; omega
  | x :: l, h => fun hd => by
    rcases hp.euclid hd with h1 | h1
    · exact h x (List.mem_cons_self ..) h1
    · exact prodL_not_dvd hp (fun y hy => h y (List.mem_cons_of_mem _ hy)) h1
theorem dvd_sub_of_mod {p a b : Nat} (h : a % p = b % p) : p ∣ b - a :=
  Nat.dvd_of_mod_eq_zero (Nat.sub_mod_eq_zero_of_mod_eq h.symm)
theorem mod_of_dvd_sub {p a b : Nat} (hle : a ≤ b) (h : p ∣ b - a) : a % p = b % p := by
  obtain ⟨c, hc⟩ := h
  rw [show b = a + p * c by omega, Nat.add_mul_mod_self_left]
theorem mod_cancel_le {p a b c : Nat} (hc : Nat.Coprime p c) (hab : a ≤ b) (h : c * a % p = c * b % p) : a % p = b % p := by
  have h1 := dvd_sub_of_mod h
  rw [← Nat.mul_sub] at h1
  exact mod_of_dvd_sub hab (hc.dvd_of_dvd_mul_left h1)
theorem mod_cancel {p a b c : Nat} (hc : Nat.Coprime p c) (h : c * a % p = c * b % p) : a % p = b % p := by
  rcases Nat.le_total a b with hab | hab
  · exact mod_cancel_le hc hab h
  · exact (mod_cancel_le hc hab h.symm).symm
theorem fermat {p a : Nat} (hp : Irr p) (ha : ¬ p ∣ a) : a ^ (p - 1) % p = 1 % p := by
  have h2 := hp.1
  let l := List.range' 1 (p - 1)
  have hl : ∀ x ∈ l, 1 ≤ x ∧ x < p := fun x hx => by
    have := List.mem_range'_1.1 hx
    omega
  have hnd : ∀ x ∈ l, ¬ p ∣ x := fun x hx hd => by
    have := Nat.le_of_dvd (by have := hl x hx; omega) hd
    have := hl x hx
    omega
  have hinj : (l.map fun i => a * i % p).Nodup := by
    rw [List.nodup_iff_pairwise_ne, List.pairwise_map]
    refine List.Pairwise.imp_of_mem (fun {x y} hx hy hne he => hne ?_) (List.nodup_iff_pairwise_ne.1 List.nodup_range')
    have := mod_cancel (hp.coprime ha) he
    rwa [Nat.mod_eq_of_lt (hl x hx).2, Nat.mod_eq_of_lt (hl y hy).2] at this
  have hperm : (l.map fun i => a * i % p).Perm l := by
    refine nodup_sub_perm hinj (fun x hx => ?_) (by simp)
    obtain ⟨i, hi, rfl⟩ := List.mem_map.1 hx
    refine List.mem_range'_1.2 ⟨?_, ?_⟩
    · rcases Nat.eq_zero_or_pos (a * i % p) with h0 | h0
      · rcases hp.euclid (Nat.dvd_of_mod_eq_zero h0) with h1 | h1
        · exact absurd h1 ha
        · exact absurd h1 (hnd i hi)
      · omega
    · have := Nat.mod_lt (a * i) hp.pos
      omega
  have h1 := prodL_map_mod a p l
  rw [prodL_perm hperm, List.length_range'] at h1
  have h3 : prodL l * 1 % p = prodL l * a ^ (p - 1) % p := by rw [Nat.mul_one, h1, Nat.mul_comm]
  exact (mod_cancel (hp.coprime (prodL_not_dvd hp hnd)) h3).symm
theorem pock_step {N p q e a : Nat} (hN : 2 ≤ N) (hp : Irr p) (hpN : p ∣ N) (hq : Irr q) (he : 0 < e) (hF : q ^ e ∣ N - 1) (h1 : a ^ (N - 1) % N = 1 % N)
    (h2 : Nat.gcd (a ^ ((N - 1) / q) % N + (N - 1)) N = 1) : q ^ e ∣ p - 1 := by
  have down : ∀ {x : Nat}, x % N = 1 % N → x % p = 1 % p := fun {x} h => by
    rw [← Nat.mod_mod_of_dvd x hpN, h, Nat.mod_mod_of_dvd _ hpN]
  obtain ⟨m, hm⟩ := hF
  have hqe : q ^ e = q * q ^ (e - 1) := by rw [← Nat.pow_succ', Nat.succ_eq_add_one, Nat.sub_add_cancel he]
  have ha : ¬ p ∣ a := fun hd => by
    have h3 := down h1
    have h4 : p ∣ a ^ (N - 1) := Nat.dvd_trans hd ⟨a ^ (N - 2), by rw [← Nat.pow_succ', show (N - 2).succ = N - 1 by omega]⟩
    rw [Nat.mod_eq_zero_of_dvd h4, Nat.mod_eq_of_lt hp.1] at h3
    cases h3
  have hb1 : (a ^ m) ^ (q ^ e) % p = 1 % p := by
    rw [← Nat.pow_mul, Nat.mul_comm, ← hm]
    exact down h1
  have hb2 : (a ^ m) ^ (p - 1) % p = 1 % p := by
    rw [← Nat.pow_mul, Nat.mul_comm, Nat.pow_mul]
    exact pow_one_mod (fermat hp ha)
  have hg := pow_gcd_mod _ _ hb1 hb2
  obtain ⟨j, hj, hgj⟩ := dvd_pow_irr hq (Nat.gcd_dvd_left (q ^ e) (p - 1))
  by_cases hje : j = e
  · subst hje
    exact hgj ▸ Nat.gcd_dvd_right _ _
  · exfalso
    have hdv : q ^ j ∣ q ^ (e - 1) := Nat.pow_dvd_pow q (by omega)
    obtain ⟨c, hc⟩ := hdv
    have h5 : (a ^ m) ^ (q ^ (e - 1)) % p = 1 % p := by
      rw [hc, Nat.pow_mul, ← hgj]
      exact pow_one_mod hg
    have h6 : (N - 1) / q = m * q ^ (e - 1) := by
      rw [hm, hqe, Nat.mul_assoc, Nat.mul_div_cancel_left _ hq.pos, Nat.mul_comm]
    rw [← Nat.pow_mul, ← h6] at h5
    have h7 : p ∣ a ^ ((N - 1) / q) % N + (N - 1) := by
      apply Nat.dvd_of_mod_eq_zero
      rw [Nat.add_mod, Nat.mod_mod_of_dvd _ hpN, h5]
      have : (N - 1) % p = p - 1 := by
        obtain ⟨c', rfl⟩ := hpN
        have hp1 := hp.1
        cases c' with
        | zero => omega
        | succ c' =>
          rw [Nat.mul_succ, Nat.add_sub_assoc (by omega), Nat.mul_add_mod, Nat.mod_eq_of_lt (by omega)]
      rw [this, Nat.mod_eq_of_lt hp.1, Nat.add_sub_cancel' (by have := hp.1; omega), Nat.mod_self]
    have h8 := Nat.dvd_gcd h7 hpN
    rw [h2] at h8
    have := Nat.le_of_dvd (by decide) h8
    have := hp.1
    omega
theorem coprime_pow_irr {p q : Nat} (hp : Irr p) (hq : Irr q) (h : p ≠ q) (e f : Nat) : Nat.Coprime (p ^ e) (q ^ f) := by
  apply Nat.Coprime.pow
  apply hp.coprime
  intro hd
  rcases hq.2 p hd with h1 | h1
  · have := hp.1; omega
  · exact h h1
def powm (n : Nat) : Nat → Nat → Nat → Nat
  | 0, _, _ => 1 % n
  | f + 1, a, e => if e = 0 then 1 % n else
      if e % 2 = 1 then a * powm n f (a * a % n) (e / 2) % n else powm n f (a * a % n) (e / 2)
theorem powm_eq (n : Nat) : ∀ (f a e : Nat), e < 2 ^ f → powm n f a e = a ^ e % n
  | 0, a, e, h => by
    have : e = 0 := by simpa using h
    subst this; simp [powm]
  | f + 1, a, e, h => by
    simp only [powm]
    split
    · rename_i h0; subst h0; simp
    · have h1 := powm_eq n f (a * a % n) (e / 2) (by rw [Nat.pow_succ] at h; omega)
      have h2 : (a * a % n) ^ (e / 2) % n = a ^ (2 * (e / 2)) % n := by
        rw [← Nat.pow_mod, Nat.pow_mul, Nat.pow_two]
      split
      · rename_i ho
        rw [h1, h2, Nat.mul_mod, Nat.mod_mod, ← Nat.mul_mod, ← Nat.pow_succ']
        rw [show (2 * (e / 2)).succ = e by omega]
      · rw [h1, h2, show 2 * (e / 2) = e by omega]
def noDiv (n : Nat) : Nat → Nat → Bool
  | 0, _ => true
  | f + 1, d => n % d != 0 && noDiv n f (d + 1)
theorem noDiv_spec {n : Nat} : ∀ {f d : Nat}, noDiv n f d = true → ∀ k, d ≤ k → k < d + f → ¬ k ∣ n
  | 0, d, _, k, h1, h2 => by omega
  | f + 1, d, h, k, h1, h2 => by
    simp only [noDiv, Bool.and_eq_true, bne_iff_ne, ne_eq] at h
    by_cases hk : k = d
    · subst hk; exact fun hd => h.1 (Nat.mod_eq_zero_of_dvd hd)
    · exact noDiv_spec h.2 k (by omega) (by omega)
theorem irr_trial {n f : Nat} (hn : 2 ≤ n) (hf : n < (f + 2) * (f + 2)) (h : noDiv n f 2 = true) : Irr n :=
  irr_of_small hn fun p hp hpd => by
    rcases Nat.lt_or_ge p (2 + f) with h1 | h1
    · exact absurd hpd (noDiv_spec h p hp.1 h1)
    · exact Nat.lt_of_lt_of_le hf (Nat.mul_le_mul (by omega) (by omega))
def pockB (N : Nat) (c : Nat × Nat × Nat) : Bool :=
  Nat.blt 0 c.2.1 && (N - 1) % c.1 ^ c.2.1 == 0 && powm N 800 c.2.2 (N - 1) == 1 % N && Nat.gcd (powm N 800 c.2.2 ((N - 1) / c.1) + (N - 1)) N == 1
def factL : List (Nat × Nat × Nat) → Nat
  | [] => 1
  | c :: l => c.1 ^ c.2.1 * factL l
theorem factL_coprime {q f : Nat} (hq : Irr q) : ∀ {l : List (Nat × Nat × Nat)}, (∀ c ∈ l, Irr c.1 ∧ q ≠ c.1) → Nat.Coprime (q ^ f) (factL l)
  | [], _ => Nat.coprime_one_right _
  | c :: l, h => by
    have h1 := h c (List.mem_cons_self ..)
    exact Nat.Coprime.mul_right (coprime_pow_irr hq h1.1 h1.2 f c.2.1) (factL_coprime hq fun d hd => h d (List.mem_cons_of_mem _ hd))
theorem factL_dvd {m : Nat} : ∀ {l : List (Nat × Nat × Nat)}, (∀ c ∈ l, Irr c.1 ∧ c.1 ^ c.2.1 ∣ m) → (l.map (·.1)).Nodup → factL l ∣ m
  | [], _, _ => Nat.one_dvd _
  | c :: l, h, hn => by
    have h1 := h c (List.mem_cons_self ..)
    rw [List.map_cons, List.nodup_cons] at hn
    refine Nat.Coprime.mul_dvd_of_dvd_of_dvd (factL_coprime h1.1 fun d hd => ⟨(h d (List.mem_cons_of_mem _ hd)).1, fun e => hn.1 ?_⟩) h1.2 (factL_dvd (fun d hd => h d (List.mem_cons_of_mem _ hd)) hn.2)
    rw [e]
    exact List.mem_map.2 ⟨d, hd, rfl⟩
theorem pock {N : Nat} (l : List (Nat × Nat × Nat)) (hN : Nat.ble 2 N = true) (hb : Nat.blt N (2 ^ 800) = true) (hc : l.all (pockB N) = true) (hF : Nat.blt N ((factL l + 1) * (factL l + 1)) = true)
    (hn : (l.map (·.1)).Nodup) (hq : ∀ c ∈ l, Irr c.1) : Irr N := by
  have hN' := Nat.le_of_ble_eq_true hN
  have hb' : N < 2 ^ 800 := Nat.le_of_ble_eq_true hb
  refine irr_of_small hN' fun p hp hpd => ?_
  have hd : factL l ∣ p - 1 := factL_dvd (fun c hm => ⟨hq c hm, ?_⟩) hn
  · have h1 := Nat.le_of_dvd (by have := hp.1; omega) hd
    have h2 : N < (factL l + 1) * (factL l + 1) := Nat.le_of_ble_eq_true hF
    exact Nat.lt_of_lt_of_le h2 (Nat.mul_le_mul (by have := hp.1; omega) (by have := hp.1; omega))
  · have h3 := List.all_eq_true.1 hc c hm
    simp only [pockB, Bool.and_eq_true, beq_iff_eq] at h3
    obtain ⟨⟨⟨g1, g2⟩, g3⟩, g4⟩ := h3
    rw [powm_eq N 800 _ _ (by omega)] at g3
    rw [powm_eq N 800 _ _ (Nat.lt_of_le_of_lt (Nat.div_le_self _ _) (by omega))] at g4
    exact pock_step hN' hp hpd (hq c hm) (Nat.le_of_ble_eq_true g1) (Nat.dvd_of_mod_eq_zero g2) g3 g4
end Go.Proofs.Ytbholmgeaklljaa
namespace Go.Proofs.Ytbholmgeaklljaa
open Go
theorem git_add (m : Nat) : ∀ (n : Nat) (s : GS), git (m + n) s = git m (git n s)
  | 0, _ => rfl
  | n + 1, s => git_add m n (gst s)
def gy (s : GS) (n : Nat) : Bool := gw (git n s) 0
theorem gw_y : ∀ (j : Nat) {s : GS}, GV s → j < 80 → gw s j = gy s j
  | 0, _, _, _ => rfl
  | j + 1, s, h, hj => by
    rw [← gw_gst h (by omega), gw_y j h.gst (by omega)]; rfl
theorem gbit_y {s : GS} (h : GV s) : gbit s = gy s 80 := by
  rw [← gw_gst79 h, gw_y 79 h.gst (by decide)]; rfl
theorem gy_git (s : GS) (m n : Nat) : gy (git m s) n = gy s (n + m) := by rw [gy, ← git_add]; rfl
def gshn : Nat → Nat → Nat
  | 0, m => m
  | n + 1, m => gsh (gshn n m)
theorem gshn_gsh : ∀ (n m : Nat), gshn n (gsh m) = gsh (gshn n m)
  | 0, _ => rfl
  | n + 1, m => by rw [gshn, gshn_gsh n m]; rfl
theorem gshn_add (i : Nat) : ∀ (j m : Nat), gshn i (gshn j m) = gshn (i + j) m
  | 0, _ => rfl
  | j + 1, m => by
    show gshn i (gsh (gshn j m)) = gsh (gshn (i + j) m)
    rw [gshn_gsh, gshn_add i j]
theorem gL_git : ∀ (n m : Nat) {s : GS}, GV s → gL m (git n s) = gL (gshn n m) s
  | 0, _, _, _ => rfl
  | n + 1, m, s, h => by
    show gL m (git n (gst s)) = gL (gsh (gshn n m)) s
    rw [gL_git n m h.gst, gL_sh h]
theorem gL_one (s : GS) : gL 1 s = gw s 0 := by
  have := lin_pow (gw s) 0 80
  simpa [gL] using this
theorem gy_pw {s : GS} (h : GV s) (n : Nat) : gy s n = gL (gshn n 1) s := by
  rw [gy, ← gL_one, gL_git n 1 h]
theorem gsh_xor (a b : Nat) : gsh (a ^^^ b) = gsh a ^^^ gsh b := by
  have h1 : 2 * ((a ^^^ b) % 604462909807314587353088) = 2 * (a % 604462909807314587353088) ^^^ 2 * (b % 604462909807314587353088) := by
    rw [show (604462909807314587353088 : Nat) = 2 ^ 79 by decide]
    refine Nat.eq_of_testBit_eq fun i => ?_
    cases i with
    | zero => rw [Nat.testBit_xor]; simp [Nat.testBit_zero]
    | succ i =>
      rw [Nat.testBit_xor, Nat.testBit_succ, Nat.testBit_succ, Nat.testBit_succ, Nat.mul_div_cancel_left _ (by decide), Nat.mul_div_cancel_left _ (by decide), Nat.mul_div_cancel_left _ (by decide), Nat.testBit_mod_two_pow, Nat.testBit_mod_two_pow, Nat.testBit_mod_two_pow, Nat.testBit_xor]
      cases decide (i < 79) <;> simp
  simp only [gsh, h1, Nat.testBit_xor]
  generalize 2 * (a % 604462909807314587353088) = x
  generalize 2 * (b % 604462909807314587353088) = y
  cases a.testBit 79 <;> cases b.testBit 79 <;> simp
  · rw [Nat.xor_assoc]
  · rw [Nat.xor_assoc, Nat.xor_assoc, Nat.xor_comm y]
  · rw [show x ^^^ gtap ^^^ (y ^^^ gtap) = x ^^^ y ^^^ (gtap ^^^ gtap) by rw [Nat.xor_assoc, Nat.xor_assoc, ← Nat.xor_assoc gtap y, Nat.xor_comm gtap y, Nat.xor_assoc y]]
    simp
theorem gshn_xor : ∀ (n a b : Nat), gshn n (a ^^^ b) = gshn n a ^^^ gshn n b
  | 0, _, _ => rfl
  | n + 1, a, b => by rw [gshn, gshn_xor n, gsh_xor]; rfl
theorem gshn_zero : ∀ n, gshn n 0 = 0
  | 0 => rfl
  | n + 1 => by rw [gshn, gshn_zero n]; decide
theorem gsh_lt (m : Nat) : gsh m < 2 ^ 80 := by
  refine Nat.xor_lt_two_pow ?_ ?_
  · have := Nat.mod_lt m (show 0 < 604462909807314587353088 by decide)
    have e : (2 : Nat) ^ 80 = 2 * 604462909807314587353088 := by decide
    omega
  · split
    · decide
    · decide
theorem gshn_lt : ∀ (n : Nat), gshn n 1 < 2 ^ 80
  | 0 => by decide
  | n + 1 => gsh_lt _
def gmf : Nat → Nat → Nat → Nat
  | 0, _, _ => 0
  | n + 1, a, b => (if a % 2 = 1 then b else 0) ^^^ gmf n (a / 2) (gsh b)
theorem gsh_pow {i : Nat} (h : i < 79) : gsh (2 ^ i) = 2 ^ (i + 1) := by
  have h1 : (2 : Nat) ^ i < 604462909807314587353088 := Nat.lt_of_lt_of_le (Nat.pow_lt_pow_right (by decide) h) (by decide)
  rw [gsh, Nat.mod_eq_of_lt h1, Nat.testBit_two_pow, decide_eq_false (by omega), if_neg (by decide), Nat.xor_zero, Nat.pow_succ, Nat.mul_comm]
theorem split2 (a i : Nat) : (a % 2) * 2 ^ i ^^^ (a / 2) * 2 ^ (i + 1) = a * 2 ^ i := by
  have h : a % 2 ^^^ 2 * (a / 2) = a := by
    refine Nat.eq_of_testBit_eq fun k => ?_
    cases k with
    | zero => rw [Nat.testBit_xor]; simp [Nat.testBit_zero]
    | succ k =>
      rw [Nat.testBit_xor, Nat.testBit_succ, Nat.testBit_succ, Nat.testBit_succ, Nat.mul_div_cancel_left _ (by decide), Nat.div_eq_of_lt (Nat.mod_lt a (by decide))]
      simp
  rw [Nat.pow_succ, Nat.mul_comm (2 ^ i) 2, ← Nat.mul_assoc, Nat.mul_comm (a / 2) 2, ← Nat.shiftLeft_eq, ← Nat.shiftLeft_eq, ← Nat.shiftLeft_eq, ← Nat.shiftLeft_xor_distrib, h]
theorem gmf_eq (j : Nat) : ∀ (n i a : Nat), a < 2 ^ n → i + n ≤ 80 → gmf n a (gshn j (2 ^ i)) = gshn j (a * 2 ^ i)
  | 0, i, a, ha, _ => by
    have : a = 0 := by rw [Nat.pow_zero] at ha; omega
    rw [this, Nat.zero_mul, gshn_zero]; rfl
  | n + 1, i, a, ha, hin => by
    have h2 : (if a % 2 = 1 then gshn j (2 ^ i) else 0) = gshn j (a % 2 * 2 ^ i) := by
      rcases Nat.mod_two_eq_zero_or_one a with h | h
      · rw [h, Nat.zero_mul, gshn_zero]; rfl
      · rw [h, Nat.one_mul, if_pos rfl]
    have ha2 : a / 2 < 2 ^ n := by rw [Nat.pow_succ] at ha; omega
    rw [gmf, h2, ← gshn_gsh]
    rcases Nat.lt_or_ge i 79 with hi | hi
    · rw [gsh_pow hi, gmf_eq j n (i + 1) (a / 2) ha2 (by omega), ← gshn_xor, split2]
    · have hn : n = 0 := by omega
      subst hn
      have h0 : a / 2 = 0 := by rw [Nat.pow_zero] at ha2; omega
      have h3 := split2 a i
      rw [h0, Nat.zero_mul, Nat.xor_zero] at h3
      rw [gmf, Nat.xor_zero, h3]
theorem gmf_pw (i j : Nat) : gmf 80 (gshn i 1) (gshn j 1) = gshn (j + i) 1 := by
  have := gmf_eq j 80 0 (gshn i 1) (gshn_lt i) (by decide)
  rw [Nat.pow_zero, Nat.mul_one, gshn_add] at this
  exact this
theorem gmf_false {s : GS} : ∀ (n a b : Nat), (∀ k, k < n → gL (gshn k b) s = false) → gL (gmf n a b) s = false
  | 0, _, _, _ => lin_zero _ _
  | n + 1, a, b, h => by
    rw [gmf, gL_xor, gmf_false n (a / 2) (gsh b) fun k hk => ?_, Bool.xor_false]
    · split
      · exact h 0 (Nat.succ_pos n)
      · exact lin_zero _ _
    · rw [gshn_gsh]; exact h (k + 1) (Nat.succ_lt_succ hk)
def ckB : Nat → List (Nat × Nat) → Bool
  | _, [] => true
  | r, (b, v) :: t => (if b = 1 then gsh (gmf 80 r r) else gmf 80 r r) == v && ckB v t
def ckN : Nat → List (Nat × Nat) → Nat
  | n, [] => n
  | n, (b, _) :: t => ckN (2 * n + (if b = 1 then 1 else 0)) t
def ckV : Nat → List (Nat × Nat) → Nat
  | r, [] => r
  | _, (_, v) :: t => ckV v t
theorem ck_ok : ∀ (l : List (Nat × Nat)) (r n : Nat), ckB r l = true → r = gshn n 1 → ckV r l = gshn (ckN n l) 1
  | [], _, _, _, h => h
  | (b, v) :: t, r, n, h, hr => by
    rw [ckB, Bool.and_eq_true, beq_iff_eq] at h
    have hs : gmf 80 r r = gshn (2 * n) 1 := by rw [hr, gmf_pw, Nat.two_mul]
    refine ck_ok t v _ h.2 ?_
    rw [← h.1, hs]
    split <;> rfl
def cN : List (Nat × Nat) := [(1, 2), (1, 8), (1, 128), (1, 32768), (1, 2147483648), (1, 9223372036854775808), (1, 11221390227038822991904), (1, 800397508308252430212281), (1, 637485469032090214560907), (1, 669322676524112085409900), (1, 1164227814215486030827242), (1, 809740879030788648770269), (1, 780095717460512052179787), (1, 1006383073854137254778581), (1, 684261264833971970626577), (1, 120907674356034718726960), (1, 387289299546188852217002), (1, 387822805938015282392225), (1, 1096912740803507015310626), (1, 51664283268780365147051), (1, 688196268240267427182773), (1, 393404775271569058308635), (1, 552805920605064077113513), (1, 895005285027209541641614), (1, 918342966861653067955958), (1, 904498707212688181589655), (1, 696746210099795852656082), (1, 1172360433492421405852838), (1, 668310653879554941005465), (1, 377812589808684629596572), (1, 1150704331599797316902311), (1, 1016156062705919376900302), (1, 1086276753168135717058366), (1, 744932115776023310153816), (1, 1137095399442178879657717), (1, 934211711548269237105206), (1, 906749410988682230213809), (1, 345987091295467345989853), (1, 851284255818112492912664), (1, 671228556547446212916519), (1, 1017443965954926215369630), (1, 791457827239781862991294), (1, 1198295938956670714544654), (1, 1110313788735409333680453), (1, 1184908394908600953238151), (1, 185375802907468651488304), (1, 1031004830262595570124640), (1, 229194571822218281821135), (1, 1033195016308555482529972), (1, 444673986589735673074901), (1, 727454995289700771066199), (1, 1040116771240732355263487), (1, 204202924317943604154051), (1, 194323988302013358915420), (1, 471664034128288843813893), (1, 914829644606394284273483), (1, 68410566773811464455474), (1, 386134337001085791074949), (1, 1207753349454153620584050), (1, 401241443830646286419318), (1, 954422883416334962128503), (1, 519213829866922355062045), (1, 123029267993270332473569), (1, 921705238922761328123997), (1, 923917150338537575839284), (1, 498028884155268583522848), (1, 54835643696549331607604), (1, 209271865119677475964430), (1, 694968197914734318556177), (1, 527121465457648624916818), (1, 1023846235475981312788862), (1, 863851317313374919415239), (1, 727602884378597890503838), (1, 566454241529462074808575), (1, 636640791327218411317754), (1, 912195536360125969415135), (1, 119246790902342938204583), (1, 123544086307379321531037), (1, 1142596360126940304094301), (1, 1)]
def c3 : List (Nat × Nat) := [(1, 2), (0, 4), (1, 32), (0, 1024), (1, 2097152), (0, 4398046511104), (1, 147646018980076060704), (0, 153334713810109443437641), (1, 516664578042666213165521), (0, 216437062230710754061680), (1, 612504936141653265942090), (0, 146912445305462738289772), (1, 1118720749568370175759479), (0, 142045513957622205339584), (1, 733347785551533797030422), (0, 755776271971120134784448), (1, 887558736362325162667116), (0, 378392374683263652355359), (1, 293111743885802448921940), (0, 417953733719059580929783), (1, 71345172810421370504554), (0, 1082917369607274215811833), (1, 17660706348342623969341), (0, 853579017309679963727515), (1, 272705570659086239445381), (0, 259673799586929155004171), (1, 380635148367773628424859), (0, 112158572908831755144031), (1, 1079848481305901694702735), (0, 97213769866291638145321), (1, 1136060172393706080038847), (0, 814740100815085407030561), (1, 876234723863311917739118), (0, 820796675437591200758343), (1, 324694686253540762441855), (0, 732528109958695707445528), (1, 574750823846766720209313), (0, 877585599659175999335201), (1, 525404146889743696598406), (0, 1114813804165953257827973), (1, 495378617994603105361012), (0, 757947120758095047325754), (1, 587725946935531194514523), (0, 576319947694755082720167), (1, 899835118434945783873834), (0, 119055755107726188320359), (1, 1174704917006171124081144), (0, 202974084895164155802750), (1, 181662631127937518745297), (0, 824894865186448342241786), (1, 1127576762084974833208282), (0, 1188941077445458608248864), (1, 917277879949471245406777), (0, 807506400863991231937390), (1, 1066023399977537370135489), (0, 458191862274553947753345), (1, 824055832333045137166898), (0, 112794915763163097044283), (1, 1066262783202207631221755), (0, 1002302560320036278041450), (1, 432682863747937640020538), (0, 363792541039470727995261), (1, 1185645000105035965184307), (0, 673294440684102349615041), (1, 868388642656323682751289), (0, 1052443172734505298426318), (1, 862728081814821699804298), (0, 1184525628493082315001283), (1, 941779237656583986195639), (0, 770550429619225875238919), (1, 151063990467145195769211), (0, 1178719107542010800964363), (1, 833482308549090449169996), (0, 872094874875234356104268), (1, 695299542409563482898434), (0, 731415439454816208494159), (1, 970659064223676186288832), (0, 1208254147178583370573969), (1, 626585978286512781477397)]
def c5 : List (Nat × Nat) := [(1, 2), (1, 8), (0, 64), (0, 4096), (1, 33554432), (1, 2251799813685248), (0, 9519708931952671326224), (0, 666123041047548031732224), (1, 1118482598430979032694669), (1, 470643390131716853965631), (0, 554449589121407300766328), (0, 1092180008616709528781934), (1, 67907838074966511332425), (1, 606865161243140537946801), (0, 970304638229218331644543), (0, 1198896220341138565132978), (1, 898794109410698761231658), (1, 587335516300904787320335), (0, 639769448446466091488404), (0, 1098373882060302472133845), (1, 10227023774372690581711), (1, 277306384013843918751872), (0, 583300773386770813408133), (0, 749046566386844019194927), (1, 21760905602095337391219), (1, 492158095847190150592069), (0, 619957687932946406794676), (0, 372284586904398958470275), (1, 599692765638727759313404), (1, 914287625735208913265267), (0, 65783324988385203697402), (0, 1180953649495656013812577), (1, 497996716714549646558356), (1, 946293571253173107770179), (0, 883769150017280070955259), (0, 384021057730430451405786), (1, 597304733739282074093215), (1, 951722139771690616608693), (0, 74105804470929207610950), (0, 901462593543289187933649), (1, 508891241490661077983249), (1, 977985663369430089863968), (0, 624003478639557246350634), (0, 979544804269303316284019), (1, 1037125234494797412411185), (1, 620841597508289522779138), (0, 430906845192041544829874), (0, 45935159896119381964822), (1, 280823229785775257503831), (1, 742687456681745278865979), (0, 26740650466480014262892), (0, 1167222817291482652210741), (1, 718520815402083534476856), (1, 1043711174072209667146479), (0, 655639427500533862761266), (0, 784354881988653866625089), (1, 40038790869343297682006), (1, 458038217221352083062874), (0, 1117412851009595496786551), (0, 201471355875590917481718), (1, 453453989834488780132127), (1, 93253952747081882694977), (0, 1104244612161006761890035), (0, 896706697854072426695184), (1, 212596370296856844703208), (1, 1060090234340738830229916), (0, 162950710044203237964454), (0, 362118139478769309527439), (1, 1180105548398335455223756), (1, 578657991146196422994598), (0, 84241761012349988972024), (0, 1033324996655604563619845), (1, 1098820073738826695863806), (1, 84229546652033257917121), (0, 1025223086128408591756534), (0, 801288765431468053863321), (1, 737756302358718751598318), (1, 1062759767451249268146)]
def c11 : List (Nat × Nat) := [(1, 2), (0, 4), (1, 32), (1, 2048), (1, 8388608), (0, 70368744177664), (1, 37797380858899471540224), (0, 314041109576385760206968), (0, 421128986251939735385372), (0, 787858466886008116450876), (1, 857637822071804632597220), (0, 136774831570285513802468), (1, 1092889526029912657797371), (1, 538248229631802805817891), (1, 240199527545104632497266), (0, 336307909564741261545403), (1, 1191353576392743848980266), (0, 246803395514344189209438), (0, 271309299752946330910907), (0, 751072923574525637373712), (1, 1105837028493624714533830), (0, 607987569058897218265495), (1, 1200460351077774644676772), (1, 755213434967332114655046), (1, 592163668379009479292459), (0, 674117523946707482211719), (1, 1029391797931328639645809), (0, 653902144152277236960868), (0, 302731521512740564541533), (0, 501233949907696302797118), (1, 311122675741299842542866), (0, 274286249127437655679066), (1, 63038829372439494523261), (1, 1112022762174527288969765), (1, 391253926130946121544606), (0, 1207403313955841167486652), (1, 727566991967881237425153), (0, 1045874582331544652879194), (0, 138721025576448850473302), (0, 384268672733866306655643), (1, 740811601290387151923968), (0, 837454997027030525037515), (1, 139024465525485767016084), (1, 548511750684798634319032), (1, 551595460599791472715886), (0, 743685530966941581857488), (1, 317645056950676373130151), (0, 385565530742239109047480), (0, 966335612589104728616065), (0, 162489044545806591326551), (1, 830888058807902317718586), (0, 779655259917587792658974), (1, 764693981028649521067605), (1, 1188611081862589309113848), (1, 572768111027972442444504), (0, 345207097045447128085936), (1, 270398687345275272571957), (0, 865323048987621948595066), (0, 799369740250605324760548), (0, 615244991848702251018506), (1, 221966012938180303284582), (0, 429816087768468045574056), (1, 619365004459170016369213), (1, 524688221620076597952930), (1, 610270259850894031087414), (0, 564535652807941634703567), (1, 198721520166769685539087), (0, 327682629770941874510919), (0, 1205906629509537462292004), (0, 67344651217551861118489), (1, 883866763731636707753526), (0, 1085185911669970188352997), (1, 1091202284558813802239640), (1, 476248188615666149852172), (1, 17103886480037289859638), (0, 888605464731824021097267), (1, 983533484020332525020618)]
def c17 : List (Nat × Nat) := [(1, 2), (1, 8), (1, 128), (1, 32768), (0, 1073741824), (0, 1152921504606846976), (0, 302320275499191873177616), (0, 573533242550269306959623), (1, 245717489392291873947138), (1, 185382124449510131474852), (1, 1189468574335116869986751), (1, 1207492787894924802038081), (0, 857427646391979289272996), (0, 879864259115374795349096), (0, 1077288275123855320801034), (0, 1088460493504347849363114), (1, 499113456227584456489201), (1, 551321315478928534562648), (1, 593794133232813511211193), (1, 119456160908959188918991), (0, 121776674087442589940604), (0, 576821862534435507953814), (0, 289479245146076512937824), (0, 907965497290688219091936), (1, 62677029624026588645404), (1, 1081282929033619842903321), (1, 675241496785058107966001), (1, 1105577484477855719940318), (0, 408026764675248749538804), (0, 443494192281474813470580), (0, 558985393782007194851801), (0, 16130653138079956689191), (1, 874855787929490493136687), (1, 210503356751793814584526), (1, 843030051659147086723970), (1, 814578622310394618157095), (0, 544545638970549158401892), (0, 963976685327098602196905), (0, 1148715474467934007803598), (0, 1012621358459909551667243), (1, 1199170697192413665069900), (1, 660815505396791960379122), (1, 911576530742619035842355), (1, 1120252420769361534478645), (0, 1086226504404405578837304), (0, 532348284754197609068367), (0, 1049737702862913428158977), (0, 1089787998200515085442132), (1, 1098586231293160698049573), (1, 520033049018466143174610), (1, 1147912589595172484973163), (1, 471808525864012094264892), (0, 602155868944987784584538), (0, 1125443849935694359494924), (0, 755987005573654471576655), (0, 839910786748551145307048), (1, 209895440662405021974220), (1, 446742555186871045918320), (1, 388527352778104462448681), (1, 524079814072928707356375), (0, 906282365782656258327839), (0, 827849890295403935380427), (0, 419344779728229430590948), (0, 626224135071543654981867), (1, 1179316020438364966692835), (1, 173243354297542470434765), (1, 199933750033215864560412), (1, 528648261812505156389900), (0, 564974839222146859503327), (0, 1113842782536759708793224), (0, 493903405511119711670300), (0, 929757719596978651601531), (1, 993979465689311780418881), (1, 1113040281873559971927794), (1, 186427837104177468236470), (1, 327364340713523199760690)]
def c31 : List (Nat × Nat) := [(1, 2), (0, 4), (0, 16), (0, 256), (0, 65536), (1, 8589934592), (0, 73786976294838206464), (0, 359084487265242335740928), (0, 1185629522165681450333010), (0, 91289799219034009931260), (1, 259291483365993377379836), (0, 1092238270218267325022803), (0, 777802609368143194309746), (0, 905554425834047407244935), (0, 541666122215216992938109), (1, 424851166825507459636702), (0, 634921945615809585513478), (0, 417536897091958857968195), (0, 992661754728129978930631), (0, 541435093168172351361596), (1, 544285906780887686469170), (0, 1147370794593729922763818), (0, 1047315786410875371654489), (0, 340750522954711617078603), (0, 736512108572341613748355), (1, 867196632979178041472902), (0, 994780521584452367756780), (0, 124523627407512618119811), (0, 1038866033182971559071379), (0, 465533045413567835842388), (1, 423487284934327722764611), (0, 631752448544528375024716), (0, 580125326179722557753875), (0, 171758654710041866869107), (0, 639520443621111330291058), (1, 606986419411738576247742), (0, 183771730451047781927927), (0, 658342665874093146381291), (0, 927483532544162379458270), (0, 152413539521370869338234), (1, 4655637715008689385853), (0, 535444696449614472070256), (0, 49674394923352629106832), (0, 1041330303637867063822445), (0, 686188233364810919980981), (1, 423818574694301872521629), (0, 368714994767436196003631), (0, 757191658911238405627364), (0, 1092820733667333712446084), (0, 651371483655754557394338), (1, 39207501859647095218167), (0, 936079554399575003015468), (0, 906855906886417805160983), (0, 905191055822669932168014), (0, 611987112830172994441710), (1, 801929422937525679979411), (0, 670430055941906409720996), (0, 558117142746134297868585), (0, 211748625744539623410371), (0, 106094473508676287614187), (1, 293295054040835148218050), (0, 238484931749693067312818), (0, 513472895529520353949483), (0, 192790900711989394776814), (0, 721879258591298635341368), (1, 569663588941731594877075), (0, 718033813229007155858574), (0, 968773033298149946422430), (0, 845852459462491893398663), (0, 476093581124932073602273), (1, 146159553925993034747995), (0, 860026585320914036810695), (0, 636419998208101577958668), (0, 635362745164496079053743), (0, 378208513200587942943476), (1, 343260682785693274768378)]
def c41 : List (Nat × Nat) := [(1, 2), (1, 8), (0, 64), (0, 4096), (0, 16777216), (1, 562949953421312), (1, 1189963616494083915778), (1, 20816345032735875991632), (1, 1074247191333774514031399), (1, 775424970415858192868343), (0, 1172273328919504064994420), (0, 1181063993143759497972744), (1, 302221034621881656318669), (1, 858686553782234026163246), (1, 839574810869417650163897), (0, 880066652213142650328773), (0, 864870840690774983011366), (0, 525447749759606731431454), (0, 638844268948056858062572), (0, 442156881284729240439517), (1, 1012320301045889791712178), (1, 548905400419276256685089), (0, 722520610426664397585215), (0, 1165620347344121552534413), (0, 850476466605607536017342), (1, 264849762083193641476768), (1, 299956895668004576404150), (1, 913886636714500667795842), (1, 691021087875197108964590), (1, 71866019211282648796766), (0, 486936814940057936687466), (0, 428127316057538820605639), (1, 240545267588811998833233), (1, 383943726181085208769851), (1, 161653631733183474515661), (0, 785321634473055100957158), (0, 1071622092694586029399673), (0, 722975230544477621949352), (0, 663990260365480206361951), (0, 468196162835808085765689), (1, 565220766224404431742416), (1, 160661505754908711725194), (0, 144125571663725456035575), (0, 900833712229605589849056), (0, 1114064000191451963785792), (1, 1125127270419103099645439), (1, 261608363491471735871053), (1, 1200282330615026783511509), (1, 701159156083261254163318), (1, 216795685624051022046716), (0, 1152443408875263482010571), (0, 199304184164875819177442), (1, 1189708774450091094541386), (1, 130339893422282811898077), (1, 718256292443092459166022), (0, 28812143989836410558600), (0, 1095731571303753797676318), (0, 252922390649534224895897), (0, 186968329605308348916387), (0, 330078564990848592400415), (1, 255457246203847692341728), (1, 75890977833324181202753), (0, 183151780107969921353287), (0, 908885321496906653302651), (0, 1150304793365763429745348), (1, 858550607333200579176088), (1, 833921861499616760486653), (1, 675698042485679155545071), (1, 1002907521635252006144899), (1, 1059191128891639459736536), (0, 389184000786644605345543), (0, 387615746672436971078766), (1, 608113495622609081608662), (1, 1188512986811011330333594), (1, 307969470960599850699048)]
def c257 : List (Nat × Nat) := [(1, 2), (1, 8), (1, 128), (1, 32768), (1, 2147483648), (1, 9223372036854775808), (1, 11221390227038822991904), (1, 800397508308252430212281), (0, 923207951292131380406853), (0, 688130551341600275422221), (0, 1010238592803894759475229), (0, 555971868260802260875970), (0, 237892242163723798378483), (0, 1030287504569251687298829), (0, 274260253954168681015921), (0, 63549609185233900651473), (1, 284580227736205579325997), (1, 689037920266039875385022), (1, 488874177902455091317461), (1, 856570490455061360615920), (1, 436947063243675552400925), (1, 824667252222614560224642), (1, 138719262753458824946869), (1, 553434149296127308948797), (0, 131025171942115659680486), (0, 841747851223504320353814), (0, 246869559966779289752452), (0, 1050894250754274127758094), (0, 526380216797791049024856), (0, 52071833996701872211772), (0, 858999524726065593928357), (0, 903249419456885180959501), (1, 330493824248475419006183), (1, 257484301235830724499866), (1, 131324729761870252505626), (1, 629041558056171874780872), (1, 439544286849634218992907), (1, 1033831011548333626069487), (1, 1202544315907131352873488), (1, 1004879354986247296832426), (0, 1171654731758310290288934), (0, 238620834722929460401394), (0, 453611182371312074634010), (0, 304606011404396298328890), (0, 480497936452806480298303), (0, 932555407750618616061481), (0, 99332335721425175943217), (0, 649203210367999492604279), (1, 1037553756811592329960269), (1, 926766251863825975722942), (1, 1040370396507414266144797), (1, 1043722743467427090114146), (1, 430062871293863609101410), (1, 308928034180926193832494), (1, 524519925275661764047881), (1, 241262216285142654354145), (0, 544950812676372980869868), (0, 353734995178846488770051), (0, 795057085936129220729208), (0, 831666553338746295365562), (0, 21998379500035012814175), (0, 691583271393733584416298), (0, 897756063491543753677875), (0, 312848661210969840188549), (1, 502525481453611207450489), (1, 26038595597899611563228), (1, 168437989018894581489183), (1, 134936329491993722653742), (1, 10631785785023048596857), (1, 429559409779005357963403), (1, 972471218902676652264067), (1, 179140377121142316031657)]
def c61681 : List (Nat × Nat) := [(1, 2), (0, 4), (0, 16), (0, 256), (0, 65536), (1, 8589934592), (1, 147573952589676412928), (1, 454833486767767079641090), (1, 644938910619347681937789), (1, 492638207488622584351146), (1, 144178760405024874343781), (1, 831355718172659527501601), (1, 849677027913524114226728), (1, 208528452999990850456067), (1, 427432287507757965738972), (1, 510208526625436048642579), (1, 806422190220180927625946), (1, 1188976511227276610112527), (1, 327387801037955979928472), (1, 741710310403155828593637), (0, 774369957161172018191666), (1, 300835406096380202850284), (1, 1103614060220978085079514), (1, 338963741784572364582434), (1, 1185336183831697253763877), (0, 256696041964429535226655), (0, 80558730727872108173753), (0, 531885185127313137523299), (0, 385325749806915042626201), (0, 638678991524229105232322), (0, 1039609821206635479763425), (0, 56493935543298749772114), (0, 20407841705462921298407), (0, 1066632845159792135765948), (0, 1111429326231398210716201), (0, 312632381900114022951847), (0, 1031846207873203628053727), (0, 716078636213552611110681), (0, 694106588969680788827954), (0, 810619773629216788112246), (1, 418468920671166826436130), (0, 231783694801443947554123), (0, 736037164475694283020087), (0, 843017519207989597797065), (0, 676408648651334333116519), (1, 329417239158393043353649), (1, 8581517163985855918601), (1, 571397921505607962376433), (1, 799290530440277361680023), (1, 107863742451544501092066), (1, 87316282198938626218602), (1, 419697207302011917877469), (1, 144266616571691331407590), (1, 412260485065041021979738), (1, 11287493925149858563358), (1, 321566211308145042326954), (1, 608187219999682765448905), (1, 1104861859509552274381802), (1, 1121460888527473359062383), (1, 1108846569264062757296496), (0, 497485998737962635975371), (1, 411820630794889649601360), (1, 374264985348865416860076), (1, 996757730337345186888506), (1, 979407236731731279953126)]
def c4278255361 : List (Nat × Nat) := [(1, 2), (0, 4), (0, 16), (0, 256), (0, 65536), (0, 4294967296), (0, 18446744073709551616), (0, 22442780454077645983808), (0, 391864587567931958303091), (1, 132081018030115542372910), (1, 1037793142940309922449096), (1, 646209584318830406019830), (1, 69699625921252699581304), (1, 402903280846353566194591), (1, 612141767539666583282086), (1, 733623008977397499017339), (1, 1094274753603084706968108), (1, 472358296293773348705498), (1, 968804903107618756607924), (1, 1114583479454056322850534), (1, 886338915457120472851324), (1, 1162112873060795070175786), (1, 770692400215983420743215), (1, 549728184173020261067453), (1, 456350443036185502873648), (1, 361840095713815614821376), (1, 297105009584058899858853), (1, 671718951171416066387198), (1, 333954263481610061086684), (1, 9614370183811701749951), (1, 273114363606241338668133), (1, 1151988876894616902748858), (1, 1145804517389558186350497), (1, 156729964641643811539318), (1, 898886606243180157784630), (1, 970205088056274989029166), (1, 964128040006292410423929), (1, 1001140077580635813841737), (1, 371848557682122931539119), (1, 514919179186930346220253), (0, 957496498818064581868879), (1, 128043937369799570136341), (1, 56187131915954178271185), (1, 209150551927654220972440), (1, 170607883080757670782875), (1, 539002911144434548257101), (1, 808083486161503564935369), (1, 402753735925102154898605), (1, 1196125910291071573644424)]
theorem cN_v : gshn 1208925819614629174706175 1 = 1 := by
  have h := ck_ok cN 1 0 (by kernel_rfl) rfl
  rw [show ckN 0 cN = 1208925819614629174706175 by kernel_rfl, show ckV 1 cN = 1 by kernel_rfl] at h
  exact h.symm
theorem c3_v : gshn 402975273204876391568725 1 = 626585978286512781477397 := by
  have h := ck_ok c3 1 0 (by kernel_rfl) rfl
  rw [show ckN 0 c3 = 402975273204876391568725 by kernel_rfl, show ckV 1 c3 = 626585978286512781477397 by kernel_rfl] at h
  exact h.symm
theorem c3_i : gmf 80 626585978286512781477397 (626585978286512781477397 ^^^ 1) = 1 := by kernel_rfl
theorem c5_v : gshn 241785163922925834941235 1 = 1062759767451249268146 := by
  have h := ck_ok c5 1 0 (by kernel_rfl) rfl
  rw [show ckN 0 c5 = 241785163922925834941235 by kernel_rfl, show ckV 1 c5 = 1062759767451249268146 by kernel_rfl] at h
  exact h.symm
theorem c5_i : gmf 80 847140029551063439083571 (1062759767451249268146 ^^^ 1) = 1 := by kernel_rfl
theorem c11_v : gshn 109902347237693561336925 1 = 983533484020332525020618 := by
  have h := ck_ok c11 1 0 (by kernel_rfl) rfl
  rw [show ckN 0 c11 = 109902347237693561336925 by kernel_rfl, show ckV 1 c11 = 983533484020332525020618 by kernel_rfl] at h
  exact h.symm
theorem c11_i : gmf 80 423046615815031885923465 (983533484020332525020618 ^^^ 1) = 1 := by kernel_rfl
theorem c17_v : gshn 71113283506742892629775 1 = 327364340713523199760690 := by
  have h := ck_ok c17 1 0 (by kernel_rfl) rfl
  rw [show ckN 0 c17 = 71113283506742892629775 by kernel_rfl, show ckV 1 c17 = 327364340713523199760690 by kernel_rfl] at h
  exact h.symm
theorem c17_i : gmf 80 1155896398307893314045777 (327364340713523199760690 ^^^ 1) = 1 := by kernel_rfl
theorem c31_v : gshn 38997607084342876603425 1 = 343260682785693274768378 := by
  have h := ck_ok c31 1 0 (by kernel_rfl) rfl
  rw [show ckN 0 c31 = 38997607084342876603425 by kernel_rfl, show ckV 1 c31 = 343260682785693274768378 by kernel_rfl] at h
  exact h.symm
theorem c31_i : gmf 80 183502464077304913684533 (343260682785693274768378 ^^^ 1) = 1 := by kernel_rfl
theorem c41_v : gshn 29485995600356809139175 1 = 307969470960599850699048 := by
  have h := ck_ok c41 1 0 (by kernel_rfl) rfl
  rw [show ckN 0 c41 = 29485995600356809139175 by kernel_rfl, show ckV 1 c41 = 307969470960599850699048 by kernel_rfl] at h
  exact h.symm
theorem c41_i : gmf 80 375760536490022064001342 (307969470960599850699048 ^^^ 1) = 1 := by kernel_rfl
theorem c257_v : gshn 4703991516010230251775 1 = 179140377121142316031657 := by
  have h := ck_ok c257 1 0 (by kernel_rfl) rfl
  rw [show ckN 0 c257 = 4703991516010230251775 by kernel_rfl, show ckV 1 c257 = 179140377121142316031657 by kernel_rfl] at h
  exact h.symm
theorem c257_i : gmf 80 676331498297951284148691 (179140377121142316031657 ^^^ 1) = 1 := by kernel_rfl
theorem c61681_v : gshn 19599646886636552175 1 = 979407236731731279953126 := by
  have h := ck_ok c61681 1 0 (by kernel_rfl) rfl
  rw [show ckN 0 c61681 = 19599646886636552175 by kernel_rfl, show ckV 1 c61681 = 979407236731731279953126 by kernel_rfl] at h
  exact h.symm
theorem c61681_i : gmf 80 396894167770810043337993 (979407236731731279953126 ^^^ 1) = 1 := by kernel_rfl
theorem c4278255361_v : gshn 282574488338175 1 = 1196125910291071573644424 := by
  have h := ck_ok c4278255361 1 0 (by kernel_rfl) rfl
  rw [show ckN 0 c4278255361 = 282574488338175 by kernel_rfl, show ckV 1 c4278255361 = 1196125910291071573644424 by kernel_rfl] at h
  exact h.symm
theorem c4278255361_i : gmf 80 273558259875724820181296 (1196125910291071573644424 ^^^ 1) = 1 := by kernel_rfl
theorem irG_2 : Irr 2 := irr_trial (f := 0) (by decide) (by decide) (by kernel_rfl)
theorem irG_3 : Irr 3 := irr_trial (f := 0) (by decide) (by decide) (by kernel_rfl)
theorem irG_5 : Irr 5 := irr_trial (f := 1) (by decide) (by decide) (by kernel_rfl)
theorem irG_11 : Irr 11 := irr_trial (f := 2) (by decide) (by decide) (by kernel_rfl)
theorem irG_17 : Irr 17 := irr_trial (f := 3) (by decide) (by decide) (by kernel_rfl)
theorem irG_31 : Irr 31 := irr_trial (f := 4) (by decide) (by decide) (by kernel_rfl)
theorem irG_41 : Irr 41 := irr_trial (f := 5) (by decide) (by decide) (by kernel_rfl)
theorem irG_257 : Irr 257 := irr_trial (f := 15) (by decide) (by decide) (by kernel_rfl)
theorem irG_61681 : Irr 61681 := irr_trial (f := 247) (by decide) (by decide) (by kernel_rfl)
theorem irG_65537 : Irr 65537 := irr_trial (f := 255) (by decide) (by decide) (by kernel_rfl)
theorem irG_4278255361 : Irr 4278255361 := pock [(2, 8, 11), (65537, 1, 3)] (by kernel_rfl) (by kernel_rfl) (by kernel_rfl) (by kernel_rfl) (by decide) (List.forall_mem_cons.2 ⟨irG_2, List.forall_mem_cons.2 ⟨irG_65537, fun _ h => absurd h List.not_mem_nil⟩⟩)
def Pd (s : GS) (e : Nat) : Prop := ∀ n, gy s (n + e) = gy s n
theorem Pd.mul {s : GS} {e : Nat} (h : Pd s e) : ∀ k, Pd s (e * k)
  | 0 => fun _ => by rw [Nat.mul_zero]; rfl
  | k + 1 => fun n => by rw [Nat.mul_succ, ← Nat.add_assoc, h, h.mul k]
theorem Pd.sub {s : GS} {a b : Nat} (ha : Pd s a) (hb : Pd s b) (hab : b ≤ a) : Pd s (a - b) := fun n => by
  rw [← hb (n + (a - b)), show n + (a - b) + b = n + a by omega, ha]
theorem Pd.mod {s : GS} {a b : Nat} (ha : Pd s a) (hb : Pd s b) : Pd s (a % b) := by
  have h := ha.sub (hb.mul (a / b)) (Nat.mul_div_le a b)
  have e : a - b * (a / b) = a % b := by
    have := Nat.div_add_mod a b
    omega
  rw [e] at h
  exact h
theorem Pd.gcd {s : GS} (a b : Nat) (ha : Pd s a) (hb : Pd s b) : Pd s (Nat.gcd a b) := by
  induction a, b using Nat.gcd.induction with
  | H0 b => rw [Nat.gcd_zero_left]; exact hb
  | H1 a b hpos ih =>
    rw [Nat.gcd_rec]
    exact ih (hb.mod ha) ha
theorem pd_N {s : GS} (h : GV s) : Pd s 1208925819614629174706175 := fun n => by
  rw [gy_pw h, gy_pw h, ← gshn_add, cN_v]
theorem pd_no {s : GS} (h : GV s) {e c d : Nat} (hc : gshn e 1 = c) (hd : gmf 80 d (c ^^^ 1) = 1) (hp : Pd s e) : GZ s := by
  have key : ∀ m, gy s m = false := fun m => by
    have hm := h.git m
    have hp' : ∀ n, gy (git m s) (n + e) = gy (git m s) n := fun n => by
      rw [gy_git, gy_git, show n + e + m = n + m + e by omega, hp]
    have h1 := gmf_false (s := git m s) 80 d (c ^^^ 1) fun k _ => by
      rw [gshn_xor, gL_xor, ← hc, gshn_add, ← gy_pw hm, ← gy_pw hm, hp']
      cases gy (git m s) k <;> rfl
    rw [hd, gL_one] at h1
    exact h1
  exact fun j hj => by rw [gw_y j h hj]; exact key j
theorem peel {q h m : Nat} (hq : Irr q) (hn : ¬ q ∣ h) (hd : h ∣ q * m) : h ∣ m := by
  obtain ⟨t, ht⟩ := hd
  rcases hq.euclid (show q ∣ h * t from ⟨m, ht.symm⟩) with h1 | h1
  · exact absurd h1 hn
  · obtain ⟨u, rfl⟩ := h1
    refine ⟨u, Nat.eq_of_mul_eq_mul_left hq.pos ?_⟩
    rw [ht, ← Nat.mul_assoc, ← Nat.mul_assoc, Nat.mul_comm h q]
theorem drop_q {g h q M : Nat} (hq : Irr q) (hN : q * M = g * h) (hd : q ∣ h) : g ∣ M := by
  obtain ⟨u, rfl⟩ := hd
  refine ⟨u, Nat.eq_of_mul_eq_mul_left hq.pos ?_⟩
  rw [hN, ← Nat.mul_assoc, ← Nat.mul_assoc, Nat.mul_comm g q]
theorem Pd.up {s : GS} {g M : Nat} (h : Pd s g) (hd : g ∣ M) : Pd s M := by
  obtain ⟨u, rfl⟩ := hd
  exact h.mul u
theorem pd_min {s : GS} (h : GG s) {g : Nat} (hg : g ∣ 1208925819614629174706175) (hp : Pd s g) : g = 1208925819614629174706175 := by
  obtain ⟨k, hk⟩ := hg
  have n3 : ¬ 3 ∣ k := fun hd => h.2 (pd_no h.1 c3_v c3_i (hp.up (drop_q irG_3 (M := 402975273204876391568725) ((show 3 * 402975273204876391568725 = 1208925819614629174706175 from rfl).trans hk) hd)))
  have n5 : ¬ 5 ∣ k := fun hd => h.2 (pd_no h.1 c5_v c5_i (hp.up (drop_q irG_5 (M := 241785163922925834941235) ((show 5 * 241785163922925834941235 = 1208925819614629174706175 from rfl).trans hk) hd)))
  have n11 : ¬ 11 ∣ k := fun hd => h.2 (pd_no h.1 c11_v c11_i (hp.up (drop_q irG_11 (M := 109902347237693561336925) ((show 11 * 109902347237693561336925 = 1208925819614629174706175 from rfl).trans hk) hd)))
  have n17 : ¬ 17 ∣ k := fun hd => h.2 (pd_no h.1 c17_v c17_i (hp.up (drop_q irG_17 (M := 71113283506742892629775) ((show 17 * 71113283506742892629775 = 1208925819614629174706175 from rfl).trans hk) hd)))
  have n31 : ¬ 31 ∣ k := fun hd => h.2 (pd_no h.1 c31_v c31_i (hp.up (drop_q irG_31 (M := 38997607084342876603425) ((show 31 * 38997607084342876603425 = 1208925819614629174706175 from rfl).trans hk) hd)))
  have n41 : ¬ 41 ∣ k := fun hd => h.2 (pd_no h.1 c41_v c41_i (hp.up (drop_q irG_41 (M := 29485995600356809139175) ((show 41 * 29485995600356809139175 = 1208925819614629174706175 from rfl).trans hk) hd)))
  have n257 : ¬ 257 ∣ k := fun hd => h.2 (pd_no h.1 c257_v c257_i (hp.up (drop_q irG_257 (M := 4703991516010230251775) ((show 257 * 4703991516010230251775 = 1208925819614629174706175 from rfl).trans hk) hd)))
  have n61681 : ¬ 61681 ∣ k := fun hd => h.2 (pd_no h.1 c61681_v c61681_i (hp.up (drop_q irG_61681 (M := 19599646886636552175) ((show 61681 * 19599646886636552175 = 1208925819614629174706175 from rfl).trans hk) hd)))
  have n4278255361 : ¬ 4278255361 ∣ k := fun hd => h.2 (pd_no h.1 c4278255361_v c4278255361_i (hp.up (drop_q irG_4278255361 (M := 282574488338175) ((show 4278255361 * 282574488338175 = 1208925819614629174706175 from rfl).trans hk) hd)))
  have h1 : k ∣ 1 := by
    have h0 : k ∣ 1208925819614629174706175 := ⟨g, by rw [hk, Nat.mul_comm]⟩
    have p0 : k ∣ 402975273204876391568725 := peel irG_3 n3 ((show 1208925819614629174706175 = 3 * 402975273204876391568725 from rfl) ▸ h0)
    have p1 : k ∣ 80595054640975278313745 := peel irG_5 n5 ((show 402975273204876391568725 = 5 * 80595054640975278313745 from rfl) ▸ p0)
    have p2 : k ∣ 7326823149179570755795 := peel irG_11 n11 ((show 80595054640975278313745 = 11 * 7326823149179570755795 from rfl) ▸ p1)
    have p3 : k ∣ 430989597010562985635 := peel irG_17 n17 ((show 7326823149179570755795 = 17 * 430989597010562985635 from rfl) ▸ p2)
    have p4 : k ∣ 13902890226147193085 := peel irG_31 n31 ((show 430989597010562985635 = 31 * 13902890226147193085 from rfl) ▸ p3)
    have p5 : k ∣ 339094883564565685 := peel irG_41 n41 ((show 13902890226147193085 = 41 * 339094883564565685 from rfl) ▸ p4)
    have p6 : k ∣ 1319435344609205 := peel irG_257 n257 ((show 339094883564565685 = 257 * 1319435344609205 from rfl) ▸ p5)
    have p7 : k ∣ 21391276805 := peel irG_61681 n61681 ((show 1319435344609205 = 61681 * 21391276805 from rfl) ▸ p6)
    have p8 : k ∣ 5 := peel irG_4278255361 n4278255361 ((show 21391276805 = 4278255361 * 5 from rfl) ▸ p7)
    have p9 : k ∣ 1 := peel irG_5 n5 ((show 5 = 5 * 1 from rfl) ▸ p8)
    exact p9
  have hk1 : k = 1 := Nat.dvd_one.1 h1
  rw [hk, hk1, Nat.mul_one]
end Go.Proofs.Ytbholmgeaklljaa
namespace Go.Proofs.Ytbholmgeaklljaa
open Go
def cntT (p : Nat → Bool) : Nat → Nat
  | 0 => 0
  | n + 1 => cntT p n + (if p n then 1 else 0)
theorem cnt_congr {p q : Nat → Bool} : ∀ {n : Nat}, (∀ i, i < n → p i = q i) → cntT p n = cntT q n
  | 0, _ => rfl
  | n + 1, h => by rw [cntT, cntT, cnt_congr fun i hi => h i (by omega), h n (by omega)]
theorem cnt_add (p : Nat → Bool) (n : Nat) : ∀ m, cntT p (n + m) = cntT p n + cntT (fun i => p (n + i)) m
  | 0 => rfl
  | m + 1 => by rw [← Nat.add_assoc, cntT, cnt_add p n m, cntT, Nat.add_assoc]
theorem cnt_not (p : Nat → Bool) : ∀ n, cntT p n + cntT (fun i => !p i) n = n
  | 0 => rfl
  | n + 1 => by
    have := cnt_not p n
    rw [cntT, cntT]
    cases p n <;> simp <;> omega
theorem cnt_split (p q : Nat → Bool) : ∀ n, cntT p n = cntT (fun i => p i && !q i) n + cntT (fun i => p i && q i) n
  | 0 => rfl
  | n + 1 => by
    have := cnt_split p q n
    rw [cntT, cntT, cntT, this]
    cases p n <;> cases q n <;> simp <;> omega
theorem cnt_one {p : Nat → Bool} : ∀ {n : Nat}, (∀ i j, i < n → j < n → p i = true → p j = true → i = j) → cntT p n ≤ 1
  | 0, _ => Nat.zero_le _
  | n + 1, h => by
    have ih := cnt_one (p := p) (n := n) fun i j hi hj => h i j (by omega) (by omega)
    rw [cntT]
    cases hp : p n with
    | false => simpa using ih
    | true =>
      have h0 : cntT p n = cntT (fun _ => false) n := cnt_congr fun i hi => by
        cases hpi : p i with
        | false => rfl
        | true => have := h i n (by omega) (by omega) hpi hp; omega
      have h1 : ∀ n, cntT (fun _ => false) n = 0 := fun n => by
        induction n with
        | zero => rfl
        | succ n ih => rw [cntT, ih]; rfl
      rw [h0, h1]; decide
theorem pig {f : Nat → Nat} {n lo : Nat} : ∀ (m : Nat) {p : Nat → Bool}, (∀ i j, i < n → j < n → p i = true → p j = true → f i = f j → i = j) → (∀ i, i < n → p i = true → lo ≤ f i ∧ f i < lo + m) → cntT p n ≤ m
  | 0, p, _, hr => by
    have h0 : cntT p n = cntT (fun _ => false) n := cnt_congr fun i hi => by
      cases hpi : p i with
      | false => rfl
      | true => have := hr i hi hpi; omega
    have h1 : ∀ n, cntT (fun _ => false) n = 0 := fun n => by
      induction n with
      | zero => rfl
      | succ n ih => rw [cntT, ih]; rfl
    rw [h0, h1]; exact Nat.le_refl 0
  | m + 1, p, hi, hr => by
    rw [cnt_split p (fun i => decide (f i = lo + m)) n]
    have h1 := pig m (p := fun i => p i && !decide (f i = lo + m)) (fun i j a b c d => hi i j a b (by simp at c; exact c.1) (by simp at d; exact d.1)) (fun i a c => by
      rw [Bool.and_eq_true, Bool.not_eq_true', decide_eq_false_iff_not] at c
      obtain ⟨c1, c2⟩ := c
      have h3 := (hr i a c1).1
      have h4 : f i < lo + (m + 1) := (hr i a c1).2
      have h5 : f i ≠ lo + m := c2
      exact ⟨h3, by omega⟩)
    have h2 := cnt_one (p := fun i => p i && decide (f i = lo + m)) (n := n) fun i j a b c d => by
      simp at c d
      exact hi i j a b c.1 d.1 (by rw [c.2, d.2])
    omega
def cdn (w : Nat → Bool) : Nat → Nat
  | 0 => 0
  | n + 1 => cdn w n + (if w n then 2 ^ n else 0)
theorem cdn_lt (w : Nat → Bool) : ∀ n, cdn w n < 2 ^ n
  | 0 => Nat.zero_lt_one
  | n + 1 => by
    have := cdn_lt w n
    rw [cdn, Nat.pow_succ]
    split <;> omega
theorem cdn_inj {w w' : Nat → Bool} : ∀ {n : Nat}, cdn w n = cdn w' n → ∀ j, j < n → w j = w' j
  | 0, _, j, hj => absurd hj (Nat.not_lt_zero j)
  | n + 1, h, j, hj => by
    have h1 := cdn_lt w n
    have h2 := cdn_lt w' n
    rw [cdn, cdn] at h
    have hn : w n = w' n := by
      cases hw : w n <;> cases hw' : w' n
      · rfl
      · rw [hw, hw'] at h; simp at h; omega
      · rw [hw, hw'] at h; simp at h; omega
      · rfl
    rw [hn] at h
    have hc : cdn w n = cdn w' n := by omega
    rcases Nat.lt_succ_iff_lt_or_eq.1 hj with h3 | h3
    · exact cdn_inj hc j h3
    · rw [h3]; exact hn
theorem cdn_top {w : Nat → Bool} {n : Nat} : w n = true ↔ 2 ^ n ≤ cdn w (n + 1) := by
  have := cdn_lt w n
  rw [cdn]
  cases w n <;> simp <;> omega
theorem cdn_nz {w : Nat → Bool} {n j : Nat} (hj : j < n) (h : w j = true) : cdn w n ≠ 0 := fun e => by
  have h0 : cdn w n = cdn (fun _ => false) n := by
    rw [e]
    clear e hj
    induction n with
    | zero => rfl
    | succ n ih => rw [cdn, ← ih]; rfl
  rw [cdn_inj h0 j hj] at h
  cases h
def fC (s : GS) (i : Nat) : Nat := cdn (gw (git (2 * i + 1) s)) 80
theorem same_win {s : GS} (h : GV s) {a b : Nat} (hw : ∀ j, j < 80 → gw (git a s) j = gw (git b s) j) (n : Nat) : gy s (n + a) = gy s (n + b) := by
  rw [← gy_git, ← gy_git, gy_pw (h.git a), gy_pw (h.git b), gL, gL]
  exact lin_congr fun j hj => ⟨rfl, hw j hj⟩
theorem no_rep {s : GS} {N : Nat} (hN : N = 1208925819614629174706175) (h : GG s) {i j : Nat} (hij : i < j) (hj : j < N) (hc : fC s i = fC s j) : False := by
  have hs := same_win h.1 (cdn_inj hc)
  have hP : Pd s N := hN ▸ pd_N h.1
  have he : Pd s (2 * (j - i)) := fun n => by
    have h1 := hP.mul (2 * i + 1) (n + 2 * (j - i))
    have h2 := hP.mul (2 * i + 1) n
    have hX : 2 * i + 1 ≤ N * (2 * i + 1) := Nat.le_mul_of_pos_left _ (by omega)
    generalize N * (2 * i + 1) = X at h1 h2 hX
    have h3 := hs (n + X - (2 * i + 1))
    rw [show n + X - (2 * i + 1) + (2 * i + 1) = n + X by omega, show n + X - (2 * i + 1) + (2 * j + 1) = n + 2 * (j - i) + X by omega] at h3
    rw [← h1, ← h2, h3]
  have hg := Pd.gcd _ _ he hP
  have hd1 : Nat.gcd (2 * (j - i)) N ∣ N := Nat.gcd_dvd_right _ _
  have hm : Nat.gcd (2 * (j - i)) N = N := by
    generalize Nat.gcd (2 * (j - i)) N = g at hg hd1
    rw [hN] at hd1 ⊢
    exact pd_min h hd1 hg
  have hd : N ∣ 2 * (j - i) := by
    have := Nat.gcd_dvd_left (2 * (j - i)) N
    rwa [hm] at this
  obtain ⟨k, hk⟩ := hd
  rcases k with _ | _ | k
  · omega
  · omega
  · have : N * 2 ≤ N * (k + 1 + 1) := Nat.mul_le_mul_left _ (by omega)
    omega
theorem fC_inj {s : GS} {N : Nat} (hN : N = 1208925819614629174706175) (h : GG s) {i j : Nat} (hi : i < N) (hj : j < N) (hc : fC s i = fC s j) : i = j := by
  rcases Nat.lt_trichotomy i j with h1 | h1 | h1
  · exact (no_rep hN h h1 hj hc).elim
  · exact h1
  · exact (no_rep hN h h1 hi hc.symm).elim
theorem gg_git {s : GS} (h : GG s) : ∀ n, GG (git n s)
  | 0 => h
  | n + 1 => by
    rw [show git (n + 1) s = gst (git n s) from git_gst n s]
    exact ⟨(gg_git h n).1.gst, fun hz => (gg_git h n).2 (gz_back (gg_git h n).1 hz)⟩
theorem fC_range {s : GS} (h : GG s) (i : Nat) : 1 ≤ fC s i ∧ fC s i < 1208925819614629174706176 := by
  have h1 := cdn_lt (gw (git (2 * i + 1) s)) 80
  refine ⟨Nat.pos_of_ne_zero fun e => (gg_git h (2 * i + 1)).2 fun j hj => ?_, h1⟩
  cases hw : gw (git (2 * i + 1) s) j with
  | false => rfl
  | true => exact absurd e (cdn_nz hj hw)
theorem fC_all {s : GS} {N : Nat} (hN : N = 1208925819614629174706175) (h : GG s) {v : Nat} (hv : 1 ≤ v) (hv2 : v < 1208925819614629174706176) : ∃ i, fC s i = v := by
  refine Classical.byContradiction fun hne => ?_
  have hno : ∀ i, fC s i ≠ v := fun i e => hne ⟨i, e⟩
  have h1 := pig (f := fun i => if v < fC s i then fC s i - 1 else fC s i) (n := N) (lo := 1) (N - 1) (p := fun _ => true) (fun i j hi hj _ _ e => by
    refine fC_inj hN h hi hj ?_
    have a := hno i
    have b := hno j
    split at e <;> split at e <;> omega) (fun i _ _ => by
    have a := hno i
    have b := fC_range h i
    split <;> omega)
  have h2 := cnt_not (fun _ => true) N
  have h3 : ∀ n, cntT (fun _ => !true) n = 0 := fun n => by
    induction n with
    | zero => rfl
    | succ n ih => rw [cntT, ih]; rfl
  rw [h3] at h2
  omega
def ga (s : GS) (i : Nat) : Bool := gbit (git (2 * i) s)
def gb (s : GS) (i : Nat) : Bool := gbit (git (2 * i + 1) s)
theorem ga_top {s : GS} (h : GG s) (i : Nat) : ga s i = gw (git (2 * i + 1) s) 79 := by
  rw [ga, ← gw_gst79 (gg_git h _).1, ← git_gst]; rfl
theorem ga_per {s : GS} {N : Nat} (hP : Pd s N) (h : GG s) (i : Nat) : ga s (N + i) = ga s i := by
  rw [ga, ga, gbit_y (gg_git h _).1, gbit_y (gg_git h _).1, gy_git, gy_git]
  have h1 := hP.mul 2 (80 + 2 * i)
  rw [show 80 + 2 * (N + i) = 80 + 2 * i + N * 2 by omega, h1]
theorem gb_per {s : GS} {N : Nat} (hP : Pd s N) (h : GG s) (i : Nat) : gb s (N + i) = gb s i := by
  rw [gb, gb, gbit_y (gg_git h _).1, gbit_y (gg_git h _).1, gy_git, gy_git]
  have h1 := hP.mul 2 (80 + (2 * i + 1))
  rw [show 80 + (2 * (N + i) + 1) = 80 + (2 * i + 1) + N * 2 by omega, h1]
theorem ga_count {s : GS} {N K : Nat} (hN : N = 1208925819614629174706175) (hK : K = 604462909807314587353088) (h : GG s) : cntT (ga s) N = K := by
  have hp : ∀ i, ga s i = decide (K ≤ fC s i) := fun i => by
    rw [ga_top h, Bool.eq_iff_iff, decide_eq_true_eq, hK]
    exact cdn_top
  have h1 := pig (f := fC s) (n := N) (lo := K) K (p := ga s) (fun i j hi hj _ _ e => fC_inj hN h hi hj e) (fun i _ hpi => by
    rw [hp, decide_eq_true_eq] at hpi
    have := fC_range h i
    omega)
  have h2 := pig (f := fC s) (n := N) (lo := 1) (K - 1) (p := fun i => !ga s i) (fun i j hi hj _ _ e => fC_inj hN h hi hj e) (fun i _ hpi => by
    rw [hp] at hpi
    have h3 : ¬ K ≤ fC s i := by simpa using hpi
    have := fC_range h i
    omega)
  have h3 := cnt_not (ga s) N
  omega
theorem cnt_per {s : GS} {N K : Nat} (hP : Pd s N) (hK : cntT (ga s) N = K) (h : GG s) (i : Nat) : ∀ m, cntT (ga s) (N * m + i) = K * m + cntT (ga s) i
  | 0 => by rw [Nat.mul_zero, Nat.zero_add, Nat.mul_zero, Nat.zero_add]
  | m + 1 => by
    rw [Nat.mul_succ, show N * m + N + i = N + (N * m + i) by omega, cnt_add, hK, cnt_congr (q := ga s) fun j _ => ga_per hP h j, cnt_per hP hK h i m, Nat.mul_succ]
    omega
theorem ab_per {s : GS} {N : Nat} (hP : Pd s N) (h : GG s) (i : Nat) : ∀ m, ga s (N * m + i) = ga s i ∧ gb s (N * m + i) = gb s i
  | 0 => by rw [Nat.mul_zero, Nat.zero_add]; exact ⟨rfl, rfl⟩
  | m + 1 => by
    rw [Nat.mul_succ, show N * m + N + i = N + (N * m + i) by omega, ga_per hP h, gb_per hP h]
    exact ab_per hP h i m
theorem two_zero {s : GS} (h : GG s) : ∃ i, ga s i = true ∧ gb s i = false ∧ ga s (i + 1) = true ∧ gb s (i + 1) = false := by
  have hnz := cdn_nz (w := fun j => decide (j = 79 ∨ j = 1)) (n := 80) (j := 1) (by decide) rfl
  obtain ⟨i, hi⟩ := fC_all rfl h (v := cdn (fun j => decide (j = 79 ∨ j = 1)) 80) (Nat.pos_of_ne_zero hnz) (cdn_lt _ 80)
  have hw := cdn_inj hi
  have hu := (gg_git h (2 * i + 1)).1
  obtain ⟨u, hue⟩ : ∃ u, git (2 * i + 1) s = u := ⟨_, rfl⟩
  have e1 : git (2 * (i + 1)) s = gst u := by rw [← hue, ← git_gst]; rfl
  have e2 : git (2 * (i + 1) + 1) s = gst (gst u) := by
    rw [show git (2 * (i + 1) + 1) s = gst (git (2 * (i + 1)) s) from git_gst _ s, e1]
  rw [hue] at hw hu
  have hb : gbit u = false := by
    rw [gbit_w hu, hw 0 (by decide), hw 13 (by decide), hw 23 (by decide), hw 38 (by decide), hw 51 (by decide), hw 62 (by decide)]; rfl
  have hu1 : ∀ j, j < 79 → gw (gst u) j = decide (j + 1 = 79 ∨ j + 1 = 1) := fun j hj => by rw [gw_gst hu hj, hw (j + 1) (by omega)]
  have hb1 : gbit (gst u) = true := by
    rw [gbit_w hu.gst, hu1 0 (by decide), hu1 13 (by decide), hu1 23 (by decide), hu1 38 (by decide), hu1 51 (by decide), hu1 62 (by decide)]; rfl
  have hu2 : ∀ j, j < 78 → gw (gst (gst u)) j = decide (j + 2 = 79 ∨ j + 2 = 1) := fun j hj => by rw [gw_gst hu.gst (by omega), hu1 (j + 1) (by omega)]
  have hb2 : gbit (gst (gst u)) = false := by
    rw [gbit_w hu.gst.gst, hu2 0 (by decide), hu2 13 (by decide), hu2 23 (by decide), hu2 38 (by decide), hu2 51 (by decide), hu2 62 (by decide)]; rfl
  refine ⟨i, ?_, ?_, ?_, ?_⟩
  · rw [ga_top h, hue, hw 79 (by decide)]; rfl
  · rw [gb, hue]; exact hb
  · rw [ga, e1]; exact hb1
  · rw [gb, e2]; exact hb2
theorem even_zero {s : GS} (h : GG s) : ∃ i e, ga s i = true ∧ gb s i = false ∧ cntT (ga s) i = 2 * e := by
  obtain ⟨i, h1, h2, h3, h4⟩ := two_zero h
  have hc : cntT (ga s) (i + 1) = cntT (ga s) i + 1 := by rw [cntT, h1]; rfl
  rcases Nat.mod_two_eq_zero_or_one (cntT (ga s) i) with h5 | h5
  · exact ⟨i, cntT (ga s) i / 2, h1, h2, by omega⟩
  · exact ⟨i + 1, (cntT (ga s) i + 1) / 2, h3, h4, by omega⟩
theorem zero_at {s : GS} (h : GG s) : ∃ i j, ga s i = true ∧ gb s i = false ∧ cntT (ga s) i = 254 * j := by
  obtain ⟨i, e, h1, h2, h3⟩ := even_zero h
  obtain ⟨N, hN⟩ : ∃ N, N = 1208925819614629174706175 := ⟨_, rfl⟩
  obtain ⟨K, hK⟩ : ∃ K, K = 604462909807314587353088 := ⟨_, rfl⟩
  have hP : Pd s N := hN ▸ pd_N h.1
  obtain ⟨h4, h5⟩ := ab_per hP h i (63 * e)
  refine ⟨N * (63 * e) + i, e * 149925839834097712611199, h4.trans h1, h5.trans h2, ?_⟩
  rw [cnt_per hP (ga_count hN hK h) h, h3, hK]
  omega
def gad (s : GS) : Nat → GS
  | 0 => s
  | k + 1 => (gnx (gad s k)).1
theorem GG.gad {s : GS} (h : GG s) : ∀ k, GG (gad s k)
  | 0 => h
  | k + 1 => (h.gad k).nx
theorem gN_at : ∀ {k : Nat} {s : GS} {p : GS × Bool}, gN k s = some p → ∃ d, ga s d = true ∧ (∀ j, j < d → ga s j = false) ∧ p = (git (2 * (d + 1)) s, gb s d)
  | 0, _, _, h => by cases h
  | k + 1, s, p, h => by
    simp only [gN] at h
    split at h
    · rename_i hb
      cases h
      exact ⟨0, hb, fun j hj => absurd hj (Nat.not_lt_zero j), rfl⟩
    · rename_i hb
      obtain ⟨d, h1, h2, h3⟩ := gN_at h
      refine ⟨d + 1, h1, fun j hj => ?_, h3⟩
      cases j with
      | zero => show gbit s = false; simpa using hb
      | succ j => exact h2 j (by omega)
theorem cnt_none {p : Nat → Bool} : ∀ {n : Nat}, (∀ j, j < n → p j = false) → cntT p n = 0
  | 0, _ => rfl
  | n + 1, h => by rw [cntT, cnt_none fun j hj => h j (by omega), h n (by omega)]; rfl
theorem ga_shift (s : GS) (i j : Nat) : ga (git (2 * i) s) j = ga s (i + j) := by
  rw [ga, ga, ← git_add, show 2 * j + 2 * i = 2 * (i + j) by omega]
theorem gb_shift (s : GS) (i j : Nat) : gb (git (2 * i) s) j = gb s (i + j) := by
  rw [gb, gb, ← git_add, show 2 * j + 1 + 2 * i = 2 * (i + j) + 1 by omega]
theorem gad_at {s : GS} (h : GG s) : ∀ k, ∃ i, gad s k = git (2 * i) s ∧ cntT (ga s) i = k
  | 0 => ⟨0, rfl, rfl⟩
  | k + 1 => by
    obtain ⟨i, h1, h2⟩ := gad_at h k
    obtain ⟨d, h3, h4, h5⟩ := gN_at (gnx_eq (h.gad k))
    rw [h1] at h3 h4 h5
    refine ⟨i + (d + 1), ?_, ?_⟩
    · show (gnx (gad s k)).1 = _
      rw [h1, h5]
      show git (2 * (d + 1)) (git (2 * i) s) = _
      rw [← git_add, show 2 * (d + 1) + 2 * i = 2 * (i + (d + 1)) by omega]
    · have h6 : cntT (fun j => ga s (i + j)) d = 0 := cnt_none fun j hj => by rw [← ga_shift]; exact h4 j hj
      have h7 : ga s (i + d) = true := by rw [← ga_shift]; exact h3
      rw [cnt_add, h2, cntT, h6, h7]; rfl
theorem cnt_mono (p : Nat → Bool) (n m : Nat) : cntT p n ≤ cntT p (n + m) := by rw [cnt_add]; omega
theorem cnt_uniq {p : Nat → Bool} {x y : Nat} (hx : p x = true) (hy : p y = true) (h : cntT p x = cntT p y) : x = y := by
  rcases Nat.lt_trichotomy x y with h1 | h1 | h1
  · have := cnt_mono p (x + 1) (y - (x + 1))
    rw [show x + 1 + (y - (x + 1)) = y by omega, cntT, hx] at this
    simp at this; omega
  · exact h1
  · have := cnt_mono p (y + 1) (x - (y + 1))
    rw [show y + 1 + (x - (y + 1)) = x by omega, cntT, hy] at this
    simp at this; omega
theorem zero_first {s : GS} (h : GG s) : ∃ j, (gnx (gad s (254 * j))).2 = false := by
  obtain ⟨i, j, h1, h2, h3⟩ := zero_at h
  refine ⟨j, ?_⟩
  obtain ⟨x, h4, h5⟩ := gad_at h (254 * j)
  obtain ⟨d, h6, h7, h8⟩ := gN_at (gnx_eq (h.gad (254 * j)))
  rw [h8]
  show gb (gad s (254 * j)) d = false
  rw [h4] at h6 h7 ⊢
  have h9 : cntT (fun j => ga s (x + j)) d = 0 := cnt_none fun j hj => by rw [← ga_shift]; exact h7 j hj
  have h10 : ga s (x + d) = true := by rw [← ga_shift]; exact h6
  have h11 : x + d = i := cnt_uniq h10 h1 (by rw [cnt_add, h5, h9, h3, Nat.add_zero])
  rw [gb_shift, h11]
  exact h2
end Go.Proofs.Ytbholmgeaklljaa
namespace Go.Proofs.Ytbholmgeaklljaa
open Go Sim
def num (B : Nat) : List Nat → Nat
  | [] => 0
  | x :: r => x + B * num B r
def digs (B : Nat) : Nat → Nat → List Nat
  | 0, _ => []
  | n + 1, v => v % B :: digs B n (v / B)
def bd (B : Nat) (l : List Nat) : Prop := ∀ x ∈ l, x < B
section
variable {B : Nat}
theorem digs_len (n v : Nat) : (digs B n v).length = n := by
  induction n generalizing v with
  | zero => rfl
  | succ n ih => simp [digs, ih]
theorem digs_bd (hB : 0 < B) (n v : Nat) : bd B (digs B n v) := by
  induction n generalizing v with
  | zero => intro x hx; simp [digs] at hx
  | succ n ih =>
    intro x hx
    simp only [digs, List.mem_cons] at hx
    rcases hx with rfl | hx
    · exact Nat.mod_lt _ hB
    · exact ih _ x hx
theorem num_digs (n v : Nat) : num B (digs B n v) = v % B ^ n := by
  induction n generalizing v with
  | zero => simp [digs, num, Nat.mod_one]
  | succ n ih =>
    simp only [digs, num, ih]
    rw [Nat.pow_succ, Nat.mul_comm (B ^ n) B, Nat.mod_mul]
theorem num_digs_lt {n v : Nat} (h : v < B ^ n) : num B (digs B n v) = v := by rw [num_digs, Nat.mod_eq_of_lt h]
theorem bd_cons {x : Nat} {r : List Nat} : bd B (x :: r) ↔ x < B ∧ bd B r := by simp [bd]
theorem bd_nil : bd B [] := fun x hx => by simp at hx
theorem num_lt {l : List Nat} (h : bd B l) : num B l < B ^ l.length := by
  induction l with
  | nil => simp [num]
  | cons x r ih =>
    obtain ⟨h1, h2⟩ := bd_cons.1 h
    have := ih h2
    simp only [num, List.length_cons, Nat.pow_succ]
    have h3 : B * (num B r + 1) ≤ B * B ^ r.length := Nat.mul_le_mul_left _ this
    rw [Nat.mul_add, Nat.mul_one] at h3
    rw [Nat.mul_comm (B ^ r.length) B]
    omega
theorem digs_num {l : List Nat} (h : bd B l) : digs B l.length (num B l) = l := by
  induction l with
  | nil => rfl
  | cons x r ih =>
    obtain ⟨h1, h2⟩ := bd_cons.1 h
    simp only [List.length_cons, digs, num]
    rw [Nat.add_mul_mod_self_left, Nat.mod_eq_of_lt h1, Nat.add_mul_div_left _ _ (by omega), Nat.div_eq_of_lt h1, Nat.zero_add, ih h2]
theorem num_inj {l r : List Nat} (hl : bd B l) (hr : bd B r) (hlen : l.length = r.length) (h : num B l = num B r) : l = r := by
  rw [← digs_num hl, ← digs_num hr, hlen, h]
theorem num_getD {l : List Nat} (h : bd B l) (hB : 0 < B) (i : Nat) : l.getD i 0 = num B l / B ^ i % B := by
  induction l generalizing i with
  | nil => simp [num]
  | cons x r ih =>
    obtain ⟨h1, h2⟩ := bd_cons.1 h
    cases i with
    | zero => simp [num, Nat.mod_eq_of_lt h1]
    | succ i =>
      simp only [List.getD_cons_succ, ih h2, num]
      rw [Nat.pow_succ, Nat.mul_comm (B ^ i) B, ← Nat.div_div_eq_div_mul, Nat.add_mul_div_left _ _ hB, Nat.div_eq_of_lt h1, Nat.zero_add]
theorem num_append (l r : List Nat) : num B (l ++ r) = num B l + B ^ l.length * num B r := by
  induction l with
  | nil => simp [num]
  | cons x l ih =>
    simp only [List.cons_append, num, ih, List.length_cons, Nat.pow_succ, Nat.mul_add]
    rw [Nat.mul_comm (B ^ l.length) B, Nat.mul_assoc]
    omega
theorem num_replicate (n : Nat) : num B (List.replicate n 0) = 0 := by
  induction n with
  | zero => rfl
  | succ n ih => simp [List.replicate_succ, num, ih]
theorem num_set {l : List Nat} {k v : Nat} (hk : k < l.length) : num B (l.set k v) + l.getD k 0 * B ^ k = num B l + v * B ^ k := by
  induction l generalizing k with
  | nil => simp at hk
  | cons x l ih =>
    cases k with
    | zero => simp only [List.set_cons_zero, num, List.getD_cons_zero, Nat.pow_zero, Nat.mul_one]; omega
    | succ k =>
      have := ih (k := k) (by simpa using hk)
      simp only [List.set_cons_succ, num, List.getD_cons_succ, Nat.pow_succ]
      have e : ∀ z, z * (B ^ k * B) = B * (z * B ^ k) := fun z => by rw [← Nat.mul_assoc, Nat.mul_comm]
      rw [e, e]
      have h2 : B * (num B (l.set k v) + l.getD k 0 * B ^ k) = B * (num B l + v * B ^ k) := by rw [this]
      rw [Nat.mul_add, Nat.mul_add] at h2
      omega
theorem bd_set {l : List Nat} {k v : Nat} (h : bd B l) (hv : v < B) : bd B (l.set k v) := by
  intro x hx
  rcases List.mem_or_eq_of_mem_set hx with h1 | h1
  · exact h x h1
  · rw [h1]; exact hv
theorem bd_replicate (hB : 0 < B) (n : Nat) : bd B (List.replicate n 0) := by
  intro x hx; rw [List.eq_of_mem_replicate hx]; exact hB
theorem bd_getD {l : List Nat} (h : bd B l) (hB : 0 < B) (i : Nat) : l.getD i 0 < B := by
  rw [num_getD h hB]; exact Nat.mod_lt _ hB
theorem bd_take {l : List Nat} (h : bd B l) (i : Nat) : bd B (l.take i) := fun x hx => h x (List.mem_of_mem_take hx)
theorem bd_drop {l : List Nat} (h : bd B l) (i : Nat) : bd B (l.drop i) := fun x hx => h x (List.mem_of_mem_drop hx)
theorem num_take {l : List Nat} (h : bd B l) (i : Nat) : num B (l.take i) = num B l % B ^ i := by
  induction l generalizing i with
  | nil => simp [num]
  | cons x l ih =>
    obtain ⟨h1, h2⟩ := bd_cons.1 h
    cases i with
    | zero => simp [num, Nat.mod_one]
    | succ i =>
      simp only [List.take_succ_cons, num, ih h2]
      rw [Nat.pow_succ, Nat.mul_comm (B ^ i) B, Nat.mod_mul, Nat.add_mul_mod_self_left, Nat.mod_eq_of_lt h1, Nat.add_mul_div_left _ _ (by omega), Nat.div_eq_of_lt h1, Nat.zero_add]
theorem num_take_drop (l : List Nat) (i : Nat) (hi : i ≤ l.length) : num B l = num B (l.take i) + B ^ i * num B (l.drop i) := by
  conv => lhs; rw [← List.take_append_drop i l, num_append]
  rw [List.length_take, Nat.min_eq_left hi]
theorem num_take_succ (l : List Nat) (i : Nat) : num B (l.take (i + 1)) = num B (l.take i) + l.getD i 0 * B ^ i := by
  induction l generalizing i with
  | nil => simp [num]
  | cons x l ih =>
    cases i with
    | zero => simp [num]
    | succ i =>
      simp only [List.take_succ_cons, num, ih, List.getD_cons_succ, Nat.mul_add, Nat.pow_succ]
      rw [Nat.add_assoc]; congr 2
      rw [← Nat.mul_assoc, Nat.mul_comm B, Nat.mul_right_comm, Nat.mul_assoc]
theorem mod_succ (v i : Nat) : v % B ^ (i + 1) = v % B ^ i + B ^ i * (v / B ^ i % B) := Nat.mod_pow_succ
def dgo (B : Nat) : Nat → Nat → List Nat
  | 0, _ => []
  | f + 1, v => if v = 0 then [] else v % B :: dgo B f (v / B)
def D (B v : Nat) : List Nat := dgo B v v
theorem dgo_fuel (hB : 2 ≤ B) : ∀ (f g v : Nat), v ≤ f → v ≤ g → dgo B f v = dgo B g v := by
  intro f
  induction f with
  | zero =>
    intro g v h1 h2
    obtain rfl : v = 0 := by omega
    cases g <;> simp [dgo]
  | succ f ih =>
    intro g v h1 h2
    cases g with
    | zero =>
      obtain rfl : v = 0 := by omega
      simp [dgo]
    | succ g =>
      simp only [dgo]
      split
      · rfl
      · have : v / B < v := Nat.div_lt_self (by omega) (by omega)
        rw [ih g (v / B) (by omega) (by omega)]
theorem D_zero : D B 0 = [] := rfl
theorem D_pos (hB : 2 ≤ B) {v : Nat} (hv : v ≠ 0) : D B v = v % B :: D B (v / B) := by
  obtain ⟨w, rfl⟩ : ∃ w, v = w + 1 := ⟨v - 1, by omega⟩
  have h1 : (w + 1) / B < w + 1 := Nat.div_lt_self (by omega) (by omega)
  simp only [D, dgo, Nat.add_one_ne_zero, if_false]
  rw [dgo_fuel hB w ((w + 1) / B) _ (by omega) (Nat.le_refl _)]
theorem D_ind (hB : 2 ≤ B) {p : Nat → Prop} (h0 : p 0) (h1 : ∀ v, v ≠ 0 → p (v / B) → p v) (v : Nat) : p v := by
  induction v using Nat.strongRecOn with
  | _ v ih =>
    by_cases hv : v = 0
    · rw [hv]; exact h0
    · exact h1 v hv (ih _ (Nat.div_lt_self (by omega) (by omega)))
theorem num_D (hB : 2 ≤ B) (v : Nat) : num B (D B v) = v := by
  induction v using D_ind hB with
  | h0 => rfl
  | h1 v hv ih => rw [D_pos hB hv, num, ih]; exact Nat.mod_add_div v B
theorem bd_D (hB : 2 ≤ B) (v : Nat) : bd B (D B v) := by
  induction v using D_ind hB with
  | h0 => exact bd_nil
  | h1 v hv ih => rw [D_pos hB hv]; exact bd_cons.2 ⟨Nat.mod_lt _ (by omega), ih⟩
theorem D_len_le (hB : 2 ≤ B) (v n : Nat) : (D B v).length ≤ n ↔ v < B ^ n := by
  induction v using D_ind hB generalizing n with
  | h0 => simp [D_zero, Nat.pow_pos (show 0 < B by omega)]
  | h1 v hv ih =>
    rw [D_pos hB hv]
    cases n with
    | zero => simp; omega
    | succ n =>
      simp only [List.length_cons, Nat.add_le_add_iff_right, ih]
      rw [Nat.div_lt_iff_lt_mul (by omega), Nat.pow_succ]
theorem D_take (hB : 2 ≤ B) {l : List Nat} (h : bd B l) : D B (num B l) = l.take (D B (num B l)).length := by
  refine num_inj (bd_D hB _) (bd_take h _) ?_ ?_
  · rw [List.length_take, Nat.min_eq_left ((D_len_le hB _ _).2 (num_lt h))]
  · rw [num_D hB, num_take h, Nat.mod_eq_of_lt ((D_len_le hB _ _).1 (Nat.le_refl _))]
theorem D_stop (hB : 2 ≤ B) {l : List Nat} (h : bd B l) {n : Nat} (hn : n ≤ l.length) (h0 : num B (l.drop n) = 0) (h1 : n = 0 ∨ l.getD (n - 1) 0 ≠ 0) : (D B (num B l)).length = n := by
  have e : num B l = num B (l.take n) := by rw [num_take_drop l n hn, h0]; simp
  have hl : num B l < B ^ n := by
    rw [e]; have := num_lt (bd_take h n); rwa [List.length_take, Nat.min_eq_left hn] at this
  refine Nat.le_antisymm ((D_len_le hB _ _).2 hl) ?_
  rcases Nat.lt_or_ge (D B (num B l)).length n with hlt | hge
  · exfalso
    have h2 := (D_len_le hB _ _).1 (Nat.le_refl (D B (num B l)).length)
    rcases h1 with h1 | h1
    · omega
    · apply h1
      rw [num_getD h (by omega), Nat.div_eq_of_lt, Nat.zero_mod]
      exact Nat.lt_of_lt_of_le h2 (Nat.pow_le_pow_right (by omega) (by omega))
  · exact hge
end
end Go.Proofs.Ytbholmgeaklljaa
namespace Go.Proofs.Ytbholmgeaklljaa
open Go
def gv (s : GS) : Nat → Nat
  | 0 => 0
  | k + 1 => 2 * gv s k + (gnx (gad s k)).2.toNat
theorem gv_lt (s : GS) : ∀ k, gv s k < 2 ^ k
  | 0 => Nat.zero_lt_one
  | k + 1 => by
    have := gv_lt s k
    rw [gv, Nat.pow_succ]
    cases (gnx (gad s k)).2 <;> simp <;> omega
theorem gv_first {s : GS} (h : (gnx s).2 = false) : ∀ k, gv s (k + 1) < 2 ^ k
  | 0 => by
    show 2 * 0 + (gnx s).2.toNat < 2 ^ 0
    rw [h]; decide
  | k + 1 => by
    have := gv_first h k
    rw [gv, Nat.pow_succ]
    cases (gnx (gad s (k + 1))).2 <;> simp <;> omega
theorem gad_add (s : GS) (a : Nat) : ∀ b, gad (gad s a) b = gad s (a + b)
  | 0 => rfl
  | b + 1 => by
    show (gnx (gad (gad s a) b)).1 = (gnx (gad s (a + b))).1
    rw [gad_add s a b]
def gok (s : GS) (j : Nat) : Prop := gv (gad s (254 * j)) 254 < 21888242871839275222246405745257275088548364400416034343698204186575808495617
theorem gok_ex {s : GS} (h : GG s) : ∃ j, gok s j := by
  obtain ⟨j, hj⟩ := zero_first h
  exact ⟨j, Nat.lt_trans (gv_first hj 253) (by decide)⟩
theorem gok_least {s : GS} (h : GG s) : ∃ j, gok s j ∧ ∀ i, i < j → ¬ gok s i := by
  obtain ⟨j, hj⟩ := gok_ex h
  induction j using Nat.strongRecOn with
  | ind j ih =>
    by_cases hm : ∃ m, m < j ∧ gok s m
    · obtain ⟨m, h1, h2⟩ := hm
      exact ih m h1 h2
    · exact ⟨j, hj, fun i hi hk => hm ⟨i, hi, hk⟩⟩
theorem digG : ∀ (n v : Nat) {k : Nat}, k < n → (digs 256 n v).getD k 0 = v / 256 ^ k % 256
  | 0, v, k, h => absurd h (Nat.not_lt_zero k)
  | n + 1, v, 0, _ => by rw [Nat.pow_zero, Nat.div_one]; rfl
  | n + 1, v, k + 1, h => by
    have ih := digG n (v / 256) (k := k) (Nat.lt_of_succ_lt_succ h)
    rw [Nat.div_div_eq_div_mul] at ih
    rw [Nat.pow_succ, Nat.mul_comm]
    exact ih
theorem p256 (k : Nat) : 256 ^ k = 2 ^ (8 * k) := by rw [Nat.pow_mul]
theorem far_bit {w q k : Nat} (hk : k ≠ q / 8) : (2 * w + 1) * 2 ^ q / 256 ^ k % 256 = w * 2 ^ (q + 1) / 256 ^ k % 256 := by
  have e : (2 * w + 1) * 2 ^ q = w * 2 ^ (q + 1) + 2 ^ q := by rw [Nat.add_mul, Nat.one_mul, Nat.pow_succ, Nat.mul_comm 2 w, Nat.mul_assoc, Nat.mul_comm 2]
  rw [e, p256]
  rcases Nat.lt_or_ge q (8 * k) with h | h
  · 
    obtain ⟨d, hd⟩ : ∃ d, 8 * k = q + 1 + d := ⟨8 * k - (q + 1), by omega⟩
    rw [hd, Nat.pow_add 2 (q + 1) d, ← Nat.div_div_eq_div_mul, ← Nat.div_div_eq_div_mul, Nat.mul_div_cancel _ (Nat.pow_pos (by decide))]
    have h2 : (w * 2 ^ (q + 1) + 2 ^ q) / 2 ^ (q + 1) = w := by
      rw [Nat.mul_comm, Nat.mul_add_div (Nat.pow_pos (by decide)), Nat.div_eq_of_lt (Nat.pow_lt_pow_right (by decide) (Nat.lt_succ_self q)), Nat.add_zero]
    rw [h2]
  · obtain ⟨d, hd⟩ : ∃ d, q = 8 * k + 8 + d := ⟨q - (8 * k + 8), by omega⟩
    have e1 : w * 2 ^ (q + 1) = 2 ^ (8 * k) * (256 * (w * 2 ^ (d + 1))) := by
      rw [hd, show 8 * k + 8 + d + 1 = 8 * k + (8 + (d + 1)) by omega, Nat.pow_add 2 (8 * k), Nat.pow_add 2 8, Nat.mul_left_comm, Nat.mul_left_comm w]
    have e2 : 2 ^ q = 2 ^ (8 * k) * (256 * 2 ^ d) := by
      rw [hd, show 8 * k + 8 + d = 8 * k + (8 + d) by omega, Nat.pow_add 2 (8 * k), Nat.pow_add 2 8]
    rw [e1, e2, ← Nat.mul_add, Nat.mul_div_cancel_left _ (Nat.pow_pos (by decide)), Nat.mul_div_cancel_left _ (Nat.pow_pos (by decide)), ← Nat.mul_add, Nat.mul_mod_right, Nat.mul_mod_right]
theorem near_bit {w q : Nat} : (2 * w + 1) * 2 ^ q / 256 ^ (q / 8) % 256 = (w * 2 ^ (q + 1) / 256 ^ (q / 8) % 256 ||| 1 * 2 ^ (q % 8) % 256) := by
  obtain ⟨k, r, hr, hq⟩ : ∃ k r, r < 8 ∧ q = 8 * k + r := ⟨q / 8, q % 8, Nat.mod_lt _ (by decide), (Nat.div_add_mod q 8).symm⟩
  have h1 : q / 8 = k := by omega
  have h2 : q % 8 = r := by omega
  rw [h1, h2, p256]
  have e1 : (2 * w + 1) * 2 ^ q / 2 ^ (8 * k) = (2 * w + 1) * 2 ^ r := by
    rw [hq, Nat.pow_add, Nat.mul_left_comm, Nat.mul_div_cancel_left _ (Nat.pow_pos (by decide))]
  have e2 : w * 2 ^ (q + 1) / 2 ^ (8 * k) = w * 2 ^ (r + 1) := by
    rw [hq, show 8 * k + r + 1 = 8 * k + (r + 1) by omega, Nat.pow_add, Nat.mul_left_comm, Nat.mul_div_cancel_left _ (Nat.pow_pos (by decide))]
  rw [e1, e2]
  have e3 : w * 2 ^ (r + 1) % 256 = 2 ^ (r + 1) * (w % 2 ^ (7 - r)) := by
    rw [show (256 : Nat) = 2 ^ (r + 1) * 2 ^ (7 - r) by rw [← Nat.pow_add, show r + 1 + (7 - r) = 8 by omega], Nat.mul_comm w, Nat.mul_mod_mul_left]
  have e4 : (2 * w + 1) * 2 ^ r % 256 = 2 ^ (r + 1) * (w % 2 ^ (7 - r)) + 2 ^ r := by
    have e5 : (2 * w + 1) * 2 ^ r = w * 2 ^ (r + 1) + 2 ^ r := by rw [Nat.add_mul, Nat.one_mul, Nat.pow_succ, Nat.mul_comm 2 w, Nat.mul_assoc, Nat.mul_comm 2]
    have h6 : w % 2 ^ (7 - r) < 2 ^ (7 - r) := Nat.mod_lt _ (Nat.pow_pos (by decide))
    have h7 : 2 ^ (r + 1) * (w % 2 ^ (7 - r)) + 2 ^ r < 256 := by
      have h8 : 2 ^ (r + 1) * (w % 2 ^ (7 - r) + 1) ≤ 2 ^ (r + 1) * 2 ^ (7 - r) := Nat.mul_le_mul_left _ h6
      rw [← Nat.pow_add, show r + 1 + (7 - r) = 8 by omega, Nat.mul_add, Nat.mul_one] at h8
      have h9 : (2 : Nat) ^ r < 2 ^ (r + 1) := Nat.pow_lt_pow_right (by decide) (Nat.lt_succ_self r)
      have h10 : (2 : Nat) ^ 8 = 256 := by decide
      omega
    rw [e5, Nat.add_mod, e3, Nat.mod_eq_of_lt (show 2 ^ r < 256 by
      have : (2 : Nat) ^ r < 2 ^ 8 := Nat.pow_lt_pow_right (by decide) hr
      exact this), Nat.mod_eq_of_lt h7]
  rw [e3, e4, Nat.one_mul, Nat.mod_eq_of_lt (show 2 ^ r < 256 by
    have : (2 : Nat) ^ r < 2 ^ 8 := Nat.pow_lt_pow_right (by decide) hr
    exact this)]
  exact Nat.two_pow_add_eq_or_of_lt (Nat.pow_lt_pow_right (by decide) (Nat.lt_succ_self r)) _
theorem set_bit {w q : Nat} (hq : q < 256) : (digs 256 32 (w * 2 ^ (q + 1))).set (q / 8) ((digs 256 32 (w * 2 ^ (q + 1))).getD (q / 8) 0 ||| 1 * 2 ^ (q % 8) % 256) = digs 256 32 ((2 * w + 1) * 2 ^ q) := by
  refine List.ext_getElem? fun k => ?_
  rcases Nat.lt_or_ge k 32 with hk | hk
  · have g : ∀ v, (digs 256 32 v)[k]? = some (v / 256 ^ k % 256) := fun v => by
      have h := digG 32 v hk
      rw [List.getD_eq_getElem?_getD] at h
      have hl : k < (digs 256 32 v).length := by rw [digs_len]; exact hk
      rw [List.getElem?_eq_getElem hl] at h ⊢
      rw [← h]; rfl
    rw [g]
    by_cases hkq : q / 8 = k
    · subst hkq
      rw [List.getElem?_set_self (by rw [digs_len]; omega), near_bit, digG 32 _ (by omega)]
    · rw [List.getElem?_set_ne hkq, g, far_bit (fun e => hkq e.symm)]
  · rw [List.getElem?_eq_none (by rw [List.length_set, digs_len]; exact hk), List.getElem?_eq_none (by rw [digs_len]; exact hk)]
end Go.Proofs.Ytbholmgeaklljaa
