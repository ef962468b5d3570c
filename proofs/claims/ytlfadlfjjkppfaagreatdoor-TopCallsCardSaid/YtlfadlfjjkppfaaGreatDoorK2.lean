/- What the proof stands on, part 2: the walk of each function, and plain laws of numbers. -/
import Derived.Test.YtlfadlfjjkppfaaGreatDoorK1
import Derived.ArgAppend
import Derived.ChangeSlices
import Derived.WideShapes
import Derived.OpenShut
import Derived.Carry
import Derived.Laws.StructEq
import Derived.ChangeKeysEq
import Derived.Laws.BytesString
import Derived.RangeFuncKeeps
import Derived.RangeFuncLeaves
import Derived.OrdersIn
import Derived.Lib.AppendStr
namespace Go.Proofs.YtlfadlfjjkppfaaGreatDoor.Sim
open Go Go.RowKit
theorem run_appendOp {P : Program} {x y : Operand} {t : TypeId} {d : Option Tmp} {ty : TypeId} {ps : String} {af : Array Edge} {g : Option (Nat × Bool)} (ev : Operand → Value) (w : World) {v : Value} {w' : World}
    (h : (Builtin.append_ #[t, t] ty #[ev x, ev y]).run P w = .ok v w') : (execOp ev ⟨d, .call ⟨.builtin .append, #[x, y], #[t, t]⟩, ty, ps, af, g⟩).run P w = .ok (.value v) w' := by
  simp [execOp, resolve, invoke, builtin, h]
theorem run_append_nilY {P : Program} {t ty e : TypeId} {sz : Nat} (ht : P.underlying t = some (.slice e)) (hs : (P.info? e).map (·.size) = some sz) (base : Option Addr) (n c : Nat) (h : n ≤ c) (w : World) :
    (Builtin.append_ #[t, t] ty #[.slice base n c, .slice none 0 0]).run P w = .ok (.slice base n c) w := by
  cases base <;> simp [Builtin.append_, run_underlying ht, run_size hs, Builtin.lenOf, h, Builtin.firstCells, storeCells]
theorem run_append_zeroY {P : Program} {t ty e : TypeId} {sz : Nat} (ht : P.underlying t = some (.slice e)) (hs : (P.info? e).map (·.size) = some sz) (base : Option Addr) (n c : Nat) (h : n ≤ c) (b : Addr) (c' : Nat) (w : World) :
    (Builtin.append_ #[t, t] ty #[.slice base n c, .slice (some b) 0 c']).run P w = .ok (.slice base n c) w := by
  cases base <;> simp [Builtin.append_, run_underlying ht, run_size hs, Builtin.lenOf, h, Builtin.firstCells, storeCells, loadCells, loadCellsFrom]
theorem run_append_none0 {P : Program} {t ty e : TypeId} {sz : Nat} (ht : P.underlying t = some (.slice e)) (hs : (P.info? e).map (·.size) = some sz) (a : Addr) (c : Nat) (w : World) :
    (Builtin.append_ #[t, t] ty #[.slice none 0 0, .slice (some a) 0 c]).run P w = .ok (.slice none 0 0) w := by
  simp [Builtin.append_, run_underlying ht, run_size hs, Builtin.lenOf, Builtin.firstCells, loadCells, loadCellsFrom]
theorem Rep.pushAll {C : Ctx} {ρ : Rho} {E : Env} {a : Act} {id L : Nat} (hL : (ρ id).lim = some L) : ∀ (news us : List Value) {M : Mem} {w : World} {b : Blk}, Rep C ρ ⟨E, M⟩ a w → M id = some b → b.rw = true →
    b.cells.length + news.length ≤ L → news.length = us.length → (∀ (k : Nat) (v u : Value), news[k]? = some v → us[k]? = some u → VR .real (dom M) ρ v u) →
    Rep C ρ ⟨E, upd M id ⟨b.cells ++ news, true, b.es⟩⟩ a (w.setCells (ρ id).blk ((ρ id).off + b.cells.length) us)
  | [], us, M, w, b, hR, hb, hr, _, hl, _ => by
    obtain rfl : us = [] := by simpa using hl.symm
    have : (⟨b.cells ++ [], true, b.es⟩ : Blk) = b := by cases b; simp only [List.append_nil] at *; subst hr; rfl
    rw [this, upd_self hb]
    exact hR
  | v :: vs, us, M, w, b, hR, hb, hr, hlen, hl, hrel => by
    obtain ⟨u, us, rfl⟩ : ∃ u r, us = u :: r := by cases us with
      | nil => simp at hl
      | cons u r => exact ⟨u, r, rfl⟩
    simp only [List.length_cons, Nat.add_right_cancel_iff] at hl hlen
    have hR1 := hR.push hb hr hL (by omega) (hrel 0 v u rfl rfl)
    have hdm : ∀ j, dom M j → dom (upd M id ⟨b.cells ++ [v], true, b.es⟩) j := by
      rintro j ⟨bj, hj⟩
      by_cases hji : j = id
      · rw [hji]; exact dom_upd
      · exact ⟨bj, by simp only [upd, hji, if_false]; exact hj⟩
    have := Rep.pushAll hL vs us hR1 (b := ⟨b.cells ++ [v], true, b.es⟩) (by simp only [upd, if_true]) rfl (by simp; omega) hl
      (fun k v' u' h1 h2 => (hrel (k + 1) v' u' (by simpa using h1) (by simpa using h2)).mono hdm (fun _ _ => rfl) fun _ h => h)
    rw [upd_upd] at this
    simp only [List.append_assoc, List.singleton_append, List.length_append, List.length_singleton] at this
    rw [World.setCells, Nat.add_assoc]
    exact this
theorem FStep.append {P : Program} {E : Env} {M : Mem} {d : Option Tmp} {ty : TypeId} {ps : String} {af : Array Edge} {g : Option (Nat × Bool)} {x y : Operand} {t e : TypeId} {id jd o n m es by' : Nat} {cs news : List Value} {bj : Blk} {z : Value} (nid : Nat)
    (hx : aev E x = some (.slice (some ⟨id, 0, none⟩) n 0)) (hy : aev E y = some (.slice (some ⟨jd, o, none⟩) m 0)) (hb : M id = some ⟨cs, true, es⟩) (hj : M jd = some bj)
    (hn : cs.length = n * es) (hnw : (bj.cells.drop o).take (m * es) = news) (ho : o + m * es ≤ bj.cells.length) (_ : jd ≠ id) (hnid : nid ≠ id) (hnjd : nid ≠ jd)
    (ht : P.underlying t = some (.slice e)) (hs : (P.info? e).map (·.size) = some es) (h0 : es ≠ 0) (hz : (P.info? e).map (·.zero) = some (some z)) (hzs : z.cells.size = es) (hby : (P.info? e).map (·.bytes) = some by')
    (hlen : (n + m) * by' ≤ 140737488355328) (hmax : n + m < 9223372036854775808) (hone : news.all (·.oneCell') = true) :
    FStep P ⟨d, .call ⟨.builtin .append, #[x, y], #[t, t]⟩, ty, ps, af, g⟩ E M (.slice (some ⟨nid, 0, none⟩) (n + m) 0) ⟨[id, jd], [(nid, ⟨cs ++ news, true, es⟩), (id, ⟨[], false, es⟩)]⟩ := by
  intro E' M' h1 h2 h3 C ρ ac w hR
  have hb' : M' id = some ⟨cs, true, es⟩ := by rw [h2 id (by simp)]; exact hb
  have hj' : M' jd = some bj := by rw [h2 jd (by simp)]; exact hj
  have hn' : M' nid = none := h3 _ (List.mem_cons_self ..) (by simp [hnid, hnjd])
  have hxv := hR.eval (x := x) (by rw [h1 x (by simp [Op.operands, Call.operands])]; exact hx)
  have hyv := hR.eval (x := y) (by rw [h1 y (by simp [Op.operands, Call.operands])]; exact hy)
  obtain ⟨info, hi, hisz⟩ := info_of hs
  have hibz : info.zero = some z := by rw [hi] at hz; simpa using hz
  have hiby : info.bytes = by' := by rw [hi] at hby; simpa using hby
  subst hisz
  have hBid := hR.mem id _ hb'
  obtain ⟨us, hul, hus, hrel⟩ := pick_list (o := o) (hR.mem jd bj hj').cells (m * info.size) ho
  obtain ⟨olds, hol, hos, horel⟩ := pick_list (o := 0) hBid.cells cs.length (by simp)
  have hnl : news.length = m * info.size := by rw [← hnw]; simp; omega
  have hrel' : ∀ (k : Nat) (v u : Value), news[k]? = some v → us[k]? = some u → VR .real (dom M') ρ v u := fun k v u a b => hrel k v u (by rw [hnw]; exact a) b
  have hu1 : ∀ u ∈ us, u.oneCell' = true := fun u hu => by
    obtain ⟨k, hk, rfl⟩ := List.mem_iff_getElem.1 hu
    have hk2 : k < news.length := by omega
    exact one_rel (hrel' k _ _ (List.getElem?_eq_getElem hk2) (List.getElem?_eq_getElem hk)) (List.all_eq_true.1 hone _ (List.getElem_mem hk2))
  have fresh : ∀ (rc : Array Value) (w' : World), w' = w.drew.alloc (.cells rc e) → (∀ (k : Nat) (u : Value), (olds ++ us)[k]? = some u → rc[k]? = some u) → cs.length + news.length ≤ rc.size →
      ∃ ρ', Rep C ρ' ⟨E', upds M' [(nid, ⟨cs ++ news, true, info.size⟩), (id, ⟨[], false, info.size⟩)]⟩ ac w' ∧ ρ' nid = ⟨w.heap.size, 0, some rc.size, info.size⟩ := by
    rintro rc w' rfl hrc hsz
    have hk := hR.kill hb'
    have hm2 : (upd M' id (⟨[], false, info.size⟩ : Blk)) nid = none := by simp only [upd, hnid, if_false]; exact hn'
    have hdm : ∀ j, dom M' j → dom (upd M' id (⟨[], false, info.size⟩ : Blk)) j := by
      rintro j ⟨bj, hj⟩
      by_cases hji : j = id
      · rw [hji]; exact dom_upd
      · exact ⟨bj, by simp only [upd, hji, if_false]; exact hj⟩
    obtain ⟨ρ', hR', hρ, _⟩ := (hk.drew).alloc hm2 (cells := cs ++ news) (rcells := rc) (elem := e) info.size (by simpa using hsz) (fun k v u a b => by
      have hol' : olds.length = cs.length := hol
      rcases Nat.lt_or_ge k cs.length with hk | hk
      · rw [List.getElem?_append_left hk] at a
        have h7 := hrc k _ (by rw [List.getElem?_append_left (by omega)]; exact List.getElem?_eq_getElem (by omega))
        rw [b] at h7; cases h7
        exact (horel k v _ (by simpa [List.getElem?_take, hk] using a) (List.getElem?_eq_getElem (by omega))).mono hdm (fun _ _ => rfl) fun _ h => h
      · rw [List.getElem?_append_right hk] at a
        have hk2 : k - cs.length < news.length := (List.getElem?_eq_some_iff.1 a).1
        have h7 := hrc k _ (by rw [List.getElem?_append_right (by omega)]; exact List.getElem?_eq_getElem (by omega))
        rw [b] at h7; cases h7
        exact (hrel' _ v _ a (by rw [← hol']; exact List.getElem?_eq_getElem (by omega))).mono hdm (fun _ _ => rfl) fun _ h => h)
    exact ⟨ρ', hR', hρ⟩
  have done : ∀ (v' : Value) (w' : World), (Builtin.append_ #[t, t] ty #[ac.eval x, ac.eval y]).run P w = .ok v' w' →
      (∃ ρ', Rep C ρ' ⟨E', upds M' [(nid, ⟨cs ++ news, true, info.size⟩), (id, ⟨[], false, info.size⟩)]⟩ ac w' ∧ VR .real (dom (upds M' [(nid, ⟨cs ++ news, true, info.size⟩), (id, ⟨[], false, info.size⟩)])) ρ' (.slice (some ⟨nid, 0, none⟩) (n + m) 0) v') →
      StepTo P ⟨d, .call ⟨.builtin .append, #[x, y], #[t, t]⟩, ty, ps, af, g⟩ ac w fun u w' => ∃ ρ', Rep C ρ' ⟨E', upds M' [(nid, ⟨cs ++ news, true, info.size⟩), (id, ⟨[], false, info.size⟩)]⟩ ac w' ∧
        VR .real (dom (upds M' [(nid, ⟨cs ++ news, true, info.size⟩), (id, ⟨[], false, info.size⟩)])) ρ' (.slice (some ⟨nid, 0, none⟩) (n + m) 0) u := fun v' w' hrun hR' => by
    unfold StepTo Oper.wp
    rw [run_appendOp ac.eval w hrun]
    exact ⟨v', rfl, hR'⟩
  have hD2 : dom (upds M' [(nid, ⟨cs ++ news, true, info.size⟩), (id, ⟨[], false, info.size⟩)]) nid := keys_dom (by simp [keys])
  have moved : ∀ (w' : World), Rep C ρ ⟨E', upd M' id ⟨cs ++ news, true, info.size⟩⟩ ac w' → ∃ ρ', Rep C ρ' ⟨E', upds M' [(nid, ⟨cs ++ news, true, info.size⟩), (id, ⟨[], false, info.size⟩)]⟩ ac w' ∧ ρ' nid = ρ id := by
    intro w' hR1
    obtain ⟨ρ', h5, h6, _⟩ := hR1.move (id := id) (nid := nid) (b := ⟨cs ++ news, true, info.size⟩) (by simp only [upd, if_true]) (by simp only [upd, hnid, if_false]; exact hn')
    rw [upd_upd] at h5
    exact ⟨ρ', h5, h6⟩
  have same : news = [] → Rep C ρ ⟨E', upd M' id ⟨cs ++ news, true, info.size⟩⟩ ac w := fun e => by rw [e, List.append_nil, upd_self hb']; exact hR
  have grow_cells : ∀ (k : Nat) (q : Nat), ∀ (k' : Nat) (u : Value), (olds ++ us)[k']? = some u → (olds.toArray ++ us.toArray ++ Builtin.zeroCells z.cells q)[k']? = some u := fun _ q k' u hk => by
    have : k' < (olds ++ us).length := (List.getElem?_eq_some_iff.1 hk).1
    rw [Array.getElem?_append_left (by simpa using this)]
    simpa using hk
  have hneeds : ∀ q, n + m ≤ q → (olds.toArray ++ us.toArray ++ Builtin.zeroCells z.cells (q - (n + m))).size = q * info.size := fun q hq => by
    simp only [Array.size_append, List.size_toArray, size_zeroCells, hzs, hol, hul, hn, ← Nat.add_mul]
    congr 1; omega
  generalize hux : ac.eval x = ux at hxv done
  generalize huy : ac.eval y = uy at hyv done
  cases hxv with
  | flat _ hf => simp [flatV] at hf
  | nilS =>
    have hcs0 : cs = [] := List.length_eq_zero_iff.1 (by rw [hn]; simp)
    subst hcs0
    cases hyv with
    | flat _ hf => simp [flatV] at hf
    | nilS =>
      have hnw0 : news = [] := List.length_eq_zero_iff.1 (by rw [hnl]; simp)
      obtain ⟨ρ', h5, h6⟩ := moved w (same hnw0)
      exact done _ _ (run_append_nilY ht hs _ 0 0 (Nat.le_refl _) w) ⟨ρ', h5, .nilS _ (by simp)⟩
    | zeroS =>
      have hnw0 : news = [] := List.length_eq_zero_iff.1 (by rw [hnl]; simp)
      obtain ⟨ρ', h5, h6⟩ := moved w (same hnw0)
      exact done _ _ (run_append_none0 ht hs _ _ w) ⟨ρ', h5, .nilS _ (by simp)⟩
    | slice _ _ _ c' hd' g1' g2' =>
      by_cases hm0 : m = 0
      · subst hm0
        have hnw0 : news = [] := List.length_eq_zero_iff.1 (by rw [hnl]; simp)
        obtain ⟨ρ', h5, h6⟩ := moved w (same hnw0)
        exact done _ _ (run_append_none0 ht hs _ _ w) ⟨ρ', h5, .nilS _ (by simp)⟩
      · have hfit : m * info.bytes ≤ 281474976710656 := by rw [hiby]; rw [Nat.zero_add] at hlen; omega
        have hrun := run_append_nil (P := P) w t ty e info z ht hi hibz ⟨(ρ jd).blk, (ρ jd).off + o, none⟩ m c' us hul (fun j v hv => by rw [addr_add]; exact hus j v hv) (by omega) (by omega) hfit
        have hge := grownCap_ge w m 0 e
        have ho0 : olds = [] := List.length_eq_zero_iff.1 (by rw [hol]; rfl)
        have hsz : (us.toArray ++ Builtin.zeroCells z.cells (grownCap w m 0 e - m)).size = grownCap w m 0 e * info.size := by
          simp only [Array.size_append, List.size_toArray, size_zeroCells, hzs, hul, ← Nat.add_mul]
          congr 1; omega
        obtain ⟨ρ', h5, h6⟩ := fresh _ _ rfl (fun k u hk => by
          rw [ho0, List.nil_append] at hk
          have : k < us.length := (List.getElem?_eq_some_iff.1 hk).1
          have e1 : (us.toArray ++ Builtin.zeroCells z.cells (grownCap w m 0 e - m))[k]? = us.toArray[k]? := Array.getElem?_append_left (show k < us.toArray.size by rw [List.size_toArray]; exact this)
          rw [e1, List.getElem?_toArray]
          exact hk) (by rw [hsz, hnl]; simp only [List.length_nil, Nat.zero_add]; exact Nat.mul_le_mul_right _ hge)
        refine done _ _ hrun ⟨ρ', h5, ?_⟩
        have := VR.slice (m := .real) (ρ := ρ') nid 0 (0 + m) (grownCap w m 0 e) hD2 (by simp) (fun _ => ⟨by omega, fun L hL => by
          rw [h6] at hL ⊢
          simp only [Option.some.injEq] at hL
          rw [hsz] at hL
          simp only; omega⟩)
        rw [h6, Nat.zero_add] at this
        rw [Nat.zero_add]
        exact this
  | zeroS _ a0 =>
    have hcs0 : cs = [] := List.length_eq_zero_iff.1 (by rw [hn]; simp)
    subst hcs0
    cases hyv with
    | flat _ hf => simp [flatV] at hf
    | nilS =>
      have hnw0 : news = [] := List.length_eq_zero_iff.1 (by rw [hnl]; simp)
      obtain ⟨ρ', h5, h6⟩ := moved w (same hnw0)
      exact done _ _ (run_append_nilY ht hs _ 0 0 (Nat.le_refl _) w) ⟨ρ', h5, .zeroS _ a0 rfl⟩
    | zeroS =>
      have hnw0 : news = [] := List.length_eq_zero_iff.1 (by rw [hnl]; simp)
      obtain ⟨ρ', h5, h6⟩ := moved w (same hnw0)
      exact done _ _ (run_append_zeroY ht hs _ 0 0 (Nat.le_refl _) _ _ w) ⟨ρ', h5, .zeroS _ a0 rfl⟩
    | slice _ _ _ c' hd' g1' g2' =>
      by_cases hm0 : m = 0
      · subst hm0
        have hnw0 : news = [] := List.length_eq_zero_iff.1 (by rw [hnl]; simp)
        obtain ⟨ρ', h5, h6⟩ := moved w (same hnw0)
        exact done _ _ (run_append_zeroY ht hs _ 0 0 (Nat.le_refl _) _ _ w) ⟨ρ', h5, .zeroS _ a0 rfl⟩
      · have ho0 : olds = [] := List.length_eq_zero_iff.1 (by rw [hol]; rfl)
        subst ho0
        have hfit := growslice_fits (need := 0 + m) (old := 0) (by omega) (by rw [hiby]; exact hlen : (0 + m) * info.bytes ≤ 140737488355328)
        have hrun := run_append_grow (P := P) w t ty e info z ht hi hibz a0 0 0 [] (by simp) (fun j v hv => by simp at hv)
          ⟨(ρ jd).blk, (ρ jd).off + o, none⟩ m c' us hul (fun j v hv => by rw [addr_add]; exact hus j v hv) (by omega) (by omega) hfit
        have hge := grownCap_ge w (0 + m) 0 e
        obtain ⟨ρ', h5, h6⟩ := fresh _ _ rfl (grow_cells 0 _) (by rw [hneeds _ hge, hn, hnl, ← Nat.add_mul]; exact Nat.mul_le_mul_right _ hge)
        refine done _ _ hrun ⟨ρ', h5, ?_⟩
        have := VR.slice (m := .real) (ρ := ρ') nid 0 (0 + m) (grownCap w (0 + m) 0 e) hD2 (by simp) (fun _ => ⟨hge, fun L hL => by
          rw [h6] at hL ⊢
          simp only [Option.some.injEq] at hL
          rw [hneeds _ hge] at hL
          simp only; omega⟩)
        rw [h6] at this
        exact this
  | slice _ _ _ c hd g1 g2 =>
    obtain ⟨g3, g4⟩ := g2 rfl
    cases hyv with
    | flat _ hf => simp [flatV] at hf
    | nilS =>
      have hnw0 : news = [] := List.length_eq_zero_iff.1 (by rw [hnl]; simp)
      obtain ⟨ρ', h5, h6⟩ := moved w (same hnw0)
      refine done _ _ (run_append_nilY ht hs _ n c g3 w) ⟨ρ', h5, ?_⟩
      have := VR.slice (m := .real) (ρ := ρ') nid 0 n c hD2 (by simp) (fun _ => ⟨g3, fun L hL => by rw [h6] at hL ⊢; exact g4 L hL⟩)
      rw [h6] at this
      exact this
    | zeroS =>
      have hnw0 : news = [] := List.length_eq_zero_iff.1 (by rw [hnl]; simp)
      obtain ⟨ρ', h5, h6⟩ := moved w (same hnw0)
      refine done _ _ (run_append_zeroY ht hs _ n c g3 _ _ w) ⟨ρ', h5, ?_⟩
      have := VR.slice (m := .real) (ρ := ρ') nid 0 n c hD2 (by simp) (fun _ => ⟨g3, fun L hL => by rw [h6] at hL ⊢; exact g4 L hL⟩)
      rw [h6] at this
      exact this
    | slice _ _ _ c' hd' g1' g2' =>
      by_cases hroom : n + m ≤ c
      · obtain ⟨L, hL, hLl⟩ := hR.lim hb' rfl
        have hes : (ρ id).es = info.size := hBid.es
        have hcL := g4 L hL
        rw [hes] at hcL
        have hnm : n * info.size + m * info.size ≤ c * info.size := by rw [← Nat.add_mul]; exact Nat.mul_le_mul_right _ hroom
        have hW : ∀ j, j < us.length → RwOk ρ M' w id := fun j hj => hBid.rw ⟨rfl, by rw [hL]; simp only [ne_eq, Option.some.injEq]; omega⟩
        have hrun := run_append_room_cells (P := P) w t ty e info ht hi (ρ id).blk ((ρ id).off + 0) n c ⟨(ρ jd).blk, (ρ jd).off + o, none⟩ m c' us hul (fun j v hv => by rw [addr_add]; exact hus j v hv) hu1 hroom
          (fun j hj => by
            obtain ⟨L', hL', hx⟩ := (hW j hj).lim
            rw [hL] at hL'; cases hL'
            obtain ⟨x, hx⟩ := hx (n * info.size + j) (by omega)
            simp only [(hW j hj).off, Nat.zero_add]; rw [hx]; rfl)
          (fun j hj => (hW j hj).soft _)
        have hp := Rep.pushAll hL news us hR hb' rfl (by simp only; omega) (by omega) hrel'
        simp only [hn] at hp
        obtain ⟨ρ', h5, h6⟩ := moved _ hp
        refine done _ _ (by rw [Nat.add_zero] at hrun ⊢; exact hrun) ⟨ρ', h5, ?_⟩
        have := VR.slice (m := .real) (ρ := ρ') nid 0 (n + m) c hD2 (by simp) (fun _ => ⟨hroom, fun L hL => by rw [h6] at hL ⊢; exact g4 L hL⟩)
        rw [h6] at this
        exact this
      · have hfit := growslice_fits (need := n + m) (old := c) (by omega) (by rw [hiby]; exact hlen : (n + m) * info.bytes ≤ 140737488355328)
        have hrun := run_append_grow (P := P) w t ty e info z ht hi hibz ⟨(ρ id).blk, (ρ id).off + 0, none⟩ n c olds (by omega) (fun j v hv => by rw [addr_add]; exact hos j v hv)
          ⟨(ρ jd).blk, (ρ jd).off + o, none⟩ m c' us hul (fun j v hv => by rw [addr_add]; exact hus j v hv) (by omega) (by omega) hfit
        have hge := grownCap_ge w (n + m) c e
        obtain ⟨ρ', h5, h6⟩ := fresh _ _ rfl (grow_cells 0 _) (by rw [hneeds _ hge, hn, hnl, ← Nat.add_mul]; exact Nat.mul_le_mul_right _ hge)
        refine done _ _ hrun ⟨ρ', h5, ?_⟩
        have := VR.slice (m := .real) (ρ := ρ') nid 0 (n + m) (grownCap w (n + m) c e) hD2 (by simp) (fun _ => ⟨hge, fun L hL => by
          rw [h6] at hL ⊢
          simp only [Option.some.injEq] at hL
          rw [hneeds _ hge] at hL
          simp only; omega⟩)
        rw [h6] at this
        exact this
section
variable {P : Program} {T : Tab} (H : TabOk P T)
variable {ops : Array Oper} {k i : Nat} {os : List Oper} {E : Env} {M : Mem} {D : List Eff → Prop} {K : ASt → Prop}
  {d : Tmp} {ty : TypeId} {ps : String} {af : Array Edge} {g : Option (Nat × Bool)}
include H
theorem AWo.append {x y : Operand} {t e : TypeId} {id jd o n m es by' : Nat} {cs news all : List Value} {bj : Blk} {z : Value} (nid : Nat)
    (hx : aev E x = some (.slice (some ⟨id, 0, none⟩) n 0)) (hy : aev E y = some (.slice (some ⟨jd, o, none⟩) m 0)) (hb : M id = some ⟨cs, true, es⟩) (hj : M jd = some bj)
    (hn : cs.length = n * es) (hnw : (bj.cells.drop o).take (m * es) = news) (ho : o + m * es ≤ bj.cells.length) (hne : jd ≠ id) (hid : M nid = none)
    (ht : T.sl.lookup t = some e) (hs : T.sz.lookup e = some es) (h0 : es ≠ 0) (hz : T.zero.lookup e = some z) (hzs : z.cells.size = es) (hby : T.by'.lookup e = some by')
    (hlen : (n + m) * by' ≤ 140737488355328) (hmax : n + m < 9223372036854775808) (hone : news.all (·.oneCell') = true) (hall : cs ++ news = all)
    (hw : wantA ops E ⟨some d, .call ⟨.builtin .append, #[x, y], #[t, t]⟩, ty, ps, af, g⟩ = some true) (hd : Nat.blt d k = true)
    (hr : AWo P ops k (i + 1) os ⟨upd E d (.slice (some ⟨nid, 0, none⟩) (n + m) 0), upd (upd M id ⟨[], false, es⟩) nid ⟨all, true, es⟩⟩
      (fun es' => D (⟨[id, jd], [(nid, ⟨all, true, es⟩), (id, ⟨[], false, es⟩)]⟩ :: es')) K) :
    AWo P ops k i (⟨some d, .call ⟨.builtin .append, #[x, y], #[t, t]⟩, ty, ps, af, g⟩ :: os) ⟨E, M⟩ D K := by
  subst hall
  have h1 : nid ≠ id := fun e => by rw [e, hb] at hid; cases hid
  have h2 : nid ≠ jd := fun e => by rw [e, hj] at hid; cases hid
  refine AWo.step (FStep.append nid hx hy hb hj hn hnw ho hne h1 h2 (H.sl t _ ht) (H.sz e _ hs) h0 (H.zero e _ hz) hzs (H.by' e _ hby) hlen hmax hone) hw hd (fun p hp hq => ?_) hr
  simp only [List.mem_cons, List.not_mem_nil, or_false] at hp
  rcases hp with rfl | rfl
  · exact hid
  · simp at hq
end
end Go.Proofs.YtlfadlfjjkppfaaGreatDoor.Sim
namespace Go.Proofs.YtlfadlfjjkppfaaGreatDoor.Sim
open Go
theorem AW.move {P : Program} {n m : Nat} {c : Code} {E : Env} {M : Mem} {Q : Exit → ASt → Prop} (id nid t : Nat) {b : Blk} {k o : Nat} (hid : M id = some b) (hn : M nid = none)
    (ht : E t = some (.slice (some ⟨id, o, none⟩) k 0))
    (h : AW P n m c ⟨upd E t (.slice (some ⟨nid, o, none⟩) k 0), upd (upd M id ⟨[], false, b.es⟩) nid b⟩ Q) : AW P n m c ⟨E, M⟩ Q := by
  intro C hC hm ρ a w hR
  obtain ⟨ρ', hR', hρ, hρ'⟩ := hR.move hid hn
  refine h C hC hm ρ' a w ⟨hR'.size, hR'.defers, fun t' v hv => ?_, hR'.mem, hR'.agree, hR'.low, hR'.own, hR'.frame, hR'.im, hR'.imsub, hR'.imnew, hR'.gl⟩
  simp only [upd] at hv
  by_cases htt : t' = t
  · rw [if_pos htt] at hv; cases hv; subst htt
    obtain ⟨u, hu, hr⟩ := hR.env _ _ ht
    refine ⟨u, hu, ?_⟩
    have hd : dom (upd (upd M id (⟨[], false, b.es⟩ : Blk)) nid b) nid := ⟨b, by simp only [upd, if_true]⟩
    cases hr with
    | flat _ hf => simp [flatV] at hf
    | nilS => exact .nilS _ (by simp)
    | zeroS _ a => exact .zeroS _ a rfl
    | slice _ _ _ c hd0 h1 h2 =>
      have := VR.slice (m := .real) (ρ := ρ') nid o k c hd (by simp) (by rw [hρ]; exact h2)
      rw [hρ] at this
      exact this
  · rw [if_neg htt] at hv
    exact hR'.env t' v hv
end Go.Proofs.YtlfadlfjjkppfaaGreatDoor.Sim
namespace Go.Proofs.YtlfadlfjjkppfaaGreatDoor.Sim
open Go
inductive OptI (E : Env) : Option Operand → Nat → Nat → Prop
  | none {d : Nat} : OptI E none d d
  | some {x : Operand} {k : IntKind} {d n : Nat} (h : aev E x = some (.int k (n : Nat))) : OptI E (some x) d n
section
variable {P : Program} {E : Env} {M : Mem} {d : Option Tmp} {ty : TypeId} {ps : String} {af : Array Edge} {g : Option (Nat × Bool)}
theorem run_bounds {ev : Operand → Value} {lo hi : Option Operand} {l h n c : Nat} (isS : Bool) (hlo : OptI E lo 0 l) (hhi : OptI E hi n h) (hev : ∀ x, (lo = some x ∨ hi = some x) → ∀ v, aev E x = some v → flatV v = true → ev x = v)
    (hlh : l ≤ h) (hhc : h ≤ c) (w : World) : (Instr.sliceBounds isS n c (lo.map ev) (hi.map ev) none).run P w = .ok (l, h, c) w := by
  cases hlo with
  | none =>
    cases hhi with
    | none => simp [Instr.sliceBounds]
    | some hx =>
      have := hev _ (.inr rfl) _ hx rfl
      simp [Instr.sliceBounds, Instr.sliceBound, this, asIntOf, hhc]
  | some hy =>
    have h2 := hev _ (.inl rfl) _ hy rfl
    cases hhi with
    | none =>
      simp [Instr.sliceBounds, Instr.sliceBound, h2, asIntOf, hlh]
    | some hx =>
      have := hev _ (.inr rfl) _ hx rfl
      simp [Instr.sliceBounds, Instr.sliceBound, this, h2, asIntOf, hhc, hlh]
theorem opt_mem {lo hi : Option Operand} {x y : Operand} {t : TypeId} (h : lo = some y ∨ hi = some y) : y ∈ (Op.slice t x lo hi none).operands := by
  rcases h with rfl | rfl <;> simp [Op.operands]
theorem FStep.sliceS {t e : TypeId} {x : Operand} {lo hi : Option Operand} {id o n l h sz : Nat} {b : Blk} (hx : aev E x = some (.slice (some ⟨id, o, none⟩) n 0)) (hlo : OptI E lo 0 l) (hhi : OptI E hi n h)
    (hb : M id = some b) (hs : b.es = sz) (ht : P.underlying t = some (.slice e)) (hsz : (P.info? e).map (·.size) = some sz) (hlh : l ≤ h) (hhn : h ≤ n) (hne : l = 0 ∨ l < h) :
    FStep P ⟨d, .slice t x lo hi none, ty, ps, af, g⟩ E M (.slice (some ⟨id, o + l * sz, none⟩) (h - l) 0) ⟨[id], []⟩ := by
  intro E' M' h1 h2 _ C ρ ac w hR
  have hb' : M' id = some b := by rw [h2 id (by simp)]; exact hb
  have hxv := hR.eval (x := x) (by rw [h1 x (by simp [Op.operands])]; exact hx)
  have hev : ∀ y, (lo = some y ∨ hi = some y) → ∀ v, aev E y = some v → flatV v = true → ac.eval y = v := fun y hy v hv hf =>
    flat_inv (hR.eval (x := y) (by rw [h1 y (opt_mem hy)]; exact hv)) hf
  unfold StepTo Oper.wp
  rcases slice_inv hxv with ⟨c, e1, hc, hD, hlim⟩ | ⟨h0, e1 | ⟨a0, e1⟩⟩
  · have hrun : (execOp ac.eval ⟨d, .slice t x lo hi none, ty, ps, af, g⟩).run P w = .ok (.value (.slice (some (if c = l then ⟨(ρ id).blk, (ρ id).off + o, none⟩ else ⟨(ρ id).blk, (ρ id).off + o + l * sz, none⟩)) (h - l) (c - l))) w := by
      by_cases hcl : c = l
      · simp only [execOp, e1, Instr.sliceAt, Instr.slice, Sem.run_bind, run_underlying ht, Result.andThen_ok, Option.map_none, run_bounds (P := P) true hlo hhi hev hlh (Nat.le_trans hhn hc), run_size hsz, Sem.run_pure, if_pos hcl]
      · simp only [execOp, e1, Instr.sliceAt, Instr.slice, Sem.run_bind, run_underlying ht, Result.andThen_ok, Option.map_none, run_bounds (P := P) true hlo hhi hev hlh (Nat.le_trans hhn hc), run_size hsz, Sem.run_pure, if_neg hcl, Option.map_some, addr_add]
    rw [hrun]
    refine ⟨_, rfl, ρ, hR, ?_⟩
    have hes := (hR.mem id b hb').es
    have h0 : c = l → l = 0 := fun hcl => by rcases hne with h | h <;> omega
    have hw : (if c = l then (⟨(ρ id).blk, (ρ id).off + o, none⟩ : Addr) else ⟨(ρ id).blk, (ρ id).off + o + l * sz, none⟩) = ⟨(ρ id).blk, (ρ id).off + (o + l * sz), none⟩ := by
      by_cases hcl : c = l
      · rw [if_pos hcl, h0 hcl]; simp
      · rw [if_neg hcl, Nat.add_assoc]
    rw [hw]
    refine VR.slice id (o + l * sz) (h - l) (c - l) hD (by simp) (fun _ => ⟨by omega, fun L hL => ?_⟩)
    have := hlim L hL
    rw [hes, hs] at this ⊢
    have e3 : l * sz + (c - l) * sz = c * sz := by rw [← Nat.add_mul]; congr 1; omega
    omega
  · subst h0
    obtain rfl : h = 0 := by omega
    obtain rfl : l = 0 := by omega
    have hrun : (execOp ac.eval ⟨d, .slice t x lo hi none, ty, ps, af, g⟩).run P w = .ok (.value (.slice none 0 0)) w := by
      simp only [execOp, e1, Instr.sliceAt, Instr.slice, Sem.run_bind, run_underlying ht, Result.andThen_ok, Option.map_none, run_bounds (P := P) true hlo hhi hev hlh (Nat.le_refl _), run_size hsz, Sem.run_pure, if_true, Nat.sub_zero]
    rw [hrun]
    exact ⟨_, rfl, ρ, hR, .nilS _ (by simp)⟩
  · subst h0
    obtain rfl : h = 0 := by omega
    obtain rfl : l = 0 := by omega
    have hrun : (execOp ac.eval ⟨d, .slice t x lo hi none, ty, ps, af, g⟩).run P w = .ok (.value (.slice (some a0) 0 0)) w := by
      simp only [execOp, e1, Instr.sliceAt, Instr.slice, Sem.run_bind, run_underlying ht, Result.andThen_ok, Option.map_none, run_bounds (P := P) true hlo hhi hev hlh (Nat.le_refl _), run_size hsz, Sem.run_pure, if_true, Nat.sub_zero]
    rw [hrun]
    exact ⟨_, rfl, ρ, hR, .zeroS _ a0 rfl⟩
theorem FStep.sliceA {t e : TypeId} {x : Operand} {lo hi : Option Operand} {id o n l h sz : Nat} {b : Blk} (hx : aev E x = some (.pointer (some ⟨id, o, none⟩))) (hlo : OptI E lo 0 l) (hhi : OptI E hi n h)
    (hb : M id = some b) (hs : b.es = sz) (ht : P.underlying t = some (.array n e)) (hsz : (P.info? e).map (·.size) = some sz) (hlh : l ≤ h) (hhn : h ≤ n) (hne : l = 0 ∨ l < n) (hroom : o + n * sz ≤ b.cells.length) :
    FStep P ⟨d, .slice t x lo hi none, ty, ps, af, g⟩ E M (.slice (some ⟨id, o + l * sz, none⟩) (h - l) 0) ⟨[id], []⟩ := by
  intro E' M' h1 h2 _ C ρ ac w hR
  have hb' : M' id = some b := by rw [h2 id (by simp)]; exact hb
  obtain ⟨e1, hD⟩ := ptr_inv (hR.eval (x := x) (by rw [h1 x (by simp [Op.operands])]; exact hx))
  have hev : ∀ y, (lo = some y ∨ hi = some y) → ∀ v, aev E y = some v → flatV v = true → ac.eval y = v := fun y hy v hv hf =>
    flat_inv (hR.eval (x := y) (by rw [h1 y (opt_mem hy)]; exact hv)) hf
  unfold StepTo Oper.wp
  have hrun : (execOp ac.eval ⟨d, .slice t x lo hi none, ty, ps, af, g⟩).run P w = .ok (.value (.slice (some ⟨(ρ id).blk, (ρ id).off + (o + l * sz), none⟩) (h - l) (n - l))) w := by
    by_cases hcl : n = l
    · have h0 : l = 0 := by rcases hne with h | h <;> omega
      simp only [execOp, e1, Instr.sliceAt, Instr.sureAddr, Sem.run_bind, run_underlying ht, Result.andThen_ok, Option.map_none, run_bounds (P := P) false hlo hhi hev hlh hhn, run_size hsz, Sem.run_pure, if_pos hcl]
      simp [h0]
    · simp only [execOp, e1, Instr.sliceAt, Instr.sureAddr, Sem.run_bind, run_underlying ht, Result.andThen_ok, Option.map_none, run_bounds (P := P) false hlo hhi hev hlh hhn, run_size hsz, Sem.run_pure, if_neg hcl, addr_add, Nat.add_assoc]
  rw [hrun]
  refine ⟨_, rfl, ρ, hR, VR.slice id (o + l * sz) (h - l) (n - l) hD (by simp) (fun _ => ⟨by omega, fun L hL => ?_⟩)⟩
  have hr := (hR.mem id b hb').room L hL
  rw [(hR.mem id b hb').es, hs]
  have e3 : l * sz + (n - l) * sz = n * sz := by rw [← Nat.add_mul]; congr 1; omega
  omega
theorem FStep.makeSliceC {t e : TypeId} {x y : Operand} {n k sz by' : Nat} {c z : Value} (id : Nat) (hx : aev E x = some (.int .i64 n)) (hy : aev E y = some (.int .i64 k)) (hnk : n ≤ k)
    (ht : P.underlying t = some (.slice e)) (hs : (P.info? e).map (·.size) = some sz) (h0 : sz ≠ 0) (hz : (P.info? e).map (·.zero) = some (some z)) (hzc : z.cells = Array.replicate sz c) (hc : flatV c = true)
    (hby : (P.info? e).map (·.bytes) = some by') (hlen : by' * k ≤ 281474976710656) (hn : k < 9223372036854775808) :
    FStep P ⟨d, .makeSlice t x y, ty, ps, af, g⟩ E M (.slice (some ⟨id, 0, none⟩) n 0) ⟨[], [(id, ⟨List.replicate (n * sz) c, true, sz⟩)]⟩ := by
  intro E' M' h1 _ h3 C ρ ac w hR
  have hid : M' id = none := h3 _ (List.mem_singleton_self _) (by simp)
  have e1 := flat_inv (hR.eval (x := x) (by rw [h1 x (by simp [Op.operands])]; exact hx)) rfl
  have e2 := flat_inv (hR.eval (x := y) (by rw [h1 y (by simp [Op.operands])]; exact hy)) rfl
  obtain ⟨ρ', hR', hρ, _⟩ := hR.alloc hid (cells := List.replicate (n * sz) c) (rcells := Array.replicate (k * sz) c) (elem := e) sz (by simpa using Nat.mul_le_mul_right _ hnk) (fun k y u h1 h2 => by
    have a1 := (List.getElem?_eq_some_iff.1 h1).2
    have a2 := (Array.getElem?_eq_some_iff.1 h2).2
    simp at a1 a2
    rw [← a1, ← a2]
    exact .flat _ hc)
  obtain ⟨info, hi, _⟩ := info_of hs
  have hby2 : info.bytes = by' := by rw [hi] at hby; simpa using hby
  have hwrap : IntKind.i64.wrap (n : Int) = n := IntWalk.i64_in _ (by omega)
  have hwrapk : IntKind.i64.wrap (k : Int) = k := IntWalk.i64_in _ (by omega)
  unfold StepTo Oper.wp
  have hlen' : ¬ (281474976710656 : Int) < (info.bytes : Int) * (k : Int) := by
    rw [hby2]
    have h9 := Int.ofNat_le.mpr hlen
    rw [Int.natCast_mul] at h9
    omega
  have : (execOp ac.eval ⟨d, .makeSlice t x y, ty, ps, af, g⟩).run P w = .ok (.value (.slice (some ⟨w.heap.size, 0, none⟩) n k)) (pushW w (.cells (Array.replicate (k * sz) c) e)) := by
    have hn0 : ¬ (n : Int) < 0 := by omega
    have hk0 : ¬ (k : Int) < 0 := by omega
    have hnk' : ¬ (k : Int) < (n : Int) := by omega
    simp only [execOp, e1, e2, Instr.makeSlice, Sem.run_bind, run_underlying ht, Result.andThen_ok, asInt, asIntOf, Sem.run_pure, typeInfo, hi, run_program, hwrap, hwrapk]
    simp only [hn0, hk0, hnk', decide_false, Bool.or_false, gt_iff_lt, hlen', show (2 : Int) ^ 48 = 281474976710656 from rfl, if_false, Bool.false_eq_true, Sem.run_bind,
      Result.andThen_ok, run_askRoom, Int.toNat_natCast, run_size hs]
    by_cases hz0 : k * sz = 0
    · simp [hz0, newRow, pushW, show Array.range 0 = #[] from rfl]
    · have hm := mod_replicate sz k c (.inr h0)
      rw [Array.size_replicate] at hm
      simp [hz0, run_zero hz, newRow, pushW, hzc, hm]
  rw [this]
  refine ⟨_, rfl, ρ', hR', ?_⟩
  have := VR.slice (m := .real) (ρ := ρ') (D := dom (upds M' [(id, ⟨List.replicate (n * sz) c, true, sz⟩)])) id 0 n k dom_upd (by simp) (fun _ => ⟨hnk, fun L hL => by
    rw [hρ] at hL ⊢
    simp only [Array.size_replicate, Option.some.injEq] at hL
    simp only; omega⟩)
  rw [hρ] at this
  exact this
theorem PureOp.toArr {t e : TypeId} {x : Operand} {id o n k : Nat} (hx : aev E x = some (.slice (some ⟨id, o, none⟩) n 0)) (ht : P.underlying t = some (.array k e)) (hk : k ≤ n) (h0 : n ≠ 0) :
    PureOp P (.sliceToArrayPointer t x) E (.pointer (some ⟨id, o, none⟩)) := fun D ρ ev hev => by
  obtain ⟨c, e1, hc, hD, _⟩ | ⟨h1, _⟩ := slice_inv (hev x (by simp [Op.operands]) _ hx)
  · have hk' : ¬ n < k := by omega
    exact ⟨_, .ptr id o hD, fun _ _ _ _ _ w => by simp [execOp, e1, Instr.arrayAt, run_underlying ht, hk']⟩
  · exact absurd h1 h0
end
theorem oneM {α : Type} {f : α → Value} (hf : ∀ x, (f x).oneCell' = true) (l : List α) : (l.map f).all (·.oneCell') = true := by
  rw [List.all_eq_true]
  intro x hx
  obtain ⟨y, _, rfl⟩ := List.mem_map.1 hx
  exact hf y
theorem OutL.husk {m : Nat} {nids : List Nat} {M : Mem} {n k es : Nat} {b' : Blk} {r : List Blk} (hM : M (hmap m nids k).blk = some b') (he : b'.es = es) (hr : OutL m nids M n (k + 1) r) : OutL m nids M n k (⟨[], false, es⟩ :: r) :=
  ⟨⟨b', hM, by simp, fun x hx => by simp at hx, fun h => by rcases h with h | h; cases h; exact absurd rfl h.2, he, Nat.zero_le _⟩, hr⟩
section
variable {P : Program} {T : Tab} (H : TabOk P T)
variable {ops : Array Oper} {k i : Nat} {os : List Oper} {E : Env} {M : Mem} {D : List Eff → Prop} {K : ASt → Prop}
  {d : Tmp} {ty : TypeId} {ps : String} {af : Array Edge} {g : Option (Nat × Bool)}
include H
theorem AWo.sliceS {t e : TypeId} {x : Operand} {lo hi : Option Operand} {id o n l h sz : Nat} {b : Blk} {v : Value} (hx : aev E x = some (.slice (some ⟨id, o, none⟩) n 0)) (hlo : OptI E lo 0 l) (hhi : OptI E hi n h)
    (hb : M id = some b) (hs : b.es = sz) (ht : T.sl.lookup t = some e) (hsz : T.sz.lookup e = some sz) (hlh : l ≤ h) (hhn : h ≤ n) (hne : l = 0 ∨ l < h) (hv : .slice (some ⟨id, o + l * sz, none⟩) (h - l) 0 = v)
    (hw : wantA ops E ⟨some d, .slice t x lo hi none, ty, ps, af, g⟩ = some true) (hd : Nat.blt d k = true)
    (hr : AWo P ops k (i + 1) os ⟨upd E d v, M⟩ (fun es' => D (⟨[id], []⟩ :: es')) K) :
    AWo P ops k i (⟨some d, .slice t x lo hi none, ty, ps, af, g⟩ :: os) ⟨E, M⟩ D K := by
  subst hv
  exact AWo.step (FStep.sliceS hx hlo hhi hb hs (H.sl t _ ht) (H.sz e _ hsz) hlh hhn hne) hw hd (fun p hp => by simp at hp) hr
theorem AWo.sliceA {t e : TypeId} {x : Operand} {lo hi : Option Operand} {id o n l h sz : Nat} {b : Blk} {v : Value} (hx : aev E x = some (.pointer (some ⟨id, o, none⟩))) (hlo : OptI E lo 0 l) (hhi : OptI E hi n h)
    (hb : M id = some b) (hs : b.es = sz) (ht : T.arr.lookup t = some (n, e)) (hsz : T.sz.lookup e = some sz) (hlh : l ≤ h) (hhn : h ≤ n) (hne : l = 0 ∨ l < n) (hroom : o + n * sz ≤ b.cells.length)
    (hv : .slice (some ⟨id, o + l * sz, none⟩) (h - l) 0 = v) (hw : wantA ops E ⟨some d, .slice t x lo hi none, ty, ps, af, g⟩ = some true) (hd : Nat.blt d k = true)
    (hr : AWo P ops k (i + 1) os ⟨upd E d v, M⟩ (fun es' => D (⟨[id], []⟩ :: es')) K) :
    AWo P ops k i (⟨some d, .slice t x lo hi none, ty, ps, af, g⟩ :: os) ⟨E, M⟩ D K := by
  subst hv
  exact AWo.step (FStep.sliceA hx hlo hhi hb hs (H.arr t _ _ ht) (H.sz e _ hsz) hlh hhn hne hroom) hw hd (fun p hp => by simp at hp) hr
theorem AWo.makeSliceC {t e : TypeId} {x y : Operand} {n c' sz by' : Nat} {c z : Value} (id : Nat) (cells : List Value) (hx : aev E x = some (.int .i64 n)) (hy : aev E y = some (.int .i64 c')) (hnk : n ≤ c')
    (ht : T.sl.lookup t = some e) (hs : T.sz.lookup e = some sz) (h0 : sz ≠ 0) (hz : T.zero.lookup e = some z) (hzc : z.cells = Array.replicate sz c) (hc : flatV c = true)
    (hby : T.by'.lookup e = some by') (hlen : by' * c' ≤ 281474976710656) (hn : c' < 9223372036854775808) (hcl : List.replicate (n * sz) c = cells) (hid : M id = none)
    (hw : wantA ops E ⟨some d, .makeSlice t x y, ty, ps, af, g⟩ = some true) (hd : Nat.blt d k = true)
    (hr : AWo P ops k (i + 1) os ⟨upd E d (.slice (some ⟨id, 0, none⟩) n 0), upd M id ⟨cells, true, sz⟩⟩ (fun es' => D (⟨[], [(id, ⟨cells, true, sz⟩)]⟩ :: es')) K) :
    AWo P ops k i (⟨some d, .makeSlice t x y, ty, ps, af, g⟩ :: os) ⟨E, M⟩ D K := by
  subst hcl
  exact AWo.step (FStep.makeSliceC id hx hy hnk (H.sl t _ ht) (H.sz e _ hs) h0 (H.zero e _ hz) hzc hc (H.by' e _ hby) hlen hn) hw hd (fun p hp _ => by simp at hp; subst hp; exact hid) hr
theorem AWo.storeAllN {t : TypeId} {a x : Operand} {id sz : Nat} {cells : List Value} {es : Nat} {vs : List Value} (ha : aev E a = some (.pointer (some ⟨id, 0, none⟩))) (hx : aev E x = some (.agg vs.toArray))
    (hb : M id = some ⟨cells, true, es⟩) (hs : T.sz.lookup t = some sz) (hl : vs.length = sz) (ho : cells.length = sz) (hc : vs.all (·.oneCell') = true)
    (hw : wantA ops E ⟨none, .store t a x, ty, ps, af, g⟩ = some true)
    (hr' : AWo P ops k (i + 1) os ⟨E, upd M id ⟨vs, true, es⟩⟩ (fun es' => D (⟨[id], [(id, ⟨vs, true, es⟩)]⟩ :: es')) K) :
    AWo P ops k i (⟨none, .store t a x, ty, ps, af, g⟩ :: os) ⟨E, M⟩ D K :=
  AWo.storeAll H ha hx hb (by rw [hl]; exact hs) (by omega) hc hw hr'
theorem PureOp.buildArr {t e : TypeId} {n sz : Nat} {parts : Array (Nat × Operand)} {z : Value} (vals : List (Nat × Value)) {out : List Value} (ht : T.arr.lookup t = some (n, e)) (hs : T.sz.lookup e = some sz)
    (hz : T.zero.lookup t = some z) (hzf : z.cells.toList.all flatV = true) (hp : parts.toList.map (fun p => (p.1, aev E p.2)) = vals.map (fun p => (p.1, some p.2)))
    (hf : fillL (fun i => some (i * sz, sz)) z.cells.toList vals = some out) : PureOp P (.build t parts) E (.agg out.toArray) := fun D ρ ev hx => by
  obtain ⟨out', h1, h2⟩ := fill_rel (D := D) (ρ := ρ) (ev := ev) parts.toList vals (rs := z.cells) (fun p hp v' hv => hx p.2 (by simp only [Op.operands, List.mem_toArray, List.mem_map]; exact ⟨p, hp, rfl⟩) v' hv) hp
    ⟨rfl, fun k x y h1 h2 => by rw [h1] at h2; cases h2; exact .flat _ (List.all_eq_true.1 hzf x (List.mem_of_getElem? h1))⟩ hf
  refine ⟨.agg out', .agg _ _ (by simpa using h2.1) fun k x y h3 h4 => h2.2 k x y (by simpa using h3) (by simpa using h4), fun _ _ _ _ _ w => ?_⟩
  have hpt : (parts.map fun p => (p.1, ev p.2)).toList = parts.toList.map fun p => (p.1, ev p.2) := by simp
  have h6 : Instr.fill (fun i => some (i * sz, sz)) z.cells (parts.map fun p => (p.1, ev p.2)).toList = some out' := by rw [hpt]; exact h1
  simp only [execOp, Instr.build, Sem.run_bind, run_zero (H.zero t _ hz), Result.andThen_ok, run_underlying (H.arr t _ _ ht), run_size (H.sz e _ hs), h6]
  simp
theorem PureOp.toArrT {t e : TypeId} {x : Operand} {id o n k : Nat} (hx : aev E x = some (.slice (some ⟨id, o, none⟩) n 0)) (ht : T.arr.lookup t = some (k, e)) (hk : k ≤ n) (h0 : n ≠ 0) :
    PureOp P (.sliceToArrayPointer t x) E (.pointer (some ⟨id, o, none⟩)) := PureOp.toArr hx (H.arr t _ _ ht) hk h0
end
end Go.Proofs.YtlfadlfjjkppfaaGreatDoor.Sim
namespace Go.Proofs.YtlfadlfjjkppfaaGreatDoor.Sim
open Go Go.RowKit Go.ChangeShapes Go.WideShapes
structure ROk (W : World) (p : Pl) (cells : List Value) (es : Nat) : Prop where
  lim : p.lim = none
  es : p.es = es
  at' : ∀ (i : Nat) (v : Value), cells[i]? = some v → W.cell? ⟨p.blk, p.off + i, none⟩ = some v
  flat : ∀ v ∈ cells, flatV v = true
theorem cell?_lt {W : World} {a : Addr} {v : Value} (h : W.cell? a = some v) : a.block < W.heap.size := by
  unfold World.cell? at h
  cases hb : W.heap[a.block]? with
  | none => rw [hb] at h; cases h
  | some o => exact (Array.getElem?_eq_some_iff.1 hb).1
def SlArg (p : Pl) (n : Nat) (u : Value) : Prop := (∃ c, u = .slice (some ⟨p.blk, p.off, none⟩) n c ∧ n ≤ c) ∨ (n = 0 ∧ u = .slice none 0 0)
inductive LawArgs (ps : List Pl) : List Value → List Value → Prop
  | nil : LawArgs ps [] []
  | pure {v : Value} {vs us : List Value} (h : pureV v = true) (hr : LawArgs ps vs us) : LawArgs ps (v :: vs) (v :: us)
  | slice {k n : Nat} {p : Pl} {u : Value} {vs us : List Value} (hk : ps[k]? = some p) (hl : p.lim = none) (h : SlArg p n u) (hr : LawArgs ps vs us) : LawArgs ps (.slice (some ⟨k, 0, none⟩) n 0 :: vs) (u :: us)
theorem LawArgs.rel {ps : List Pl} {vs us : List Value} (h : LawArgs ps vs us) {D : Nat → Prop} (hD : ∀ k, k < ps.length → D k) :
    vs.length = us.length ∧ ∀ (k : Nat) (v u : Value), vs[k]? = some v → us[k]? = some u → VR .real D ⟨fun k => (ps[k]?).getD ⟨0, 0, none, 1⟩, []⟩ v u := by
  induction h with
  | nil => exact ⟨rfl, fun k v u h => by simp at h⟩
  | pure h _ ih =>
    refine ⟨by simp [ih.1], fun k v u h1 h2 => ?_⟩
    cases k with
    | zero => simp at h1 h2; subst h1; subst h2; exact .pure h
    | succ k => exact ih.2 k v u (by simpa using h1) (by simpa using h2)
  | @slice k0 n p u vs us hk hl h _ ih =>
    refine ⟨by simp [ih.1], fun k v u h1 h2 => ?_⟩
    cases k with
    | zero =>
      simp at h1 h2; subst h1; subst h2
      rcases h with ⟨c, rfl, hc⟩ | ⟨rfl, rfl⟩
      · have := VR.slice (m := .real) (ρ := ⟨fun k => (ps[k]?).getD ⟨0, 0, none, 1⟩, []⟩) (D := D) k0 0 n c (hD _ (List.getElem?_eq_some_iff.1 hk).1) (by simp) (fun _ => ⟨hc, fun L hL => by simp only [hk, Option.getD_some, hl] at hL; cases hL⟩)
        simpa only [hk, Option.getD_some, Nat.add_zero] using this
      · exact .nilS _ (by simp)
    | succ k => exact ih.2 k v u (by simpa using h1) (by simpa using h2)
section
variable {H : Type} {enc : TypeId × Value → H} {P : Program} {W : World} {base : Nat} {spare : Nat → Bool} {held : Bool}
theorem spot_none {t e : TypeId} {r : Reach} {base : Nat} {a : Addr} {n c : Nat} (ht : P.underlying t = some (.slice e)) (h : Value.okWide P W r base t (.slice (some a) n c)) : a.spot = none := by
  simp only [Value.okWide, ht, Cell.okWide, Cell.ok] at h
  exact h.2.2.2.1
end
end Go.Proofs.YtlfadlfjjkppfaaGreatDoor.Sim
namespace Go.Proofs.YtlfadlfjjkppfaaGreatDoor.Sim
open Go
theorem agg_inv {D : Nat → Prop} {ρ : Rho} {cs : Array Value} {u : Value} (h : VR .real D ρ (.agg cs) u) : ∃ ys, u = .agg ys ∧ cs.size = ys.size ∧ ∀ (k : Nat) (x y : Value), cs[k]? = some x → ys[k]? = some y → VR .real D ρ x y := by
  cases h with
  | flat _ hf => simp [flatV] at hf
  | agg _ ys hs h => exact ⟨ys, rfl, hs, h⟩
section
variable {P : Program} {T : Tab} (H : TabOk P T) {E : Env}
include H
theorem TabOk.isAgg {t : TypeId} {b : Bool} (ht : T.agg.lookup t = some b) (w : World) : (Go.isAgg t).run P w = .ok b w := by
  rw [run_agg (H.agg t _ ht).1, (H.agg t _ ht).2]
theorem PureOp.idxV {x ix : Operand} {t e : TypeId} {n j : Nat} {cs : Array Value} {v : Value} {kd : IntKind} (hx : aev E x = some (.agg cs)) (hi : aev E ix = some (.int kd (j : Nat))) (ht : T.arr.lookup t = some (n, e))
    (hs : T.sz.lookup e = some 1) (ha : T.agg.lookup e = some false) (hj : j < n) (hv : cs[j]? = some v) : PureOp P (.index t x ix) E v := fun D ρ ev hev => by
  obtain ⟨ys, e1, hsz, hrel⟩ := agg_inv (hev x (by simp [Op.operands]) _ hx)
  have e2 := flat_inv (hev ix (by simp [Op.operands]) _ hi) rfl
  have hlt : j < cs.size := get_lt hv
  obtain ⟨y, hy⟩ := exists_get hlt hsz
  refine ⟨y, hrel j v y hv hy, fun _ _ _ _ _ w => ?_⟩
  simp [execOp, e1, e2, Instr.index, asIntOf, run_underlying (H.arr t _ _ ht), hj, run_size (H.sz e _ hs), part, TabOk.isAgg H ha, hy]
theorem PureOp.idxVM {α : Type} {f : α → Value} {l : List α} (dflt : α) {x ix : Operand} {t e : TypeId} {n j : Nat} {kd : IntKind} (hx : aev E x = some (.agg (l.map f).toArray)) (hi : aev E ix = some (.int kd (j : Nat))) (ht : T.arr.lookup t = some (n, e))
    (hs : T.sz.lookup e = some 1) (ha : T.agg.lookup e = some false) (hj : j < n) (hl : l.length = n) : PureOp P (.index t x ix) E (f (l.getD j dflt)) :=
  PureOp.idxV H hx hi ht hs ha hj (by rw [List.getElem?_toArray]; exact getM dflt (by omega))
theorem PureOp.fldV {x : Operand} {t e : TypeId} {f o sz : Nat} {l l' : List Value} (hx : aev E x = some (.agg l.toArray)) (hf : T.fld.lookup (t, f) = some (o, e)) (hs : T.sz.lookup e = some sz) (ha : T.agg.lookup e = some true)
    (hl : (l.drop o).take sz = l') : PureOp P (.field t x f) E (.agg l'.toArray) := fun D ρ ev hev => by
  subst hl
  obtain ⟨ys, e1, hsz, hrel⟩ := agg_inv (hev x (by simp [Op.operands]) _ hx)
  obtain ⟨fs, fd, h2, h3, h4, h5⟩ := H.fld t f o e hf
  subst h4; subst h5
  have hsz' : l.length = ys.size := by simpa using hsz
  refine ⟨.agg (ys.extract fd.offset (fd.offset + sz)), .agg _ _ (by simp; omega) fun k a b h6 h7 => ?_, fun _ _ _ _ _ w => ?_⟩
  · rw [List.getElem?_toArray] at h6
    have hk : k < sz := by
      rcases Nat.lt_or_ge k sz with h | h
      · exact h
      · rw [List.getElem?_eq_none (by simp; omega)] at h6; cases h6
    rw [List.getElem?_take, if_pos hk, List.getElem?_drop] at h6
    rw [Array.getElem?_extract] at h7
    split at h7
    · exact hrel _ a b (by rw [List.getElem?_toArray]; exact h6) h7
    · cases h7
  · simp [execOp, e1, Instr.field, run_underlying h2, h3, asAgg, part, TabOk.isAgg H ha, run_size (H.sz _ _ hs)]
theorem PureOp.fldV1 {x : Operand} {t e : TypeId} {f o : Nat} {l : List Value} {v : Value} (hx : aev E x = some (.agg l.toArray)) (hf : T.fld.lookup (t, f) = some (o, e)) (ha : T.agg.lookup e = some false)
    (hl : l[o]? = some v) : PureOp P (.field t x f) E v := fun D ρ ev hev => by
  obtain ⟨ys, e1, hsz, hrel⟩ := agg_inv (hev x (by simp [Op.operands]) _ hx)
  obtain ⟨fs, fd, h2, h3, h4, h5⟩ := H.fld t f o e hf
  subst h4; subst h5
  obtain ⟨y, hy⟩ := exists_get (List.getElem?_eq_some_iff.1 hl).1 (show l.length = ys.size by simpa using hsz)
  refine ⟨y, hrel _ v y (by rw [List.getElem?_toArray]; exact hl) hy, fun _ _ _ _ _ w => ?_⟩
  simp [execOp, e1, Instr.field, run_underlying h2, h3, asAgg, part, TabOk.isAgg H ha, hy]
omit H in
theorem PureOp.idxStr {x ix : Operand} {t : TypeId} {s : ByteArray} {j : Nat} {b : UInt8} {kd : IntKind} (hx : aev E x = some (.string s)) (hi : aev E ix = some (.int kd (j : Nat))) (ht : P.underlying t = some .string) (hb : s[j]? = some b) :
    PureOp P (.index t x ix) E (vi .u8 b.toNat) := fun D ρ ev hev => by
  have e1 := flat_inv (hev x (by simp [Op.operands]) _ hx) rfl
  have e2 := flat_inv (hev ix (by simp [Op.operands]) _ hi) rfl
  refine ⟨_, .flat _ rfl, fun _ _ _ _ _ w => ?_⟩
  simp [execOp, e1, e2, Instr.index, asIntOf, run_underlying ht, hb, vi]
omit H in
theorem PureOp.negU {x : Operand} {t : TypeId} {k : IntKind} {a : Nat} (m : Nat) (hx : aev E x = some (vi k a)) (hs : k.signed = false) (hm : 2 ^ k.bits = m) (ha : a ≤ m) : PureOp P (.unOp .neg t x) E (vi k ((m - a) % m)) :=
  (PureOp.neg hx).mono (by
    simp only [vi, Value.int.injEq, true_and]
    rw [← wrap_uns hs hm]
    subst hm
    simp only [IntKind.wrap, hs, Bool.false_and, Bool.false_eq_true, if_false]
    rw [Int.natCast_sub ha]
    have e : (((2 ^ k.bits : Nat) : Int) - a) = (0 - a) + (2 ^ k.bits : Int) := by simp; omega
    rw [e, Int.add_emod_right])
end
end Go.Proofs.YtlfadlfjjkppfaaGreatDoor.Sim
namespace Go.Proofs.YtlfadlfjjkppfaaGreatDoor.Sim
open Go
def vp (r : Nat) : Value := .int .i64 ((r : Int) - 1)
theorem vp_succ (q : Nat) : vp (q + 1) = vi .i64 q := by simp only [vp, vi]; congr 1; omega
section
variable {P : Program} {E : Env} {t t' : TypeId} {x y : Operand}
theorem PureOp.geP {r : Nat} (h1 : aev E x = some (vp r)) (h2 : aev E y = some (.int .i64 0)) : PureOp P (.binOp .geq t x y t') E (.bool (decide (0 < r))) :=
  PureOp.bin h1 h2 (by simp only [evalBin, Option.some.injEq, Value.bool.injEq]; rw [Bool.eq_iff_iff]; simp; omega)
theorem PureOp.subP {a : Nat} (h1 : aev E x = some (vi .i64 a)) (h2 : aev E y = some (.int .i64 1)) (h : a < 9223372036854775808) : PureOp P (.binOp .sub t x y t') E (vp a) :=
  PureOp.bin h1 h2 (by simp only [evalBin, vp]; rw [IntWalk.i64_in _ (by omega)])
theorem AW.seqJ {n m : Nat} {σ : ASt} {Q : Exit → ASt → Prop} {c y : Code} (I : ASt → Prop) (h : AW P n m c σ (thenA (fun σ' => ∃ fm τ, Wk m fm σ' τ ∧ I τ) Q)) (h2 : ∀ τ, I τ → AW P n m y τ Q) : AW P n m (.seq c y) σ Q :=
  AW.seq (AW.mono h fun e σ' hq => by
    cases e with
    | normal => obtain ⟨fm, τ, hw, hI⟩ := hq; exact AW.weaken hw (h2 τ hI)
    | _ => exact hq)
theorem AW.joinT {n m : Nat} {σ : ASt} {Q : Exit → ASt → Prop} {c y : Code} (I : ASt → Prop) (h : AW P n m c σ (thenA (fun σ' => ∃ fm τ, Wk m fm σ' τ ∧ I τ) Q)) (h2 : ∀ τ, I τ → AW P n m y τ Q) :
    AW P n m c σ (thenA (fun σ' => AW P n m y σ' Q) Q) :=
  AW.mono h fun e σ' hq => by
    cases e with
    | normal => obtain ⟨fm, τ, hw, hI⟩ := hq; exact AW.weaken hw (h2 τ hI)
    | _ => exact hq
end
end Go.Proofs.YtlfadlfjjkppfaaGreatDoor.Sim
namespace Go.Proofs.YtlfadlfjjkppfaaGreatDoor.Sim
open Go
section
variable {P : Program} {E : Env}
theorem run_slNil' (d : Nat) {t e : TypeId} (a : Addr) (n c : Nat) (h : P.underlying t = some (.slice e)) (w : World) : (Op.equalIn (d + 1) t (.slice (some a) n c) (.slice none 0 0)).run P w = .ok false w := by
  simp [Op.equalIn, run_underlying h]
theorem run_slNil {t e : TypeId} (a : Addr) (n c : Nat) (h : P.underlying t = some (.slice e)) (w : World) : (Op.equal t (.slice (some a) n c) (.slice none 0 0)).run P w = .ok false w := run_slNil' 9999 a n c h w
theorem PureOp.slEqNil {t t' e : TypeId} {x : Operand} {id o n : Nat} (hu : P.underlying t = some (.slice e)) (h1 : aev E x = some (.slice (some ⟨id, o, none⟩) n 0)) (hn : n ≠ 0) :
    PureOp P (.binOp .eql t x (.const (.slice none 0 0)) t') E (.bool false) := fun D ρ ev hx => by
  have e2 : ev (.const (.slice none 0 0)) = .slice none 0 0 := flat_inv (hx (.const (.slice none 0 0)) (by simp [Op.operands]) _ rfl) rfl
  rcases slice_inv (hx x (by simp [Op.operands]) _ h1) with ⟨c, e1, _, _, _⟩ | ⟨h0, _⟩
  · exact ⟨_, .flat _ rfl, fun _ _ _ _ _ w => by simp [execOp, e1, e2, eqGuard, binOp, run_slNil _ _ _ hu]⟩
  · exact absurd h0 hn
end
end Go.Proofs.YtlfadlfjjkppfaaGreatDoor.Sim
namespace Go.Proofs.YtlfadlfjjkppfaaGreatDoor.Sim
open Go
section
variable {P : Program}
theorem run_eqItems_ints (d : Nat) {e : TypeId} {k : IntKind} (he : P.underlying e = some (.int k)) (hc : P.cellsOf e = 1) (l l' : List Nat) (w : World) : ∀ (is : List Nat), (∀ i ∈ is, i < l.length ∧ i < l'.length) →
    (Op.eqItems (d + 1) e (P.cellsOf e) (l.map (vi k)).toArray (l'.map (vi k)).toArray is).run P w = .ok (is.all fun i => l.getD i 0 == l'.getD i 0) w
  | [], _ => by simp [Op.eqItems]
  | i :: is, h => by
    obtain ⟨h1, h2⟩ := h i (List.mem_cons_self ..)
    have ih := run_eqItems_ints d he hc l l' w is fun j hj => h j (List.mem_cons_of_mem _ hj)
    have a1 : ((l.map (vi k)).toArray)[i]? = some (vi k (l.getD i 0)) := by rw [List.getElem?_toArray]; exact getM 0 h1
    have a2 : ((l'.map (vi k)).toArray)[i]? = some (vi k (l'.getD i 0)) := by rw [List.getElem?_toArray]; exact getM 0 h2
    have hp : ∀ (cs : Array Value) (v : Value), cs[i]? = some v → (part e cs i).run P w = .ok v w := fun cs v hv => by simp [part, isAgg, run_underlying he, hv]
    have e3 : (Op.equalIn (d + 1) e (vi k (l.getD i 0)) (vi k (l'.getD i 0))).run P w = .ok (l.getD i 0 == l'.getD i 0) w := by
      simp only [Op.equalIn, vi, Sem.run_bind, run_underlying he, Result.andThen_ok, if_true, Sem.run_pure]
      congr 1
      rw [Bool.eq_iff_iff]; simp; omega
    rw [hc] at ih
    simp only [Op.eqItems, Sem.run_bind, hc, Nat.mul_one, hp _ _ a1, hp _ _ a2, e3, Result.andThen_ok, Sem.run_ite, List.all_cons]
    cases hx : (l.getD i 0 == l'.getD i 0) with
    | true => simpa using ih
    | false => simp
theorem range_all (l l' : List Nat) (n : Nat) (hl : l.length = n) (hl' : l'.length = n) : ((List.range n).all fun i => l.getD i 0 == l'.getD i 0) = decide (l = l') := by
  rw [Bool.eq_iff_iff]
  simp only [List.all_eq_true, List.mem_range, beq_iff_eq, decide_eq_true_eq]
  refine ⟨fun h => ?_, fun h i _ => by rw [h]⟩
  apply List.ext_getElem (by omega)
  intro i h1 h2
  have := h i (by omega)
  rw [List.getD_eq_getElem?_getD, List.getD_eq_getElem?_getD, List.getElem?_eq_getElem h1, List.getElem?_eq_getElem h2] at this
  exact this
theorem run_eqArr (d : Nat) {t e : TypeId} {k : IntKind} {n : Nat} (hu : P.underlying t = some (.array n e)) (he : P.underlying e = some (.int k)) (hs : (P.info? e).map (·.size) = some 1) (hc : P.cellsOf e = 1) {l l' : List Nat} (hl : l.length = n) (hl' : l'.length = n) (w : World) :
    (Op.equalIn (d + 2) t (.agg (l.map (vi k)).toArray) (.agg (l'.map (vi k)).toArray)).run P w = .ok (decide (l = l')) w := by
  obtain ⟨i, hi, _⟩ := info_of hs
  rw [run_equalIn_array w (d + 1) _ _ hu hi, run_eqItems_ints d he hc l l' w _ (fun j hj => by have := List.mem_range.1 hj; omega), range_all l l' n hl hl']
theorem run_eqSt (d : Nat) {s t e : TypeId} {k : IntKind} {n : Nat} {f : Field} (hs : P.underlying s = some (.struct #[f])) (hn : f.name ≠ "_") (hf : f.type = t) (ho : f.offset = 0) (hh : P.stoodInHeld s = false)
    (hu : P.underlying t = some (.array n e)) (he : P.underlying e = some (.int k)) (hsz : (P.info? e).map (·.size) = some 1) (hst : (P.info? t).map (·.size) = some n) (hc : P.cellsOf e = 1) {l l' : List Nat} (hl : l.length = n) (hl' : l'.length = n) (w : World) :
    (Op.equalIn (d + 3) s (.agg (l.map (vi k)).toArray) (.agg (l'.map (vi k)).toArray)).run P w = .ok (decide (l = l')) w := by
  have hfo : P.fieldsOf s = #[f] := by simp [Program.fieldsOf, hs]
  rw [run_equalIn_struct w (d + 2) s _ _ (by rw [hfo]; exact hs) hh, hfo]
  have hp : ∀ (r : List Nat), r.length = n → (part f.type (r.map (vi k)).toArray f.offset).run P w = .ok (.agg (r.map (vi k)).toArray) w := fun r hr => by
    subst hf
    simp only [part, isAgg, Sem.run_bind, run_underlying hu, Result.andThen_ok, Sem.run_pure, if_true, run_size hst, ho, Nat.zero_add]
    congr 2
    apply Array.ext'
    simp
    exact List.take_of_length_le (by simp [hr])
  simp only [Op.eqFields, if_pos hn, Sem.run_bind, hp l hl, hp l' hl', Result.andThen_ok]
  subst hf
  rw [run_eqArr d hu he hsz hc hl hl']
  cases hd : decide (l = l') <;> simp
theorem PureOp.eqSt {E : Env} {x y : Operand} {s s' t e : TypeId} {k : IntKind} {n : Nat} {f : Field} {l l' : List Nat} (h1 : aev E x = some (.agg (l.map (vi k)).toArray)) (h2 : aev E y = some (.agg (l'.map (vi k)).toArray))
    (hs : P.underlying s = some (.struct #[f])) (hn : f.name ≠ "_") (hf : f.type = t) (ho : f.offset = 0) (hh : P.stoodInHeld s = false) (hg : P.eqGuardType P.depth s = false)
    (hu : P.underlying t = some (.array n e)) (he : P.underlying e = some (.int k)) (hsz : (P.info? e).map (·.size) = some 1) (hst : (P.info? t).map (·.size) = some n) (hc : P.cellsOf e = 1) (hl : l.length = n) (hl' : l'.length = n) :
    PureOp P (.binOp .eql s x y s') E (.bool (decide (l = l'))) := fun D ρ ev hx => by
  have e1 := flat_pure_inv (hx x (by simp [Op.operands]) _ h1) (pure_aggM flat_vi)
  have e2 := flat_pure_inv (hx y (by simp [Op.operands]) _ h2) (pure_aggM flat_vi)
  refine ⟨_, .flat _ rfl, fun _ _ _ _ _ w => ?_⟩
  have hr : (Op.equal s (.agg (l.map (vi k)).toArray) (.agg (l'.map (vi k)).toArray)).run P w = .ok (decide (l = l')) w := run_eqSt 9997 hs hn hf ho hh hu he hsz hst hc hl hl' w
  simp [execOp, e1, e2, eqGuard, hg, binOp, hr]
end
end Go.Proofs.YtlfadlfjjkppfaaGreatDoor.Sim
namespace Go.Proofs.YtlfadlfjjkppfaaGreatDoor.Sim
open Go Go.RowKit Go.ChangeShapes Go.WideShapes
def okI (ids : List Nat) : Value → Bool
  | .pointer (some ⟨i, _, none⟩) => ids.contains i
  | .slice (some ⟨i, _, none⟩) _ 0 => ids.contains i
  | v => flatV v
theorem okI_rel {m : Md} (hm : m ≠ .real) {D : Nat → Prop} {h : Rho} {ids : List Nat} {v : Value} (hv : okI ids v = true) (hD : ∀ i ∈ ids, D i) : VR m D h v (ren1 h v) := by
  unfold okI at hv
  split at hv
  · exact .ptr _ _ (hD _ (List.contains_iff_mem.1 hv))
  · exact .slice _ _ _ 0 (hD _ (List.contains_iff_mem.1 hv)) (fun _ => rfl) (fun e => absurd e hm)
  · rw [flat_ren1 hv]; exact .flat _ hv
theorem dom_all {N : Mem} {ids : List Nat} (h : (ids.all fun i => (N i).isSome) = true) : ∀ i ∈ ids, dom N i := fun i hi => by
  have := List.all_eq_true.1 h i hi
  exact Option.isSome_iff_exists.1 this
theorem WkM.ren {Dm : Nat → Prop} {fm : List (Nat × Nat)} {M N : Mem} {i : Nat} {cells c' : List Value} {rw rw' : Bool} {es : Nat} (ids : List Nat) (h1 : M ((fm.lookup i).getD i) = some ⟨c', rw', es⟩) (hc : cells.map (ren1 (idm fm)) = c')
    (hok : cells.all (okI ids) = true) (hD : ∀ i ∈ ids, Dm i) (h3 : rw = true → rw' = true) (h : WkM Dm fm M N) : WkM Dm fm M (Sim.upd N i ⟨cells, rw, es⟩) := by
  subst hc
  exact WkM.upd h1 (fun c x hx => ⟨ren1 (idm fm) x, by rw [List.getElem?_map, hx]; rfl, okI_rel (by simp) (List.all_eq_true.1 hok x (List.mem_of_getElem? hx)) hD⟩) h3 rfl (by simp) h
theorem flat_take {α : Type} {n : Nat} : ∀ {L : List (List α)} {i : Nat}, (∀ x ∈ L, x.length = n) → i < L.length → (L.flatten.drop (i * n)).take n = L.getD i []
  | [], i, _, hi => by simp at hi
  | x :: L, i, h, hi => by
    have hx := h x (List.mem_cons_self ..)
    cases i with
    | zero => simp [List.flatten_cons, ← hx]
    | succ i =>
      have e1 : (x ++ L.flatten).drop n = L.flatten := by rw [← hx]; exact List.drop_left
      rw [List.flatten_cons, Nat.add_mul, Nat.one_mul, Nat.add_comm, ← List.drop_drop, e1, List.getD_cons_succ]
      exact flat_take (fun y hy => h y (List.mem_cons_of_mem _ hy)) (by simpa using hi)
theorem flat_len {α : Type} {n : Nat} : ∀ {L : List (List α)}, (∀ x ∈ L, x.length = n) → L.flatten.length = L.length * n
  | [], _ => by simp
  | x :: L, h => by
    rw [List.flatten_cons, List.length_append, flat_len fun y hy => h y (List.mem_cons_of_mem _ hy), h x (List.mem_cons_self ..), List.length_cons, Nat.add_mul, Nat.one_mul, Nat.add_comm]
theorem flat_take_map {α β : Type} {f : α → β} {n : Nat} {L : List (List α)} {i : Nat} (h : ∀ x ∈ L, x.length = n) (hi : i < L.length) : ((L.flatten.map f).drop (i * n)).take n = (L.getD i []).map f := by
  rw [← List.map_drop, ← List.map_take, flat_take h hi]
theorem PureOp.idxN {P : Program} {T : Tab} (H : TabOk P T) {E : Env} {x ix : Operand} {t e : TypeId} {id o n sz : Nat} {kd : IntKind} {j : Nat} (h1 : aev E x = some (.slice (some ⟨id, o, none⟩) n 0)) (h2 : aev E ix = some (.int kd (j : Nat)))
    (ht : T.sl.lookup t = some e) (hs : T.sz.lookup e = some sz) (hi : j < n) : PureOp P (.indexAddr t x ix) E (.pointer (some ⟨id, o + j * sz, none⟩)) := by
  have := PureOp.idx H h1 h2 ht hs (by omega)
  simpa using this
theorem nat_map {k : IntKind} {zs : List Int} (h : ∀ z ∈ zs, 0 ≤ z) : zs.map (Value.int k) = (zs.map Int.toNat).map (vi k) := by
  rw [List.map_map]
  refine List.map_congr_left fun z hz => ?_
  have := h z hz
  simp only [Function.comp, vi]
  congr 1
  omega
end Go.Proofs.YtlfadlfjjkppfaaGreatDoor.Sim
namespace Go.Proofs.YtlfadlfjjkppfaaGreatDoor.Sim
open Go
def bstr (l : List Nat) : ByteArray := (l.map fun (n : Nat) => (n : Int)).foldl (fun r n => r.push (UInt8.ofNat n.toNat)) ByteArray.empty
section
variable {P : Program} {E : Env} {M : Mem} {d : Option Tmp} {ty : TypeId} {ps : String} {af : Array Edge} {g : Option (Nat × Bool)}
theorem FStep.bytesStr {t s e : TypeId} {x : Operand} {id n : Nat} {b : Blk} {l : List Nat} (hx : aev E x = some (.slice (some ⟨id, 0, none⟩) n 0)) (hb : M id = some b)
    (hc : b.cells.take n = l.map (vi .u8)) (hn : l.length = n) (ht : P.underlying t = some (.slice e)) (he : P.underlying e = some (.int .u8)) (hs : P.underlying s = some .string) :
    FStep P ⟨d, .convert t s x, ty, ps, af, g⟩ E M (.string (bstr l)) ⟨[id], []⟩ := by
  intro E' M' h1 h2 _ C ρ ac w hR
  have hb' : M' id = some b := by rw [h2 id (by simp)]; exact hb
  have hxv := hR.eval (x := x) (by rw [h1 x (by simp [Op.operands])]; exact hx)
  have key : (execOp ac.eval ⟨d, .convert t s x, ty, ps, af, g⟩).run P w = .ok (.value (.string (bstr l))) w := by
    rcases slice_inv hxv with ⟨c, hu, _⟩ | ⟨h0, hu | ⟨a0, hu⟩⟩
    · have hle : 0 + n ≤ b.cells.length := by
        have := congrArg List.length hc
        rw [List.length_take, List.length_map, hn] at this
        omega
      obtain ⟨us, hul, hus, hrel⟩ := pick_list (o := 0) (hR.mem id b hb').cells n hle
      have hul2 : us = l.map (vi .u8) := by
        refine List.ext_getElem? fun j => ?_
        rcases Nat.lt_or_ge j n with hj | hj
        · have e1 : us[j]? = some us[j] := List.getElem?_eq_getElem (by omega)
          have e2 : ((b.cells.drop 0).take n)[j]? = some (vi .u8 l[j]) := by
            rw [List.drop_zero, hc, List.getElem?_map, List.getElem?_eq_getElem (by omega)]; rfl
          have := flat_inv (hrel j _ _ e2 e1) rfl
          rw [e1, this, List.getElem?_map, List.getElem?_eq_getElem (by omega)]
          rfl
        · rw [List.getElem?_eq_none (by omega), List.getElem?_eq_none (by simp; omega)]
      have hrun : (loadCells ⟨(ρ id).blk, (ρ id).off + 0, none⟩ n).run P w = .ok ((l.map fun (n : Nat) => (n : Int)).map (Value.int .u8)).toArray w := by
        rw [List.map_map, show (Value.int .u8 ∘ fun (n : Nat) => (n : Int)) = vi .u8 from rfl, ← hul2]
        have := run_loadCells_list (P := P) w ⟨(ρ id).blk, (ρ id).off + 0, none⟩ us fun j v hv => by rw [addr_add]; exact hus j v hv
        rw [hul] at this
        exact this
      have := run_bytesToString (P := P) w ⟨(ρ id).blk, (ρ id).off + 0, none⟩ n c _ hrun
      simp only [execOp, hu, Sem.run_bind, run_convert_bytes_string w t s e _ n c ht he hs, this]
      rfl
    · have hl0 : l = [] := by
        cases l with
        | nil => rfl
        | cons a r => simp at hn; omega
      have h3 : (Conv.bytesToString (.slice none 0 0)).run P w = .ok (.string (bstr l)) w := by
        rw [hl0]; rfl
      simp only [execOp, hu, Sem.run_bind, run_convert_bytes_string w t s e _ 0 0 ht he hs, h3]
      rfl
    · have hl0 : l = [] := by
        cases l with
        | nil => rfl
        | cons a r => simp at hn; omega
      have h3 := run_bytesToString (P := P) w a0 0 0 [] (run_loadCells_list (P := P) w a0 [] (fun j v hv => by simp at hv))
      have h4 : (Conv.bytesToString (.slice (some a0) 0 0)).run P w = .ok (.string (bstr l)) w := by
        rw [hl0, h3]; rfl
      simp only [execOp, hu, Sem.run_bind, run_convert_bytes_string w t s e _ 0 0 ht he hs, h4]
      rfl
  unfold StepTo Oper.wp
  rw [key]
  exact ⟨_, rfl, ρ, hR, .flat _ rfl⟩
end
section
variable {P : Program} {T : Tab} (H : TabOk P T) {E : Env} {M : Mem} {n' i : Nat} {d : Tmp} {ty : TypeId} {ps : String} {af : Array Edge} {g : Option (Nat × Bool)} {ops : Array Oper} {os : List Oper} {D : List Eff → Prop} {K : ASt → Prop}
include H
theorem AWo.bytesStr {t s e : TypeId} {x : Operand} {id n : Nat} {b : Blk} (l : List Nat) (hx : aev E x = some (.slice (some ⟨id, 0, none⟩) n 0)) (hb : M id = some b)
    (hc : b.cells.take n = l.map (vi .u8)) (hn : l.length = n) (ht : T.sl.lookup t = some e) (he : P.underlying e = some (.int .u8)) (hs : P.underlying s = some .string)
    (hw : wantA ops E ⟨some d, .convert t s x, ty, ps, af, g⟩ = some true) (hd : Nat.blt d n' = true)
    (hr : AWo P ops n' (i + 1) os ⟨upd E d (.string (bstr l)), M⟩ (fun es => D (⟨[id], []⟩ :: es)) K) :
    AWo P ops n' i (⟨some d, .convert t s x, ty, ps, af, g⟩ :: os) ⟨E, M⟩ D K :=
  AWo.step (FStep.bytesStr hx hb hc hn (H.sl t _ ht) he hs) hw hd (fun p hp => by cases hp) hr
end
end Go.Proofs.YtlfadlfjjkppfaaGreatDoor.Sim
namespace Go.Proofs.YtlfadlfjjkppfaaGreatDoor.Sim
open Go
def clo1 (v : Value) : Bool := flatV v || isDeep v
def cloV : Value → Bool
  | .agg cs => cs.toList.all clo1
  | v => clo1 v
theorem clo1_rel {D D' : Nat → Prop} {ρ : Rho} {v u : Value} (hc : clo1 v = true) (h : VR .real D ρ v u) : VR .real D' ρ v u := by
  simp only [clo1, Bool.or_eq_true] at hc
  rcases hc with hc | hc
  · rw [flat_inv h hc]; exact .flat v hc
  · obtain ⟨n, es, cs, rfl⟩ | ⟨cs, rfl⟩ := isDeep_inv hc
    · cases h with
      | flat _ hf => simp [flatV] at hf
      | iface _ _ _ ht => exact absurd rfl ht
      | deepA _ _ _ hm => exact absurd rfl hm
      | deepR _ _ c o _ d hm hd hn hcs ho hc => exact .deepR n es c o cs d rfl hd hn hcs ho hc
      | deepN => exact .deepN es (by simp)
      | deepE _ a c _ ha => exact .deepE es a c rfl ha
    · cases h with
      | flat _ hf => simp [flatV] at hf
      | iface _ _ _ ht => exact absurd rfl ht
      | ptrA _ hm => exact absurd rfl hm
      | ptrR o _ d hm hd hcs ho => exact .ptrR o cs d rfl hd hcs ho
theorem clo_rel {D D' : Nat → Prop} {ρ : Rho} {v u : Value} (hc : cloV v = true) (h : VR .real D ρ v u) : VR .real D' ρ v u := by
  unfold cloV at hc
  split at hc
  · rename_i cs
    rw [List.all_eq_true] at hc
    cases h with
    | flat _ hf => simp [flatV] at hf
    | agg _ ys hs hh => exact .agg cs ys hs fun k x y hx hy => clo1_rel (hc x (Array.mem_toList_iff.2 (Array.mem_of_getElem? hx))) (hh k x y hx hy)
  · exact clo1_rel hc h
theorem clo1_refl {m : Md} (hm : m ≠ .real) {D : Nat → Prop} {h : Rho} {v : Value} (hc : clo1 v = true) : VR m D h v v := by
  simp only [clo1, Bool.or_eq_true] at hc
  rcases hc with hc | hc
  · exact .flat v hc
  · exact deep_rel hm hc
theorem clo_refl {m : Md} (hm : m ≠ .real) {D : Nat → Prop} {h : Rho} {v : Value} (hc : cloV v = true) : VR m D h v v := by
  unfold cloV at hc
  split at hc
  · rename_i cs
    rw [List.all_eq_true] at hc
    refine .agg cs cs rfl fun k x y hx hy => ?_
    rw [hx] at hy; cases hy
    exact clo1_refl hm (hc x (Array.mem_toList_iff.2 (Array.mem_of_getElem? hx)))
  · exact clo1_refl hm hc
theorem clo1_ren1 {h : Rho} {v : Value} (hc : clo1 v = true) : ren1 h v = v := by
  simp only [clo1, Bool.or_eq_true] at hc
  rcases hc with hc | hc
  · exact flat_ren1 hc
  · exact deep_ren1 hc
theorem clo1_ok1 {n : Nat} {v : Value} (hc : clo1 v = true) : ok1 n v = true := by
  simp only [clo1, Bool.or_eq_true] at hc
  rcases hc with hc | hc
  · exact flat_ok1 hc
  · obtain ⟨_, _, _, rfl⟩ | ⟨_, rfl⟩ := isDeep_inv hc <;> rfl
theorem clo_ren {h : Rho} {v : Value} (hc : cloV v = true) : ren h v = v := by
  unfold cloV at hc
  split at hc
  · rename_i cs
    rw [List.all_eq_true] at hc
    simp only [ren]
    congr 1
    apply Array.ext'
    show cs.toList.map (ren1 h) = cs.toList
    conv => rhs; rw [← List.map_id cs.toList]
    exact List.map_congr_left fun x hx => clo1_ren1 (hc x hx)
  · simp only [clo1, Bool.or_eq_true] at hc
    rcases hc with hc | hc
    · exact flat_ren hc
    · exact deep_ren hc
theorem clo_okV {n : Nat} {v : Value} (hc : cloV v = true) : okV n v = true := by
  unfold cloV at hc
  split at hc
  · simp only [okV, List.all_eq_true] at hc ⊢; exact fun x hx => clo1_ok1 (hc x hx)
  · simp only [clo1, Bool.or_eq_true] at hc
    rcases hc with hc | hc
    · exact flat_okV hc
    · exact deep_okV hc
theorem cloM {α : Type} {f : α → Value} {l : List α} (hf : ∀ x, cloV (f x) = true) : ∀ x ∈ l.map f, cloV x = true := by
  intro x hx
  obtain ⟨y, _, rfl⟩ := List.mem_map.1 hx
  exact hf y
theorem clo_map_ren {h : Rho} {l : List Value} (hl : ∀ x ∈ l, cloV x = true) : l.map (ren h) = l := by
  conv => rhs; rw [← List.map_id l]
  exact List.map_congr_left fun x hx => clo_ren (hl x hx)
theorem OkL.clo {n : Nat} {l : List Value} (h : ∀ x ∈ l, cloV x = true) : OkL n l := fun x hx => clo_okV (h x hx)
theorem WkM.clo {Dm : Nat → Prop} {fm : List (Nat × Nat)} {M N : Mem} {i : Nat} {cells : List Value} {rw rw' : Bool} {es : Nat} (h1 : M ((fm.lookup i).getD i) = some ⟨cells, rw', es⟩)
    (hf : ∀ v ∈ cells, cloV v = true) (h3 : rw = true → rw' = true) (h : WkM Dm fm M N) : WkM Dm fm M (Sim.upd N i ⟨cells, rw, es⟩) :=
  WkM.upd h1 (fun _ x hx => ⟨x, hx, clo_refl (by simp) (hf x (List.mem_of_getElem? hx))⟩) h3 rfl (Nat.le_refl _) h
theorem WkM.cloM {α : Type} {f : α → Value} {l l' : List α} {Dm : Nat → Prop} {fm : List (Nat × Nat)} {M N : Mem} {i : Nat} {rw rw' : Bool} {es : Nat} (h1 : M ((fm.lookup i).getD i) = some ⟨l'.map f, rw', es⟩)
    (he : l = l') (hf : ∀ x, cloV (f x) = true) (h3 : rw = true → rw' = true) (h : WkM Dm fm M N) : WkM Dm fm M (Sim.upd N i ⟨l.map f, rw, es⟩) := by
  subst he
  exact WkM.clo h1 (Sim.cloM hf) h3 h
theorem OutL.clo {m : Nat} {nids : List Nat} {M : Mem} {n k : Nat} {c : List Value} {rw rw' : Bool} {es : Nat} {r : List Blk} (hM : M (hmap m nids k).blk = some ⟨c, rw', es⟩)
    (hf : ∀ x ∈ c, cloV x = true) (hrw : rw = true ∨ (m ≤ k ∧ c ≠ []) → rw' = true) (hr : OutL m nids M n (k + 1) r) : OutL m nids M n k (⟨c, rw, es⟩ :: r) :=
  OutL.whole hM (clo_map_ren hf) (OkL.clo hf) hrw hr
theorem FitL.clo {h : Rho} {n : Nat} {M : Mem} {c : List Value} {rw rw' : Bool} {es id : Nat} {r : List Blk} {g : List (Nat × Nat)} (h1 : M id = some ⟨c, rw', es⟩) (h3 : ∀ x ∈ c, cloV x = true)
    (h6 : rw = true → rw' = true) (hr : FitL h n M r g) : FitL h n M (⟨c, rw, es⟩ :: r) ((id, 0) :: g) :=
  .whole h1 (clo_map_ren h3) (OkL.clo h3) h6 hr
theorem RelL.clo {h : Rho} {n : Nat} {x : Value} {r s : List Value} (h1 : cloV x = true) (hr : RelL h n r s) : RelL h n (x :: r) (x :: s) := .cons (clo_okV h1) (clo_ren h1) hr
theorem RelR.clo {h : Rho} {n : Nat} {x : Value} {r s : List Value} (h1 : cloV x = true) (hr : RelR h n r s) : RelR h n (x :: r) (x :: s) := .cons (clo_okV h1) (clo_ren h1) hr
theorem Rep.expose {C : Ctx} {ρ : Rho} {E : Env} {M : Mem} {a : Act} {w : World} (h : Rep C ρ ⟨E, M⟩ a w) {t id n es : Nat} {cells : List Value} (ht : E t = some (deep n es cells)) (hid : M id = none) :
    ∃ ρ', Rep C ρ' ⟨upd E t (.slice (some ⟨id, 0, none⟩) n 0), upd M id ⟨cells, false, es⟩⟩ a w := by
  obtain ⟨u, hu, hv⟩ := h.env t _ ht
  obtain ⟨p, hpu, hlt, hcell, hpe, hpl⟩ : ∃ p : Pl, ((∃ c, u = .slice (some ⟨p.blk, p.off, none⟩) n c ∧ n ≤ c) ∨ (n = 0 ∧ (u = .slice none 0 0 ∨ ∃ a0, u = .slice (some a0) 0 0))) ∧ (cells ≠ [] → p.blk < w.heap.size) ∧
      (∀ k v, cells[k]? = some v → ∃ x, w.cell? ⟨p.blk, p.off + k, none⟩ = some x ∧ VR .real (fun _ => False) ρ v x) ∧ p.es = es ∧ p.lim = none := by
    unfold deep at hv
    cases hv with
    | flat _ hf => simp [flatV] at hf
    | iface _ _ _ ht' => exact absurd rfl ht'
    | deepA _ _ _ hm => exact absurd rfl hm
    | deepR _ _ c o _ d hm hd hn hcs ho hc =>
      have hd' := h.im d hd
      simp only [List.size_toArray] at hcs ho hn
      have hne : cells ≠ [] → d.cells ≠ [] := fun h1 e => by
        rw [e] at ho
        exact h1 (List.length_eq_zero_iff.1 (by simp only [List.length_nil] at ho; omega))
      refine ⟨⟨d.blk, d.off + o, none, es⟩, .inl ⟨c, rfl, hc⟩, fun h1 => hd'.lt (hne h1), fun k v hk => ?_, rfl, rfl⟩
      have h1 : d.cells[o + k]? = some v := by
        have h2 : ((d.cells.drop o).take cells.length)[k]? = some v := by rw [hcs]; exact hk
        have hk' : k < cells.length := (List.getElem?_eq_some_iff.1 hk).1
        rwa [List.getElem?_take, if_pos hk', List.getElem?_drop] at h2
      obtain ⟨x, g1, g2⟩ := hd'.cells _ v h1
      exact ⟨x, by rw [Nat.add_assoc]; exact g1, g2⟩
    | deepN =>
      exact ⟨⟨0, 0, none, es⟩, .inr ⟨rfl, .inl rfl⟩, fun h1 => absurd rfl h1, fun k v hk => by simp at hk, rfl, rfl⟩
    | deepE _ a0 c _ ha =>
      by_cases hs : a0.spot = none
      · obtain ⟨bb, oo, ss⟩ := a0
        simp only at hs; subst hs
        exact ⟨⟨bb, oo, none, es⟩, .inl ⟨c, rfl, Nat.zero_le _⟩, fun h1 => absurd rfl h1, fun k v hk => by simp at hk, rfl, rfl⟩
      · obtain rfl := ha.resolve_left hs
        exact ⟨⟨0, 0, none, es⟩, .inr ⟨rfl, .inr ⟨a0, rfl⟩⟩, fun h1 => absurd rfl h1, fun k v hk => by simp at hk, rfl, rfl⟩
  let ρ' : Rho := ⟨fun i => if i = id then p else ρ i, ρ.im⟩
  have hne : ∀ i, i ≠ id → ρ' i = ρ i := fun i hi => by simp only [ρ', hi, if_false]
  have hid' : ρ' id = p := by simp only [ρ', if_true]
  have hold : ∀ i, dom M i → ρ' i = ρ i := by
    rintro i ⟨b, hb⟩
    refine hne i fun e => ?_
    rw [e, hid] at hb; cases hb
  have hdom : ∀ i, dom M i → dom (upd M id ⟨cells, false, es⟩) i := by
    rintro i ⟨b, hb⟩
    by_cases hi : i = id
    · exact ⟨⟨cells, false, es⟩, by simp only [upd, hi, if_true]⟩
    · exact ⟨b, by simp only [upd, hi, if_false]; exact hb⟩
  have hdid : dom (upd M id ⟨cells, false, es⟩) id := ⟨⟨cells, false, es⟩, by simp only [upd, if_true]⟩
  refine ⟨ρ', h.size, h.defers, fun t' v hv' => ?_, fun i b hb => ?_, fun i hi => ?_, fun i hi => hdom i (h.low i hi), fun i b hb hr => ?_, h.frame, fun d hd => ⟨(h.im d hd).lt, fun k v hk => ?_, fun hc i b hb hr => ?_⟩, h.imsub, h.imnew, h.gl⟩
  · simp only [upd] at hv'
    by_cases htt : t' = t
    · rw [if_pos htt] at hv'; cases hv'; subst htt
      refine ⟨u, hu, ?_⟩
      rcases hpu with ⟨c, rfl, hc⟩ | ⟨rfl, rfl | ⟨a0, rfl⟩⟩
      · have := VR.slice (m := .real) (ρ := ρ') (D := dom (upd M id ⟨cells, false, es⟩)) id 0 n c hdid (by simp) (fun _ => ⟨hc, fun L hL => by rw [hid', hpl] at hL; cases hL⟩)
        rw [hid', Nat.add_zero] at this
        exact this
      · exact .nilS _ (by simp)
      · exact .zeroS _ a0 rfl
    · rw [if_neg htt] at hv'
      obtain ⟨x, hx, hr⟩ := h.env t' v hv'
      exact ⟨x, hx, hr.mono hdom hold fun _ h => h⟩
  · simp only [upd] at hb
    by_cases hi : i = id
    · rw [if_pos hi] at hb; cases hb
      subst hi
      refine ⟨fun hs => by rw [hid']; exact hlt (hs.resolve_left fun h => by cases h.1), fun k v hk => ?_, (fun hr => by cases hr.1), by rw [hid']; exact hpe, fun L hL => by rw [hid', hpl] at hL; cases hL⟩
      obtain ⟨x, g1, g2⟩ := hcell k v hk
      exact ⟨x, by rw [hid']; exact g1, g2.closed fun _ h => h⟩
    · rw [if_neg hi] at hb
      have hB := h.mem i b hb
      refine ⟨fun hs => by rw [hne i hi] at hs ⊢; exact hB.lt hs, fun k v hk => ?_, fun hr => ?_, by rw [hne i hi]; exact hB.es, by rw [hne i hi]; exact hB.room⟩
      · obtain ⟨x, hx, hv'⟩ := hB.cells k v hk
        exact ⟨x, by rw [hne i hi]; exact hx, hv'.mono hdom hold fun _ h => h⟩
      · rw [hne i hi] at hr
        have hW := hB.rw hr
        refine ⟨by rw [hne i hi]; exact hW.off, by rw [hne i hi]; exact hW.soft, by rw [hne i hi]; exact hW.lim, fun j bj hj hsj hne' => ?_⟩
        simp only [upd] at hj
        by_cases hji : j = id
        · rw [if_pos hji] at hj; cases hj
          rw [hji, hid', hne i hi]
          have hc : cells ≠ [] := hsj.resolve_left fun h => by cases h.1
          intro e
          unfold deep at hv
          cases hv with
          | flat _ hf => simp [flatV] at hf
          | iface _ _ _ ht' => exact absurd rfl ht'
          | deepA _ _ _ hm => exact absurd rfl hm
          | deepR _ _ c o _ d hm hd hn hcs ho hc' =>
            simp only [List.size_toArray] at ho
            have hdne : d.cells ≠ [] := fun e' => by
              rw [e'] at ho
              exact hc (List.length_eq_zero_iff.1 (by simp only [List.length_nil] at ho; omega))
            have := (h.im d hd).own hdne i b hb hr
            rcases hpu with ⟨c2, h2, _⟩ | ⟨hn0, h2 | ⟨_, h2⟩⟩
            · simp only [Value.slice.injEq, Option.some.injEq, Addr.mk.injEq] at h2
              exact this (by rw [h2.1.1]; exact e.symm)
            · cases h2
            · exfalso
              simp only [List.size_toArray] at hn
              rw [hn0, Nat.zero_mul] at hn
              exact hc (List.length_eq_zero_iff.1 hn.symm)
          | deepN => exact hc rfl
          | deepE => exact hc rfl
        · rw [if_neg hji] at hj
          rw [hne j hji] at hsj
          rw [hne i hi, hne j hji]
          exact hW.lone j bj hj hsj hne'
  · obtain ⟨b, hb⟩ := h.low i hi
    rw [hold i ⟨b, hb⟩]; exact h.agree i hi
  · simp only [upd] at hb
    by_cases hi : i = id
    · rw [if_pos hi] at hb; cases hb; cases hr.1
    · rw [if_neg hi] at hb
      rw [hne i hi] at hr ⊢; exact h.own i b hb hr
  · obtain ⟨x, g1, g2⟩ := (h.im d hd).cells k v hk
    exact ⟨x, g1, g2.closed fun _ h => h⟩
  · simp only [upd] at hb
    by_cases hi : i = id
    · rw [if_pos hi] at hb; cases hb; cases hr.1
    · rw [if_neg hi] at hb
      rw [hne i hi] at hr ⊢; exact (h.im d hd).own hc i b hb hr
theorem AW.expose {P : Program} {N m : Nat} {c : Code} {E : Env} {M : Mem} {Q : Exit → ASt → Prop} (t id : Nat) {n es : Nat} {cells : List Value} (h : AW P N m c ⟨upd E t (.slice (some ⟨id, 0, none⟩) n 0), upd M id ⟨cells, false, es⟩⟩ Q)
    (ht : E t = some (deep n es cells) := by exact rfl) (hid : M id = none := by exact rfl) : AW P N m c ⟨E, M⟩ Q :=
  fun C hn hm _ a w hR => let ⟨ρ', hR'⟩ := hR.expose ht hid; h C hn hm ρ' a w hR'
theorem Rep.freezeV {C : Ctx} {ρ : Rho} {E : Env} {M : Mem} {a : Act} {w : World} (h : Rep C ρ ⟨E, M⟩ a w) {id o n es : Nat} {cells l : List Value} {u : Value} (hv : VR .real (dom M) ρ (.slice (some ⟨id, o, none⟩) n 0) u)
    (hid : M id = some ⟨cells, true, es⟩) (hc : ∀ x ∈ cells, cloV x = true) (ho : o + n * es ≤ cells.length) (hl : (cells.drop o).take (n * es) = l) :
    ∃ ρ', Rep C ρ' ⟨E, upd M id ⟨cells, false, es⟩⟩ a w ∧ VR .real (dom (upd M id ⟨cells, false, es⟩)) ρ' (deep n es l) u := by
  have hB := h.mem id _ hid
  let d : Imm := ⟨(ρ id).blk, (ρ id).off, cells⟩
  let ρ' : Rho := ⟨ρ.pl, d :: ρ.im⟩
  have hsub : ∀ d' ∈ ρ.im, d' ∈ ρ'.im := fun d' hd => List.mem_cons_of_mem _ hd
  have hdom : ∀ i, dom M i → dom (upd M id ⟨cells, false, es⟩) i := by
    rintro i ⟨b, hb⟩
    by_cases hi : i = id
    · exact ⟨⟨cells, false, es⟩, by simp only [upd, hi, if_true]⟩
    · exact ⟨b, by simp only [upd, hi, if_false]; exact hb⟩
  have own' : cells ≠ [] → (⟨cells, true, es⟩ : Blk).own (ρ id) := fun hne => hB.owned rfl (List.length_pos_iff.2 hne)
  refine ⟨ρ', ⟨h.size, h.defers, fun t' v hv' => ?_, fun i b hb => ?_, h.agree, fun i hi => hdom i (h.low i hi), fun i b hb hr => ?_, h.frame, fun d' hd => ?_, fun d' hd => hsub d' (h.imsub d' hd), fun d' hd => ?_, fun d' hd => hsub d' (h.gl d' hd)⟩, ?_⟩
  · obtain ⟨x, hx, hr⟩ := h.env t' v hv'
    exact ⟨x, hx, hr.mono hdom (fun _ _ => rfl) hsub⟩
  · simp only [upd] at hb
    by_cases hi : i = id
    · rw [if_pos hi] at hb; cases hb
      subst hi
      refine ⟨fun hs => hB.lt (hs.imp (fun h => by cases h.1) fun h => h), fun k v hk => ?_, (fun hr => by cases hr.1), hB.es, hB.room⟩
      obtain ⟨x, g1, g2⟩ := hB.cells k v hk
      exact ⟨x, g1, g2.mono hdom (fun _ _ => rfl) hsub⟩
    · rw [if_neg hi] at hb
      have hB' := h.mem i b hb
      refine ⟨hB'.lt, fun k v hk => ?_, fun hr => ?_, hB'.es, hB'.room⟩
      · obtain ⟨x, hx, hv'⟩ := hB'.cells k v hk
        exact ⟨x, hx, hv'.mono hdom (fun _ _ => rfl) hsub⟩
      · have hW := hB'.rw hr
        refine ⟨hW.off, hW.soft, hW.lim, fun j bj hj hsj hne' => ?_⟩
        simp only [upd] at hj
        by_cases hji : j = id
        · rw [if_pos hji] at hj; cases hj
          rw [hji]
          exact hW.lone id _ hid (.inr (hsj.resolve_left fun h => by cases h.1)) (hji ▸ hne')
        · rw [if_neg hji] at hj
          exact hW.lone j bj hj hsj hne'
  · simp only [upd] at hb
    by_cases hi : i = id
    · rw [if_pos hi] at hb; cases hb; cases hr.1
    · rw [if_neg hi] at hb; exact h.own i b hb hr
  · rcases List.mem_cons.1 hd with rfl | hd
    · refine ⟨fun hne => hB.lt (.inr hne), fun k v hk => ?_, fun hne i b hb hr => ?_⟩
      · obtain ⟨x, g1, g2⟩ := hB.cells k v hk
        exact ⟨x, g1, clo_rel (hc v (List.mem_of_getElem? hk)) (g2.mono (D' := dom M) (ρ' := ρ') (fun _ h => h) (fun _ _ => rfl) hsub)⟩
      · simp only [upd] at hb
        by_cases hi : i = id
        · rw [if_pos hi] at hb; cases hb; cases hr.1
        · rw [if_neg hi] at hb
          exact (hB.rw (own' hne)).lone i b hb (.inl hr) hi
    · refine ⟨(h.im d' hd).lt, fun k v hk => ?_, fun hne i b hb hr => ?_⟩
      · obtain ⟨x, g1, g2⟩ := (h.im d' hd).cells k v hk
        exact ⟨x, g1, g2.closed hsub⟩
      · simp only [upd] at hb
        by_cases hi : i = id
        · rw [if_pos hi] at hb; cases hb; cases hr.1
        · rw [if_neg hi] at hb; exact (h.im d' hd).own hne i b hb hr
  · rcases List.mem_cons.1 hd with rfl | hd
    · by_cases hne : cells = []
      · exact .inr (.inl hne)
      · exact .inr (.inr (h.own id _ hid (own' hne)))
    · exact h.imnew d' hd
  · have hll : l.length = n * es := by rw [← hl, List.length_take, List.length_drop]; omega
    cases hv with
    | flat _ hf => simp [flatV] at hf
    | nilS =>
      have : l = [] := List.length_eq_zero_iff.1 (by simpa using hll)
      subst this
      exact .deepN es (by simp)
    | zeroS _ a0 =>
      have : l = [] := List.length_eq_zero_iff.1 (by simpa using hll)
      subst this
      exact .deepE es a0 0 rfl (.inr rfl)
    | slice _ _ _ c hd0 h1 h2 => exact .deepR n es c o l.toArray d rfl (List.mem_cons_self ..) (by simpa using hll.symm) (by simpa [hll] using hl) (by simpa [hll] using ho) (h2 rfl).1
theorem Rep.freeze {C : Ctx} {ρ : Rho} {E : Env} {M : Mem} {a : Act} {w : World} (h : Rep C ρ ⟨E, M⟩ a w) {t id o n es : Nat} {cells l : List Value} (ht : E t = some (.slice (some ⟨id, o, none⟩) n 0))
    (hid : M id = some ⟨cells, true, es⟩) (hc : ∀ x ∈ cells, cloV x = true) (ho : o + n * es ≤ cells.length) (hl : (cells.drop o).take (n * es) = l) :
    ∃ ρ', Rep C ρ' ⟨upd E t (deep n es l), upd M id ⟨cells, false, es⟩⟩ a w := by
  obtain ⟨u, hu, hv⟩ := h.env t _ ht
  obtain ⟨ρ', hR, hv'⟩ := h.freezeV hv hid hc ho hl
  refine ⟨ρ', hR.size, hR.defers, fun t' v hx => ?_, hR.mem, hR.agree, hR.low, hR.own, hR.frame, hR.im, hR.imsub, hR.imnew, hR.gl⟩
  simp only [upd] at hx
  by_cases htt : t' = t
  · rw [if_pos htt] at hx; cases hx; subst htt; exact ⟨u, hu, hv'⟩
  · rw [if_neg htt] at hx; exact hR.env t' v hx
theorem AW.freeze {P : Program} {N m : Nat} {c : Code} {E : Env} {M : Mem} {Q : Exit → ASt → Prop} (t id : Nat) {o n es : Nat} {cells : List Value} (l : List Value) (h : AW P N m c ⟨upd E t (deep n es l), upd M id ⟨cells, false, es⟩⟩ Q)
    (ht : E t = some (.slice (some ⟨id, o, none⟩) n 0)) (hid : M id = some ⟨cells, true, es⟩) (hc : ∀ x ∈ cells, cloV x = true) (ho : o + n * es ≤ cells.length) (hl : (cells.drop o).take (n * es) = l) : AW P N m c ⟨E, M⟩ Q :=
  fun C hn hm _ a w hR => let ⟨ρ', hR'⟩ := hR.freeze ht hid hc ho hl; h C hn hm ρ' a w hR'
end Go.Proofs.YtlfadlfjjkppfaaGreatDoor.Sim
namespace Go.Proofs.YtlfadlfjjkppfaaGreatDoor.Sim
open Go
inductive DA : List Blk → Nat → List Value → List Value → Prop
  | nil {k : Nat} : DA [] k [] []
  | pure {M : List Blk} {k : Nat} {v : Value} {vs us : List Value} (h : cloV v = true) (r : DA M k vs us) : DA M k (v :: vs) (v :: us)
  | deep {M : List Blk} {k n es : Nat} {cells : List Value} {vs us : List Value} (r : DA M (k + 1) vs us) : DA (⟨cells, false, es⟩ :: M) k (.slice (some ⟨k, 0, none⟩) n 0 :: vs) (deep n es cells :: us)
inductive DR (m : Nat) (M0 Mo : List Blk) : List Value → List Value → Prop
  | nil : DR m M0 Mo [] []
  | pure {v : Value} {vs us : List Value} (h : cloV v = true) (r : DR m M0 Mo vs us) : DR m M0 Mo (v :: vs) (v :: us)
  | new {k n es : Nat} {cells : List Value} {rw : Bool} {vs us : List Value} (hk : m ≤ k) (hM : Mo[k]? = some ⟨cells, rw, es⟩) (hn : n * es = cells.length) (hc : ∀ x ∈ cells, cloV x = true) (r : DR m M0 Mo vs us) :
      DR m M0 Mo (.slice (some ⟨k, 0, none⟩) n 0 :: vs) (deep n es cells :: us)
  | part {k o n es : Nat} {cells l : List Value} {rw : Bool} {vs us : List Value} (hk : k < m) (hes : 0 < es) (hM : M0[k]? = some ⟨cells, rw, es⟩) (ho : o + n * es ≤ cells.length) (hl : (cells.drop o).take (n * es) = l) (hc : ∀ x ∈ cells, cloV x = true) (r : DR m M0 Mo vs us) :
      DR m M0 Mo (.slice (some ⟨k, o, none⟩) n 0 :: vs) (deep n es l :: us)
structure Lies (ρ : Rho) (w : World) (p : Pl) (b : Blk) : Prop where
  rw : b.rw = false
  es : p.es = b.es
  lim : p.lim = none
  lt : b.cells ≠ [] → p.blk < w.heap.size
  cells : ∀ k v, b.cells[k]? = some v → ∃ u, w.cell? ⟨p.blk, p.off + k, none⟩ = some u ∧ VR .real (fun _ => False) ρ v u
  src : b.cells = [] ∨ ∃ d o, d ∈ ρ.im ∧ p.blk = d.blk ∧ p.off = d.off + o ∧ (d.cells.drop o).take b.cells.length = b.cells ∧ o + b.cells.length ≤ d.cells.length
theorem deep_lies {D : Nat → Prop} {ρ : Rho} {M : Mem} {w : World} (him : ImOk ρ M w) {n es : Nat} {cells : List Value} {u : Value} (h : VR .real D ρ (deep n es cells) u) :
    ∃ p, Lies ρ w p ⟨cells, false, es⟩ ∧ ((∃ c, u = .slice (some ⟨p.blk, p.off, none⟩) n c ∧ n ≤ c) ∨ (n = 0 ∧ (u = .slice none 0 0 ∨ ∃ a0, u = .slice (some a0) 0 0))) := by
  unfold deep at h
  cases h with
  | flat _ hf => simp [flatV] at hf
  | iface _ _ _ ht => exact absurd rfl ht
  | deepA _ _ _ hm => exact absurd rfl hm
  | deepR _ _ c o _ d hm hd hn hcs ho hc =>
    have hd' := him d hd
    simp only [List.size_toArray] at hcs ho hn
    have hne : cells ≠ [] → d.cells ≠ [] := fun h1 e => by
      rw [e] at ho
      exact h1 (List.length_eq_zero_iff.1 (by simp only [List.length_nil] at ho; omega))
    refine ⟨⟨d.blk, d.off + o, none, es⟩, ⟨rfl, rfl, rfl, fun h1 => hd'.lt (hne h1), fun k v hk => ?_, .inr ⟨d, o, hd, rfl, rfl, hcs, ho⟩⟩, .inl ⟨c, rfl, hc⟩⟩
    have h1 : d.cells[o + k]? = some v := by
      have h2 : ((d.cells.drop o).take cells.length)[k]? = some v := by rw [hcs]; exact hk
      have hk' : k < cells.length := (List.getElem?_eq_some_iff.1 hk).1
      rwa [List.getElem?_take, if_pos hk', List.getElem?_drop] at h2
    obtain ⟨x, g1, g2⟩ := hd'.cells _ v h1
    exact ⟨x, by rw [Nat.add_assoc]; exact g1, g2⟩
  | deepN => exact ⟨⟨0, 0, none, es⟩, ⟨rfl, rfl, rfl, fun h1 => absurd rfl h1, fun k v hk => by simp at hk, .inl rfl⟩, .inr ⟨rfl, .inl rfl⟩⟩
  | deepE _ a0 c _ ha =>
    by_cases hs : a0.spot = none
    · obtain ⟨bb, oo, ss⟩ := a0
      simp only at hs; subst hs
      exact ⟨⟨bb, oo, none, es⟩, ⟨rfl, rfl, rfl, fun h1 => absurd rfl h1, fun k v hk => by simp at hk, .inl rfl⟩, .inl ⟨c, rfl, Nat.zero_le _⟩⟩
    · obtain rfl := ha.resolve_left hs
      exact ⟨⟨0, 0, none, es⟩, ⟨rfl, rfl, rfl, fun h1 => absurd rfl h1, fun k v hk => by simp at hk, .inl rfl⟩, .inr ⟨rfl, .inr ⟨a0, rfl⟩⟩⟩
theorem DA.place {D0 : Nat → Prop} {ρ : Rho} {MM : Mem} {w : World} (him : ImOk ρ MM w) : ∀ {M : List Blk} {k : Nat} {vs us : List Value}, DA M k vs us → ∀ {rs : List Value}, us.length = rs.length →
    (∀ (i : Nat) (v u : Value), us[i]? = some v → rs[i]? = some u → VR .real D0 ρ v u) →
    ∃ pls : List Pl, pls.length = M.length ∧ (∀ (j : Nat) (b : Blk), M[j]? = some b → ∃ p, pls[j]? = some p ∧ Lies ρ w p b) ∧ vs.length = rs.length ∧
      ∀ (pl : Nat → Pl), (∀ j p, pls[j]? = some p → pl (k + j) = p) → ∀ D : Nat → Prop, (∀ j, j < M.length → D (k + j)) → ∀ (i : Nat) (v u : Value), vs[i]? = some v → rs[i]? = some u → VR .real D ⟨pl, ρ.im⟩ v u := by
  intro M k vs us h
  induction h with
  | nil =>
    intro rs hl _
    exact ⟨[], rfl, fun j b hj => by simp at hj, hl, fun pl _ D _ i v u hv => by simp at hv⟩
  | @pure M k v vs us hc _ ih =>
    intro rs hl hr
    cases rs with
    | nil => simp at hl
    | cons r rs =>
      obtain ⟨pls, h1, h2, h3, h4⟩ := ih (rs := rs) (by simpa using hl) fun i v u hv hu => hr (i + 1) v u (by simpa using hv) (by simpa using hu)
      refine ⟨pls, h1, h2, by simp [h3], fun pl hp D hD i x u hx hu => ?_⟩
      cases i with
      | zero =>
        simp at hx hu; subst hx; subst hu
        exact (clo_rel (D' := fun _ => False) hc (hr 0 v r rfl rfl)).closed (ρ' := ⟨pl, ρ.im⟩) fun _ h => h
      | succ i => exact h4 pl hp D hD i x u (by simpa using hx) (by simpa using hu)
  | @deep M k n es cells vs us _ ih =>
    intro rs hl hr
    cases rs with
    | nil => simp at hl
    | cons r rs =>
      obtain ⟨pls, h1, h2, h3, h4⟩ := ih (rs := rs) (by simpa using hl) fun i v u hv hu => hr (i + 1) v u (by simpa using hv) (by simpa using hu)
      obtain ⟨p, hp, hu0⟩ := deep_lies him (hr 0 _ r rfl rfl)
      refine ⟨p :: pls, by simp [h1], fun j b hj => ?_, by simp [h3], fun pl hpl D hD i x u hx hu => ?_⟩
      · cases j with
        | zero => simp at hj; subst hj; exact ⟨p, rfl, hp⟩
        | succ j => obtain ⟨q, g1, g2⟩ := h2 j b (by simpa using hj); exact ⟨q, by simpa using g1, g2⟩
      · cases i with
        | zero =>
          simp at hx hu; subst hx; subst hu
          have hk : pl k = p := by have := hpl 0 p rfl; rwa [Nat.add_zero] at this
          rcases hu0 with ⟨c, rfl, hc⟩ | ⟨rfl, rfl | ⟨a0, rfl⟩⟩
          · have := VR.slice (m := .real) (ρ := ⟨pl, ρ.im⟩) (D := D) k 0 n c (by have := hD 0 (by simp); rwa [Nat.add_zero] at this) (by simp) (fun _ => ⟨hc, fun L hL => by
              have h9 : (pl k).lim = some L := hL
              rw [hk, hp.lim] at h9; cases h9⟩)
            have e : (⟨pl, ρ.im⟩ : Rho) k = p := hk
            rw [e, Nat.add_zero] at this
            exact this
          · exact .nilS _ (by simp)
          · exact .zeroS _ a0 rfl
        | succ i => exact h4 pl (fun j q hq => by rw [Nat.add_assoc, Nat.add_comm 1]; exact hpl (j + 1) q (by simpa using hq)) D (fun j hj => by rw [Nat.add_assoc, Nat.add_comm 1]; exact hD (j + 1) (by simp; omega)) i x u (by simpa using hx) (by simpa using hu)
theorem oneV_inv {D : Nat → Prop} {ρ : Rho} {rv : List Value} {u : Value} (h : VR .real D ρ (oneV rv) u) :
    ∃ us, rv.length = us.length ∧ u = oneV us ∧ ∀ (k : Nat) (x y : Value), rv[k]? = some x → us[k]? = some y → VR .real D ρ x y := by
  unfold oneV at h
  by_cases h1 : rv.length = 1
  · rw [dif_pos h1] at h
    refine ⟨[u], by simp [h1], rfl, fun k x y hx hy => ?_⟩
    have hk : k = 0 := by have := (List.getElem?_eq_some_iff.1 hy).1; simp at this; omega
    subst hk
    simp at hy; subst hy
    rw [List.getElem?_eq_getElem (by omega)] at hx
    cases hx; exact h
  · rw [dif_neg h1] at h
    cases h with
    | flat _ hf =>
      simp only [flatV, Array.isEmpty_iff] at hf
      have : rv = [] := by simpa using hf
      subst this
      exact ⟨[], rfl, rfl, fun k x y hx => by simp at hx⟩
    | tuple _ ys hs hh =>
      simp only [List.size_toArray] at hs
      refine ⟨ys.toList, by simpa using hs, ?_, fun k x y hx hy => hh k x y (by simpa using hx) (by simpa using hy)⟩
      unfold oneV
      rw [dif_neg (by simp; omega)]
def imsOf (ρ : Rho) (m : Nat) (Mo : List Blk) : List Imm :=
  ((List.range Mo.length).filter fun k => decide (m ≤ k) && (match Mo[k]? with | some b => b.cells.all cloV | none => false)).map fun k => ⟨(ρ k).blk, (ρ k).off, match Mo[k]? with | some b => b.cells | none => []⟩
theorem imsOf_mem {ρ : Rho} {m : Nat} {Mo : List Blk} {k : Nat} {b : Blk} (hk : m ≤ k) (hb : Mo[k]? = some b) (hc : ∀ x ∈ b.cells, cloV x = true) : (⟨(ρ k).blk, (ρ k).off, b.cells⟩ : Imm) ∈ imsOf ρ m Mo := by
  refine List.mem_map.2 ⟨k, List.mem_filter.2 ⟨List.mem_range.2 (List.getElem?_eq_some_iff.1 hb).1, ?_⟩, by simp only [hb]⟩
  simp only [hb, Bool.and_eq_true, decide_eq_true_eq, List.all_eq_true]
  exact ⟨hk, hc⟩
theorem imsOf_inv {ρ : Rho} {m : Nat} {Mo : List Blk} {d : Imm} (h : d ∈ imsOf ρ m Mo) : ∃ k b, m ≤ k ∧ Mo[k]? = some b ∧ (∀ x ∈ b.cells, cloV x = true) ∧ d = ⟨(ρ k).blk, (ρ k).off, b.cells⟩ := by
  obtain ⟨k, hk, rfl⟩ := List.mem_map.1 h
  obtain ⟨h1, h2⟩ := List.mem_filter.1 hk
  have hlt := List.mem_range.1 h1
  rw [List.getElem?_eq_getElem hlt] at h2 ⊢
  simp only [Bool.and_eq_true, decide_eq_true_eq, List.all_eq_true] at h2
  exact ⟨k, Mo[k], h2.1, List.getElem?_eq_getElem hlt, h2.2, rfl⟩
theorem GC.deepen {P : Program} {f : FuncId} {vs vs' rv rv' : List Value} {M0 Mo : List Blk} (S : GC P f vs M0 rv Mo)
    (ha : DA M0 0 vs vs') (hr : DR M0.length M0 Mo rv rv') : GC P f vs' [] rv' [] := by
  refine ⟨Nat.le_refl _, fun ρ0 w rargs _ him hgl hl hargs => ?_⟩
  obtain ⟨pls, h1, h2, h3, h4⟩ := ha.place him hl hargs
  let ρ : Rho := ⟨fun i => (pls[i]?).getD ⟨0, 0, none, 1⟩, ρ0.im⟩
  have hpl : ∀ j p, pls[j]? = some p → ρ j = p := fun j p hj => by
    show (pls[j]?).getD ⟨0, 0, none, 1⟩ = p
    rw [hj]; rfl
  have noRW : ∀ k, ¬ RWof M0 ρ k := fun k ⟨i, b, hb, hown, _⟩ => by
    obtain ⟨p, _, hp⟩ := h2 i b hb
    have := hown.1
    rw [hp.rw] at this; cases this
  have hmem : MemOk ρ (memL M0) w := by
    intro i b hb
    obtain ⟨p, hp, hlies⟩ := h2 i b hb
    have e := hpl i p hp
    refine ⟨fun hs => by rw [e]; exact hlies.lt (hs.resolve_left fun h => by have := h.1; rw [hlies.rw] at this; cases this), fun k v hk => ?_, (fun hr => by have := hr.1; rw [hlies.rw] at this; cases this), by rw [e]; exact hlies.es, fun L hL => by rw [e, hlies.lim] at hL; cases hL⟩
    obtain ⟨u, g1, g2⟩ := hlies.cells k v hk
    exact ⟨u, by rw [e]; exact g1, g2.closed fun _ h => h⟩
  have himρ : ImOk ρ (memL M0) w := by
    intro d hd
    have hd' := him d hd
    refine ⟨hd'.lt, fun k v hk => ?_, fun _ i b hb hown => absurd ⟨i, b, hb, hown, rfl⟩ (noRW _)⟩
    obtain ⟨u, g1, g2⟩ := hd'.cells k v hk
    exact ⟨u, g1, g2.closed fun _ h => h⟩
  refine (S.2 ρ w rargs hmem himρ hgl h3 (fun k v u hv hu => h4 ρ.pl (fun j p hj => by rw [Nat.zero_add]; exact hpl j p hj) _ (fun j hj => by rw [Nat.zero_add]; exact dom_memL.2 hj) k v u hv hu)).mono ?_
  rintro e w' ⟨u, ρ1, rfl, hold, hfar, hres, hmo, hfr, his⟩
  let ρ2 : Rho := ⟨ρ1.pl, imsOf ρ1 M0.length Mo ++ ρ1.im⟩
  have hsub1 : ∀ d ∈ ρ1.im, d ∈ ρ2.im := fun d hd => List.mem_append_right _ hd
  have close : ∀ {v x : Value} {D : Nat → Prop}, cloV v = true → VR .real D ρ1 v x → VR .real (fun _ => False) ρ2 v x := fun hc h =>
    (clo_rel (D' := fun _ => False) hc h).closed hsub1
  refine ⟨u, ρ2, rfl, fun i hi => by simp at hi, fun i b _ hb => by simp at hb, ?_, fun i b hb => by simp [memL] at hb, ⟨hfr.os, hfr.tape, hfr.output, hfr.size, fun k hk _ => hfr.block k hk (noRW k)⟩, fun d hd => hsub1 d (his.sub d hd), fun d hd => ?_, fun d hd => ?_⟩
  · obtain ⟨us, e1, rfl, e3⟩ := oneV_inv hres
    have key : ∀ {rv rv' : List Value}, DR M0.length M0 Mo rv rv' → ∀ {us : List Value}, rv.length = us.length → (∀ (k : Nat) (x y : Value), rv[k]? = some x → us[k]? = some y → VR .real (dom (memL Mo)) ρ1 x y) →
        rv'.length = us.length ∧ ∀ (k : Nat) (x y : Value), rv'[k]? = some x → us[k]? = some y → VR .real (dom (memL [])) ρ2 x y := by
      intro rv rv' h
      induction h with
      | nil => intro us hl _; exact ⟨hl, fun k x y hx => by simp at hx⟩
      | pure hc _ ih =>
        intro us hl hh
        cases us with
        | nil => simp at hl
        | cons y0 us =>
          obtain ⟨g1, g2⟩ := ih (us := us) (by simpa using hl) fun k x y hx hy => hh (k + 1) x y (by simpa using hx) (by simpa using hy)
          refine ⟨by simp [g1], fun k x y hx hy => ?_⟩
          cases k with
          | zero => simp at hx hy; subst hx; subst hy; exact (close hc (hh 0 _ _ rfl rfl)).closed fun _ h => h
          | succ k => exact g2 k x y (by simpa using hx) (by simpa using hy)
      | @new k n es cells rw vs us' hk hM hn hc _ ih =>
        intro us hl hh
        cases us with
        | nil => simp at hl
        | cons y0 us =>
          obtain ⟨g1, g2⟩ := ih (us := us) (by simpa using hl) fun k x y hx hy => hh (k + 1) x y (by simpa using hx) (by simpa using hy)
          refine ⟨by simp [g1], fun k' x y hx hy => ?_⟩
          cases k' with
          | zero =>
            simp at hx hy; subst hx; subst hy
            have h0 := hh 0 _ _ rfl rfl
            cases h0 with
            | flat _ hf => simp [flatV] at hf
            | nilS =>
              have : cells = [] := List.length_eq_zero_iff.1 (by omega)
              subst this
              exact .deepN es (by simp)
            | zeroS _ a0 =>
              have : cells = [] := List.length_eq_zero_iff.1 (by omega)
              subst this
              exact .deepE es a0 0 rfl (.inr rfl)
            | slice _ _ _ c hd0 q1 q2 =>
              exact .deepR n es c 0 cells.toArray ⟨(ρ1 k).blk, (ρ1 k).off, cells⟩ rfl (List.mem_append_left _ (imsOf_mem (ρ := ρ1) hk hM hc)) (by simpa using hn) (by simp) (by simp) (q2 rfl).1
          | succ k' => exact g2 k' x y (by simpa using hx) (by simpa using hy)
      | @part k o n es cells l rw vs us' hk hes hM ho hle hc _ ih =>
        intro us hl hh
        cases us with
        | nil => simp at hl
        | cons y0 us =>
          obtain ⟨g1, g2⟩ := ih (us := us) (by simpa using hl) fun k x y hx hy => hh (k + 1) x y (by simpa using hx) (by simpa using hy)
          refine ⟨by simp [g1], fun k' x y hx hy => ?_⟩
          cases k' with
          | zero =>
            simp at hx hy; subst hx; subst hy
            have h0 := hh 0 _ _ rfl rfl
            have hll : l.length = n * es := by rw [← hle, List.length_take, List.length_drop]; omega
            obtain ⟨p, hp, hlies⟩ := h2 k _ hM
            have e4 : ρ1 k = p := (hold k hk).trans (hpl k p hp)
            cases h0 with
            | flat _ hf => simp [flatV] at hf
            | nilS =>
              have : l = [] := List.length_eq_zero_iff.1 (by omega)
              subst this
              exact .deepN es (by simp)
            | zeroS _ a0 =>
              have : l = [] := List.length_eq_zero_iff.1 (by omega)
              subst this
              exact .deepE es a0 0 rfl (.inr rfl)
            | slice _ _ _ c hd0 q1 q2 =>
              rw [e4]
              by_cases hn0 : n = 0
              · subst hn0
                have : l = [] := List.length_eq_zero_iff.1 (by omega)
                subst this
                exact .deepE es _ c rfl (.inl rfl)
              · rcases hlies.src with hs | ⟨d, o', d1, d2, d3, d4, d5⟩
                · have hpos := Nat.mul_pos (Nat.pos_of_ne_zero hn0) hes
                  simp only at hs
                  rw [hs] at ho
                  simp only [List.length_nil] at ho
                  omega
                · rw [d2, d3, Nat.add_assoc]
                  simp only at d4 d5
                  refine .deepR n es c (o' + o) l.toArray d rfl (hsub1 d (his.sub d d1)) (by simpa using hll.symm) ?_ (by simp only [List.size_toArray, hll]; omega) (q2 rfl).1
                  simp only [List.size_toArray, hll]
                  rw [← hle, ← d4, List.drop_take, List.drop_drop, List.take_take, Nat.min_eq_left (by omega)]
          | succ k' => exact g2 k' x y (by simpa using hx) (by simpa using hy)
    obtain ⟨k1, k2⟩ := key hr e1 e3
    exact oneV_rel k1 k2
  · rcases List.mem_append.1 hd with hd | hd
    · obtain ⟨k, b, hk, hb, hc, rfl⟩ := imsOf_inv hd
      by_cases hne : b.cells = []
      · exact .inr (.inl hne)
      · rcases hfar k b hk hb (.inr hne) with h5 | h5
        · exact .inr (.inr (.inr h5))
        · exact absurd h5 (noRW _)
    · rcases his.new d hd with h5 | h5 | h5 | h5
      · exact .inl h5
      · exact .inr (.inl h5)
      · exact absurd h5 (noRW _)
      · exact .inr (.inr (.inr h5))
  · rcases List.mem_append.1 hd with hd | hd
    · obtain ⟨k, b, hk, hb, hc, rfl⟩ := imsOf_inv hd
      have hB := hmo k b hb
      refine ⟨fun hne => hB.lt (.inr hne), fun j v hj => ?_, fun _ i b' hb' => by simp [memL] at hb'⟩
      obtain ⟨x, g1, g2⟩ := hB.cells j v hj
      exact ⟨x, g1, close (hc v (List.mem_of_getElem? hj)) g2⟩
    · have hd' := his.ok d hd
      refine ⟨hd'.lt, fun j v hj => ?_, fun _ i b' hb' => by simp [memL] at hb'⟩
      obtain ⟨x, g1, g2⟩ := hd'.cells j v hj
      exact ⟨x, g1, g2.closed hsub1⟩
end Go.Proofs.YtlfadlfjjkppfaaGreatDoor.Sim
namespace Go.Proofs.YtlfadlfjjkppfaaGreatDoor.Sim
open Go
theorem FStep.deepen {P : Program} {o : Oper} {E : Env} {M : Mem} {id n es : Nat} {cells : List Value} {fp : List Nat} {r : List (Nat × Blk)} (h : FStep P o E M (.slice (some ⟨id, 0, none⟩) n 0) ⟨fp, (id, ⟨cells, true, es⟩) :: r⟩)
    (hn : n * es = cells.length) (hc : ∀ x ∈ cells, cloV x = true) : FStep P o E M (deep n es cells) ⟨fp, (id, ⟨cells, false, es⟩) :: r⟩ := by
  intro E' M' h1 h2 h3 C ρ a w hR
  have key : ∀ ρ' w' u, Rep C ρ' ⟨E', upds M' ((id, ⟨cells, true, es⟩) :: r)⟩ a w' → VR .real (dom (upds M' ((id, ⟨cells, true, es⟩) :: r))) ρ' (.slice (some ⟨id, 0, none⟩) n 0) u →
      ∃ ρ2, Rep C ρ2 ⟨E', upds M' ((id, ⟨cells, false, es⟩) :: r)⟩ a w' ∧ VR .real (dom (upds M' ((id, ⟨cells, false, es⟩) :: r))) ρ2 (deep n es cells) u := by
    intro ρ' w' u hR' hv
    obtain ⟨ρ2, hR2, hv2⟩ := hR'.freezeV hv (show upds M' ((id, ⟨cells, true, es⟩) :: r) id = some ⟨cells, true, es⟩ by simp only [upds, upd, if_true]) hc (by omega) (l := cells) (by rw [List.drop_zero, hn]; exact List.take_of_length_le (Nat.le_refl _))
    have e : upd (upds M' ((id, ⟨cells, true, es⟩) :: r)) id ⟨cells, false, es⟩ = upds M' ((id, ⟨cells, false, es⟩) :: r) := by simp only [upds, upd_upd]
    rw [e] at hR2 hv2
    exact ⟨ρ2, hR2, hv2⟩
  refine Oper.wp_mono (K := fun a' w' => ∃ u, a' = a.put o.dst u ∧ ∃ ρ', Rep C ρ' ⟨E', upds M' ((id, ⟨cells, true, es⟩) :: r)⟩ a w' ∧ VR .real (dom (upds M' ((id, ⟨cells, true, es⟩) :: r))) ρ' (.slice (some ⟨id, 0, none⟩) n 0) u)
    (fun a' w' ⟨u, ha, ρ', hR', hv⟩ => ⟨u, ha, key ρ' w' u hR' hv⟩) (h E' M' h1 h2 (fun p hp hq => ?_) C ρ a w hR)
  rcases List.mem_cons.1 hp with rfl | hp
  · exact h3 (id, ⟨cells, false, es⟩) (List.mem_cons_self ..) hq
  · exact h3 p (List.mem_cons_of_mem _ hp) hq
section
variable {P : Program} {T : Tab} (H : TabOk P T) {ops : Array Oper} {k i : Nat} {os : List Oper} {E : Env} {M : Mem} {D : List Eff → Prop} {K : ASt → Prop}
  {d : Tmp} {ty : TypeId} {ps : String} {af : Array Edge} {g : Option (Nat × Bool)}
include H
theorem AWo.buildSliceF {t e : TypeId} {len sz : Nat} {parts : Array (Nat × Operand)} {c z : Value} (id : Nat) (vals : List (Nat × Value)) {out : List Value}
    (ht : T.sl.lookup t = some e) (hs : T.sz.lookup e = some sz) (h0 : sz ≠ 0) (hz : T.zero.lookup e = some z) (hzc : z.cells = Array.replicate sz c) (hc : flatV c = true) (hle : len * sz ≤ 16777216)
    (hp : parts.toList.map (fun p => (p.1, aev E p.2)) = vals.map (fun p => (p.1, some p.2))) (hf : fillL (fun i => some (i * sz, sz)) (List.replicate (len * sz) c) vals = some out) (hid : M id = none)
    (hol : len * sz = out.length) (hco : ∀ x ∈ out, cloV x = true)
    (hw : wantA ops E ⟨some d, .buildSlice t len parts, ty, ps, af, g⟩ = some true) (hd : Nat.blt d k = true)
    (hr : AWo P ops k (i + 1) os ⟨upd E d (deep len sz out), upd M id ⟨out, false, sz⟩⟩ (fun es' => D (⟨[], [(id, ⟨out, false, sz⟩)]⟩ :: es')) K) :
    AWo P ops k i (⟨some d, .buildSlice t len parts, ty, ps, af, g⟩ :: os) ⟨E, M⟩ D K :=
  AWo.step (FStep.deepen (FStep.buildSlice id vals (H.sl t _ ht) (H.sz e _ hs) h0 (H.zero e _ hz) hzc hc hle hp hf) hol hco) hw hd (fun p hp _ => by simp at hp; subst hp; exact hid) hr
end
theorem deep_inv {D : Nat → Prop} {ρ : Rho} {n es : Nat} {cells : List Value} {u : Value} (h : VR .real D ρ (deep n es cells) u) : ∃ q c', u = .slice q n c' := by
  unfold deep at h
  cases h with
  | flat _ hf => simp [flatV] at hf
  | iface _ _ _ ht => exact absurd rfl ht
  | deepA _ _ _ hm => exact absurd rfl hm
  | deepR _ _ c o _ d => exact ⟨_, _, rfl⟩
  | deepN => exact ⟨_, _, rfl⟩
  | deepE => exact ⟨_, _, rfl⟩
theorem PureOp.lenD {P : Program} {E : Env} {T : Tab} (H : TabOk P T) {x : Operand} {t e : TypeId} {n es : Nat} {cells : List Value} (h1 : aev E x = some (deep n es cells)) (ht : T.sl.lookup t = some e) :
    PureOp P (.call ⟨.builtin .len, #[x], #[t]⟩) E (.int .i64 n) := fun D ρ ev hx => by
  obtain ⟨q, c', e1⟩ := deep_inv (hx x (by simp [Op.operands, Call.operands]) _ h1)
  exact ⟨_, .flat _ rfl, fun _ _ _ _ _ w => by simp [execOp, resolve, e1, invoke, builtin, Builtin.len_, run_underlying (H.sl t e ht), goInt]⟩
end Go.Proofs.YtlfadlfjjkppfaaGreatDoor.Sim
namespace Go.Proofs.YtlfadlfjjkppfaaGreatDoor.Sim
open Go Go.RowKit Go.ChangeShapes Go.WideShapes
def pl0 : Nat → Pl := fun _ => ⟨0, 0, none, 1⟩
structure IOk (W : World) (ims : List Imm) (d : Imm) : Prop where
  cells : ∀ k v, d.cells[k]? = some v → ∃ u, W.cell? ⟨d.blk, d.off + k, none⟩ = some u ∧ VR .real (fun _ => False) ⟨pl0, ims⟩ v u
structure ROkD (W : World) (ims : List Imm) (p : Pl) (cells : List Value) (es : Nat) : Prop where
  lim : p.lim = none
  es : p.es = es
  at' : ∀ (i : Nat) (v : Value), cells[i]? = some v → ∃ u, W.cell? ⟨p.blk, p.off + i, none⟩ = some u ∧ VR .real (fun _ => False) ⟨pl0, ims⟩ v u
theorem ROk.deep {W : World} {p : Pl} {cells : List Value} {es : Nat} (h : ROk W p cells es) (ims : List Imm) : ROkD W ims p cells es :=
  ⟨h.lim, h.es, fun i v hi => ⟨v, h.at' i v hi, .flat v (h.flat v (List.mem_of_getElem? hi))⟩⟩
theorem VR.ims {m : Md} {D : Nat → Prop} {pl pl' : Nat → Pl} {ims ims' : List Imm} {v u : Value} (h : VR m (fun _ => False) ⟨pl, ims⟩ v u) (hI : ∀ d ∈ ims, d ∈ ims') : VR m D ⟨pl', ims'⟩ v u :=
  h.mono (fun _ h => h.elim) (fun _ h => h.elim) hI
theorem IOk.mono {W : World} {ims ims' : List Imm} {d : Imm} (h : IOk W ims d) (hI : ∀ d ∈ ims, d ∈ ims') : IOk W ims' d :=
  ⟨fun k v hk => by obtain ⟨u, h1, h2⟩ := h.cells k v hk; exact ⟨u, h1, h2.ims hI⟩⟩
theorem ROkD.mono {W : World} {ims ims' : List Imm} {p : Pl} {cells : List Value} {es : Nat} (h : ROkD W ims p cells es) (hI : ∀ d ∈ ims, d ∈ ims') : ROkD W ims' p cells es :=
  ⟨h.lim, h.es, fun k v hk => by obtain ⟨u, h1, h2⟩ := h.at' k v hk; exact ⟨u, h1, h2.ims hI⟩⟩
theorem MemOk.roD {W : World} {ims : List Imm} {ps : List Pl} {M0 : List Blk} (h : ∀ (k : Nat) (b : Blk), M0[k]? = some b → b.rw = false ∧ ∃ p, ps[k]? = some p ∧ ROkD W ims p b.cells b.es) :
    MemOk ⟨fun k => (ps[k]?).getD ⟨0, 0, none, 1⟩, ims⟩ (memL M0) W := by
  intro i b hb
  obtain ⟨hrw, p, hp, hk⟩ := h i b hb
  have e : (⟨fun k => (ps[k]?).getD ⟨0, 0, none, 1⟩, ims⟩ : Rho) i = p := by simp only [hp, Option.getD_some]
  refine ⟨fun hs => ?_, fun k v hv => ?_, fun hr => ?_, ?_, fun L hL => ?_⟩
  · rw [e]
    rcases hs with hs | hs
    · have := hs.1; rw [hrw] at this; cases this
    · obtain ⟨v, hv⟩ : ∃ v, b.cells[0]? = some v := by
        cases hc : b.cells with
        | nil => exact absurd hc hs
        | cons x r => exact ⟨x, rfl⟩
      obtain ⟨u, hu, _⟩ := hk.at' 0 v hv
      exact cell?_lt hu
  · obtain ⟨u, hu, hr⟩ := hk.at' k v hv
    exact ⟨u, by rw [e]; exact hu, hr.ims fun _ h => h⟩
  · have := hr.1; rw [hrw] at this; cases this
  · rw [e]; exact hk.es
  · rw [e, hk.lim] at hL; cases hL
inductive LawArgsD (ims : List Imm) (ps : List Pl) : List Value → List Value → Prop
  | nil : LawArgsD ims ps [] []
  | pure {v : Value} {vs us : List Value} (h : pureV v = true) (hr : LawArgsD ims ps vs us) : LawArgsD ims ps (v :: vs) (v :: us)
  | rel {v u : Value} {vs us : List Value} (h : VR .real (fun _ => False) ⟨pl0, ims⟩ v u) (hr : LawArgsD ims ps vs us) : LawArgsD ims ps (v :: vs) (u :: us)
  | slice {k n : Nat} {p : Pl} {u : Value} {vs us : List Value} (hk : ps[k]? = some p) (hl : p.lim = none) (h : SlArg p n u) (hr : LawArgsD ims ps vs us) : LawArgsD ims ps (.slice (some ⟨k, 0, none⟩) n 0 :: vs) (u :: us)
theorem LawArgsD.vr {ims : List Imm} {ps : List Pl} {vs us : List Value} (h : LawArgsD ims ps vs us) {D : Nat → Prop} (hD : ∀ k, k < ps.length → D k) :
    vs.length = us.length ∧ ∀ (k : Nat) (v u : Value), vs[k]? = some v → us[k]? = some u → VR .real D ⟨fun k => (ps[k]?).getD ⟨0, 0, none, 1⟩, ims⟩ v u := by
  induction h with
  | nil => exact ⟨rfl, fun k v u h => by simp at h⟩
  | pure h _ ih =>
    refine ⟨by simp [ih.1], fun k v u h1 h2 => ?_⟩
    cases k with
    | zero => simp at h1 h2; subst h1; subst h2; exact .pure h
    | succ k => exact ih.2 k v u (by simpa using h1) (by simpa using h2)
  | rel h _ ih =>
    refine ⟨by simp [ih.1], fun k v u h1 h2 => ?_⟩
    cases k with
    | zero => simp at h1 h2; subst h1; subst h2; exact h.ims fun _ h => h
    | succ k => exact ih.2 k v u (by simpa using h1) (by simpa using h2)
  | @slice k0 n p u vs us hk hl h _ ih =>
    refine ⟨by simp [ih.1], fun k v u h1 h2 => ?_⟩
    cases k with
    | zero =>
      simp at h1 h2; subst h1; subst h2
      rcases h with ⟨c, rfl, hc⟩ | ⟨rfl, rfl⟩
      · have := VR.slice (m := .real) (ρ := ⟨fun k => (ps[k]?).getD ⟨0, 0, none, 1⟩, ims⟩) (D := D) k0 0 n c (hD _ (List.getElem?_eq_some_iff.1 hk).1) (by simp) (fun _ => ⟨hc, fun L hL => by simp only [hk, Option.getD_some, hl] at hL; cases hL⟩)
        simpa only [hk, Option.getD_some, Nat.add_zero] using this
      · exact .nilS _ (by simp)
    | succ k => exact ih.2 k v u (by simpa using h1) (by simpa using h2)
theorem GC.lawD {P : Program} {f : FuncId} {args : List Value} {M0 Mo : List Blk} (S : GC P f args M0 [.bool true] Mo) {W : World} (ims : List Imm) (ps : List Pl) (hps : ps.length = M0.length)
    (hm : ∀ (k : Nat) (b : Blk), M0[k]? = some b → b.rw = false ∧ ∃ p, ps[k]? = some p ∧ ROkD W ims p b.cells b.es) (him : ∀ d ∈ ims, IOk W ims d) {rargs : List Value} (ha : LawArgsD ims ps args rargs) (hgl : ∀ d ∈ GLB, d ∈ ims := by exact fun d hd => absurd hd List.not_mem_nil) :
    Calls P f rargs.toArray W fun e W' => e = .returned (.bool true) ∧ Below W.heap.size W W' := by
  have hD : ∀ k, k < ps.length → dom (memL M0) k := fun k hk => dom_memL.2 (by omega)
  obtain ⟨h1, h2⟩ := ha.vr hD
  refine Ctr.law S (fun b hb => by obtain ⟨k, hk⟩ := List.mem_iff_getElem?.1 hb; exact (hm k b hk).1) (MemOk.roD hm) (fun d hd => ?_) hgl h1 h2
  refine ⟨fun hne => ?_, fun k v hk => ?_, fun _ i b hb hown => ?_⟩
  · obtain ⟨v, hv⟩ : ∃ v, d.cells[0]? = some v := by
      cases hc : d.cells with
      | nil => exact absurd hc hne
      | cons x r => exact ⟨x, rfl⟩
    obtain ⟨u, hu, _⟩ := (him d hd).cells 0 v hv
    exact cell?_lt hu
  · obtain ⟨u, hu, hr⟩ := (him d hd).cells k v hk
    exact ⟨u, hu, hr.ims fun _ h => h⟩
  · have := hown.1
    rw [(hm i b hb).1] at this
    cases this
section
variable {H : Type} {enc : TypeId × Value → H} {P : Program} {W : World} {base : Nat} {held : Bool}
theorem nums_deep {t e : TypeId} {k : IntKind} {fuel : Nat} {cs : List Value} {x : DataW H × List MemPlace} (ht : P.underlying t = some (.slice e)) (he : P.underlying e = some (.int k)) (hc : P.cellsOf e = 1)
    (h : DataW.trod enc P W base (fun _ => true) held fuel t cs = some x) :
    ∃ (zs : List Int) (d : Imm) (u : Value), cs = [u] ∧ (∀ ims, IOk W ims d) ∧ (∀ ims, d ∈ ims → VR .real (fun _ => False) ⟨pl0, ims⟩ (deep zs.length 1 (zs.map (Value.int k))) u) ∧ ∀ z ∈ zs, (Lit.int k z).wf = true := by
  rcases open_ints ht he hc h with ⟨hcs, -⟩ | ⟨a, len, cap, zs, hcs, -, hl, hm, hz, -, hcell, hwf⟩
  · exact ⟨[], ⟨0, 0, []⟩, _, hcs, fun ims => ⟨fun k v hk => by simp at hk⟩, fun ims _ => .deepN 1 (by simp), fun z hz => by simp at hz⟩
  · have hzl : zs.length = cap := by simpa using hz
    by_cases h0 : cap = 0
    · subst h0
      obtain rfl : len = 0 := by omega
      exact ⟨[], ⟨0, 0, []⟩, _, hcs, fun ims => ⟨fun k v hk => by simp at hk⟩, fun ims _ => .deepE 1 a 0 rfl (.inr rfl), fun z hz => by simp at hz⟩
    · have hsp : a.spot = none := by
        have := hcell 0 (by omega)
        have h1 := World.cell?_spot this
        simpa [Addr.add] using h1
      obtain ⟨bb, oo, ss⟩ := a
      simp only at hsp; subst hsp
      refine ⟨zs.take len, ⟨bb, oo, zs.map (Value.int k)⟩, _, hcs, fun ims => ⟨fun j v hj => ?_⟩, fun ims hd => ?_, fun z hz => hwf z (List.mem_of_mem_take hz)⟩
      · rw [List.getElem?_map] at hj
        cases hzj : zs[j]? with
        | none => rw [hzj] at hj; cases hj
        | some z =>
          rw [hzj] at hj; cases hj
          have hjl := (List.getElem?_eq_some_iff.1 hzj).1
          have h9 := hcell j hjl
          rw [addr_add] at h9
          refine ⟨_, h9, ?_⟩
          rw [List.getD_eq_getElem?_getD, hzj]
          exact .flat _ rfl
      · have hle : len ≤ zs.length := by omega
        have e1 : (zs.take len).length = len := by rw [List.length_take]; omega
        have := VR.deepR (m := .real) (D := fun _ => False) (ρ := ⟨pl0, ims⟩) len 1 cap 0 ((zs.take len).map (Value.int k)).toArray ⟨bb, oo, zs.map (Value.int k)⟩ rfl hd (by simp only [List.size_toArray, List.length_map, e1, Nat.mul_one]) (by rw [List.size_toArray, List.length_map, e1, List.drop_zero, List.map_take]) (by simp only [List.size_toArray, List.length_map, e1]; omega) hl
        simp only [deep, e1]
        exact this
end
section
variable {P : Program} {T : Tab} (H : TabOk P T)
variable {ops : Array Oper} {k i : Nat} {os : List Oper} {E : Env} {M : Mem} {D : List Eff → Prop} {K : ASt → Prop}
  {d : Tmp} {ty : TypeId} {ps : String} {af : Array Edge} {g : Option (Nat × Bool)}
include H
end
end Go.Proofs.YtlfadlfjjkppfaaGreatDoor.Sim
namespace Go.Proofs.YtlfadlfjjkppfaaGreatDoor.Sim
open Go
theorem Rep.recell {C : Ctx} {ρ : Rho} {E : Env} {M : Mem} {a : Act} {w : World} (h : Rep C ρ ⟨E, M⟩ a w) {j es : Nat} {rw : Bool} {cs cs' : List Value} (hj : M j = some ⟨cs, rw, es⟩) (hl : cs'.length = cs.length)
    (hc : ∀ (k : Nat) (v' : Value), cs'[k]? = some v' → ∃ v, cs[k]? = some v ∧ ∀ u, VR .real (dom M) ρ v u → VR .real (dom M) ρ v' u) : Rep C ρ ⟨E, upd M j ⟨cs', rw, es⟩⟩ a w := by
  have hdom : dom (upd M j ⟨cs', rw, es⟩) = dom M := by
    funext i
    simp only [dom, upd, eq_iff_iff]
    by_cases hi : i = j
    · subst hi; simp [hj]
    · simp [hi]
  have hown : ∀ p, Blk.own p ⟨cs', rw, es⟩ → Blk.own p ⟨cs, rw, es⟩ := fun p hp => hp
  have hsol : ∀ p, Blk.solid p ⟨cs', rw, es⟩ → Blk.solid p ⟨cs, rw, es⟩ := fun p hp => by
    rcases hp with hp | hp
    · exact .inl hp
    · refine .inr fun e => hp ?_
      simp only at e ⊢
      subst e
      exact List.eq_nil_of_length_eq_zero hl
  have hget : ∀ i b', upd M j ⟨cs', rw, es⟩ i = some b' → ∃ b, M i = some b ∧ b.es = b'.es ∧ b.cells.length = b'.cells.length ∧ (∀ p, Blk.own p b' → Blk.own p b) ∧ (∀ p, Blk.solid p b' → Blk.solid p b) ∧
      ∀ (k : Nat) (v' : Value), b'.cells[k]? = some v' → ∃ v, b.cells[k]? = some v ∧ ∀ u, VR .real (dom M) ρ v u → VR .real (dom M) ρ v' u := by
    intro i b' hb'
    simp only [upd] at hb'
    by_cases hi : i = j
    · rw [if_pos hi] at hb'; cases hb'; subst hi
      exact ⟨_, hj, rfl, hl.symm, hown, hsol, hc⟩
    · rw [if_neg hi] at hb'
      exact ⟨b', hb', rfl, rfl, fun _ h => h, fun _ h => h, fun k v' hk => ⟨v', hk, fun _ h => h⟩⟩
  refine ⟨h.size, h.defers, fun t v hv => by rw [hdom]; exact h.env t v hv, fun i b' hb' => ?_, h.agree, fun i hi => ?_, fun i b' hb' hr => ?_, h.frame, fun d hd => ⟨(h.im d hd).lt, (h.im d hd).cells, fun hne i b' hb' hr => ?_⟩, h.imsub, h.imnew, h.gl⟩
  · obtain ⟨b, hb, q1, q2, q3, q4, q5⟩ := hget i b' hb'
    have hB := h.mem i b hb
    refine ⟨fun hs => hB.lt (q4 _ hs), fun k v' hk => ?_, fun hr => ?_, by rw [hB.es, q1], fun L hL => by rw [← q2]; exact hB.room L hL⟩
    · obtain ⟨v, hv, hu⟩ := q5 k v' hk
      obtain ⟨u, e1, e2⟩ := hB.cells k v hv
      exact ⟨u, e1, by rw [hdom]; exact hu u e2⟩
    · have hW := hB.rw (q3 _ hr)
      refine ⟨hW.off, hW.soft, hW.lim, fun k bk hk hs hne => ?_⟩
      obtain ⟨b2, hb2, _, _, _, r4, _⟩ := hget k bk hk
      exact hW.lone k b2 hb2 (r4 _ hs) hne
  · have := h.low i hi
    change dom M i at this
    show dom (upd M j ⟨cs', rw, es⟩) i
    rw [hdom]; exact this
  · obtain ⟨b, hb, _, _, q3, _⟩ := hget i b' hb'
    exact h.own i b hb (q3 _ hr)
  · obtain ⟨b, hb, _, _, q3, _⟩ := hget i b' hb'
    exact (h.im d hd).own hne i b hb (q3 _ hr)
theorem run_fnNil' (d : Nat) {P : Program} {t : TypeId} {a b : Array TypeId} {c : Bool} {f : FuncId} (h : P.underlying t = some (.func a b c)) (w : World) : (Op.equalIn (d + 1) t (.func (.func f) #[] #[]) .nilFunc).run P w = .ok false w := by
  simp [Op.equalIn, run_underlying h]
theorem run_nilFnNil' (d : Nat) {P : Program} {t : TypeId} {a b : Array TypeId} {c : Bool} (h : P.underlying t = some (.func a b c)) (w : World) : (Op.equalIn (d + 1) t .nilFunc .nilFunc).run P w = .ok true w := by
  simp [Op.equalIn, run_underlying h]
theorem PureOp.fnNeNil {P : Program} {E : Env} {t t' : TypeId} {a b : Array TypeId} {c : Bool} {f : FuncId} {x y : Operand} (hu : P.underlying t = some (.func a b c)) (h1 : aev E x = some (.func (.func f) #[] #[])) (h2 : aev E y = some .nilFunc) :
    PureOp P (.binOp .neq t x y t') E (.bool true) := fun D ρ e hx => by
  have e1 := flat_inv (hx x (by simp [Op.operands]) _ h1) rfl
  have e2 := flat_inv (hx y (by simp [Op.operands]) _ h2) rfl
  have e3 : ∀ w, (Op.equal t (.func (.func f) #[] #[]) .nilFunc).run P w = .ok false w := fun w => run_fnNil' 9999 hu w
  exact ⟨_, .flat _ rfl, fun _ _ _ _ _ w => by simp [execOp, e1, e2, eqGuard, binOp, e3]⟩
theorem PureOp.nilFnNeNil {P : Program} {E : Env} {t t' : TypeId} {a b : Array TypeId} {c : Bool} {x y : Operand} (hu : P.underlying t = some (.func a b c)) (h1 : aev E x = some .nilFunc) (h2 : aev E y = some .nilFunc) :
    PureOp P (.binOp .neq t x y t') E (.bool false) := fun D ρ e hx => by
  have e1 := flat_inv (hx x (by simp [Op.operands]) _ h1) rfl
  have e2 := flat_inv (hx y (by simp [Op.operands]) _ h2) rfl
  have e3 : ∀ w, (Op.equal t .nilFunc .nilFunc).run P w = .ok true w := fun w => run_nilFnNil' 9999 hu w
  exact ⟨_, .flat _ rfl, fun _ _ _ _ _ w => by simp [execOp, e1, e2, eqGuard, binOp, e3]⟩
section
variable {P : Program} {T : Tab} (H : TabOk P T)
variable {ops : Array Oper} {k i : Nat} {os : List Oper} {E : Env} {M : Mem} {D : List Eff → Prop} {K : ASt → Prop}
  {d : Tmp} {ty : TypeId} {ps : String} {af : Array Edge} {g : Option (Nat × Bool)}
include H
end
section
variable {P : Program} {E : Env}
theorem FStep.buildSliceG {M : Mem} {d : Option Tmp} {ty : TypeId} {ps : String} {af : Array Edge} {g : Option (Nat × Bool)} {t e : TypeId} {len sz : Nat} {parts : Array (Nat × Operand)} {z : Value} {bl : List Value} (id : Nat) (vals : List (Nat × Value)) {out : List Value}
    (hu : P.underlying t = some (.slice e)) (hs : (P.info? e).map (·.size) = some sz) (hz : (P.info? e).map (·.zero) = some (some z)) (hzc : ((List.range (len * sz)).map fun i => z.cells[i % z.cells.size]!) = bl) (hc : bl.all flatV = true) (hle : len * sz ≤ 16777216)
    (hp : parts.toList.map (fun p => (p.1, aev E p.2)) = vals.map (fun p => (p.1, some p.2))) (hf : fillL (fun i => some (i * sz, sz)) bl vals = some out) :
    FStep P ⟨d, .buildSlice t len parts, ty, ps, af, g⟩ E M (.slice (some ⟨id, 0, none⟩) len 0) ⟨[], [(id, ⟨out, true, sz⟩)]⟩ := by
  intro E' M' h1 _ h3 C ρ ac w hR
  have hid : M' id = none := h3 _ (List.mem_singleton_self _) (by simp)
  have hmem : ∀ p ∈ parts.toList, p.2 ∈ (Op.buildSlice t len parts).operands := fun p hp => by simp only [Op.operands, List.mem_toArray, List.mem_map]; exact ⟨p, hp, rfl⟩
  obtain ⟨out', f1, f2⟩ := fill_rel (D := dom M') (ρ := ρ) (ev := ac.eval) parts.toList vals (rs := bl.toArray) (fun p hp v' hv => hR.eval (by rw [h1 p.2 (hmem p hp)]; exact hv)) hp
    ⟨by simp, fun k x y a1 a2 => by
      have a2' : bl[k]? = some y := by simpa using a2
      rw [a1] at a2'; cases a2'
      exact .flat _ (List.all_eq_true.1 hc x (List.mem_of_getElem? a1))⟩ hf
  have hlen : ∀ (vals : List (Nat × Value)) (cs out : List Value) (place : Nat → Option (Nat × Nat)), fillL place cs vals = some out → out.length = cs.length := by
    intro vals
    induction vals with
    | nil => intro cs out place h; simp only [fillL, Option.some.injEq] at h; rw [h]
    | cons p r ih =>
      intro cs out place h
      obtain ⟨i, v⟩ := p
      simp only [fillL] at h
      split at h
      · cases h
      · split at h
        · cases h
        · rw [ih _ _ _ h, setL_length]
  have hol : out.length = len * sz := by rw [hlen _ _ _ _ hf, ← hzc]; simp
  have hol' : out'.size = len * sz := by rw [← hol, f2.1]; simp
  obtain ⟨ρ', hR', hρ, _⟩ := hR.alloc hid (cells := out) (rcells := out') (elem := e) sz (by rw [hol, hol']; exact Nat.le_refl _) (fun k y u a1 a2 => f2.2 k y u a1 (by simpa using a2))
  unfold StepTo Oper.wp
  have : (execOp ac.eval ⟨d, .buildSlice t len parts, ty, ps, af, g⟩).run P w = .ok (.value (.slice (some ⟨w.heap.size, 0, none⟩) len len)) (pushW w (.cells out' e)) := by
    have hpt : (parts.map fun p => (p.1, ac.eval p.2)).toList = parts.toList.map fun p => (p.1, ac.eval p.2) := by simp
    have hng : ¬ len * sz > 16777216 := by omega
    simp only [execOp, Instr.buildSlice, Sem.run_bind, run_underlying hu, Result.andThen_ok, run_size hs, show (2 : Nat) ^ 24 = 16777216 from rfl, if_neg hng]
    by_cases hz0 : len * sz = 0
    · have h9 : out' = #[] := Array.eq_empty_of_size_eq_zero (by rw [hol', hz0])
      have f1' : Instr.fill (fun i => some (i * sz, sz)) #[] (parts.map fun p => (p.1, ac.eval p.2)).toList = some out' := by
        rw [hpt]; rw [hz0] at hzc; rw [← hzc] at f1; exact f1
      have h8 : ∀ f : Nat → Value, (Array.range 0).map f = #[] := fun f => by
        rw [show Array.range 0 = #[] from rfl]; exact Array.map_empty
      simp only [hz0, Sem.run_pure, h8, f1']
      simp [newRow, pushW]
    · have hm : ((Array.range (len * sz)).map fun i => z.cells[i % z.cells.size]!) = bl.toArray := by rw [← hzc]; apply Array.toList_inj.1; simp
      have f1' : Instr.fill (fun i => some (i * sz, sz)) ((Array.range (len * sz)).map fun i => z.cells[i % z.cells.size]!) (parts.map fun p => (p.1, ac.eval p.2)).toList = some out' := by
        rw [hpt, hm]; exact f1
      simp only [if_neg hz0, Sem.run_bind, run_zero hz, Result.andThen_ok, Sem.run_pure, f1']
      simp [newRow, pushW]
  rw [this]
  refine ⟨_, rfl, ρ', hR', ?_⟩
  have := VR.slice (m := .real) (ρ := ρ') (D := dom (upds M' [(id, ⟨out, true, sz⟩)])) id 0 len len dom_upd (by simp) (fun _ => ⟨Nat.le_refl _, fun L hL => by
    rw [hρ] at hL ⊢
    simp only [Option.some.injEq] at hL
    simp only; omega⟩)
  rw [hρ] at this
  exact this
end
section
variable {P : Program} {T : Tab} (H : TabOk P T)
variable {ops : Array Oper} {n i : Nat} {os : List Oper} {E : Env} {M : Mem} {D : List Eff → Prop} {K : ASt → Prop}
  {d : Tmp} {ty : TypeId} {ps : String} {af : Array Edge} {g : Option (Nat × Bool)}
include H
theorem AWo.buildSliceG {t e : TypeId} {len sz : Nat} {parts : Array (Nat × Operand)} {z : Value} {bl : List Value} (id : Nat) (vals : List (Nat × Value)) {out : List Value}
    (ht : T.sl.lookup t = some e) (hs : T.sz.lookup e = some sz) (hz : T.zero.lookup e = some z) (hzc : ((List.range (len * sz)).map fun i => z.cells[i % z.cells.size]!) = bl) (hc : bl.all flatV = true) (hle : len * sz ≤ 16777216)
    (hp : parts.toList.map (fun p => (p.1, aev E p.2)) = vals.map (fun p => (p.1, some p.2))) (hf : fillL (fun i => some (i * sz, sz)) bl vals = some out) (hid : M id = none)
    (hw : wantA ops E ⟨some d, .buildSlice t len parts, ty, ps, af, g⟩ = some true) (hd : Nat.blt d n = true)
    (hr : AWo P ops n (i + 1) os ⟨upd E d (.slice (some ⟨id, 0, none⟩) len 0), upd M id ⟨out, true, sz⟩⟩ (fun es' => D (⟨[], [(id, ⟨out, true, sz⟩)]⟩ :: es')) K) :
    AWo P ops n i (⟨some d, .buildSlice t len parts, ty, ps, af, g⟩ :: os) ⟨E, M⟩ D K :=
  AWo.step (FStep.buildSliceG id vals (H.sl t _ ht) (H.sz e _ hs) (H.zero e _ hz) hzc hc hle hp hf) hw hd (fun p hp _ => by simp at hp; subst hp; exact hid) hr
end
end Go.Proofs.YtlfadlfjjkppfaaGreatDoor.Sim
namespace Go.Proofs.YtlfadlfjjkppfaaGreatDoor.Sim
open Go
section
variable {P : Program} {T : Tab} (H : TabOk P T) {ops : Array Oper} {k i : Nat} {os : List Oper} {E : Env} {M : Mem} {D : List Eff → Prop} {K : ASt → Prop}
  {d : Tmp} {ty : TypeId} {ps : String} {af : Array Edge} {g : Option (Nat × Bool)}
include H
end
theorem AW.recell {P : Program} {n m : Nat} {c : Code} {E : Env} {M : Mem} {Q : Exit → ASt → Prop} (j : Nat) {es : Nat} {rw : Bool} {cs : List Value} (cs' : List Value) (hj : M j = some ⟨cs, rw, es⟩) (hl : cs'.length = cs.length)
    (hc : ∀ (k : Nat) (v' : Value), cs'[k]? = some v' → ∃ v, cs[k]? = some v ∧ ∀ D ρ u, VR .real D ρ v u → VR .real D ρ v' u) (h : AW P n m c ⟨E, upd M j ⟨cs', rw, es⟩⟩ Q) : AW P n m c ⟨E, M⟩ Q := by
  intro C hC hm ρ a w hR
  exact h C hC hm ρ a w (hR.recell hj hl fun k v' hv => by obtain ⟨v, h1, h2⟩ := hc k v' hv; exact ⟨v, h1, fun u hu => h2 _ _ u hu⟩)
end Go.Proofs.YtlfadlfjjkppfaaGreatDoor.Sim
namespace Go.Proofs.YtlfadlfjjkppfaaGreatDoor.Sim
open Go
theorem Rep.exposeV {C : Ctx} {ρ : Rho} {E : Env} {M : Mem} {a : Act} {w : World} (h : Rep C ρ ⟨E, M⟩ a w) {id n es : Nat} {cells : List Value} {u : Value} (hv : VR .real (dom M) ρ (deep n es cells) u) (hid : M id = none) :
    ∃ ρ', Rep C ρ' ⟨E, upd M id ⟨cells, false, es⟩⟩ a w ∧ VR .real (dom (upd M id ⟨cells, false, es⟩)) ρ' (.slice (some ⟨id, 0, none⟩) n 0) u := by
  obtain ⟨p, hpu, hlt, hcell, hpe, hpl⟩ : ∃ p : Pl, ((∃ c, u = .slice (some ⟨p.blk, p.off, none⟩) n c ∧ n ≤ c) ∨ (n = 0 ∧ (u = .slice none 0 0 ∨ ∃ a0, u = .slice (some a0) 0 0))) ∧ (cells ≠ [] → p.blk < w.heap.size) ∧
      (∀ k v, cells[k]? = some v → ∃ x, w.cell? ⟨p.blk, p.off + k, none⟩ = some x ∧ VR .real (fun _ => False) ρ v x) ∧ p.es = es ∧ p.lim = none := by
    unfold deep at hv
    cases hv with
    | flat _ hf => simp [flatV] at hf
    | iface _ _ _ ht' => exact absurd rfl ht'
    | deepA _ _ _ hm => exact absurd rfl hm
    | deepR _ _ c o _ d hm hd hn hcs ho hc =>
      have hd' := h.im d hd
      simp only [List.size_toArray] at hcs ho hn
      have hne : cells ≠ [] → d.cells ≠ [] := fun h1 e => by
        rw [e] at ho
        exact h1 (List.length_eq_zero_iff.1 (by simp only [List.length_nil] at ho; omega))
      refine ⟨⟨d.blk, d.off + o, none, es⟩, .inl ⟨c, rfl, hc⟩, fun h1 => hd'.lt (hne h1), fun k v hk => ?_, rfl, rfl⟩
      have h1 : d.cells[o + k]? = some v := by
        have h2 : ((d.cells.drop o).take cells.length)[k]? = some v := by rw [hcs]; exact hk
        have hk' : k < cells.length := (List.getElem?_eq_some_iff.1 hk).1
        rwa [List.getElem?_take, if_pos hk', List.getElem?_drop] at h2
      obtain ⟨x, g1, g2⟩ := hd'.cells _ v h1
      exact ⟨x, by rw [Nat.add_assoc]; exact g1, g2⟩
    | deepN =>
      exact ⟨⟨0, 0, none, es⟩, .inr ⟨rfl, .inl rfl⟩, fun h1 => absurd rfl h1, fun k v hk => by simp at hk, rfl, rfl⟩
    | deepE _ a0 c _ ha =>
      by_cases hs : a0.spot = none
      · obtain ⟨bb, oo, ss⟩ := a0
        simp only at hs; subst hs
        exact ⟨⟨bb, oo, none, es⟩, .inl ⟨c, rfl, Nat.zero_le _⟩, fun h1 => absurd rfl h1, fun k v hk => by simp at hk, rfl, rfl⟩
      · obtain rfl := ha.resolve_left hs
        exact ⟨⟨0, 0, none, es⟩, .inr ⟨rfl, .inr ⟨a0, rfl⟩⟩, fun h1 => absurd rfl h1, fun k v hk => by simp at hk, rfl, rfl⟩
  let ρ' : Rho := ⟨fun i => if i = id then p else ρ i, ρ.im⟩
  have hne : ∀ i, i ≠ id → ρ' i = ρ i := fun i hi => by simp only [ρ', hi, if_false]
  have hid' : ρ' id = p := by simp only [ρ', if_true]
  have hold : ∀ i, dom M i → ρ' i = ρ i := by
    rintro i ⟨b, hb⟩
    refine hne i fun e => ?_
    rw [e, hid] at hb; cases hb
  have hdom : ∀ i, dom M i → dom (upd M id ⟨cells, false, es⟩) i := by
    rintro i ⟨b, hb⟩
    by_cases hi : i = id
    · exact ⟨⟨cells, false, es⟩, by simp only [upd, hi, if_true]⟩
    · exact ⟨b, by simp only [upd, hi, if_false]; exact hb⟩
  have hdid : dom (upd M id ⟨cells, false, es⟩) id := ⟨⟨cells, false, es⟩, by simp only [upd, if_true]⟩
  refine ⟨ρ', ⟨h.size, h.defers, fun t' v hv' => ?_, fun i b hb => ?_, fun i hi => ?_, fun i hi => hdom i (h.low i hi), fun i b hb hr => ?_, h.frame, fun d hd => ⟨(h.im d hd).lt, fun k v hk => ?_, fun hc i b hb hr => ?_⟩, h.imsub, h.imnew, h.gl⟩, ?_⟩
  · obtain ⟨x, hx, hr⟩ := h.env t' v hv'
    exact ⟨x, hx, hr.mono hdom hold fun _ h => h⟩
  · simp only [upd] at hb
    by_cases hi : i = id
    · rw [if_pos hi] at hb; cases hb
      subst hi
      refine ⟨fun hs => by rw [hid']; exact hlt (hs.resolve_left fun h => by cases h.1), fun k v hk => ?_, (fun hr => by cases hr.1), by rw [hid']; exact hpe, fun L hL => by rw [hid', hpl] at hL; cases hL⟩
      obtain ⟨x, g1, g2⟩ := hcell k v hk
      exact ⟨x, by rw [hid']; exact g1, g2.closed fun _ h => h⟩
    · rw [if_neg hi] at hb
      have hB := h.mem i b hb
      refine ⟨fun hs => by rw [hne i hi] at hs ⊢; exact hB.lt hs, fun k v hk => ?_, fun hr => ?_, by rw [hne i hi]; exact hB.es, by rw [hne i hi]; exact hB.room⟩
      · obtain ⟨x, hx, hv'⟩ := hB.cells k v hk
        exact ⟨x, by rw [hne i hi]; exact hx, hv'.mono hdom hold fun _ h => h⟩
      · rw [hne i hi] at hr
        have hW := hB.rw hr
        refine ⟨by rw [hne i hi]; exact hW.off, by rw [hne i hi]; exact hW.soft, by rw [hne i hi]; exact hW.lim, fun j bj hj hsj hne' => ?_⟩
        simp only [upd] at hj
        by_cases hji : j = id
        · rw [if_pos hji] at hj; cases hj
          rw [hji, hid', hne i hi]
          have hc : cells ≠ [] := hsj.resolve_left fun h => by cases h.1
          intro e
          unfold deep at hv
          cases hv with
          | flat _ hf => simp [flatV] at hf
          | iface _ _ _ ht' => exact absurd rfl ht'
          | deepA _ _ _ hm => exact absurd rfl hm
          | deepR _ _ c o _ d hm hd hn hcs ho hc' =>
            simp only [List.size_toArray] at ho
            have hdne : d.cells ≠ [] := fun e' => by
              rw [e'] at ho
              exact hc (List.length_eq_zero_iff.1 (by simp only [List.length_nil] at ho; omega))
            have := (h.im d hd).own hdne i b hb hr
            rcases hpu with ⟨c2, h2, _⟩ | ⟨hn0, h2 | ⟨_, h2⟩⟩
            · simp only [Value.slice.injEq, Option.some.injEq, Addr.mk.injEq] at h2
              exact this (by rw [h2.1.1]; exact e.symm)
            · cases h2
            · exfalso
              simp only [List.size_toArray] at hn
              rw [hn0, Nat.zero_mul] at hn
              exact hc (List.length_eq_zero_iff.1 hn.symm)
          | deepN => exact hc rfl
          | deepE => exact hc rfl
        · rw [if_neg hji] at hj
          rw [hne j hji] at hsj
          rw [hne i hi, hne j hji]
          exact hW.lone j bj hj hsj hne'
  · obtain ⟨b, hb⟩ := h.low i hi
    rw [hold i ⟨b, hb⟩]; exact h.agree i hi
  · simp only [upd] at hb
    by_cases hi : i = id
    · rw [if_pos hi] at hb; cases hb; cases hr.1
    · rw [if_neg hi] at hb
      rw [hne i hi] at hr ⊢; exact h.own i b hb hr
  · obtain ⟨x, g1, g2⟩ := (h.im d hd).cells k v hk
    exact ⟨x, g1, g2.closed fun _ h => h⟩
  · simp only [upd] at hb
    by_cases hi : i = id
    · rw [if_pos hi] at hb; cases hb; cases hr.1
    · rw [if_neg hi] at hb
      rw [hne i hi] at hr ⊢; exact (h.im d hd).own hc i b hb hr
  · rcases hpu with ⟨c, rfl, hc⟩ | ⟨rfl, rfl | ⟨a0, rfl⟩⟩
    · have := VR.slice (m := .real) (ρ := ρ') (D := dom (upd M id ⟨cells, false, es⟩)) id 0 n c hdid (by simp) (fun _ => ⟨hc, fun L hL => by rw [hid', hpl] at hL; cases hL⟩)
      rw [hid', Nat.add_zero] at this
      exact this
    · exact .nilS _ (by simp)
    · exact .zeroS _ a0 rfl
theorem FStep.exposed {P : Program} {o : Oper} {E : Env} {M : Mem} {id n es : Nat} {cells : List Value} {fp : List Nat} (h : FStep P o E M (deep n es cells) ⟨fp, []⟩) (hid : id ∉ fp) :
    FStep P o E M (.slice (some ⟨id, 0, none⟩) n 0) ⟨fp, [(id, ⟨cells, false, es⟩)]⟩ := by
  intro E' M' h1 h2 h3 C ρ a w hR
  have hn : M' id = none := h3 (id, ⟨cells, false, es⟩) (List.mem_singleton_self _) hid
  refine Oper.wp_mono (K := fun a' w' => ∃ u, a' = a.put o.dst u ∧ ∃ ρ', Rep C ρ' ⟨E', M'⟩ a w' ∧ VR .real (dom M') ρ' (deep n es cells) u)
    (fun a' w' ⟨u, ha, ρ', hR', hv⟩ => ⟨u, ha, hR'.exposeV hv hn⟩) (h E' M' h1 h2 (fun p hp => by cases hp) C ρ a w hR)
section
variable {P : Program} {T : Tab} (H : TabOk P T) {ops : Array Oper} {k i : Nat} {os : List Oper} {E : Env} {M : Mem} {D : List Eff → Prop} {K : ASt → Prop}
  {d : Tmp} {ty : TypeId} {ps : String} {af : Array Edge} {g : Option (Nat × Bool)}
include H
theorem AWo.loadX {t : TypeId} {a : Operand} {id o : Nat} {b : Blk} {n es : Nat} {cells : List Value} (nid : Nat) (ha : aev E a = some (.pointer (some ⟨id, o, none⟩))) (hb : M id = some b) (ht : T.agg.lookup t = some false)
    (hv : b.cells[o]? = some (deep n es cells)) (hid : M nid = none) (hw : wantA ops E ⟨some d, .load t a, ty, ps, af, g⟩ = some true) (hd : Nat.blt d k = true)
    (hr : AWo P ops k (i + 1) os ⟨upd E d (.slice (some ⟨nid, 0, none⟩) n 0), upd M nid ⟨cells, false, es⟩⟩ (fun es' => D (⟨[id], [(nid, ⟨cells, false, es⟩)]⟩ :: es')) K) :
    AWo P ops k i (⟨some d, .load t a, ty, ps, af, g⟩ :: os) ⟨E, M⟩ D K :=
  AWo.step (FStep.exposed (FStep.load ha hb (H.agg t _ ht).1 (H.agg t _ ht).2 hv) (fun h => by
    simp only [List.mem_singleton] at h
    rw [h, hb] at hid; cases hid)) hw hd (fun p hp _ => by simp at hp; subst hp; exact hid) hr
end
end Go.Proofs.YtlfadlfjjkppfaaGreatDoor.Sim
namespace Go.Proofs.YtlfadlfjjkppfaaGreatDoor.Sim
open Go
section
variable {P : Program}
theorem PureOp.neArr {E : Env} {x y : Operand} {t t' e : TypeId} {k : IntKind} {n : Nat} {l l' : List Nat} (h1 : aev E x = some (.agg (l.map (vi k)).toArray)) (h2 : aev E y = some (.agg (l'.map (vi k)).toArray))
    (hg : P.eqGuardType P.depth t = false) (hu : P.underlying t = some (.array n e)) (he : P.underlying e = some (.int k)) (hsz : (P.info? e).map (·.size) = some 1) (hc : P.cellsOf e = 1) (hl : l.length = n) (hl' : l'.length = n) :
    PureOp P (.binOp .neq t x y t') E (.bool (!decide (l = l'))) := fun D ρ ev hx => by
  have e1 := flat_pure_inv (hx x (by simp [Op.operands]) _ h1) (pure_aggM flat_vi)
  have e2 := flat_pure_inv (hx y (by simp [Op.operands]) _ h2) (pure_aggM flat_vi)
  refine ⟨_, .flat _ rfl, fun _ _ _ _ _ w => ?_⟩
  have hr : (Op.equal t (.agg (l.map (vi k)).toArray) (.agg (l'.map (vi k)).toArray)).run P w = .ok (decide (l = l')) w := run_eqArr 9998 hu he hsz hc hl hl' w
  simp [execOp, e1, e2, eqGuard, hg, binOp, hr]
theorem PureOp.neStr {E : Env} {t t' : TypeId} {x y : Operand} {a : ByteArray} (h1 : aev E x = some (.string a)) (h2 : aev E y = some (.string a)) : PureOp P (.binOp .neq t x y t') E (.bool false) := fun D ρ ev hx => by
  have e1 := flat_inv (hx x (by simp [Op.operands]) _ h1) rfl
  have e2 := flat_inv (hx y (by simp [Op.operands]) _ h2) rfl
  refine ⟨_, .flat _ rfl, fun _ _ _ _ _ w => ?_⟩
  simp [execOp, e1, e2, eqGuard, binOp, Op.stringOp]
end
end Go.Proofs.YtlfadlfjjkppfaaGreatDoor.Sim
namespace Go.Proofs.YtlfadlfjjkppfaaGreatDoor.Sim
open Go
def GF (r : Option Nat) : Fence := { Fence.wide with round := r }
def nd (o : Oper) : Bool := match o.op with
  | .defer _ => false
  | _ => true
theorem nd_of {ops : Array Oper} (h : ops.toList.all nd = true) {i : Nat} {o : Oper} (hi : ops[i]? = some o) : nd o = true := by
  exact List.all_eq_true.1 h o (Array.mem_toList_iff.2 (Array.mem_of_getElem? hi))
theorem calls_gf {r : Option Nat} {P : Program} {f : FuncId} {args : Array Value} {w : World} {R : Ending → World → Prop} (h : Calls P f args w R) : CallsIn (GF r) 0 P f args w R :=
  (callsIn_wide (n := 0)).2 h
theorem rows_gf {r : Option Nat} {P : Program} {row : String} {args : Array Value} {w : World} {R : Value → World → Prop} (h : Rows P row args w R) : RowsIn (GF r) 0 P row args w R :=
  fun c cs _ => let ⟨v, w', hr, s⟩ := h c cs; ⟨v, w', hr, (stepsIn_wide (P := P)).2 s⟩
theorem put_ds (a : Act) (d : Option Tmp) (u : Value) : (a.put d u).defers = a.defers := by cases d <;> rfl
theorem put_clear (a : Act) (d : Option Tmp) (u : Value) : ({ a.put d u with defers := [] } : Act) = ({ a with defers := [] } : Act).put d u := by cases d <;> rfl
theorem wp_gf {P : Program} {o : Oper} {a : Act} {w : World} {R : Value → World → Prop} (hnd : nd o = true) (h : StepTo P o { a with defers := [] } w R) {r : Option Nat} {K : Act → World → Prop} {Q : Exit → Act → World → Prop}
    (hK : ∀ u w', R u w' → K (a.put o.dst u) w') : o.wpIn (GF r) 0 P a w K Q := by
  have hput : ∀ v u, ({ a with defers := [] } : Act).put o.dst v = ({ a with defers := [] } : Act).put o.dst u → a.put o.dst v = a.put o.dst u := by
    intro v u e
    cases hd : o.dst with
    | none => rfl
    | some t =>
      rw [hd] at e
      simp only [Act.put, Act.mk.injEq, and_true] at e ⊢
      exact e
  refine ⟨fun _ _ => trivial, ?_⟩
  rw [Oper.semAt_eq _ _ _ (fun c hc => by simp [nd, hc] at hnd)]
  unfold StepTo Oper.wp at h
  have he : ({ a with defers := [] } : Act).eval = a.eval := rfl
  rw [he] at h
  generalize (execOp a.eval o).run P w = res at h ⊢
  cases res with
  | ok x w' =>
    cases x with
    | value v => obtain ⟨u, e, hr⟩ := h; simp only [Oper.uponIn]; rw [hput v u e]; exact hK u w' hr
    | skip => obtain ⟨u, e, hr⟩ := h; simp only [Oper.uponIn]; rw [hput _ u e]; exact hK u w' hr
    | defer d =>
      obtain ⟨u, e, _⟩ := h
      have := congrArg Act.defers e
      rw [put_ds, put_ds] at this
      simp at this
    | enter f args =>
      refine ⟨fun hh => by simp [GF, Fence.wide] at hh, calls_gf (Calls.mono h ?_)⟩
      rintro e w'' he
      cases e with
      | returned v => obtain ⟨u, e, hr⟩ := he; show K (a.put o.dst v) w''; rw [hput v u e]; exact hK u w'' hr
      | panicked c => exact he.elim
      | outgrown => obtain ⟨_, _, hf⟩ := he; exact hf.elim
    | row row args =>
      refine ⟨fun hh => by simp [GF, Fence.wide] at hh, rows_gf (Rows.mono h ?_)⟩
      rintro v w'' ⟨u, e, hr⟩
      rw [hput v u e]; exact hK u w'' hr
    | _ => exact h.elim
  | halt x w' => cases x <;> exact h.elim
def RepD (ds : List Deferred) (C : Ctx) (ρ : Rho) (σ : ASt) (a : Act) (w : World) : Prop := a.defers = ds ∧ Rep C ρ σ { a with defers := [] } w
theorem Rep.toD {C : Ctx} {ρ : Rho} {σ : ASt} {a : Act} {w : World} (h : Rep C ρ σ a w) : RepD [] C ρ σ a w := by
  refine ⟨h.defers, ?_⟩
  have : ({ a with defers := [] } : Act) = a := by have := h.defers; cases a; cases this; rfl
  rw [this]; exact h
theorem RepD.toR {C : Ctx} {ρ : Rho} {σ : ASt} {a : Act} {w : World} (h : RepD [] C ρ σ a w) : Rep C ρ σ a w := by
  have : ({ a with defers := [] } : Act) = a := by have := h.1; cases a; cases this; rfl
  have h2 := h.2
  rw [this] at h2; exact h2
theorem One.realX {P : Program} {ops : Array Oper} {n : Nat} {o : Oper} {e : Eff} {σ : ASt} {v : Value} (h : One P ops n o e σ v) (hnd : nd o = true) {C : Ctx} {ρ : Rho} {a : Act} {w : World} {ds : List Deferred}
    (hR : RepD ds C ρ σ a w) (hn : C.n = n) {i : Nat} (hi : ops[i]? = some o) {r : Option Nat} {Q : Exit → Act → World → Prop} {K : Act → World → Prop}
    (hK : ∀ u ρ' w', RepD ds C ρ' (σ.step o v e) (a.put o.dst u) w' → K (a.put o.dst u) w') : wpOpIn (GF r) 0 P ops Q i K a w := by
  unfold wpOpIn
  simp only [hi]
  have hstep : ∀ u ρ' w', Rep C ρ' (σ.step o v e) (({ a with defers := [] } : Act).put o.dst u) w' → RepD ds C ρ' (σ.step o v e) (a.put o.dst u) w' := fun u ρ' w' h => ⟨by rw [put_ds]; exact hR.1, by rw [put_clear]; exact h⟩
  rcases h.2 with ⟨hw, hf, hnw⟩ | ⟨hw, rfl, he⟩
  · rw [if_pos (show Region.wanted o (yielded ops a.tmps) = true from want_real hR.2 hw)]
    exact wp_gf hnd (hf σ.env σ.mem (fun _ _ => rfl) (fun _ _ => rfl) hnw C ρ _ w hR.2) fun u w' ⟨ρ', hR', hv⟩ => hK u ρ' w' (hstep u ρ' w' (hR'.put (fun t ht => by rw [hn]; exact h.1 t ht) hv))
  · rw [if_neg (by rw [show Region.wanted o (yielded ops a.tmps) = false from want_real hR.2 hw]; simp)]
    refine ⟨fun _ _ => trivial, hK undef ρ w (hstep _ _ _ ?_)⟩
    have := hR.2.put (d := o.dst) (v := undef) (u := undef) (fun t ht => by rw [hn]; exact h.1 t ht) (.flat _ rfl)
    simp only [ASt.step, he, upds]
    exact this
theorem wpOpsIn_of_run {P : Program} {ops : Array Oper} {n : Nat} {Q : Exit → Act → World → Prop} {C : Ctx} {ds : List Deferred} {r : Option Nat} (hn : C.n = n) {σ' : ASt} {rest : List Nat} (hnds : ops.toList.all nd = true) (T : Act → Prop)
    (hQ : ∀ ρ a w, RepD ds C ρ σ' a w → T a → wpOpsIn (GF r) 0 P ops Q rest a w) :
    ∀ (L : List (Nat × Oper × Eff)) {σ : ASt}, (∀ x ∈ L, ops[x.1]? = some x.2.1) → (∀ x ∈ L, ∀ a u, T a → T (a.put x.2.1.dst u)) → ARun P ops n L σ σ' →
      ∀ ρ a w, RepD ds C ρ σ a w → T a → wpOpsIn (GF r) 0 P ops Q (L.map (·.1) ++ rest) a w
  | [], σ, _, _, h, ρ, a, w, hR, hT => by cases h; exact hQ ρ a w hR hT
  | (i, o, e) :: l, σ, hi, hTs, h, ρ, a, w, hR, hT => by
    cases h with
    | cons v h1 hr =>
      rw [List.map_cons, List.cons_append, wpOpsIn_cons]
      have hio := hi _ (List.mem_cons_self ..)
      exact h1.realX (nd_of hnds hio) hR hn hio fun u ρ' w' hR' =>
        wpOpsIn_of_run hn hnds T hQ l (fun x hx => hi x (List.mem_cons_of_mem _ hx)) (fun x hx => hTs x (List.mem_cons_of_mem _ hx)) hr ρ' _ w' hR' (hTs _ (List.mem_cons_self ..) a u hT)
def RQX (ds : List Deferred) (C : Ctx) (Q : Exit → ASt → Prop) : Exit → Act → World → Prop := fun e a w => ∃ ρ σ, RepD ds C ρ σ a w ∧ Q e σ
def AWX (P : Program) (n m : Nat) (c : Code) (σ : ASt) (Q : Exit → ASt → Prop) : Prop :=
  ∀ r ds, ∀ C : Ctx, C.n = n → C.m = m → ∀ ρ a w, RepD ds C ρ σ a w → c.wpIn (GF r) 0 P (RQX ds C Q) a w
section rules
variable {P : Program} {n m : Nat} {σ : ASt} {Q : Exit → ASt → Prop}
theorem AWX.mono {c : Code} {Q' : Exit → ASt → Prop} (h : AWX P n m c σ Q') (hq : ∀ e σ, Q' e σ → Q e σ) : AWX P n m c σ Q :=
  fun r ds C hn hm ρ a w hR => wpIn_mono (h r ds C hn hm ρ a w hR) fun _ _ _ ⟨ρ', σ', hR', hQ⟩ => ⟨ρ', σ', hR', hq _ _ hQ⟩
theorem AWX.exit {id : Nat} (h : Q (.exit id) σ) : AWX P n m (.exit id) σ Q := fun _ _ _ _ _ ρ _ _ hR => wpIn_exit ⟨ρ, σ, hR, h⟩
theorem AWX.ret (h : Q .ret σ) : AWX P n m .ret σ Q := fun _ _ _ _ _ ρ _ _ hR => wpIn_ret ⟨ρ, σ, hR, h⟩
theorem AWX.seq {x y : Code} (h : AWX P n m x σ (thenA (fun σ' => AWX P n m y σ' Q) Q)) : AWX P n m (.seq x y) σ Q :=
  fun r ds C hn hm ρ a w hR => wpIn_seq (wpIn_mono (h r ds C hn hm ρ a w hR) fun e a' w' ⟨ρ', σ', hR', hQ⟩ => by
    cases e with
    | normal => exact hQ r ds C hn hm ρ' a' w' hR'
    | _ => exact ⟨ρ', σ', hR', hQ⟩)
theorem RepD.eval {ds : List Deferred} {C : Ctx} {ρ : Rho} {σ : ASt} {a : Act} {w : World} (h : RepD ds C ρ σ a w) {x : Operand} {v : Value} (hx : aev σ.env x = some v) :
    VR .real (dom σ.mem) ρ v (a.eval x) := h.2.eval hx
theorem AWX.cond {c : Operand} {x y : Code} {b : Bool} (hc : aev σ.env c = some (.bool b)) (ht : b = true → AWX P n m x σ Q) (hf : b = false → AWX P n m y σ Q) :
    AWX P n m (.cond c x y) σ Q :=
  fun r ds C hn hm ρ a w hR => wpIn_cond_split (flat_inv (hR.eval hc) rfl) (fun h => ht h r ds C hn hm ρ a w hR) (fun h => hf h r ds C hn hm ρ a w hR)
theorem AWX.block {id : Nat} {c : Code} (h : AWX P n m c σ (inBlockA id Q)) : AWX P n m (.block id c) σ Q :=
  fun r ds C hn hm ρ a w hR => wpIn_block (wpIn_mono (h r ds C hn hm ρ a w hR) fun e a' w' ⟨ρ', σ', hR', hQ⟩ => by
    cases e with
    | exit id' =>
      simp only [inBlockA, Exit.inBlock] at hQ ⊢
      split
      · rename_i h1; rw [if_pos h1] at hQ; exact ⟨ρ', σ', hR', hQ⟩
      · rename_i h1; rw [if_neg h1] at hQ; exact ⟨ρ', σ', hR', hQ⟩
    | _ => exact ⟨ρ', σ', hR', hQ⟩)
theorem AWX.region {id : Nat} {ops : Array Oper} (h : AWo P ops n 0 ops.toList σ (fun _ => True) (Q .normal)) (hnd : ops.toList.all nd = true := by rfl) : AWX P n m (.region id ops false) σ Q := by
  intro r ds C hn hm ρ a w hR
  obtain ⟨es, σ', hl, hrun, _, hK⟩ := h
  refine wpIn_region ?_
  have h1 := wpOpsIn_of_run (Q := RQX ds C Q) (r := r) (rest := []) hn hnd (fun _ => True) (fun ρ a w hR _ => ⟨ρ, σ', hR, hK⟩) _ (zipL_get hl) (fun _ _ _ _ h => h) hrun ρ a w hR trivial
  rw [zipL_idx hl, List.append_nil] at h1
  rwa [List.range_eq_range', ← Array.length_toList]
theorem AWX.weaken {c : Code} {τ : ASt} {fm : List (Nat × Nat)} (hw : Wk m fm σ τ) (h : AWX P n m c τ Q) : AWX P n m c σ Q :=
  fun r ds C hn hm _ a w hR => let ⟨ρ', hR'⟩ := hR.2.weaken hm hw; h r ds C hn hm ρ' a w ⟨hR.1, hR'⟩
end rules
theorem cell_putObj {w : World} {D : Nat} {o o' : Obj} (hD : w.heap[D]? = some o) (ho : o.isCells = false) {p : Addr} {u : Value} (h : w.cell? p = some u) : (w.putObj D o').cell? p = some u := by
  obtain ⟨x, hx, hc⟩ := cells_of_cell h
  have hne : p.block ≠ D := fun e => by rw [e, hD] at hx; cases hx; rw [ho] at hc; cases hc
  have := World.putObj_heap_other (w := w) (o := o') hne
  unfold World.cell? at h ⊢
  rw [this]; exact h
theorem frozen_putObj {w : World} {D : Nat} {o' : Obj} (ho' : o'.isCells = false) {p : Addr} (h : w.frozen? p = false) : (w.putObj D o').frozen? p = false := by
  by_cases hne : p.block = D
  · unfold World.frozen?
    by_cases hlt : D < w.heap.size
    · rw [hne, World.putObj_heap_same hlt]
      cases o' <;> first | rfl | cases ho'
    · rw [hne]
      have : (w.putObj D o').heap[D]? = none := by simp [World.putObj]; omega
      rw [this]
  · unfold World.frozen? at h ⊢
    rw [World.putObj_heap_other hne]; exact h
theorem Rep.putObj {C : Ctx} {ρ : Rho} {σ : ASt} {a : Act} {w : World} (h : Rep C ρ σ a w) {D : Nat} {o o' : Obj} (hD : w.heap[D]? = some o) (ho : o.isCells = false) (ho' : o'.isCells = false) (hlt : C.w0.heap.size ≤ D) :
    Rep C ρ σ a (w.putObj D o') := by
  have hs : (w.putObj D o').heap.size = w.heap.size := by simp [World.putObj]
  refine ⟨h.size, h.defers, h.env, fun i b hb => ?_, h.agree, h.low, h.own, ⟨h.frame.os, h.frame.tape, h.frame.output, by rw [hs]; exact h.frame.size, fun k hk hn => ?_⟩, fun d hd => ⟨fun hc => by rw [hs]; exact (h.im d hd).lt hc, fun k v hk => ?_, (h.im d hd).own⟩, h.imsub, h.imnew, h.gl⟩
  · have hB := h.mem i b hb
    refine ⟨fun hc => by rw [hs]; exact hB.lt hc, fun k v hk => ?_, fun hr => ?_, hB.es, hB.room⟩
    · obtain ⟨u, hu, hv⟩ := hB.cells k v hk
      exact ⟨u, cell_putObj hD ho hu, hv⟩
    · have hW := hB.rw hr
      refine ⟨hW.off, fun o => frozen_putObj ho' (hW.soft o), ?_, hW.lone⟩
      obtain ⟨L, hL, hc⟩ := hW.lim
      exact ⟨L, hL, fun k hk => let ⟨x, hx⟩ := hc k hk; ⟨x, cell_putObj hD ho hx⟩⟩
  · rw [World.putObj_heap_other (by omega)]; exact h.frame.block k hk hn
  · obtain ⟨u, hu, hv⟩ := (h.im d hd).cells k v hk
    exact ⟨u, cell_putObj hD ho hu, hv⟩
theorem Rep.fin {P : Program} {fn : Func} {M0 Mo : List Blk} {ρ : Rho} {w : World} {res : Value} {σ : ASt} {ρ' : Rho} {a' : Act} {w' : World} {nids : List Nat} {v : Value}
    (hR' : Rep { n := fn.ntmps, m := M0.length, w0 := w, ρ0 := ρ, RW := RWof M0 ρ } ρ' σ a' w') (hres : ARes P fn σ v) (ho : Out M0.length σ v res Mo nids) :
    ∃ v, (results fn a'.tmps).run P w' = .ok v w' ∧ ∃ u ρ', Ending.returned v = .returned u ∧ (∀ i, i < M0.length → ρ' i = ρ i) ∧
      (∀ i b, M0.length ≤ i → Mo[i]? = some b → b.solid (ρ' i) → w.heap.size ≤ (ρ' i).blk ∨ RWof M0 ρ (ρ' i).blk) ∧ VR .real (dom (memL Mo)) ρ' res u ∧ MemOk ρ' (memL Mo) w' ∧ Fr w w' (RWof M0 ρ) ∧ ImStep M0 Mo ρ ρ' w w' := by
  obtain ⟨u, hu, hv⟩ := hres _ ρ' a' w' hR'
  have hold : ∀ i, i < M0.length → comp ρ' (hmap M0.length nids) i = ρ i := by
    intro i hi
    have h1 : ρ' i = ρ i := hR'.agree i hi
    rw [← h1]
    simp only [comp, hmap, hi, if_true, Nat.add_zero]
  have hmid : ∀ k b, Mo[k]? = some b → k < Mo.length := fun k b hk => (List.getElem?_eq_some_iff.1 hk).1
  have hoff : ∀ k, (hmap M0.length nids k).off = 0 := fun k => by simp only [hmap]; split <;> rfl
  have hfresh : ∀ i b, M0.length ≤ i → Mo[i]? = some b → b.solid (comp ρ' (hmap M0.length nids) i) → w.heap.size ≤ (comp ρ' (hmap M0.length nids) i).blk ∨ RWof M0 ρ (comp ρ' (hmap M0.length nids) i).blk := by
    intro i b h1 hib hsol
    obtain ⟨b', hb', _, hrw0, _, hroom0⟩ := ho.blk i b hib
    have hrw : b'.own (ρ' (hmap M0.length nids i).blk) := by
      rcases hsol with h | h
      · exact ⟨hrw0 (.inl h.1), h.2⟩
      · exact (hR'.mem _ _ hb').owned (hrw0 (.inr ⟨h1, h⟩)) (Nat.lt_of_lt_of_le (List.length_pos_iff.2 h) hroom0)
    exact (hR'.own _ _ hb' hrw).symm
  refine ⟨u, hu, u, comp ρ' (hmap M0.length nids), rfl, hold, hfresh, VR.comp (by simp) ho.res hv, ?_, ?_, ?_⟩
  · intro k b hk
    obtain ⟨b', hb', hcells, hrw, hes, hroom⟩ := ho.blk k b hk
    have hB := hR'.mem _ _ hb'
    refine ⟨fun hs => hB.lt (hs.imp (fun h => ⟨hrw (.inl h.1), h.2⟩) fun h e => h (List.length_eq_zero_iff.1 (by rw [e] at hroom; simpa using hroom))), fun c x hc => ?_, fun hr => ?_, hB.es.trans hes, fun L hL => by
      have := hB.room L hL
      simp only [comp, hoff, Nat.add_zero]
      omega⟩
    · obtain ⟨y, hy, hxy⟩ := hcells c x hc
      obtain ⟨u', hu', hv'⟩ := hB.cells c y hy
      refine ⟨u', ?_, VR.comp (by simp) hxy hv'⟩
      simp only [comp, hoff, Nat.add_zero]
      exact hu'
    · have hW := hB.rw ⟨hrw (.inl hr.1), hr.2⟩
      refine ⟨by simp only [comp, hoff, hW.off], hW.soft, hW.lim, fun j bj hj hsj hne => ?_⟩
      obtain ⟨b'', hb'', _, hrw'', _, hroom''⟩ := ho.blk j bj hj
      refine hW.lone _ b'' hb'' (hsj.imp (fun h => ⟨hrw'' (.inl h.1), h.2⟩) fun h e => h (List.length_eq_zero_iff.1 (by rw [e] at hroom''; simpa using hroom''))) fun e => hne ?_
      exact hmap_inj ho.nodup ho.far (by have := ho.len; have := hmid j bj hj; omega) (by have := ho.len; have := hmid k b hk; omega) e
  · exact hR'.frame
  · refine ⟨fun d hd => hR'.imsub d hd, fun d hd => hR'.imnew d hd, fun d hd => ?_⟩
    have hd' := hR'.im d hd
    refine ⟨hd'.lt, fun k v hk => ?_, fun hc i b hi hr => ?_⟩
    · obtain ⟨u', h1, h2⟩ := hd'.cells k v hk
      exact ⟨u', h1, h2.closed fun _ h => h⟩
    · obtain ⟨b', hb', _, hrw, _⟩ := ho.blk i b hi
      exact hd'.own hc _ b' hb' ⟨hrw (.inl hr.1), hr.2⟩
def StD (ds : List Deferred) (w0 w : World) : Prop := ds = [] ∨ ∃ D, ds = [{ target := .collected D, args := #[] }] ∧ w0.heap.size ≤ D ∧ w.heap[D]? = some (.deferred (some []))
def RQd (C : Ctx) (Q : Exit → ASt → Prop) : Exit → Act → World → Prop := fun e a w => ∃ ds ρ σ, StD ds C.w0 w ∧ RepD ds C ρ σ a w ∧ Q e σ
def AWd (z : Bool) (P : Program) (n m : Nat) (c : Code) (σ : ASt) (Q : Exit → ASt → Prop) : Prop :=
  ∀ C : Ctx, C.n = n → C.m = m → ∀ ds ρ a w, (z = true → ds = []) → StD ds C.w0 w → RepD ds C ρ σ a w → c.wpIn (GF none) 0 P (RQd C Q) a w
section
variable {P : Program} {n m : Nat} {σ : ASt} {Q : Exit → ASt → Prop} {z : Bool}
theorem AWd.seq {x y : Code} (h : AWd z P n m x σ (thenA (fun σ' => AWd false P n m y σ' Q) Q)) : AWd z P n m (.seq x y) σ Q :=
  fun C hn hm ds ρ a w hz hst hR => wpIn_seq (wpIn_mono (h C hn hm ds ρ a w hz hst hR) fun e a' w' ⟨ds', ρ', σ', hst', hR', hQ⟩ => by
    cases e with
    | normal => exact hQ C hn hm ds' ρ' a' w' (fun e => by cases e) hst' hR'
    | _ => exact ⟨ds', ρ', σ', hst', hR', hQ⟩)
theorem AWd.first {x y : Code} (h : AW P n m x σ (thenA (fun σ' => AWd true P n m y σ' Q) Q)) : AWd true P n m (.seq x y) σ Q := by
  intro C hn hm ds ρ a w hz hst hR
  obtain rfl := hz rfl
  refine wpIn_seq (wpIn_mono ((wpIn_wide (n := 0)).2 (h C hn hm ρ a w hR.toR)) fun e a' w' ⟨ρ', σ', hR', hQ⟩ => ?_)
  cases e with
  | normal => exact hQ C hn hm [] ρ' a' w' (fun _ => rfl) (.inl rfl) hR'.toD
  | _ => exact ⟨[], ρ', σ', .inl rfl, hR'.toD, hQ⟩
theorem AWd.weaken {c : Code} {τ : ASt} {fm : List (Nat × Nat)} (hw : Wk m fm σ τ) (h : AWd z P n m c τ Q) : AWd z P n m c σ Q :=
  fun C hn hm ds _ a w hz hst hR => let ⟨ρ', hR'⟩ := hR.2.weaken hm hw; h C hn hm ds ρ' a w hz hst ⟨hR.1, hR'⟩
theorem AWd.cond {c : Operand} {x y : Code} {b : Bool} (hc : aev σ.env c = some (.bool b)) (ht : b = true → AWd z P n m x σ Q) (hf : b = false → AWd z P n m y σ Q) :
    AWd z P n m (.cond c x y) σ Q :=
  fun C hn hm ds ρ a w hz hst hR => wpIn_cond_split (flat_inv (hR.eval hc) rfl) (fun h => ht h C hn hm ds ρ a w hz hst hR) (fun h => hf h C hn hm ds ρ a w hz hst hR)
end
end Go.Proofs.YtlfadlfjjkppfaaGreatDoor.Sim
namespace Go.Proofs.YtlfadlfjjkppfaaGreatDoor.Sim
open Go Go.RowKit
def rebC (n m : Nat) (ρ : Rho) (M : Mem) (w : World) : Ctx := { n := n, m := m, w0 := w, ρ0 := ρ, RW := fun k => ∃ i b, M i = some b ∧ b.own (ρ i) ∧ (ρ i).blk = k }
theorem Rep.rebase {C : Ctx} {ρ : Rho} {E : Env} {M : Mem} {a : Act} {w : World} (h : Rep C ρ ⟨E, M⟩ a w) {n m : Nat} (hn : C.n = n) (hlow : ∀ i, i < m → ∃ b, M i = some b) : Rep (rebC n m ρ M w) ρ ⟨E, M⟩ a w :=
  ⟨h.size.trans hn, h.defers, h.env, h.mem, fun _ _ => rfl, hlow, fun i b hb hr => .inl ⟨i, b, hb, hr, rfl⟩, Fr.refl _ _, h.im, fun _ h => h, fun _ h => .inl h, h.gl⟩
theorem Rep.unbase {C : Ctx} {ρ : Rho} {E : Env} {M : Mem} {a : Act} {w : World} (h : Rep C ρ ⟨E, M⟩ a w) {n m : Nat} (hm : C.m ≤ m) {ρ' : Rho} {σ' : ASt} {a' : Act} {w' : World} (h' : Rep (rebC n m ρ M w) ρ' σ' a' w') :
    Rep { C with n := n } ρ' σ' a' w' := by
  refine ⟨h'.size, h'.defers, h'.env, h'.mem, fun i hi => ?_, fun i hi => h'.low i (Nat.lt_of_lt_of_le hi hm), fun i b hb hr => ?_, h.frame.trans h'.frame fun k hk => ?_, h'.im, fun d hd => h'.imsub d (h.imsub d hd), fun d hd => ?_, h'.gl⟩
  · exact (h'.agree i (Nat.lt_of_lt_of_le hi hm)).trans (h.agree i hi)
  · rcases h'.own i b hb hr with ⟨j, c, hj, hc, he⟩ | h2
    · rw [← he]; exact h.own j c hj hc
    · exact .inr (Nat.le_trans h.frame.size h2)
  · rintro ⟨j, c, hj, hc, he⟩
    rcases h.own j c hj hc with h2 | h2
    · rw [← he]; exact h2
    · have h2 : C.w0.heap.size ≤ (ρ j).blk := h2
      have hk : k < C.w0.heap.size := hk
      omega
  · rcases h'.imnew d hd with h1 | h1 | ⟨j, c, hj, hc, he⟩ | h1
    · exact h.imnew d h1
    · exact .inr (.inl h1)
    · rw [← he]; exact .inr (.inr (h.own j c hj hc))
    · exact .inr (.inr (.inr (Nat.le_trans h.frame.size h1)))
theorem Rep.others {C : Ctx} {ρ : Rho} {E : Env} {M : Mem} {a : Act} {w : World} (h : Rep C ρ ⟨E, M⟩ a w) {n m : Nat} {ρ' : Rho} {σ' : ASt} {a' : Act} {w' : World} (h' : Rep (rebC n m ρ M w) ρ' σ' a' w')
    (D : Nat) (o : Obj) (hD : w.heap[D]? = some o) (ho : o.isCells = false) : w'.heap[D]? = some o := by
  rw [← hD]
  refine h'.frame.block D (Array.getElem?_eq_some_iff.1 hD).1 ?_
  rintro ⟨i, b, hi, hb, he⟩
  obtain ⟨L, hL, hc⟩ := ((h.mem i b hi).rw hb).lim
  have h0 : 0 < L := Nat.pos_of_ne_zero fun e => hb.2 (by rw [hL, e])
  obtain ⟨x, hx⟩ := hc 0 h0
  obtain ⟨o', ho', hcc⟩ := cells_of_cell hx
  have ho' : w.heap[(ρ i).blk]? = some o' := ho'
  rw [he, hD] at ho'
  cases ho'
  rw [ho] at hcc; cases hcc
theorem Rep.reframe {C : Ctx} {ρ : Rho} {σ : ASt} {a0 : Act} {w : World} (h : Rep C ρ σ a0 w) {n : Nat} {E : Env} {a : Act} (hs : a.tmps.size = n) (hd : a.defers = [])
    (hE : ∀ t v, E t = some v → ∃ u, a.tmps[t]? = some u ∧ VR .real (dom σ.mem) ρ v u) : Rep { C with n := n } ρ ⟨E, σ.mem⟩ a w :=
  ⟨hs, hd, hE, h.mem, h.agree, h.low, h.own, h.frame, h.im, h.imsub, h.imnew, h.gl⟩
theorem Rep.addObj {C : Ctx} {ρ : Rho} {σ : ASt} {a : Act} {w : World} (h : Rep C ρ σ a w) (o : Obj) : Rep C ρ σ a (w.alloc o) := by
  have hh : ∀ k, k < w.heap.size → (w.alloc o).heap[k]? = w.heap[k]? := fun k hk => Below.heap_alloc _ _ _ hk
  have hlt : ∀ {p : Addr} {u : Value}, w.cell? p = some u → p.block < w.heap.size := fun h => by
    obtain ⟨x, hx, _⟩ := cells_of_cell h
    exact (Array.getElem?_eq_some_iff.1 hx).1
  have hs : w.heap.size ≤ (w.alloc o).heap.size := by simp
  refine ⟨h.size, h.defers, h.env, fun i b hb => ?_, h.agree, h.low, h.own, ⟨h.frame.os, h.frame.tape, h.frame.output, Nat.le_trans h.frame.size hs, fun k hk hn => ?_⟩, fun d hd => ⟨fun hc => Nat.lt_of_lt_of_le ((h.im d hd).lt hc) hs, fun k v hk => ?_, (h.im d hd).own⟩, h.imsub, h.imnew, h.gl⟩
  · have hB := h.mem i b hb
    refine ⟨fun hc => Nat.lt_of_lt_of_le (hB.lt hc) hs, fun k v hk => ?_, fun hr => ?_, hB.es, hB.room⟩
    · obtain ⟨u, hu, hv⟩ := hB.cells k v hk
      exact ⟨u, by rw [cell?_of_heap (hh _ (hlt hu))]; exact hu, hv⟩
    · have hW := hB.rw hr
      have hk := hh _ (hB.lt (.inl hr))
      refine ⟨hW.off, fun o => by rw [frozen?_of_heap hk]; exact hW.soft o, ?_, hW.lone⟩
      obtain ⟨L, hL, hc⟩ := hW.lim
      exact ⟨L, hL, fun k hkk => let ⟨x, hx⟩ := hc k hkk; ⟨x, by rw [cell?_of_heap hk]; exact hx⟩⟩
  · have : k < w.heap.size := Nat.lt_of_lt_of_le hk h.frame.size
    rw [hh k this]; exact h.frame.block k hk hn
  · obtain ⟨u, hu, hv⟩ := (h.im d hd).cells k v hk
    exact ⟨u, by rw [cell?_of_heap (hh _ (hlt hu))]; exact hu, hv⟩
def idR : Rho := ⟨fun k => ⟨k, 0, none, 1⟩, []⟩
def Low (m : Nat) (v : Value) : Prop := VR .arg (fun i => i < m) idR v v
theorem comp_id (ρ : Rho) : comp ρ idR = ρ := by
  cases ρ; rfl
theorem Low.real {m : Nat} {v u : Value} (h : Low m v) {D : Nat → Prop} {ρ : Rho} (hv : VR .real D ρ v u) : VR .real (fun i => i < m) ρ v u := by
  have := VR.comp (by simp) h hv
  rw [comp_id] at this; exact this
theorem VR.up {C : Ctx} {ρ : Rho} {σ : ASt} {a : Act} {w : World} (hR : Rep C ρ σ a w) {v u : Value} (h : VR .real (fun i => i < C.m) C.ρ0 v u) : VR .real (dom σ.mem) ρ v u :=
  h.mono (fun i hi => hR.low i hi) (fun i hi => hR.agree i hi) hR.imsub
def MRep (C : Ctx) (ρ : Rho) (M : Mem) (w : World) : Prop := ∃ a, Rep { C with n := a.tmps.size } ρ ⟨fun _ => none, M⟩ a w
theorem Rep.toM {C : Ctx} {ρ : Rho} {σ : ASt} {a : Act} {w : World} (h : Rep C ρ σ a w) : MRep C ρ σ.mem w :=
  ⟨a, h.reframe rfl h.defers fun _ _ h => by cases h⟩
def Keeps (X : World → Prop) : Prop := ∀ w w', X w → (∀ (D : Nat) (o : Obj), w.heap[D]? = some o → o.isCells = false → w'.heap[D]? = some o) → X w'
def RlL (D : Nat → Prop) (ρ : Rho) (vs us : List Value) : Prop := vs.length = us.length ∧ ∀ (k : Nat) (v u : Value), vs[k]? = some v → us[k]? = some u → VR .real D ρ v u
def IterA (P : Program) (gf : FuncId) (caps : List Value) (m : Nat) (Mq : Mem → Prop) (N : Nat) (enc : Nat → List Value) : Prop :=
  ∀ (C : Ctx), C.m = m → ∀ (l : Nat) (Inv : Nat → Mem → Prop) (Ext Jx : World → Prop), (∀ k M, Inv k M → Mq M) → Keeps Ext →
    (∀ k ρ M w rv, k < N → MRep C ρ M w → Inv k M → Ext w → RlL (dom M) ρ (enc k) rv →
      YieldAt (GF none) 0 P l rv.toArray w fun e w' => (e = .returned (.bool true) ∧ ∃ ρ' M', MRep C ρ' M' w' ∧ Inv (k + 1) M' ∧ Ext w') ∨ (e = .returned (.bool false) ∧ Jx w')) →
    ∀ ρ M w rcaps, MRep C ρ M w → Inv 0 M → Ext w → RlL (fun i => i < m) C.ρ0 caps rcaps →
      CallsIn (GF none) 0 P gf (#[.func (.yield l) #[] #[]] ++ rcaps.toArray) w fun e w' => (∃ v, e = .returned v) ∧ ((∃ ρ M, MRep C ρ M w' ∧ Inv N M ∧ Ext w') ∨ Jx w')
def encE (E : Env) (ps : List Tmp) (vs : List Value) : Env := (ps.zip vs).foldl (fun E (p : Tmp × Value) => upd E p.1 p.2) E
theorem Rep.params {C : Ctx} {ρ : Rho} {M : Mem} {w : World} : ∀ (ps : List Tmp) (vs us : List Value) {E : Env} {tm : Array Value}, Rep C ρ ⟨E, M⟩ { tmps := tm, defers := [] } w → (∀ p ∈ ps, p < C.n) → RlL (dom M) ρ vs us →
    Rep C ρ ⟨encE E ps vs, M⟩ { tmps := (ps.zip us).foldl (fun t (p : Tmp × Value) => t.setIfInBounds p.1 p.2) tm, defers := [] } w
  | [], _, _, _, _, h, _, _ => by simpa [encE] using h
  | p :: ps, [], [], _, _, h, _, _ => by simpa [encE] using h
  | p :: ps, [], u :: us, _, _, _, _, hr => by have := hr.1; simp at this
  | p :: ps, v :: vs, [], _, _, _, _, hr => by have := hr.1; simp at this
  | p :: ps, v :: vs, u :: us, E, tm, h, hp, hr => by
    have h1 := h.put (d := some p) (v := v) (u := u) (fun t ht => by cases ht; exact hp _ (List.mem_cons_self ..)) (hr.2 0 v u rfl rfl)
    have h2 := Rep.params ps vs us (E := upd E p v) (tm := tm.setIfInBounds p u) h1 (fun q hq => hp q (List.mem_cons_of_mem _ hq)) ⟨by have := hr.1; simpa using this, fun k v u hv hu => hr.2 (k + 1) v u hv hu⟩
    simpa [encE] using h2
def RoundQ (m : Nat) (Nx X : Mem → Prop) : Exit → ASt → Prop := fun e σ => ∃ fm τ, Wk m fm σ τ ∧ ((e = .normal ∧ Nx τ.mem) ∨ (e = .ret ∧ X τ.mem))
theorem zip_foldl (ps : Array Tmp) (us : List Value) (tm : Array Value) :
    (ps.zip us.toArray).foldl (fun t (x : Tmp × Value) => t.setIfInBounds x.1 x.2) tm = (ps.toList.zip us).foldl (fun t (x : Tmp × Value) => t.setIfInBounds x.1 x.2) tm := by
  rw [← Array.foldl_toList, Array.toList_zip]
theorem AWd.range {P : Program} {n m m' N : Nat} {gf : FuncId} {caps : List Value} {enc : Nat → List Value} {Mq : Mem → Prop} (hit : IterA P gf caps m' Mq N enc)
    {g : Operand} {ps : Array Tmp} {assign body : Code} {E0 : Env} {M0 : Mem} {Q : Exit → ASt → Prop} (E : Env) (Inv : Nat → Mem → Prop) (X : Mem → Prop) (hm : m ≤ m')
    (hg : aev E0 g = some (.func (.func gf) #[] caps.toArray)) (hcap : ∀ v ∈ caps, Low m' v) (hlow : ∀ i, i < m' → ∃ b, M0 i = some b) (eg : ∀ args w, (callFunc gf args).run P w = .ok (.enter gf args) w)
    (hE : ∀ t v, E t = some v → E0 t = some v ∧ Low m' v) (hps : ∀ k, (enc k).length = ps.size) (hpn : ∀ p ∈ ps.toList, p < n) (h0 : Inv 0 M0) (hq : ∀ k M, Inv k M → Mq M)
    (round : ∀ k M, k < N → Inv k M → AWX P n m' assign ⟨encE E ps.toList (enc k), M⟩ (thenA (fun σ => AWX P n m' body σ (RoundQ m' (Inv (k + 1)) X)) (fun _ _ => False)))
    (done : ∀ M, Inv N M → Q .normal ⟨E, M⟩) (stop : ∀ M, X M → Q .ret ⟨E, M⟩) : AWd true P n m (.rangeFunc g ps assign body) ⟨E0, M0⟩ Q := by
  intro C hn hmC ds ρ0 a w hz _ hRD
  obtain rfl := hz rfl
  have hR := hRD.toR
  obtain ⟨tm, dfs⟩ := a
  obtain rfl : dfs = [] := hR.defers
  have hsz : tm.size = n := hR.size.trans hn
  have hgv := hR.eval hg
  obtain ⟨rc, hrc, hrel⟩ : ∃ rc : List Value, Act.eval { tmps := tm, defers := [] } g = .func (.func gf) #[] rc.toArray ∧ RlL (dom M0) ρ0 caps rc := by
    generalize Act.eval { tmps := tm, defers := [] } g = u at hgv
    cases hgv with
    | flat _ hf =>
      simp only [flatV, Bool.and_eq_true, Array.isEmpty_iff] at hf
      have : caps = [] := by simpa using hf.2
      subst this
      exact ⟨[], rfl, rfl, fun k v u hv => by simp at hv⟩
    | func _ _ ys _ ys' _ hs hs' _ h' =>
      have : ys = #[] := Array.eq_empty_of_size_eq_zero (by simpa using hs.symm)
      subst this
      exact ⟨ys'.toList, by simp, by simpa using hs', fun k v u hv hu => h' k v u (by simpa using hv) (by simpa using hu)⟩
  let C1 : Ctx := rebC n m' ρ0 M0 w
  have hR1 : Rep C1 ρ0 ⟨E0, M0⟩ { tmps := tm, defers := [] } w := hR.rebase hn hlow
  have hEv : ∀ {ρ M a' W}, Rep { C1 with n := a'.tmps.size } ρ ⟨fun _ => none, M⟩ a' W → ∀ t v, E t = some v → ∃ u, tm[t]? = some u ∧ VR .real (dom M) ρ v u := by
    intro ρ M a' W hM t v ht
    obtain ⟨h1, h2⟩ := hE t v ht
    obtain ⟨u, hu, hv⟩ := hR.env t v h1
    exact ⟨u, hu, VR.up (C := { C1 with n := a'.tmps.size }) hM (h2.real hv)⟩
  have hfr : ∀ {ρ M W}, MRep C1 ρ M W → Rep C1 ρ ⟨E, M⟩ { tmps := tm, defers := [] } W := by
    rintro ρ M W ⟨a', hM⟩
    exact hM.reframe (C := { C1 with n := a'.tmps.size }) (a := { tmps := tm, defers := [] }) hsz rfl (hEv hM)
  refine wpIn_rangeFunc ?_
  intro fn hfn
  obtain ⟨rec, hrec⟩ : ∃ rec : LoopState → Option Code → Loop, rec = fun st pe => { state := st, pending := pe, fn, tmps := tm, params := ps, assign, body, defers := w.heap.size } := ⟨_, rfl⟩
  obtain ⟨W1, hW1⟩ : ∃ W1, (w.alloc (.deferred (some []))).alloc (.loop (rec .ready none)) = W1 := ⟨_, rfl⟩
  have hL1 : W1.heap[w.heap.size + 1]? = some (.loop (rec .ready none)) := by
    rw [← hW1]; have := World.alloc_heap_new (w.alloc (.deferred (some []))) (.loop (rec .ready none)); rwa [World.size_alloc] at this
  have hK1 : W1.heap[w.heap.size]? = some (.deferred (some [])) := by
    rw [← hW1]; exact (Below.heap_alloc _ _ _ (by simp)).trans (World.alloc_heap_new w _)
  have hRW : Rep C1 ρ0 ⟨E0, M0⟩ { tmps := tm, defers := [] } W1 := by rw [← hW1]; exact (hR1.addObj _).addObj _
  refine ⟨w.heap.size + 1, [{ target := .collected w.heap.size, args := #[] }], W1, { target := .fn (.func gf) rc.toArray, args := #[.func (.yield (w.heap.size + 1)) #[] #[]] }, W1, gf,
    #[.func (.yield (w.heap.size + 1)) #[] #[]] ++ rc.toArray, W1, ?_, ?_, ?_, ?_, fun h => by simp [GF, Fence.wide] at h, ?_⟩
  · rw [← hW1, hrec]; exact run_enterLoop_outer _ _ _ _ _
  · simp only [resolve, hrc]
    simp [go_sem]
  · intro f' hf'; exact trivial
  · simp [invoke, go_sem, eg]
  · refine (hit C1 rfl (w.heap.size + 1) Inv
      (fun W => W.heap[w.heap.size + 1]? = some (.loop (rec .ready none)) ∧ W.heap[w.heap.size]? = some (.deferred (some [])))
      (fun W => W.heap[w.heap.size + 1]? = some (.loop (rec .done (some .ret))) ∧ W.heap[w.heap.size]? = some (.deferred (some [])) ∧ ∃ ρ M, MRep C1 ρ M W ∧ X M)
      hq (fun W W' h hk => ⟨hk _ _ h.1 rfl, hk _ _ h.2 rfl⟩) ?_ ρ0 M0 W1 rc hRW.toM h0 ⟨hL1, hK1⟩
      ⟨hrel.1, fun k v u hv hu => (hcap v (List.mem_of_getElem? hv)).real (hrel.2 k v u hv hu)⟩).mono ?_
    · 
      rintro k ρ M W rv hk hM hi ⟨hl, hd⟩ hrv
      have hy := run_yield (P := P) (args := rv.toArray) hl (by rw [hrec]; have := hrv.1; rw [hps] at this; simpa using this.symm)
      rw [hrec] at hy
      refine ⟨fn, _, assign, body, hy, roundIn_of_wpIn hfn ?_⟩
      have hB := (hfr hM).params ps.toList (enc k) rv (fun p hp => hpn p hp) hrv
      simp only []
      rw [zip_foldl]
      have hB2 := hB.rebase (n := n) (m := m') rfl hB.low
      refine wpIn_mono (round k M hk hi (some (w.heap.size + 1)) [] _ rfl rfl _ _ _ hB2.toD) ?_
      rintro e a1 W2 ⟨ρ1, σ1, hR2, hq1⟩
      cases e with
      | normal =>
        have hR2 := hR2.toR
        have hl2 := hB.others hR2 _ _ hl rfl
        have hd2 := hB.others hR2 _ _ hd rfl
        have hR2' := hB.unbase (Nat.le_refl _) hR2
        have hb := run_beginRound (P := P) hl2 (by rw [hrec])
        refine ⟨_, hb, ?_⟩
        have hlt : w.heap.size + 1 < W2.heap.size := (Array.getElem?_eq_some_iff.1 hl2).1
        have hR3 := hR2'.putObj (o' := .loop { rec .ready none with state := .busy }) hl2 rfl rfl (show w.heap.size ≤ _ by omega)
        have hl3 : (W2.putObj (w.heap.size + 1) (.loop { rec .ready none with state := .busy })).heap[w.heap.size + 1]? = some (.loop { rec .ready none with state := .busy }) := World.putObj_heap_same hlt
        have hd3 : (W2.putObj (w.heap.size + 1) (.loop { rec .ready none with state := .busy })).heap[w.heap.size]? = some (.deferred (some [])) := (World.putObj_heap_other (by omega)).trans hd2
        obtain ⟨E1, M1⟩ := σ1
        have hR4 := hR3.rebase (n := n) (m := m') rfl hR3.low
        refine wpIn_mono (hq1 (some (w.heap.size + 1)) [] _ rfl rfl _ _ _ hR4.toD) ?_
        rintro e a2 W4 ⟨ρ2, σ2, hR5, fm, τ, hw, hex⟩
        have hR5 := hR5.toR
        have hl4 := hR3.others hR5 _ _ hl3 rfl
        have hd4 := hR3.others hR5 _ _ hd3 rfl
        have hlt4 := (Array.getElem?_eq_some_iff.1 hl4).1
        obtain ⟨ρ3, hR6⟩ := (hR3.unbase (Nat.le_refl _) hR5).weaken rfl hw
        rcases hex with ⟨rfl, hnx⟩ | ⟨rfl, hx⟩
        · have he := run_endRound (P := P) none hl4
          rw [hrec] at he
          refine ⟨_, _, he, .inl ⟨rfl, ρ3, τ.mem, ?_, hnx, ?_, ?_⟩⟩
          · exact (hR6.putObj hl4 rfl rfl (show w.heap.size ≤ _ by omega)).toM
          · rw [World.putObj_heap_same hlt4, hrec]; rfl
          · exact (World.putObj_heap_other (by omega)).trans hd4
        · have he := run_endRound (P := P) (some .ret) hl4
          rw [hrec] at he
          refine ⟨_, _, he, .inr ⟨rfl, ?_, ?_, ρ3, τ.mem, ?_, hx⟩⟩
          · rw [World.putObj_heap_same hlt4, hrec]; rfl
          · exact (World.putObj_heap_other (by omega)).trans hd4
          · exact (hR6.putObj hl4 rfl rfl (show w.heap.size ≤ _ by omega)).toM
      | _ => exact hq1.elim
    · 
      have fin : ∀ {ρ M W2 st pe}, MRep C1 ρ M W2 → W2.heap[w.heap.size + 1]? = some (.loop (rec st pe)) → W2.heap[w.heap.size]? = some (.deferred (some [])) →
          StD [{ target := .collected w.heap.size, args := #[] }] C.w0 (W2.putObj (w.heap.size + 1) (.loop (rec .exhausted pe))) ∧ RepD [{ target := .collected w.heap.size, args := #[] }] C ρ ⟨E, M⟩ { tmps := tm, defers := [{ target := .collected w.heap.size, args := #[] }] ++ [] } (W2.putObj (w.heap.size + 1) (.loop (rec .exhausted pe))) := by
        intro ρ M W2 st pe hM hl hd
        refine ⟨.inr ⟨_, rfl, hR.frame.size, (World.putObj_heap_other (by omega)).trans hd⟩, rfl, ?_⟩
        have h2 := hR.unbase (by rw [hmC]; exact hm) ((hfr hM).putObj (o' := .loop (rec .exhausted pe)) hl rfl rfl (show w.heap.size ≤ _ by omega))
        have hCn : ({ C with n := n } : Ctx) = C := by cases C; cases hn; rfl
        rw [hCn] at h2
        exact h2
      rintro e W2 ⟨⟨v, rfl⟩, (⟨ρ, M, hM, hi, hl, hd⟩ | ⟨hl, hd, ρ, M, hM, hx⟩)⟩
      · obtain ⟨f1, f2⟩ := fin hM hl hd
        refine ⟨none, W2.putObj (w.heap.size + 1) (.loop (rec .exhausted none)), by have := run_endLoop (P := P) hl (by rw [hrec]; simp); rw [hrec] at this ⊢; exact this, ?_⟩
        exact ⟨[{ target := .collected w.heap.size, args := #[] }], ρ, ⟨E, M⟩, f1, f2, done M hi⟩
      · obtain ⟨f1, f2⟩ := fin hM hl hd
        refine ⟨some .ret, W2.putObj (w.heap.size + 1) (.loop (rec .exhausted (some .ret))), by have := run_endLoop (P := P) hl (by rw [hrec]; simp); rw [hrec] at this ⊢; exact this, ?_⟩
        exact wpIn_ret ⟨[{ target := .collected w.heap.size, args := #[] }], ρ, ⟨E, M⟩, f1, f2, stop M hx⟩
end Go.Proofs.YtlfadlfjjkppfaaGreatDoor.Sim
namespace Go.Proofs.YtlfadlfjjkppfaaGreatDoor.Sim
open Go Go.RowKit
def TS (S : List (Nat × Value)) (a : Act) : Prop := ∀ p ∈ S, a.tmps[p.1]? = some p.2
theorem TS.put {S : List (Nat × Value)} {a : Act} (h : TS S a) {d : Option Tmp} {u : Value} (hd : ∀ p ∈ S, d ≠ some p.1) : TS S (a.put d u) := by
  intro p hp
  cases d with
  | none => exact h p hp
  | some k =>
    simp only [Act.put]
    rw [Array.getElem?_setIfInBounds_ne (fun e => hd p hp (by rw [e]))]
    exact h p hp
section
variable {P : Program} {id n : Nat} {ops : Array Oper} {C : Ctx} {ρ : Rho} {E : Env} {M : Mem} {a : Act} {w : World} {K : ASt → Prop} {Q : Exit → Act → World → Prop} {S : List (Nat × Value)}
def RlA (E : Env) (args : Array Operand) (vs : List Value) : Prop := args.toList.map (aev E) = vs.map some
theorem RlA.rel {args : Array Operand} {vs : List Value} (h : RlA E args vs) (hR : Rep C ρ ⟨E, M⟩ a w) : RlL (dom M) ρ vs (args.toList.map a.eval) := by
  refine ⟨by have := congrArg List.length h; simpa using this.symm, fun k v u hv hu => ?_⟩
  rw [List.getElem?_map] at hu
  cases hx : args.toList[k]? with
  | none => rw [hx] at hu; cases hu
  | some x =>
    rw [hx] at hu
    cases hu
    have h2 := congrArg (fun l => l[k]?) h
    simp only [List.getElem?_map, hx, hv, Option.map_some, Option.some.injEq] at h2
    exact hR.eval h2
end
section
variable {P : Program} {n m : Nat} {σ : ASt} {Q : Exit → ASt → Prop} {z : Bool}
theorem AWd.block {id : Nat} {c : Code} (h : AWd z P n m c σ (inBlockA id Q)) : AWd z P n m (.block id c) σ Q :=
  fun C hn hm ds ρ a w hz hst hR => wpIn_block (wpIn_mono (h C hn hm ds ρ a w hz hst hR) fun e a' w' ⟨ds', ρ', σ', hst', hR', hQ⟩ => by
    cases e with
    | exit id' =>
      simp only [inBlockA, Exit.inBlock] at hQ ⊢
      split
      · rename_i h1; rw [if_pos h1] at hQ; exact ⟨ds', ρ', σ', hst', hR', hQ⟩
      · rename_i h1; rw [if_neg h1] at hQ; exact ⟨ds', ρ', σ', hst', hR', hQ⟩
    | _ => exact ⟨ds', ρ', σ', hst', hR', hQ⟩)
theorem Low.ptr {m i o : Nat} (h : i < m) : Low m (.pointer (some ⟨i, o, none⟩)) := by
  have := VR.ptr (m := .arg) (D := fun k => k < m) (ρ := idR) i o h
  rw [show (idR i).off + o = o from Nat.zero_add o] at this
  exact this
theorem Low.slice {m i o n : Nat} (h : i < m) : Low m (.slice (some ⟨i, o, none⟩) n 0) := by
  have := VR.slice (m := .arg) (D := fun k => k < m) (ρ := idR) i o n 0 h (fun _ => rfl) (fun e => by cases e)
  rw [show (idR i).off + o = o from Nat.zero_add o] at this
  exact this
theorem Low.flat {m : Nat} {v : Value} (h : flatV v = true) : Low m v := VR.flat v h
end
end Go.Proofs.YtlfadlfjjkppfaaGreatDoor.Sim
namespace Go.Proofs.YtlfadlfjjkppfaaGreatDoor.Sim
open Go Go.RowKit
theorem Rep.setEnv {C : Ctx} {ρ : Rho} {E : Env} {M : Mem} {a : Act} {w : World} (h : Rep C ρ ⟨E, M⟩ a w) {t : Nat} {v u : Value} (hu : a.tmps[t]? = some u) (hv : VR .real (dom M) ρ v u) : Rep C ρ ⟨upd E t v, M⟩ a w :=
  ⟨h.size, h.defers, fun k x hx => by
    simp only [upd] at hx
    split at hx
    · rename_i e; subst e; cases hx; exact ⟨u, hu, hv⟩
    · exact h.env k x hx, h.mem, h.agree, h.low, h.own, h.frame, h.im, h.imsub, h.imnew, h.gl⟩
theorem AW.nilCase {P : Program} {n m : Nat} {c : Code} {E : Env} {M : Mem} {Q : Exit → ASt → Prop} {t : Nat} {p : Addr} (hE : E t = some (.slice (some p) 0 0)) (h1 : AW P n m c ⟨upd E t (.slice none 0 0), M⟩ Q)
    (h2 : AW P n m c ⟨upd E t (.slice (some p) 0 1), M⟩ Q) : AW P n m c ⟨E, M⟩ Q := by
  intro C hn hm ρ a w hR
  obtain ⟨u, hu, hv⟩ := hR.env t _ hE
  cases hv with
  | flat _ hf => simp [flatV] at hf
  | slice i o _ c hd g1 g2 => exact h2 C hn hm ρ a w (hR.setEnv hu (.dead _ _ _ (by simp)))
  | nilS => exact h1 C hn hm ρ a w (hR.setEnv hu (.flat _ rfl))
  | zeroS => exact h2 C hn hm ρ a w (hR.setEnv hu (.dead _ _ _ (by simp)))
theorem dead_inv {D : Nat → Prop} {ρ : Rho} {p : Addr} {u : Value} (h : VR .real D ρ (.slice (some p) 0 1) u) : ∃ q c, u = .slice (some q) 0 c := by
  cases h with
  | flat _ hf => simp [flatV] at hf
  | dead => exact ⟨_, _, rfl⟩
section
variable {P : Program} {E : Env}
theorem run_nilNil' (d : Nat) {t e : TypeId} (h : P.underlying t = some (.slice e)) (w : World) : (Op.equalIn (d + 1) t (.slice none 0 0) (.slice none 0 0)).run P w = .ok true w := by
  simp [Op.equalIn, run_underlying h]
theorem run_nilNil {t e : TypeId} (h : P.underlying t = some (.slice e)) (w : World) : (Op.equal t (.slice none 0 0) (.slice none 0 0)).run P w = .ok true w := run_nilNil' 9999 h w
theorem PureOp.slEqDead {t t' e : TypeId} {x : Operand} {p : Addr} (hu : P.underlying t = some (.slice e)) (h1 : aev E x = some (.slice (some p) 0 1)) :
    PureOp P (.binOp .eql t x (.const (.slice none 0 0)) t') E (.bool false) := fun D ρ ev hx => by
  have e2 : ev (.const (.slice none 0 0)) = .slice none 0 0 := flat_inv (hx (.const (.slice none 0 0)) (by simp [Op.operands]) _ rfl) rfl
  obtain ⟨q, c, e1⟩ := dead_inv (hx x (by simp [Op.operands]) _ h1)
  exact ⟨_, .flat _ rfl, fun _ _ _ _ _ w => by simp [execOp, e1, e2, eqGuard, binOp, run_slNil _ _ _ hu]⟩
theorem PureOp.nilEqNilS {t t' e : TypeId} {x : Operand} (hu : P.underlying t = some (.slice e)) (h1 : aev E x = some (.slice none 0 0)) :
    PureOp P (.binOp .eql t x (.const (.slice none 0 0)) t') E (.bool true) := fun D ρ ev hx => by
  have e2 : ev (.const (.slice none 0 0)) = .slice none 0 0 := flat_inv (hx (.const (.slice none 0 0)) (by simp [Op.operands]) _ rfl) rfl
  have e1 : ev x = .slice none 0 0 := flat_inv (hx x (by simp [Op.operands]) _ h1) rfl
  exact ⟨_, .flat _ rfl, fun _ _ _ _ _ w => by simp [execOp, e1, e2, eqGuard, binOp, run_nilNil hu]⟩
theorem PureOp.append0 {x y : Operand} {t e : TypeId} {id o n sz : Nat} {p : Addr} (ht : P.underlying t = some (.slice e)) (hs : (P.info? e).map (·.size) = some sz) (h1 : aev E x = some (.slice (some ⟨id, o, none⟩) n 0))
    (h2 : aev E y = some (.slice (some p) 0 1)) : PureOp P (.call ⟨.builtin .append, #[x, y], #[t, t]⟩) E (.slice (some ⟨id, o, none⟩) n 0) := fun D ρ ev hx => by
  have hxv := hx x (by simp [Op.operands, Call.operands]) _ h1
  obtain ⟨q, c', e2⟩ := dead_inv (hx y (by simp [Op.operands, Call.operands]) _ h2)
  refine ⟨ev x, hxv, fun d ty ps af g w => ?_⟩
  refine run_appendOp ev w ?_
  rw [e2]
  rcases slice_inv hxv with ⟨c, e1, h3, _, _⟩ | ⟨h0, e1 | ⟨a, e1⟩⟩
  · rw [e1]; exact run_append_zeroY ht hs _ n c h3 _ _ w
  · rw [e1]; exact run_append_zeroY ht hs none 0 0 (Nat.le_refl _) _ _ w
  · rw [e1]; exact run_append_zeroY ht hs (some a) 0 0 (Nat.le_refl _) _ _ w
end
end Go.Proofs.YtlfadlfjjkppfaaGreatDoor.Sim
namespace Go.Proofs.YtlfadlfjjkppfaaGreatDoor.Sim
open Go Go.RowKit
theorem run_copyOp {P : Program} {x y : Operand} {t t' : TypeId} {d : Option Tmp} {ty : TypeId} {ps : String} {af : Array Edge} {g : Option (Nat × Bool)} (ev : Operand → Value) (w : World) {v : Value} {w' : World}
    (h : (Builtin.copy_ #[t, t'] ty #[ev x, ev y]).run P w = .ok v w') : (execOp ev ⟨d, .call ⟨.builtin .copy, #[x, y], #[t, t']⟩, ty, ps, af, g⟩).run P w = .ok (.value v) w' := by
  simp [execOp, resolve, invoke, builtin, h]
theorem run_copy_0 {P : Program} {t t' ty e : TypeId} {sz : Nat} (ht : P.underlying t = some (.slice e)) (hs : (P.info? e).map (·.size) = some sz) (base : Option Addr) (n c : Nat) (sv : Value) (hv : sv = .slice none 0 0 ∨ ∃ b c', sv = .slice (some b) 0 c') (w : World) :
    (Builtin.copy_ #[t, t'] ty #[.slice base n c, sv]).run P w = .ok (goInt 0) w := by
  rcases hv with rfl | ⟨b, c', rfl⟩
  · cases base <;> simp [Builtin.copy_, run_underlying ht, run_size hs, Builtin.lenOf, Builtin.firstCells, storeCells]
  · cases base <;> simp [Builtin.copy_, run_underlying ht, run_size hs, Builtin.lenOf, Builtin.firstCells, storeCells, loadCells, loadCellsFrom]
theorem run_copy_s {P : Program} {t t' ty e : TypeId} {sz : Nat} (ht : P.underlying t = some (.slice e)) (hs : (P.info? e).map (·.size) = some sz) (a b : Addr) (n c m c' : Nat) (hm : m ≤ n) (us : List Value) (w w' : World)
    (hl : (loadCells b (m * sz)).run P w = .ok us.toArray w) (hst : (storeCells a us).run P w = .ok () w') :
    (Builtin.copy_ #[t, t'] ty #[.slice (some a) n c, .slice (some b) m c']).run P w = .ok (goInt m) w' := by
  have e1 : Nat.min m n = m := Nat.min_eq_left hm
  simp [Builtin.copy_, run_underlying ht, run_size hs, Builtin.lenOf, Builtin.firstCells, e1, hl, hst]
theorem FStep.copy {P : Program} {E : Env} {M : Mem} {d : Option Tmp} {ty : TypeId} {ps : String} {af : Array Edge} {g : Option (Nat × Bool)} {x y : Operand} {t t' e : TypeId} {id jd o n m es : Nat} {cs news : List Value} {bj : Blk}
    (hx : aev E x = some (.slice (some ⟨id, 0, none⟩) n 0)) (hy : aev E y = some (.slice (some ⟨jd, o, none⟩) m 0)) (hb : M id = some ⟨cs, true, es⟩) (hj : M jd = some bj) (hmn : m ≤ n)
    (hn : m * es ≤ cs.length) (hnw : (bj.cells.drop o).take (m * es) = news) (ho : o + m * es ≤ bj.cells.length)
    (ht : P.underlying t = some (.slice e)) (hs : (P.info? e).map (·.size) = some es) (hone : news.all (·.oneCell') = true) :
    FStep P ⟨d, .call ⟨.builtin .copy, #[x, y], #[t, t']⟩, ty, ps, af, g⟩ E M (.int .i64 m) ⟨[id, jd], [(id, ⟨setL cs 0 news, true, es⟩)]⟩ := by
  intro E' M' h1 h2 _ C ρ ac w hR
  have hb' : M' id = some ⟨cs, true, es⟩ := by rw [h2 id (by simp)]; exact hb
  have hj' : M' jd = some bj := by rw [h2 jd (by simp)]; exact hj
  have hxv := hR.eval (x := x) (by rw [h1 x (by simp [Op.operands, Call.operands])]; exact hx)
  have hyv := hR.eval (x := y) (by rw [h1 y (by simp [Op.operands, Call.operands])]; exact hy)
  obtain ⟨us, hul, hus, hrel⟩ := pick_list (o := o) (hR.mem jd bj hj').cells (m * es) ho
  have hnl : news.length = m * es := by rw [← hnw]; simp; omega
  have hrel' : ∀ (k : Nat) (v u : Value), news[k]? = some v → us[k]? = some u → VR .real (dom M') ρ v u := fun k v u a b => hrel k v u (by rw [hnw]; exact a) b
  have done : ∀ (w' : World), (Builtin.copy_ #[t, t'] ty #[ac.eval x, ac.eval y]).run P w = .ok (goInt m) w' → Rep C ρ ⟨E', upd M' id ⟨setL cs 0 news, true, es⟩⟩ ac w' →
      StepTo P ⟨d, .call ⟨.builtin .copy, #[x, y], #[t, t']⟩, ty, ps, af, g⟩ ac w fun u w' => ∃ ρ', Rep C ρ' ⟨E', upds M' [(id, ⟨setL cs 0 news, true, es⟩)]⟩ ac w' ∧ VR .real (dom (upds M' [(id, ⟨setL cs 0 news, true, es⟩)])) ρ' (.int .i64 m) u := fun w' hrun hR' => by
    unfold StepTo Oper.wp
    rw [run_copyOp ac.eval w hrun]
    exact ⟨goInt m, rfl, ρ, by simpa [upds] using hR', .flat _ rfl⟩
  have same : m = 0 → Rep C ρ ⟨E', upd M' id ⟨setL cs 0 news, true, es⟩⟩ ac w := fun e => by
    have : news = [] := List.length_eq_zero_iff.1 (by rw [hnl, e]; simp)
    rw [this, setL, upd_self hb']; exact hR
  generalize hux : ac.eval x = ux at hxv done
  generalize huy : ac.eval y = uy at hyv done
  have nothing : ∀ (base : Option Addr) (c : Nat), ux = .slice base n c → m = 0 → (uy = .slice none 0 0 ∨ ∃ b c', uy = .slice (some b) 0 c') →
      StepTo P ⟨d, .call ⟨.builtin .copy, #[x, y], #[t, t']⟩, ty, ps, af, g⟩ ac w fun u w' => ∃ ρ', Rep C ρ' ⟨E', upds M' [(id, ⟨setL cs 0 news, true, es⟩)]⟩ ac w' ∧ VR .real (dom (upds M' [(id, ⟨setL cs 0 news, true, es⟩)])) ρ' (.int .i64 m) u := fun base c hb0 hm0 hy0 =>
    done w (by rw [hb0, hm0]; exact run_copy_0 ht hs base n c uy hy0 w) (same hm0)
  have yzero : m = 0 → (uy = .slice none 0 0 ∨ ∃ b c', uy = .slice (some b) 0 c') := fun hm0 => by
    cases hyv with
    | flat _ hf => simp [flatV] at hf
    | nilS => exact .inl rfl
    | zeroS _ a0 => exact .inr ⟨a0, _, rfl⟩
    | slice _ _ _ c' hd' g1' g2' => exact .inr ⟨_, _, by rw [hm0]⟩
  cases hxv with
  | flat _ hf => simp [flatV] at hf
  | nilS => exact nothing none 0 rfl (by omega) (yzero (by omega))
  | zeroS _ a0 => exact nothing (some a0) _ rfl (by omega) (yzero (by omega))
  | slice _ _ _ c hd g1 g2 =>
    by_cases hm0 : m = 0
    · exact nothing _ c rfl hm0 (yzero hm0)
    · cases hyv with
      | flat _ hf => simp [flatV] at hf
      | nilS => exact absurd rfl hm0
      | zeroS => exact absurd rfl hm0
      | slice _ _ _ c' hd' g1' g2' =>
        obtain ⟨w', hst, hR'⟩ := storeCells_sound (P := P) (o := 0) news us 0 hR hb' rfl (by simpa [hnl] using hn) (by rw [hnl, hul]) hrel' (fun v hv => List.all_eq_true.1 hone v hv)
        have hl : (loadCells ⟨(ρ jd).blk, (ρ jd).off + o, none⟩ (m * es)).run P w = .ok us.toArray w := by
          rw [← hul]
          exact run_loadCells_list w _ us fun j v hv => by rw [addr_add]; exact hus j v hv
        exact done w' (run_copy_s ht hs _ _ n c m c' hmn us w w' hl hst) hR'
theorem setL_app : ∀ (N A B Z : List Value), A.length = N.length → setL (Z ++ A ++ B) Z.length N = Z ++ N ++ B
  | [], A, B, Z, h => by
    obtain rfl : A = [] := by simpa using h
    rfl
  | v :: N, A, B, Z, h => by
    obtain ⟨a, A, rfl⟩ : ∃ a r, A = a :: r := by cases A with
      | nil => simp at h
      | cons a r => exact ⟨a, r, rfl⟩
    have ih := setL_app N A B (Z ++ [v]) (by simpa using h)
    simp only [setL]
    rw [show (Z ++ a :: A ++ B).set Z.length v = Z ++ [v] ++ A ++ B by simp, show Z.length + 1 = (Z ++ [v]).length by simp, ih]
    simp
theorem setL_head {N A B : List Value} (h : A.length = N.length) : setL (A ++ B) 0 N = N ++ B := by
  have := setL_app N A B [] h
  simpa using this
section
variable {P : Program} {T : Tab} (H : TabOk P T)
variable {ops : Array Oper} {k i : Nat} {os : List Oper} {E : Env} {M : Mem} {D : List Eff → Prop} {K : ASt → Prop}
  {d : Tmp} {ty : TypeId} {ps : String} {af : Array Edge} {g : Option (Nat × Bool)}
include H
theorem AWo.copy {x y : Operand} {t t' e : TypeId} {id jd o n m es : Nat} {cs news : List Value} {bj : Blk} (all : List Value)
    (hx : aev E x = some (.slice (some ⟨id, 0, none⟩) n 0)) (hy : aev E y = some (.slice (some ⟨jd, o, none⟩) m 0)) (hb : M id = some ⟨cs, true, es⟩) (hj : M jd = some bj) (hmn : m ≤ n)
    (hn : m * es ≤ cs.length) (hnw : (bj.cells.drop o).take (m * es) = news) (ho : o + m * es ≤ bj.cells.length)
    (ht : T.sl.lookup t = some e) (hs : T.sz.lookup e = some es) (hone : news.all (·.oneCell') = true) (hall : setL cs 0 news = all)
    (hw : wantA ops E ⟨some d, .call ⟨.builtin .copy, #[x, y], #[t, t']⟩, ty, ps, af, g⟩ = some true) (hd : Nat.blt d k = true)
    (hr : AWo P ops k (i + 1) os ⟨upd E d (.int .i64 m), upd M id ⟨all, true, es⟩⟩ (fun es' => D (⟨[id, jd], [(id, ⟨all, true, es⟩)]⟩ :: es')) K) :
    AWo P ops k i (⟨some d, .call ⟨.builtin .copy, #[x, y], #[t, t']⟩, ty, ps, af, g⟩ :: os) ⟨E, M⟩ D K := by
  subst hall
  exact AWo.step (FStep.copy hx hy hb hj hmn hn hnw ho (H.sl t _ ht) (H.sz e _ hs) hone) hw hd (fun p hp h => by simp at hp; subst hp; simp at h) hr
end
end Go.Proofs.YtlfadlfjjkppfaaGreatDoor.Sim
namespace Go.Proofs.YtlfadlfjjkppfaaGreatDoor.Sim
open Go
def Meth (P : Program) (T : TypeId) (name : String) (f : FuncId) (r r' : Value) : Prop :=
  T ≠ 987654321 ∧ ∀ (D : Nat → Prop) (ρ : Rho) (x : Value), VR .real D ρ r x → ∃ y, (∀ w, (method (P.types.size + Made.depth) T x name).run P w = .ok (f, y) w) ∧ VR .real D ρ r' y
theorem Meth.same {P : Program} {T : TypeId} {name : String} {f : FuncId} {r : Value} (hT : T ≠ 987654321) (h : ∀ x w, (method (P.types.size + Made.depth) T x name).run P w = .ok (f, x) w) : Meth P T name f r r :=
  ⟨hT, fun _ _ x hx => ⟨x, h x, hx⟩⟩
theorem ext1 (u : Value) (A : Array Value) : (#[u] ++ A).extract 1 (#[u] ++ A).size = A := by
  apply Array.ext'
  simp
theorem FStep.callI {P : Program} {E : Env} {M : Mem} {d : Option Tmp} {ty : TypeId} {ps : String} {af : Array Edge} {gd : Option (Nat × Bool)} {f : FuncId} {args : List Value} {M0 : List Blk} {res : Value} {Mo : List Blk} (S : Ctr P f args M0 res Mo) (hb : Bodied P f)
    {g : List (Nat × Nat)} {nids : List Nat} {new : List (Nat × Blk)} (F : Fits M M0 Mo g nids new)
    {rop : Operand} {name : String} {aops : Array Operand} {tys : Array TypeId} {T : TypeId} {r r' : Value} {vals : List Value}
    (hf : aev E rop = some (.iface T r)) (hm : Meth P T name f r r') (hv : aops.toList.map (aev E) = vals.map some)
    (hl : args.length = (r' :: vals).length)
    (hav : ∀ (k : Nat) (x y : Value), args[k]? = some x → (r' :: vals)[k]? = some y → VR .arg (dom (memL M0)) (gmap g nids) x y)
    {vres : Value} (hres : VR .res (dom (memL Mo)) (gmap g nids) res vres) :
    FStep P ⟨d, .call ⟨.invoke rop name, aops, tys⟩, ty, ps, af, gd⟩ E M vres ⟨g.map (·.1), new⟩ := by
  intro E' M' h1 h2 h3 C ρ ac w hR
  have hfr : ∀ i ∈ nids, M' i = none := by
    intro i hi
    obtain ⟨hk, hg⟩ := F.hnids i hi
    obtain ⟨p, hp, rfl⟩ := List.mem_map.1 hk
    exact h3 p hp hg
  have hfv := hR.eval (x := rop) (by rw [h1 rop (by simp [Op.operands, Call.operands])]; exact hf)
  obtain ⟨x, hfe, hxr⟩ : ∃ x, ac.eval rop = .iface T x ∧ VR .real (dom M') ρ r x := by
    generalize hu : ac.eval rop = u at hfv
    have hT := hm.1
    cases hfv with
    | flat _ hfl =>
      obtain ⟨rfl, _⟩ := flat_iface hfl
      exact ⟨_, rfl, .agg _ _ rfl fun k a b ha => by simp at ha⟩
    | iface _ _ y _ hy => exact ⟨y, rfl, hy⟩
    | deepA => exact absurd rfl hT
    | deepR => exact absurd rfl hT
    | deepN => exact absurd rfl hT
    | deepE => exact absurd rfl hT
    | tight => exact absurd rfl hT
    | ptrA => exact absurd rfl hT
    | ptrR => exact absurd rfl hT
  obtain ⟨y, hmr, hyr⟩ := hm.2 _ _ x hxr
  have hvl : vals.length = aops.size := by simpa using (congrArg List.length hv).symm
  have hrel : ∀ (k : Nat) (v u : Value), (r' :: vals)[k]? = some v → (y :: (aops.map ac.eval).toList)[k]? = some u → VR .real (dom M') ρ v u := by
    intro k v u hy hu
    cases k with
    | zero =>
      simp only [List.getElem?_cons_zero, Option.some.injEq] at hy hu
      subst hy; subst hu; exact hyr
    | succ k =>
      simp only [List.getElem?_cons_succ] at hy hu
      have hlt : k < aops.size := by
        have := (List.getElem?_eq_some_iff.1 hy).1
        omega
      obtain ⟨v', hv1, hv2⟩ := map_some_get hv (k := k) (x := aops[k]) (by simp [hlt])
      rw [hy] at hv1; cases hv1
      have hu' : u = ac.eval aops[k] := by
        simp only [Array.toList_map, List.getElem?_map] at hu
        rw [Array.getElem?_toList, Array.getElem?_eq_getElem hlt] at hu
        simpa using hu.symm
      rw [hu']
      refine hR.eval ?_
      show aev E' aops[k] = some v
      rw [h1 aops[k] (by simp [Op.operands, Call.operands])]
      exact hv2
  have hlen : (r' :: vals).length = (y :: (aops.map ac.eval).toList).length := by simp [hvl]
  have hcall := call_sound S F h2 hfr hR hl hlen hav hrel hres
  unfold StepTo Oper.wp
  have : (execOp ac.eval ⟨d, .call ⟨.invoke rop name, aops, tys⟩, ty, ps, af, gd⟩).run P w = .ok (.enter f (y :: (aops.map ac.eval).toList).toArray) w := by
    have e0 : (y :: (aops.map ac.eval).toList).toArray = #[y] ++ aops.map ac.eval := by
      apply Array.ext'; simp
    have e1 : (#[Value.iface T x] ++ aops.map ac.eval)[0]? = some (.iface T x) := by rw [Array.getElem?_append_left (show 0 < #[Value.iface T x].size from Nat.zero_lt_one)]; rfl
    rw [e0]
    simp only [execOp, resolve, hfe, Sem.run_bind, Sem.run_pure, Result.andThen_ok, invoke, e1, callMethod, ext1, run_program, hmr, run_callFunc hb]
  rw [this]
  refine Calls.mono hcall ?_
  rintro e w' ⟨u, ρ', rfl, hR', hv'⟩
  exact ⟨u, rfl, ρ', hR', hv'⟩
section
variable {P : Program} {ops : Array Oper} {n i : Nat} {os : List Oper} {E : Env} {M : Mem} {D : List Eff → Prop} {K : ASt → Prop}
  {d : Option Tmp} {ty : TypeId} {ps : String} {af : Array Edge} {gd : Option (Nat × Bool)} {f : FuncId} {aops : Array Operand} {tys : Array TypeId} {vals : List Value}
theorem AWo.callI {vs rv rv' : List Value} {M0 Mo : List Blk} {rop : Operand} {name : String} {T : TypeId} {r r' : Value} (S : Ctr P f vs M0 (oneV rv) Mo) (hb : Bodied P f) (hm : Meth P T name f r r') (g : List (Nat × Nat)) (nids : List Nat) {new : List (Nat × Blk)} {v : Value} {M' : Mem}
    (hf : aev E rop = some (.iface T r)) (hx : Evs E aops.toList vals)
    (hargs : RelL (gmap g nids) M0.length vs (r' :: vals)) (hfit : FitL (gmap g nids) M0.length M M0 g) (hl : loneB M0 g = true) (hnew : NewL (gmap g nids) Mo.length M0 Mo g nids new)
    (hfr : ∀ i ∈ nids, M i = none) (hnd : nids.Nodup) (hrv : RelR (gmap g nids) Mo.length rv rv') (hv : oneV rv' = v) (hM : upds M new = M')
    (hw : wantA ops E ⟨d, .call ⟨.invoke rop name, aops, tys⟩, ty, ps, af, gd⟩ = some true) (hd : dstB n d = true)
    (hr : AWo P ops n (i + 1) os ⟨putE E d v, M'⟩ (fun es => D (⟨g.map (·.1), new⟩ :: es)) K) :
    AWo P ops n i (⟨d, .call ⟨.invoke rop name, aops, tys⟩, ty, ps, af, gd⟩ :: os) ⟨E, M⟩ D K := by
  subst hv; subst hM
  have F := Fits.of hfit hl hnew hfr hnd
  obtain ⟨g1, g2⟩ := hargs.get (D := dom (memL M0)) fun i hi => dom_memL.2 hi
  have hDo : ∀ i, i < Mo.length → dom (memL Mo) i := fun i hi => dom_memL.2 hi
  have hres : VR .res (dom (memL Mo)) (gmap g nids) (oneV rv) (oneV rv') := by
    obtain ⟨r1, r2⟩ := hrv.get hDo
    exact oneV_rel r1 r2
  have hs := FStep.callI (d := d) (ty := ty) (ps := ps) (af := af) (gd := gd) S hb F (tys := tys) hf hm hx.map g1 g2 hres
  refine AWo.step hs hw hd (fun p hp hq => ?_) hr
  obtain ⟨_, _, _, n4⟩ := hnew.get
  obtain ⟨k, bo, a1, a2, _⟩ := n4 p hp
  rcases a2 with ⟨q, bi, c1, c2, c3, c4, c5⟩ | ⟨c1, c2⟩
  · refine absurd ?_ hq
    rw [c3]
    exact List.mem_map.2 ⟨q, List.mem_of_getElem? c2, rfl⟩
  · exact hfr _ (List.mem_of_getElem? c2)
end
end Go.Proofs.YtlfadlfjjkppfaaGreatDoor.Sim
namespace Go.Proofs.YtlfadlfjjkppfaaGreatDoor.Sim
open Go
theorem iface_inv {D : Nat → Prop} {ρ : Rho} {t : TypeId} {r u : Value} (ht : t ≠ 987654321) (h : VR .real D ρ (.iface t r) u) : ∃ y, u = .iface t y ∧ VR .real D ρ r y := by
  cases h with
  | flat _ hf =>
    obtain ⟨rfl, _⟩ := flat_iface hf
    exact ⟨_, rfl, .agg _ _ rfl fun k a b ha => by simp at ha⟩
  | iface _ _ y _ hy => exact ⟨y, rfl, hy⟩
  | deepA => exact absurd rfl ht
  | deepR => exact absurd rfl ht
  | deepN => exact absurd rfl ht
  | deepE => exact absurd rfl ht
  | tight => exact absurd rfl ht
  | ptrA => exact absurd rfl ht
  | ptrR => exact absurd rfl ht
theorem PureOp.nilCheckI {P : Program} {E : Env} {x : Operand} {t : TypeId} {r : Value} (h1 : aev E x = some (.iface t r)) (ht : t ≠ 987654321) : PureOp P (.nilCheck x) E (.iface t r) := fun D ρ e hx => by
  have h2 := hx x (by simp [Op.operands]) _ h1
  obtain ⟨y, e1, hy⟩ := iface_inv ht h2
  exact ⟨.iface t y, .iface t r y ht hy, fun d ty ps af g w => by simp [execOp, e1]⟩
theorem PureOp.makeI {P : Program} {E : Env} {x : Operand} {T : TypeId} {v : Value} (h1 : aev E x = some v) (ht : T ≠ 987654321) (hrun : ∀ y w, (Instr.makeInterface T y).run P w = .ok (.iface T y) w) : PureOp P (.makeInterface T x) E (.iface T v) := fun D ρ e hx => by
  have h2 := hx x (by simp [Op.operands]) _ h1
  exact ⟨.iface T (e x), .iface T v _ ht h2, fun d ty ps af g w => by simp only [execOp, Sem.run_bind, hrun, Result.andThen_ok, Sem.run_pure]⟩
end Go.Proofs.YtlfadlfjjkppfaaGreatDoor.Sim
namespace Go.Proofs.YtlfadlfjjkppfaaGreatDoor.Sim
open Go Go.RowKit
section
variable {P : Program} {E : Env} {M : Mem} {d : Option Tmp} {ty : TypeId} {ps : String} {af : Array Edge} {g : Option (Nat × Bool)}
theorem run_bounds3 {ev : Operand → Value} {lo : Option Operand} {hi mx : Operand} {k k' : IntKind} {l h n c : Nat} (isS : Bool) (hlo : OptI E lo 0 l) (hhi : aev E hi = some (.int k (h : Nat))) (hmx : aev E mx = some (.int k' (h : Nat)))
    (hev : ∀ x, (lo = some x ∨ hi = x ∨ mx = x) → ∀ v, aev E x = some v → flatV v = true → ev x = v)
    (hlh : l ≤ h) (hhc : h ≤ c) (w : World) : (Instr.sliceBounds isS n c (lo.map ev) (some (ev hi)) (some (ev mx))).run P w = .ok (l, h, h) w := by
  have e1 := hev _ (.inr (.inl rfl)) _ hhi rfl
  have e2 := hev _ (.inr (.inr rfl)) _ hmx rfl
  cases hlo with
  | none => simp [Instr.sliceBounds, Instr.sliceBound, e1, e2, asIntOf, hhc]
  | some hy =>
    have h2 := hev _ (.inl rfl) _ hy rfl
    simp [Instr.sliceBounds, Instr.sliceBound, e1, e2, h2, asIntOf, hhc, hlh]
end
section
variable {P : Program} {T : Tab} (H : TabOk P T)
variable {ops : Array Oper} {k i : Nat} {os : List Oper} {E : Env} {M : Mem} {D : List Eff → Prop} {K : ASt → Prop}
  {d : Tmp} {ty : TypeId} {ps : String} {af : Array Edge} {g : Option (Nat × Bool)}
include H
end
end Go.Proofs.YtlfadlfjjkppfaaGreatDoor.Sim
namespace Go.Proofs.YtlfadlfjjkppfaaGreatDoor.Sim
open Go Go.RowKit
theorem deep_cases {D : Nat → Prop} {ρ : Rho} {n es : Nat} {cells : List Value} {u : Value} (h : VR .real D ρ (deep n es cells) u) :
    (∃ (d : Imm) (o c : Nat), u = .slice (some ⟨d.blk, d.off + o, none⟩) n c ∧ d ∈ ρ.im ∧ n * es = cells.length ∧ (d.cells.drop o).take cells.length = cells ∧ o + cells.length ≤ d.cells.length ∧ n ≤ c) ∨
    (n = 0 ∧ cells = [] ∧ (u = .slice none 0 0 ∨ ∃ (a : Addr) (c : Nat), u = .slice (some a) 0 c ∧ (a.spot = none ∨ c = 0))) := by
  unfold deep at h
  generalize hcs : cells.toArray = cs at h
  have hc : cells = cs.toList := by rw [← hcs]
  subst hc
  cases h with
  | flat _ hf => simp [flatV] at hf
  | iface _ _ _ ht => exact absurd rfl ht
  | deepA _ _ _ hm => exact absurd rfl hm
  | deepR _ _ c o _ d hm hd hn hcs' ho hc =>
    exact .inl ⟨d, o, c, rfl, hd, by simpa using hn, by simpa using hcs', by simpa using ho, hc⟩
  | deepN => exact .inr ⟨rfl, rfl, .inl rfl⟩
  | deepE _ a c _ ha => exact .inr ⟨rfl, rfl, .inr ⟨a, c, rfl, ha⟩⟩
theorem deep0 {D : Nat → Prop} {ρ : Rho} {es : Nat} (b o c : Nat) : VR .real D ρ (deep 0 es []) (.slice (some ⟨b, o, none⟩) 0 c) := .deepE es _ c rfl (.inl rfl)
section
variable {P : Program} {E : Env}
theorem part_len {cells : List Value} {n es l h : Nat} (hn : n * es = cells.length) (hlh : l ≤ h) (hh : h ≤ n) : ((cells.drop (l * es)).take ((h - l) * es)).length = (h - l) * es := by
  rw [List.length_take, List.length_drop, ← hn, ← Nat.sub_mul]
  exact Nat.min_eq_left (Nat.mul_le_mul_right _ (by omega))
theorem deep_part {D : Nat → Prop} {ρ : Rho} {n es l h o c' : Nat} {cells : List Value} {d : Imm} (hd : d ∈ ρ.im) (hn : n * es = cells.length) (hcs : (d.cells.drop o).take cells.length = cells) (ho : o + cells.length ≤ d.cells.length)
    (hlh : l ≤ h) (hh : h ≤ n) (hc : h - l ≤ c') : VR .real D ρ (deep (h - l) es ((cells.drop (l * es)).take ((h - l) * es))) (.slice (some ⟨d.blk, d.off + o + l * es, none⟩) (h - l) c') := by
  have hL := part_len hn hlh hh
  have h1 : (h - l) * es + l * es ≤ cells.length := by
    rw [← hn, ← Nat.add_mul]; exact Nat.mul_le_mul_right _ (by omega)
  rw [Nat.add_assoc]
  refine .deepR (h - l) es c' (o + l * es) _ d rfl hd (by simp only [List.size_toArray]; exact hL.symm) ?_ (by simp only [List.size_toArray]; rw [hL]; omega) hc
  simp only [List.size_toArray]
  rw [hL]
  conv => rhs; rw [← hcs]
  rw [List.drop_take, List.take_take, List.drop_drop, Nat.min_eq_left (by omega)]
theorem PureOp.sliceD {t e : TypeId} {x : Operand} {lo hi : Option Operand} {n l h es : Nat} {cells : List Value} (hx : aev E x = some (deep n es cells)) (hlo : OptI E lo 0 l) (hhi : OptI E hi n h)
    (ht : P.underlying t = some (.slice e)) (hsz : (P.info? e).map (·.size) = some es) (hlh : l ≤ h) (hhn : h ≤ n) :
    PureOp P (.slice t x lo hi none) E (deep (h - l) es ((cells.drop (l * es)).take ((h - l) * es))) := fun D ρ ev hxx => by
  have hxv := hxx x (by simp [Op.operands]) _ hx
  have hev : ∀ y, (lo = some y ∨ hi = some y) → ∀ v, aev E y = some v → flatV v = true → ev y = v := fun y hy v hv hf => flat_inv (hxx y (opt_mem hy) _ hv) hf
  rcases deep_cases hxv with ⟨d, o, c, e1, hd, hn, hcs, ho, hc⟩ | ⟨rfl, rfl, e1 | ⟨a, c, e1, ha⟩⟩
  · refine ⟨.slice (some (if c = l then ⟨d.blk, d.off + o, none⟩ else ⟨d.blk, d.off + o + l * es, none⟩)) (h - l) (c - l), ?_, fun d' ty ps af g w => ?_⟩
    · by_cases hcl : c = l
      · rw [if_pos hcl]
        have e2 : h - l = 0 := by omega
        rw [e2, Nat.zero_mul, List.take_zero]
        exact deep0 _ _ _
      · rw [if_neg hcl]
        exact deep_part hd hn hcs ho hlh hhn (by omega)
    · by_cases hcl : c = l
      · simp only [execOp, e1, Instr.sliceAt, Instr.slice, Sem.run_bind, run_underlying ht, Result.andThen_ok, Option.map_none, run_bounds (P := P) true hlo hhi hev hlh (Nat.le_trans hhn hc), run_size hsz, Sem.run_pure, if_pos hcl]
      · simp only [execOp, e1, Instr.sliceAt, Instr.slice, Sem.run_bind, run_underlying ht, Result.andThen_ok, Option.map_none, run_bounds (P := P) true hlo hhi hev hlh (Nat.le_trans hhn hc), run_size hsz, Sem.run_pure, if_neg hcl, Option.map_some, addr_add]
  · obtain rfl : h = 0 := by omega
    obtain rfl : l = 0 := by omega
    refine ⟨.slice none 0 0, by rw [List.drop_nil, List.take_nil]; exact .deepN es (by simp), fun d' ty ps af g w => ?_⟩
    simp only [execOp, e1, Instr.sliceAt, Instr.slice, Sem.run_bind, run_underlying ht, Result.andThen_ok, Option.map_none, run_bounds (P := P) true hlo hhi hev hlh (Nat.le_refl _), run_size hsz, Sem.run_pure, if_true, Nat.sub_zero]
  · obtain rfl : h = 0 := by omega
    obtain rfl : l = 0 := by omega
    by_cases hc0 : c = 0
    · subst hc0
      refine ⟨.slice (some a) 0 0, by rw [List.drop_nil, List.take_nil]; exact .deepE es a 0 rfl (.inr rfl), fun d' ty ps af g w => ?_⟩
      simp only [execOp, e1, Instr.sliceAt, Instr.slice, Sem.run_bind, run_underlying ht, Result.andThen_ok, Option.map_none, run_bounds (P := P) true hlo hhi hev hlh (Nat.le_refl _), run_size hsz, Sem.run_pure, if_true, Nat.sub_zero]
    · obtain ⟨b, off, sp⟩ := a
      have hs : sp = none := ha.resolve_right hc0
      subst hs
      refine ⟨.slice (some ⟨b, off, none⟩) 0 c, by rw [List.drop_nil, List.take_nil]; exact deep0 _ _ _, fun d' ty ps af g w => ?_⟩
      simp only [execOp, e1, Instr.sliceAt, Instr.slice, Sem.run_bind, run_underlying ht, Result.andThen_ok, Option.map_none, run_bounds (P := P) true hlo hhi hev hlh (Nat.zero_le c), run_size hsz, Sem.run_pure, if_neg hc0, Option.map_some, addr_add, Nat.zero_mul, Nat.add_zero, Nat.sub_zero]
theorem PureOp.sliceD3 {t e : TypeId} {x : Operand} {lo : Option Operand} {hi mx : Operand} {k k' : IntKind} {n l h es : Nat} {cells : List Value} (hx : aev E x = some (deep n es cells)) (hlo : OptI E lo 0 l) (hhi : aev E hi = some (.int k (h : Nat))) (hmx : aev E mx = some (.int k' (h : Nat)))
    (ht : P.underlying t = some (.slice e)) (hsz : (P.info? e).map (·.size) = some es) (hlh : l ≤ h) (hhn : h ≤ n) :
    PureOp P (.slice t x lo (some hi) (some mx)) E (deep (h - l) es ((cells.drop (l * es)).take ((h - l) * es))) := fun D ρ ev hxx => by
  have hxv := hxx x (by simp [Op.operands]) _ hx
  have hev : ∀ y, (lo = some y ∨ hi = y ∨ mx = y) → ∀ v, aev E y = some v → flatV v = true → ev y = v := fun y hy v hv hf =>
    flat_inv (hxx y (by rcases hy with rfl | rfl | rfl <;> simp [Op.operands]) _ hv) hf
  rcases deep_cases hxv with ⟨d, o, c, e1, hd, hn, hcs, ho, hc⟩ | ⟨rfl, rfl, e1 | ⟨a, c, e1, ha⟩⟩
  · refine ⟨.slice (some (if h = l then ⟨d.blk, d.off + o, none⟩ else ⟨d.blk, d.off + o + l * es, none⟩)) (h - l) (h - l), ?_, fun d' ty ps af g w => ?_⟩
    · by_cases hcl : h = l
      · rw [if_pos hcl]
        have e2 : h - l = 0 := by omega
        rw [e2, Nat.zero_mul, List.take_zero]
        exact deep0 _ _ _
      · rw [if_neg hcl]
        exact deep_part hd hn hcs ho hlh hhn (Nat.le_refl _)
    · by_cases hcl : h = l
      · simp only [execOp, e1, Instr.sliceAt, Instr.slice, Sem.run_bind, run_underlying ht, Result.andThen_ok, Option.map_some, run_bounds3 (P := P) true hlo hhi hmx hev hlh (Nat.le_trans hhn hc), run_size hsz, Sem.run_pure, if_pos hcl]
      · simp only [execOp, e1, Instr.sliceAt, Instr.slice, Sem.run_bind, run_underlying ht, Result.andThen_ok, Option.map_some, run_bounds3 (P := P) true hlo hhi hmx hev hlh (Nat.le_trans hhn hc), run_size hsz, Sem.run_pure, if_neg hcl, addr_add]
  · obtain rfl : h = 0 := by omega
    obtain rfl : l = 0 := by omega
    refine ⟨.slice none 0 0, by rw [List.drop_nil, List.take_nil]; exact .deepN es (by simp), fun d' ty ps af g w => ?_⟩
    simp only [execOp, e1, Instr.sliceAt, Instr.slice, Sem.run_bind, run_underlying ht, Result.andThen_ok, Option.map_some, run_bounds3 (P := P) true hlo hhi hmx hev hlh (Nat.le_refl _), run_size hsz, Sem.run_pure, if_true, Nat.sub_zero]
  · obtain rfl : h = 0 := by omega
    obtain rfl : l = 0 := by omega
    refine ⟨.slice (some a) 0 0, by rw [List.drop_nil, List.take_nil]; exact .deepE es a 0 rfl (.inr rfl), fun d' ty ps af g w => ?_⟩
    simp only [execOp, e1, Instr.sliceAt, Instr.slice, Sem.run_bind, run_underlying ht, Result.andThen_ok, Option.map_some, run_bounds3 (P := P) true hlo hhi hmx hev hlh (Nat.zero_le c), run_size hsz, Sem.run_pure, if_true, Nat.sub_zero]
end
end Go.Proofs.YtlfadlfjjkppfaaGreatDoor.Sim
namespace Go.Proofs.YtlfadlfjjkppfaaGreatDoor.Sim
open Go
section
variable {P : Program} {T : Tab} (H : TabOk P T) {E : Env} {M : Mem} {n' i : Nat} {d : Tmp} {ty : TypeId} {ps : String} {af : Array Edge} {g : Option (Nat × Bool)} {ops : Array Oper} {os : List Oper} {D : List Eff → Prop} {K : ASt → Prop}
include H
end
theorem ba_loop (bs : ByteArray) : ∀ (n i : Nat) (r : List UInt8), bs.size - i = n → ByteArray.toList.loop bs i r = r.reverse ++ bs.data.toList.drop i := by
  intro n
  induction n with
  | zero =>
    intro i r h
    unfold ByteArray.toList.loop
    rw [if_neg (by omega), List.drop_eq_nil_of_le (by show bs.data.toList.length ≤ i; rw [Array.length_toList]; show bs.size ≤ i; omega), List.append_nil]
  | succ n ih =>
    intro i r h
    unfold ByteArray.toList.loop
    rw [if_pos (by omega), ih (i + 1) _ (by omega), List.reverse_cons, List.append_assoc]
    congr 1
    have hi : i < bs.data.toList.length := by rw [Array.length_toList]; show i < bs.size; omega
    rw [List.drop_eq_getElem_cons hi]
    have hi2 : i < bs.data.size := by show i < bs.size; omega
    have e : bs.get! i = bs.data.toList[i] := by
      show bs.data[i]! = _
      rw [getElem!_pos bs.data i hi2]
      rfl
    rw [e]; rfl
theorem ba_toList (bs : ByteArray) : bs.toList = bs.data.toList := by
  show ByteArray.toList.loop bs 0 [] = _
  rw [ba_loop bs _ 0 [] rfl]; rfl
theorem bstr_fold : ∀ (l : List Nat) (r : ByteArray), ((l.map fun (n : Nat) => (n : Int)).foldl (fun r n => r.push (UInt8.ofNat n.toNat)) r).data.toList = r.data.toList ++ l.map UInt8.ofNat
  | [], r => by simp
  | x :: l, r => by
    rw [List.map_cons, List.foldl_cons, bstr_fold l]
    show (r.data.push (UInt8.ofNat x)).toList ++ _ = _
    simp
theorem bstr_toList (l : List Nat) : (bstr l).toList = l.map UInt8.ofNat := by
  rw [ba_toList, bstr, bstr_fold]; rfl
theorem bstr_eq {l l' : List Nat} (h : ∀ x ∈ l, x < 256) (h' : ∀ x ∈ l', x < 256) : ((bstr l).toList == (bstr l').toList) = decide (l = l') := by
  rw [bstr_toList, bstr_toList, Bool.eq_iff_iff, beq_iff_eq, decide_eq_true_eq]
  constructor
  · intro e
    have e2 := congrArg (List.map UInt8.toNat) e
    rw [List.map_map, List.map_map] at e2
    have g : ∀ m : List Nat, (∀ x ∈ m, x < 256) → m.map (UInt8.toNat ∘ UInt8.ofNat) = m := fun m hm => by
      conv => rhs; rw [← List.map_id m]
      exact List.map_congr_left fun x hx => by
        show (UInt8.ofNat x).toNat = x
        have h0 := hm x hx
        have h1 : (UInt8.ofNat x).toNat = x % 256 := by simp
        rw [h1]; exact Nat.mod_eq_of_lt h0
    rwa [g l h, g l' h'] at e2
  · rintro rfl; rfl
theorem PureOp.neStrD {P : Program} {E : Env} {t t' : TypeId} {x y : Operand} {l l' : List Nat} (h1 : aev E x = some (.string (bstr l))) (h2 : aev E y = some (.string (bstr l'))) (h : ∀ x ∈ l, x < 256) (h' : ∀ x ∈ l', x < 256) :
    PureOp P (.binOp .neq t x y t') E (.bool (!decide (l = l'))) := fun D ρ ev hx => by
  have e1 := flat_inv (hx x (by simp [Op.operands]) _ h1) rfl
  have e2 := flat_inv (hx y (by simp [Op.operands]) _ h2) rfl
  refine ⟨_, .flat _ rfl, fun _ _ _ _ _ w => ?_⟩
  simp [execOp, e1, e2, eqGuard, binOp, Op.stringOp, bstr_eq h h']
end Go.Proofs.YtlfadlfjjkppfaaGreatDoor.Sim
namespace Go.Proofs.YtlfadlfjjkppfaaGreatDoor.Sim
open Go Go.RowKit
section
variable {P : Program} {T : Tab} (H : TabOk P T)
variable {ops : Array Oper} {k i : Nat} {os : List Oper} {E : Env} {M : Mem} {D : List Eff → Prop} {K : ASt → Prop}
  {d : Tmp} {ty : TypeId} {ps : String} {af : Array Edge} {g : Option (Nat × Bool)}
include H
end
theorem VR.opNil {D : Nat → Prop} {ρ : Rho} {a b c u : Value} (h : VR .real D ρ (.agg #[a, b, c, .slice none 0 0]) u) : VR .real D ρ (.agg #[a, b, c, deep 0 1 []]) u := by
  cases h with
  | flat _ hf => simp [flatV] at hf
  | agg _ ys hs hh =>
    refine .agg _ ys hs fun k x y hx hy => ?_
    match k, hx with
    | 0, hx => exact hh 0 x y hx hy
    | 1, hx => exact hh 1 x y hx hy
    | 2, hx => exact hh 2 x y hx hy
    | 3, hx =>
      cases hx
      have := hh 3 _ y rfl hy
      have e := flat_inv this rfl
      subst e
      exact .deepN 1 (by simp)
    | k + 4, hx => simp at hx
theorem PureOp.opNil {P : Program} {o : Op} {E : Env} {a b c : Value} (h : PureOp P o E (.agg #[a, b, c, .slice none 0 0])) : PureOp P o E (.agg #[a, b, c, deep 0 1 []]) := fun D ρ e hx => by
  obtain ⟨u, h1, h2⟩ := h D ρ e hx
  exact ⟨u, h1.opNil, h2⟩
theorem Rep.freezeU {C : Ctx} {ρ : Rho} {E : Env} {M : Mem} {a : Act} {w : World} (h : Rep C ρ ⟨E, M⟩ a w) {id o n es : Nat} {cells l : List Value}
    (hid : M id = some ⟨cells, true, es⟩) (hc : ∀ x ∈ cells, cloV x = true) (ho : o + n * es ≤ cells.length) (hl : (cells.drop o).take (n * es) = l) :
    ∃ ρ', Rep C ρ' ⟨E, upd M id ⟨cells, false, es⟩⟩ a w ∧ ∀ u, VR .real (dom (upd M id ⟨cells, false, es⟩)) ρ' (.slice (some ⟨id, o, none⟩) n 0) u → VR .real (dom (upd M id ⟨cells, false, es⟩)) ρ' (deep n es l) u := by
  have hB := h.mem id _ hid
  let d : Imm := ⟨(ρ id).blk, (ρ id).off, cells⟩
  let ρ' : Rho := ⟨ρ.pl, d :: ρ.im⟩
  have hsub : ∀ d' ∈ ρ.im, d' ∈ ρ'.im := fun d' hd => List.mem_cons_of_mem _ hd
  have hdom : ∀ i, dom M i → dom (upd M id ⟨cells, false, es⟩) i := by
    rintro i ⟨b, hb⟩
    by_cases hi : i = id
    · exact ⟨⟨cells, false, es⟩, by simp only [upd, hi, if_true]⟩
    · exact ⟨b, by simp only [upd, hi, if_false]; exact hb⟩
  have own' : cells ≠ [] → (⟨cells, true, es⟩ : Blk).own (ρ id) := fun hne => hB.owned rfl (List.length_pos_iff.2 hne)
  refine ⟨ρ', ⟨h.size, h.defers, fun t' v hv' => ?_, fun i b hb => ?_, h.agree, fun i hi => hdom i (h.low i hi), fun i b hb hr => ?_, h.frame, fun d' hd => ?_, fun d' hd => hsub d' (h.imsub d' hd), fun d' hd => ?_, fun d' hd => hsub d' (h.gl d' hd)⟩, fun u hv => ?_⟩
  · obtain ⟨x, hx, hr⟩ := h.env t' v hv'
    exact ⟨x, hx, hr.mono hdom (fun _ _ => rfl) hsub⟩
  · simp only [upd] at hb
    by_cases hi : i = id
    · rw [if_pos hi] at hb; cases hb
      subst hi
      refine ⟨fun hs => hB.lt (hs.imp (fun h => by cases h.1) fun h => h), fun k v hk => ?_, (fun hr => by cases hr.1), hB.es, hB.room⟩
      obtain ⟨x, g1, g2⟩ := hB.cells k v hk
      exact ⟨x, g1, g2.mono hdom (fun _ _ => rfl) hsub⟩
    · rw [if_neg hi] at hb
      have hB' := h.mem i b hb
      refine ⟨hB'.lt, fun k v hk => ?_, fun hr => ?_, hB'.es, hB'.room⟩
      · obtain ⟨x, hx, hv'⟩ := hB'.cells k v hk
        exact ⟨x, hx, hv'.mono hdom (fun _ _ => rfl) hsub⟩
      · have hW := hB'.rw hr
        refine ⟨hW.off, hW.soft, hW.lim, fun j bj hj hsj hne' => ?_⟩
        simp only [upd] at hj
        by_cases hji : j = id
        · rw [if_pos hji] at hj; cases hj
          rw [hji]
          exact hW.lone id _ hid (.inr (hsj.resolve_left fun h => by cases h.1)) (hji ▸ hne')
        · rw [if_neg hji] at hj
          exact hW.lone j bj hj hsj hne'
  · simp only [upd] at hb
    by_cases hi : i = id
    · rw [if_pos hi] at hb; cases hb; cases hr.1
    · rw [if_neg hi] at hb; exact h.own i b hb hr
  · rcases List.mem_cons.1 hd with rfl | hd
    · refine ⟨fun hne => hB.lt (.inr hne), fun k v hk => ?_, fun hne i b hb hr => ?_⟩
      · obtain ⟨x, g1, g2⟩ := hB.cells k v hk
        exact ⟨x, g1, clo_rel (hc v (List.mem_of_getElem? hk)) (g2.mono (D' := dom M) (ρ' := ρ') (fun _ h => h) (fun _ _ => rfl) hsub)⟩
      · simp only [upd] at hb
        by_cases hi : i = id
        · rw [if_pos hi] at hb; cases hb; cases hr.1
        · rw [if_neg hi] at hb
          exact (hB.rw (own' hne)).lone i b hb (.inl hr) hi
    · refine ⟨(h.im d' hd).lt, fun k v hk => ?_, fun hne i b hb hr => ?_⟩
      · obtain ⟨x, g1, g2⟩ := (h.im d' hd).cells k v hk
        exact ⟨x, g1, g2.closed hsub⟩
      · simp only [upd] at hb
        by_cases hi : i = id
        · rw [if_pos hi] at hb; cases hb; cases hr.1
        · rw [if_neg hi] at hb; exact (h.im d' hd).own hne i b hb hr
  · rcases List.mem_cons.1 hd with rfl | hd
    · by_cases hne : cells = []
      · exact .inr (.inl hne)
      · exact .inr (.inr (h.own id _ hid (own' hne)))
    · exact h.imnew d' hd
  · have hll : l.length = n * es := by rw [← hl, List.length_take, List.length_drop]; omega
    cases hv with
    | flat _ hf => simp [flatV] at hf
    | nilS =>
      have : l = [] := List.length_eq_zero_iff.1 (by simpa using hll)
      subst this
      exact .deepN es (by simp)
    | zeroS _ a0 =>
      have : l = [] := List.length_eq_zero_iff.1 (by simpa using hll)
      subst this
      exact .deepE es a0 0 rfl (.inr rfl)
    | slice _ _ _ c hd0 h1 h2 => exact .deepR n es c o l.toArray d rfl (List.mem_cons_self ..) (by simpa using hll.symm) (by simpa [hll] using hl) (by simpa [hll] using ho) (h2 rfl).1
theorem AW.freezeC {P : Program} {N m : Nat} {c : Code} {E : Env} {M : Mem} {Q : Exit → ASt → Prop} (j id : Nat) (i : Nat) {o n es esj : Nat} {rwj : Bool} {cells cs : List Value} (l cs' : List Value)
    (hj : M j = some ⟨cs, rwj, esj⟩) (hi : cs[i]? = some (.slice (some ⟨id, o, none⟩) n 0)) (hcs : cs.set i (deep n es l) = cs') (hid : M id = some ⟨cells, true, es⟩) (hne : j ≠ id)
    (hc : ∀ x ∈ cells, cloV x = true) (ho : o + n * es ≤ cells.length) (hl : (cells.drop o).take (n * es) = l)
    (h : AW P N m c ⟨E, upd (upd M id ⟨cells, false, es⟩) j ⟨cs', rwj, esj⟩⟩ Q) : AW P N m c ⟨E, M⟩ Q := by
  intro C hn hm ρ a w hR
  subst hcs
  obtain ⟨ρ', hR', hu⟩ := hR.freezeU hid hc ho hl
  have hj' : upd M id ⟨cells, false, es⟩ j = some ⟨cs, rwj, esj⟩ := by simp only [upd, if_neg hne]; exact hj
  refine h C hn hm ρ' a w (hR'.recell hj' (List.length_set ..) fun k v' hv' => ?_)
  rw [List.getElem?_set] at hv'
  split at hv'
  · rename_i e; subst e
    have hlt := (List.getElem?_eq_some_iff.1 hi).1
    rw [if_pos hlt] at hv'
    cases hv'
    exact ⟨_, hi, hu⟩
  · exact ⟨v', hv', fun _ h => h⟩
end Go.Proofs.YtlfadlfjjkppfaaGreatDoor.Sim
namespace Go.Proofs.YtlfadlfjjkppfaaGreatDoor.Sim
open Go
theorem Rep.exposeP {C : Ctx} {ρ : Rho} {E : Env} {M : Mem} {a : Act} {w : World} (h : Rep C ρ ⟨E, M⟩ a w) {id : Nat} {cells : List Value} {u : Value} (hv : VR .real (dom M) ρ (deepP cells) u) (hne : cells ≠ []) (hid : M id = none) :
    ∃ ρ', Rep C ρ' ⟨E, upd M id ⟨cells, false, 1⟩⟩ a w ∧ VR .real (dom (upd M id ⟨cells, false, 1⟩)) ρ' (.pointer (some ⟨id, 0, none⟩)) u := by
  unfold deepP at hv
  cases hv with
  | flat _ hf => simp [flatV] at hf
  | iface _ _ _ ht => exact absurd rfl ht
  | ptrA _ hm => exact absurd rfl hm
  | ptrR o _ d hm hd hcs ho =>
    have hv2 : VR .real (dom M) ρ (deep cells.length 1 cells) (.slice (some ⟨d.blk, d.off + o, none⟩) cells.length cells.length) :=
      .deepR _ 1 _ o _ d rfl hd (by simp) hcs ho (Nat.le_refl _)
    obtain ⟨ρ', hR, hs⟩ := h.exposeV hv2 hid
    refine ⟨ρ', hR, ?_⟩
    have hD : dom (upd M id ⟨cells, false, 1⟩) id := ⟨⟨cells, false, 1⟩, by simp only [upd, if_true]⟩
    have key : ∀ {x : Value}, VR .real (dom (upd M id ⟨cells, false, 1⟩)) ρ' (.slice (some ⟨id, 0, none⟩) cells.length 0) x → x = .slice (some ⟨d.blk, d.off + o, none⟩) cells.length cells.length → (ρ' id).blk = d.blk ∧ (ρ' id).off + 0 = d.off + o := by
      intro x hx he
      generalize hn : cells.length = n at hx he
      have hn0 : n ≠ 0 := fun e => hne (List.length_eq_zero_iff.1 (by omega))
      cases hx with
      | flat _ hf => simp [flatV] at hf
      | slice => simp only [Value.slice.injEq, Option.some.injEq, Addr.mk.injEq] at he; exact ⟨he.1.1, he.1.2.1⟩
      | nilS => exact absurd rfl hn0
      | zeroS => exact absurd rfl hn0
    obtain ⟨e1, e2⟩ := key hs rfl
    have := VR.ptr (m := .real) (ρ := ρ') (D := dom (upd M id ⟨cells, false, 1⟩)) id 0 hD
    rw [e1, e2] at this
    exact this
theorem FStep.exposedP {P : Program} {o : Oper} {E : Env} {M : Mem} {id : Nat} {cells : List Value} {fp : List Nat} (h : FStep P o E M (deepP cells) ⟨fp, []⟩) (hne : cells ≠ []) (hid : id ∉ fp) :
    FStep P o E M (.pointer (some ⟨id, 0, none⟩)) ⟨fp, [(id, ⟨cells, false, 1⟩)]⟩ := by
  intro E' M' h1 h2 h3 C ρ a w hR
  have hn : M' id = none := h3 (id, ⟨cells, false, 1⟩) (List.mem_singleton_self _) hid
  refine Oper.wp_mono (K := fun a' w' => ∃ u, a' = a.put o.dst u ∧ ∃ ρ', Rep C ρ' ⟨E', M'⟩ a w' ∧ VR .real (dom M') ρ' (deepP cells) u)
    (fun a' w' ⟨u, ha, ρ', hR', hv⟩ => ⟨u, ha, hR'.exposeP hv hne hn⟩) (h E' M' h1 h2 (fun p hp => by cases hp) C ρ a w hR)
section
variable {P : Program} {T : Tab} (H : TabOk P T) {ops : Array Oper} {k i : Nat} {os : List Oper} {E : Env} {M : Mem} {D : List Eff → Prop} {K : ASt → Prop}
  {d : Tmp} {ty : TypeId} {ps : String} {af : Array Edge} {g : Option (Nat × Bool)}
include H
theorem AWo.loadXP {t : TypeId} {a : Operand} {id o : Nat} {b : Blk} {cells : List Value} (nid : Nat) (ha : aev E a = some (.pointer (some ⟨id, o, none⟩))) (hb : M id = some b) (ht : T.agg.lookup t = some false)
    (hv : b.cells[o]? = some (deepP cells)) (hne : cells ≠ []) (hid : M nid = none) (hw : wantA ops E ⟨some d, .load t a, ty, ps, af, g⟩ = some true) (hd : Nat.blt d k = true)
    (hr : AWo P ops k (i + 1) os ⟨upd E d (.pointer (some ⟨nid, 0, none⟩)), upd M nid ⟨cells, false, 1⟩⟩ (fun es' => D (⟨[id], [(nid, ⟨cells, false, 1⟩)]⟩ :: es')) K) :
    AWo P ops k i (⟨some d, .load t a, ty, ps, af, g⟩ :: os) ⟨E, M⟩ D K :=
  AWo.step (FStep.exposedP (FStep.load ha hb (H.agg t _ ht).1 (H.agg t _ ht).2 hv) hne (fun h => by
    simp only [List.mem_singleton] at h
    rw [h, hb] at hid; cases hid)) hw hd (fun p hp _ => by simp at hp; subst hp; exact hid) hr
end
theorem PureOp.ptrEqNilP {P : Program} {E : Env} {t t' s : TypeId} {x : Operand} {cells : List Value} (hu : P.underlying t = some (.pointer s)) (h1 : aev E x = some (deepP cells)) :
    PureOp P (.binOp .eql t x (.const (.pointer none)) t') E (.bool false) := fun D ρ e hx => by
  have hv := hx x (by simp [Op.operands]) _ h1
  obtain ⟨a, e1⟩ : ∃ a, e x = .pointer (some a) := by
    unfold deepP at hv
    generalize e x = u at hv
    cases hv with
    | flat _ hf => simp [flatV] at hf
    | iface _ _ _ ht => exact absurd rfl ht
    | ptrA _ hm => exact absurd rfl hm
    | ptrR o _ d hm hd hcs ho => exact ⟨_, rfl⟩
  have e2 : e (.const (.pointer none)) = .pointer none := flat_inv (hx (.const (.pointer none)) (by simp [Op.operands]) _ rfl) rfl
  exact ⟨_, .flat _ rfl, fun _ _ _ _ _ w => by simp [execOp, e1, e2, eqGuard, binOp, run_ptrNil _ hu]⟩
theorem AW.freezeCP {P : Program} {N m : Nat} {c : Code} {E : Env} {M : Mem} {Q : Exit → ASt → Prop} (j id : Nat) (i : Nat) {esj : Nat} {rwj : Bool} {cells cs : List Value} (cs' : List Value)
    (hj : M j = some ⟨cs, rwj, esj⟩) (hi : cs[i]? = some (.pointer (some ⟨id, 0, none⟩))) (hcs : cs.set i (deepP cells) = cs') (hid : M id = some ⟨cells, true, 1⟩) (hne : j ≠ id)
    (hc : ∀ x ∈ cells, cloV x = true) (h0 : cells ≠ [])
    (h : AW P N m c ⟨E, upd (upd M id ⟨cells, false, 1⟩) j ⟨cs', rwj, esj⟩⟩ Q) : AW P N m c ⟨E, M⟩ Q := by
  intro C hn hm ρ a w hR
  subst hcs
  obtain ⟨ρ', hR', hu⟩ := hR.freezeU (o := 0) (n := cells.length) (l := cells) hid hc (by simp) (by simp)
  have hj' : upd M id ⟨cells, false, 1⟩ j = some ⟨cs, rwj, esj⟩ := by simp only [upd, if_neg hne]; exact hj
  have hid' : upd M id ⟨cells, false, 1⟩ id = some ⟨cells, false, 1⟩ := by simp only [upd, if_true]
  have hD : dom (upd M id ⟨cells, false, 1⟩) id := ⟨_, hid'⟩
  have hB := hR'.mem id _ hid'
  refine h C hn hm ρ' a w (hR'.recell hj' (List.length_set ..) fun k v' hv' => ?_)
  rw [List.getElem?_set] at hv'
  split at hv'
  · rename_i e; subst e
    have hlt := (List.getElem?_eq_some_iff.1 hi).1
    rw [if_pos hlt] at hv'
    cases hv'
    refine ⟨_, hi, fun u hx => ?_⟩
    cases hx with
    | flat _ hf => simp [flatV] at hf
    | ptr _ _ hd =>
      have hs := hu _ (VR.slice (m := .real) (ρ := ρ') (D := dom (upd M id ⟨cells, false, 1⟩)) id 0 cells.length cells.length hD (by simp) (fun _ => ⟨Nat.le_refl _, fun L hL => by
        have h1 := hB.room L hL
        have h2 : (ρ' id).es = 1 := hB.es
        rw [h2, Nat.mul_one]
        simpa using h1⟩))
      unfold deep at hs
      generalize hbb : (ρ' id).blk = bb at hs ⊢
      generalize hoo : (ρ' id).off + 0 = oo at hs ⊢
      generalize hcc : cells.toArray = ca at hs
      generalize hnn : cells.length = nn at hs
      have hn0 : nn ≠ 0 := fun e => h0 (List.length_eq_zero_iff.1 (by omega))
      have hca : deepP cells = .iface 987654321 (.tuple ca) := by rw [← hcc]; rfl
      rw [hca]
      cases hs with
      | deepR _ _ c o _ d hm hd hn hcs ho hc => exact .ptrR o ca d rfl hd hcs ho
      | deepE => exact absurd rfl hn0
  · exact ⟨v', hv', fun _ h => h⟩
def okC (ids : List Nat) : Value → Bool
  | .pointer (some ⟨i, _, none⟩) => ids.contains i
  | .slice (some ⟨i, _, none⟩) _ 0 => ids.contains i
  | .iface t (.agg ⟨[.pointer (some ⟨i, _, none⟩)]⟩) => t != 987654321 && ids.contains i
  | v => cloV v
theorem okC_rel {m : Md} (hm : m ≠ .real) {D : Nat → Prop} {h : Rho} {ids : List Nat} {v : Value} (hv : okC ids v = true) (hD : ∀ i ∈ ids, D i) : VR m D h v (ren h v) := by
  unfold okC at hv
  split at hv
  · exact .ptr _ _ (hD _ (List.contains_iff_mem.1 hv))
  · exact .slice _ _ _ 0 (hD _ (List.contains_iff_mem.1 hv)) (fun _ => rfl) (fun e => absurd e hm)
  · rename_i t i o
    rw [Bool.and_eq_true, bne_iff_ne] at hv
    refine .iface _ _ _ hv.1 (.agg _ _ rfl fun k x y hx hy => ?_)
    cases k with
    | zero =>
      simp only [List.getElem?_toArray, List.getElem?_cons_zero, Option.some.injEq] at hx hy
      subst hx; subst hy
      exact .ptr _ _ (hD _ (List.contains_iff_mem.1 hv.2))
    | succ k => simp at hx
  · rw [clo_ren hv]; exact clo_refl hm hv
theorem WkM.cells {Dm : Nat → Prop} {fm : List (Nat × Nat)} {M N : Mem} {i : Nat} {cells c' : List Value} {rw rw' : Bool} {es : Nat} (ids : List Nat) (h1 : M ((fm.lookup i).getD i) = some ⟨c', rw', es⟩) (hc : cells.map (Sim.ren (idm fm)) = c')
    (hok : cells.all (okC ids) = true) (hD : ∀ i ∈ ids, Dm i) (h3 : rw = true → rw' = true) (h : WkM Dm fm M N) : WkM Dm fm M (Sim.upd N i ⟨cells, rw, es⟩) := by
  subst hc
  exact WkM.upd h1 (fun c x hx => ⟨Sim.ren (idm fm) x, by rw [List.getElem?_map, hx]; rfl, okC_rel (by simp) (List.all_eq_true.1 hok x (List.mem_of_getElem? hx)) hD⟩) h3 rfl (by simp) h
end Go.Proofs.YtlfadlfjjkppfaaGreatDoor.Sim
namespace Go.Proofs.YtlfadlfjjkppfaaGreatDoor.Sim
open Go Go.RowKit
theorem FStep.copyO {P : Program} {E : Env} {M : Mem} {d : Option Tmp} {ty : TypeId} {ps : String} {af : Array Edge} {g : Option (Nat × Bool)} {x y : Operand} {t t' e : TypeId} {id jd o p n m es : Nat} {cs news : List Value} {bj : Blk}
    (hx : aev E x = some (.slice (some ⟨id, p, none⟩) n 0)) (hy : aev E y = some (.slice (some ⟨jd, o, none⟩) m 0)) (hb : M id = some ⟨cs, true, es⟩) (hj : M jd = some bj) (hmn : m ≤ n)
    (hn : p + m * es ≤ cs.length) (hnw : (bj.cells.drop o).take (m * es) = news) (ho : o + m * es ≤ bj.cells.length)
    (ht : P.underlying t = some (.slice e)) (hs : (P.info? e).map (·.size) = some es) (hone : news.all (·.oneCell') = true) :
    FStep P ⟨d, .call ⟨.builtin .copy, #[x, y], #[t, t']⟩, ty, ps, af, g⟩ E M (.int .i64 m) ⟨[id, jd], [(id, ⟨setL cs p news, true, es⟩)]⟩ := by
  intro E' M' h1 h2 _ C ρ ac w hR
  have hb' : M' id = some ⟨cs, true, es⟩ := by rw [h2 id (by simp)]; exact hb
  have hj' : M' jd = some bj := by rw [h2 jd (by simp)]; exact hj
  have hxv := hR.eval (x := x) (by rw [h1 x (by simp [Op.operands, Call.operands])]; exact hx)
  have hyv := hR.eval (x := y) (by rw [h1 y (by simp [Op.operands, Call.operands])]; exact hy)
  obtain ⟨us, hul, hus, hrel⟩ := pick_list (o := o) (hR.mem jd bj hj').cells (m * es) ho
  have hnl : news.length = m * es := by rw [← hnw]; simp; omega
  have hrel' : ∀ (k : Nat) (v u : Value), news[k]? = some v → us[k]? = some u → VR .real (dom M') ρ v u := fun k v u a b => hrel k v u (by rw [hnw]; exact a) b
  have done : ∀ (w' : World), (Builtin.copy_ #[t, t'] ty #[ac.eval x, ac.eval y]).run P w = .ok (goInt m) w' → Rep C ρ ⟨E', upd M' id ⟨setL cs p news, true, es⟩⟩ ac w' →
      StepTo P ⟨d, .call ⟨.builtin .copy, #[x, y], #[t, t']⟩, ty, ps, af, g⟩ ac w fun u w' => ∃ ρ', Rep C ρ' ⟨E', upds M' [(id, ⟨setL cs p news, true, es⟩)]⟩ ac w' ∧ VR .real (dom (upds M' [(id, ⟨setL cs p news, true, es⟩)])) ρ' (.int .i64 m) u := fun w' hrun hR' => by
    unfold StepTo Oper.wp
    rw [run_copyOp ac.eval w hrun]
    exact ⟨goInt m, rfl, ρ, by simpa [upds] using hR', .flat _ rfl⟩
  have same : m = 0 → Rep C ρ ⟨E', upd M' id ⟨setL cs p news, true, es⟩⟩ ac w := fun e => by
    have : news = [] := List.length_eq_zero_iff.1 (by rw [hnl, e]; simp)
    rw [this, setL, upd_self hb']; exact hR
  generalize hux : ac.eval x = ux at hxv done
  generalize huy : ac.eval y = uy at hyv done
  have nothing : ∀ (base : Option Addr) (c : Nat), ux = .slice base n c → m = 0 → (uy = .slice none 0 0 ∨ ∃ b c', uy = .slice (some b) 0 c') →
      StepTo P ⟨d, .call ⟨.builtin .copy, #[x, y], #[t, t']⟩, ty, ps, af, g⟩ ac w fun u w' => ∃ ρ', Rep C ρ' ⟨E', upds M' [(id, ⟨setL cs p news, true, es⟩)]⟩ ac w' ∧ VR .real (dom (upds M' [(id, ⟨setL cs p news, true, es⟩)])) ρ' (.int .i64 m) u := fun base c hb0 hm0 hy0 =>
    done w (by rw [hb0, hm0]; exact run_copy_0 ht hs base n c uy hy0 w) (same hm0)
  have yzero : m = 0 → (uy = .slice none 0 0 ∨ ∃ b c', uy = .slice (some b) 0 c') := fun hm0 => by
    cases hyv with
    | flat _ hf => simp [flatV] at hf
    | nilS => exact .inl rfl
    | zeroS _ a0 => exact .inr ⟨a0, _, rfl⟩
    | slice _ _ _ c' hd' g1' g2' => exact .inr ⟨_, _, by rw [hm0]⟩
  cases hxv with
  | flat _ hf => simp [flatV] at hf
  | nilS => exact nothing none 0 rfl (by omega) (yzero (by omega))
  | zeroS _ a0 => exact nothing (some a0) _ rfl (by omega) (yzero (by omega))
  | slice _ _ _ c hd g1 g2 =>
    by_cases hm0 : m = 0
    · exact nothing _ c rfl hm0 (yzero hm0)
    · cases hyv with
      | flat _ hf => simp [flatV] at hf
      | nilS => exact absurd rfl hm0
      | zeroS => exact absurd rfl hm0
      | slice _ _ _ c' hd' g1' g2' =>
        obtain ⟨w', hst, hR'⟩ := storeCells_sound (P := P) (o := p) news us 0 hR hb' rfl (by rw [hnl]; exact hn) (by rw [hnl, hul]) hrel' (fun v hv => List.all_eq_true.1 hone v hv)
        have hl : (loadCells ⟨(ρ jd).blk, (ρ jd).off + o, none⟩ (m * es)).run P w = .ok us.toArray w := by
          rw [← hul]
          exact run_loadCells_list w _ us fun j v hv => by rw [addr_add]; exact hus j v hv
        exact done w' (run_copy_s ht hs _ _ n c m c' hmn us w w' hl hst) hR'
theorem run_clearOp {P : Program} {x : Operand} {t : TypeId} {d : Option Tmp} {ty : TypeId} {ps : String} {af : Array Edge} {g : Option (Nat × Bool)} (ev : Operand → Value) (w : World) {v : Value} {w' : World}
    (h : (Builtin.clear_ #[t] ty #[ev x]).run P w = .ok v w') : (execOp ev ⟨d, .call ⟨.builtin .clear, #[x], #[t]⟩, ty, ps, af, g⟩).run P w = .ok (.value v) w' := by
  simp [execOp, resolve, invoke, builtin, h]
theorem run_clear_s {P : Program} {t ty e : TypeId} {z : Value} (ht : P.underlying t = some (.slice e)) (hz : (P.info? e).map (·.zero) = some (some z)) (a : Addr) (n c : Nat) (w w' : World) (h0 : n ≠ 0)
    (hst : (storeCells a (Builtin.zeroCells z.cells n).toList).run P w = .ok () w') : (Builtin.clear_ #[t] ty #[.slice (some a) n c]).run P w = .ok (.tuple #[]) w' := by
  simp only [Builtin.clear_, List.getElem?_toArray, List.getElem?_cons_zero, Sem.run_bind, run_underlying ht, Result.andThen_ok]
  simp [run_zero hz, hst]
theorem zeroCells_one {z : Value} (hz : z.oneCell' = true) (n : Nat) : (Builtin.zeroCells z.cells n).toList = List.replicate n z := by
  rw [one_cells hz]
  apply List.ext_getElem
  · simp [Builtin.zeroCells]
  · intro i h1 h2
    simp [Builtin.zeroCells, Nat.mod_one]
theorem FStep.clear {P : Program} {E : Env} {M : Mem} {d : Option Tmp} {ty : TypeId} {ps : String} {af : Array Edge} {g : Option (Nat × Bool)} {x : Operand} {t e : TypeId} {id p n es : Nat} {cs : List Value} {z : Value} {zs : List Value}
    (hx : aev E x = some (.slice (some ⟨id, p, none⟩) n 0)) (hb : M id = some ⟨cs, true, es⟩) (hn : p + zs.length ≤ cs.length) (h0 : n ≠ 0)
    (ht : P.underlying t = some (.slice e)) (hz : (P.info? e).map (·.zero) = some (some z)) (hzs : (Builtin.zeroCells z.cells n).toList = zs) (hf : ∀ v ∈ zs, flatV v = true) (hone : zs.all (·.oneCell') = true) :
    FStep P ⟨d, .call ⟨.builtin .clear, #[x], #[t]⟩, ty, ps, af, g⟩ E M (.tuple #[]) ⟨[id], [(id, ⟨setL cs p zs, true, es⟩)]⟩ := by
  intro E' M' h1 h2 _ C ρ ac w hR
  have hb' : M' id = some ⟨cs, true, es⟩ := by rw [h2 id (by simp)]; exact hb
  have hxv := hR.eval (x := x) (by rw [h1 x (by simp [Op.operands, Call.operands])]; exact hx)
  have done : ∀ (w' : World), (Builtin.clear_ #[t] ty #[ac.eval x]).run P w = .ok (.tuple #[]) w' → Rep C ρ ⟨E', upd M' id ⟨setL cs p zs, true, es⟩⟩ ac w' →
      StepTo P ⟨d, .call ⟨.builtin .clear, #[x], #[t]⟩, ty, ps, af, g⟩ ac w fun u w' => ∃ ρ', Rep C ρ' ⟨E', upds M' [(id, ⟨setL cs p zs, true, es⟩)]⟩ ac w' ∧ VR .real (dom (upds M' [(id, ⟨setL cs p zs, true, es⟩)])) ρ' (.tuple #[]) u := fun w' hrun hR' => by
    unfold StepTo Oper.wp
    rw [run_clearOp ac.eval w hrun]
    exact ⟨.tuple #[], rfl, ρ, by simpa [upds] using hR', .flat _ rfl⟩
  generalize hux : ac.eval x = ux at hxv done
  cases hxv with
  | flat _ hf => simp [flatV] at hf
  | nilS => exact absurd rfl h0
  | zeroS => exact absurd rfl h0
  | slice _ _ _ c hd g1 g2 =>
    obtain ⟨w', hst, hR'⟩ := storeCells_sound (P := P) (o := p) zs zs 0 hR hb' rfl hn rfl (fun k v u h1 h2 => by rw [h1] at h2; cases h2; exact .flat v (hf v (List.mem_of_getElem? h1))) (fun v hv => List.all_eq_true.1 hone v hv)
    exact done w' (run_clear_s ht hz _ _ _ w w' h0 (by rw [hzs]; exact hst)) hR'
section
variable {P : Program} {T : Tab} (H : TabOk P T)
variable {ops : Array Oper} {k i : Nat} {os : List Oper} {E : Env} {M : Mem} {D : List Eff → Prop} {K : ASt → Prop}
  {d : Tmp} {ty : TypeId} {ps : String} {af : Array Edge} {g : Option (Nat × Bool)}
include H
theorem AWo.copyO {x y : Operand} {t t' e : TypeId} {id jd o p n m es : Nat} {cs news : List Value} {bj : Blk} (all : List Value)
    (hx : aev E x = some (.slice (some ⟨id, p, none⟩) n 0)) (hy : aev E y = some (.slice (some ⟨jd, o, none⟩) m 0)) (hb : M id = some ⟨cs, true, es⟩) (hj : M jd = some bj) (hmn : m ≤ n)
    (hn : p + m * es ≤ cs.length) (hnw : (bj.cells.drop o).take (m * es) = news) (ho : o + m * es ≤ bj.cells.length)
    (ht : T.sl.lookup t = some e) (hs : T.sz.lookup e = some es) (hone : news.all (·.oneCell') = true) (hall : setL cs p news = all)
    (hw : wantA ops E ⟨some d, .call ⟨.builtin .copy, #[x, y], #[t, t']⟩, ty, ps, af, g⟩ = some true) (hd : Nat.blt d k = true)
    (hr : AWo P ops k (i + 1) os ⟨upd E d (.int .i64 m), upd M id ⟨all, true, es⟩⟩ (fun es' => D (⟨[id, jd], [(id, ⟨all, true, es⟩)]⟩ :: es')) K) :
    AWo P ops k i (⟨some d, .call ⟨.builtin .copy, #[x, y], #[t, t']⟩, ty, ps, af, g⟩ :: os) ⟨E, M⟩ D K := by
  subst hall
  exact AWo.step (FStep.copyO hx hy hb hj hmn hn hnw ho (H.sl t _ ht) (H.sz e _ hs) hone) hw hd (fun p hp h => by simp at hp; subst hp; simp at h) hr
theorem AWo.clear {x : Operand} {t e : TypeId} {id p n es : Nat} {cs : List Value} {z : Value} (zs all : List Value) {d : Option Tmp}
    (hx : aev E x = some (.slice (some ⟨id, p, none⟩) n 0)) (hb : M id = some ⟨cs, true, es⟩) (hn : p + zs.length ≤ cs.length) (h0 : n ≠ 0)
    (ht : T.sl.lookup t = some e) (hz : T.zero.lookup e = some z) (hzs : (Builtin.zeroCells z.cells n).toList = zs) (hf : ∀ v ∈ zs, flatV v = true) (hone : zs.all (·.oneCell') = true) (hall : setL cs p zs = all)
    (hw : wantA ops E ⟨d, .call ⟨.builtin .clear, #[x], #[t]⟩, ty, ps, af, g⟩ = some true) (hd : dstB k d = true)
    (hr : AWo P ops k (i + 1) os ⟨putE E d (.tuple #[]), upd M id ⟨all, true, es⟩⟩ (fun es' => D (⟨[id], [(id, ⟨all, true, es⟩)]⟩ :: es')) K) :
    AWo P ops k i (⟨d, .call ⟨.builtin .clear, #[x], #[t]⟩, ty, ps, af, g⟩ :: os) ⟨E, M⟩ D K := by
  subst hall
  exact AWo.step (FStep.clear hx hb hn h0 (H.sl t _ ht) (H.zero e _ hz) hzs hf hone) hw hd (fun p hp h => by simp at hp; subst hp; simp at h) hr
end
end Go.Proofs.YtlfadlfjjkppfaaGreatDoor.Sim
namespace Go.Proofs.YtlfadlfjjkppfaaGreatDoor.Sim
open Go Go.RowKit
theorem bstr_data (l : List Nat) : (bstr l).data.toList = l.map UInt8.ofNat := by rw [← ba_toList, bstr_toList]
theorem bstr_size (l : List Nat) : (bstr l).size = l.length := by
  show (bstr l).data.size = _
  rw [← Array.length_toList, bstr_data, List.length_map]
theorem bstr_cells {l : List Nat} (h : ∀ x ∈ l, x < 256) : Go.Lib.strCells (bstr l) = l.map (vi .u8) := by
  rw [Go.Lib.strCells, bstr_data, List.map_map]
  refine List.map_congr_left fun x hx => ?_
  have := h x hx
  simp only [Function.comp, vi, Value.int.injEq, true_and]
  rw [UInt8.toNat_ofNat', Nat.mod_eq_of_lt this]
theorem PureOp.lenB {P : Program} {E : Env} {x : Operand} {t : TypeId} {l : List Nat} (h1 : aev E x = some (.string (bstr l))) (ht : P.underlying t = some .string) : PureOp P (.call ⟨.builtin .len, #[x], #[t]⟩) E (vi .i64 l.length) :=
  (PureOp.lenStr h1 ht).mono (by rw [bstr_size]; rfl)
theorem run_append_room_cells_str {P : Program} (w : World) (t u ty e : TypeId) (i : TypeInfo) (ht : P.underlying t = some (.slice e)) (hu : P.underlying u = some .string) (hi : P.info? e = some i) (hs1 : i.size = 1)
    (b off sLen sCap : Nat) (s : ByteArray) (news : List Value) (hn : Go.Lib.strCells s = news)
    (hroom : sLen + s.size ≤ sCap) (hc : ∀ j, j < news.length → (w.cell? ⟨b, off + sLen + j, none⟩).isSome = true) (hf : ∀ j, j < news.length → w.frozen? ⟨b, off + sLen + j, none⟩ = false) :
    (Builtin.append_ #[t, u] ty #[.slice (some ⟨b, off, none⟩) sLen sCap, .string s]).run P w = .ok (.slice (some ⟨b, off, none⟩) (sLen + s.size) sCap) (w.setCells b (off + sLen) news) := by
  subst hn
  have hfc := Go.Lib.run_firstCells_string (P := P) w 1 s
  have hst := run_storeCells_cells (P := P) b (off + sLen) (Go.Lib.strCells s) 0 w (by simpa using hc) (by simpa using hf) (Go.Lib.strCells_oneCell s)
  simp only [Nat.add_zero] at hst
  simp [Builtin.append_, run_underlying ht, run_underlying hu, sizeOf, typeInfo, hi, hs1, Builtin.lenOf, hroom, hfc, Addr.add_lit, hst]
theorem run_appendOp2 {P : Program} {x y : Operand} {t u : TypeId} {d : Option Tmp} {ty : TypeId} {ps : String} {af : Array Edge} {g : Option (Nat × Bool)} (ev : Operand → Value) (w : World) {v : Value} {w' : World}
    (h : (Builtin.append_ #[t, u] ty #[ev x, ev y]).run P w = .ok v w') : (execOp ev ⟨d, .call ⟨.builtin .append, #[x, y], #[t, u]⟩, ty, ps, af, g⟩).run P w = .ok (.value v) w' := by
  simp [execOp, resolve, invoke, builtin, h]
theorem FStep.appendStr {P : Program} {E : Env} {M : Mem} {d : Option Tmp} {ty : TypeId} {ps : String} {af : Array Edge} {g : Option (Nat × Bool)} {x y : Operand} {t u e : TypeId} {id n : Nat} {cs : List Value} {l : List Nat} {z : Value} (nid : Nat)
    (hx : aev E x = some (.slice (some ⟨id, 0, none⟩) n 0)) (hy : aev E y = some (.string (bstr l))) (hb : M id = some ⟨cs, true, 1⟩) (hlb : ∀ x ∈ l, x < 256) (hn0 : n ≠ 0)
    (hn : cs.length = n) (hnid : nid ≠ id)
    (ht : P.underlying t = some (.slice e)) (hu : P.underlying u = some .string) (hs : (P.info? e).map (·.size) = some 1) (hz : (P.info? e).map (·.zero) = some (some z)) (hzs : z.cells.size = 1) (hby : (P.info? e).map (·.bytes) = some 1)
    (hlen : n + l.length ≤ 140737488355328) :
    FStep P ⟨d, .call ⟨.builtin .append, #[x, y], #[t, u]⟩, ty, ps, af, g⟩ E M (.slice (some ⟨nid, 0, none⟩) (n + l.length) 0) ⟨[id], [(nid, ⟨cs ++ l.map (vi .u8), true, 1⟩), (id, ⟨[], false, 1⟩)]⟩ := by
  intro E' M' h1 h2 h3 C ρ ac w hR
  have hb' : M' id = some ⟨cs, true, 1⟩ := by rw [h2 id (by simp)]; exact hb
  have hn' : M' nid = none := h3 _ (List.mem_cons_self ..) (by simp [hnid])
  have hxv := hR.eval (x := x) (by rw [h1 x (by simp [Op.operands, Call.operands])]; exact hx)
  have hyv := hR.eval (x := y) (by rw [h1 y (by simp [Op.operands, Call.operands])]; exact hy)
  have hyv := flat_inv hyv rfl
  obtain ⟨info, hi, hisz⟩ := info_of hs
  have hibz : info.zero = some z := by rw [hi] at hz; simpa using hz
  have hiby : info.bytes = 1 := by rw [hi] at hby; simpa using hby
  have hBid := hR.mem id _ hb'
  obtain ⟨olds, hol, hos, horel⟩ := pick_list (o := 0) hBid.cells cs.length (by simp)
  have hsc := bstr_cells hlb
  have hss := bstr_size l
  generalize hnews : l.map (vi .u8) = news at hsc ⊢
  have hnl : news.length = l.length := by rw [← hnews]; simp
  have hnf : ∀ (k : Nat) (v u : Value), news[k]? = some v → news[k]? = some u → VR .real (dom M') ρ v u := fun k v u a b => by
    rw [a] at b; cases b
    exact .flat v (by rw [← hnews] at a; exact flatM flat_vi v (List.mem_of_getElem? a))
  have done : ∀ (v' : Value) (w' : World), (Builtin.append_ #[t, u] ty #[ac.eval x, ac.eval y]).run P w = .ok v' w' →
      (∃ ρ', Rep C ρ' ⟨E', upds M' [(nid, ⟨cs ++ news, true, 1⟩), (id, ⟨[], false, 1⟩)]⟩ ac w' ∧ VR .real (dom (upds M' [(nid, ⟨cs ++ news, true, 1⟩), (id, ⟨[], false, 1⟩)])) ρ' (.slice (some ⟨nid, 0, none⟩) (n + l.length) 0) v') →
      StepTo P ⟨d, .call ⟨.builtin .append, #[x, y], #[t, u]⟩, ty, ps, af, g⟩ ac w fun u w' => ∃ ρ', Rep C ρ' ⟨E', upds M' [(nid, ⟨cs ++ news, true, 1⟩), (id, ⟨[], false, 1⟩)]⟩ ac w' ∧
        VR .real (dom (upds M' [(nid, ⟨cs ++ news, true, 1⟩), (id, ⟨[], false, 1⟩)])) ρ' (.slice (some ⟨nid, 0, none⟩) (n + l.length) 0) u := fun v' w' hrun hR' => by
    unfold StepTo Oper.wp
    rw [run_appendOp2 ac.eval w hrun]
    exact ⟨v', rfl, hR'⟩
  have hD2 : dom (upds M' [(nid, ⟨cs ++ news, true, 1⟩), (id, ⟨[], false, 1⟩)]) nid := keys_dom (by simp [keys])
  have moved : ∀ (w' : World), Rep C ρ ⟨E', upd M' id ⟨cs ++ news, true, 1⟩⟩ ac w' → ∃ ρ', Rep C ρ' ⟨E', upds M' [(nid, ⟨cs ++ news, true, 1⟩), (id, ⟨[], false, 1⟩)]⟩ ac w' ∧ ρ' nid = ρ id := by
    intro w' hR1
    obtain ⟨ρ', h5, h6, _⟩ := hR1.move (id := id) (nid := nid) (b := ⟨cs ++ news, true, 1⟩) (by simp only [upd, if_true]) (by simp only [upd, hnid, if_false]; exact hn')
    rw [upd_upd] at h5
    exact ⟨ρ', h5, h6⟩
  generalize hux : ac.eval x = ux at hxv done
  rw [hyv] at done
  cases hxv with
  | flat _ hf => simp [flatV] at hf
  | nilS => exact absurd rfl hn0
  | zeroS => exact absurd rfl hn0
  | slice _ _ _ c hd g1 g2 =>
    obtain ⟨g3, g4⟩ := g2 rfl
    by_cases hroom : n + l.length ≤ c
    · obtain ⟨L, hL, hLl⟩ := hR.lim hb' rfl
      have hes : (ρ id).es = 1 := hBid.es
      have hcL := g4 L hL
      rw [hes] at hcL
      have hW : ∀ j, j < news.length → RwOk ρ M' w id := fun j hj => hBid.rw ⟨rfl, by rw [hL]; simp only [ne_eq, Option.some.injEq]; omega⟩
      have hrun := run_append_room_cells_str (P := P) w t u ty e info ht hu hi hisz (ρ id).blk ((ρ id).off + 0) n c (bstr l) news hsc (by rw [hss]; exact hroom)
        (fun j hj => by
          obtain ⟨L', hL', hx⟩ := (hW j hj).lim
          rw [hL] at hL'; cases hL'
          obtain ⟨x, hx⟩ := hx (n + j) (by omega)
          simp only [(hW j hj).off, Nat.zero_add]; rw [hx]; rfl)
        (fun j hj => (hW j hj).soft _)
      have hp := Rep.pushAll hL news news hR hb' rfl (by simp only; omega) rfl hnf
      simp only [hn] at hp
      obtain ⟨ρ', h5, h6⟩ := moved _ hp
      rw [hss] at hrun
      refine done _ _ (by rw [Nat.add_zero] at hrun ⊢; exact hrun) ⟨ρ', h5, ?_⟩
      have := VR.slice (m := .real) (ρ := ρ') nid 0 (n + l.length) c hD2 (by simp) (fun _ => ⟨hroom, fun L hL => by rw [h6] at hL ⊢; exact g4 L hL⟩)
      rw [h6] at this
      exact this
    · have hfit := growslice_fits (need := n + l.length) (old := c) (by omega) (by rw [hiby, Nat.mul_one]; exact hlen : (n + l.length) * info.bytes ≤ 140737488355328)
      have hrun := Go.Lib.run_append_grow_string (P := P) w t u ty e info z ht hu hi hibz ⟨(ρ id).blk, (ρ id).off + 0, none⟩ n c olds (by rw [hisz]; omega) (fun j v hv => by rw [addr_add]; exact hos j v hv)
        (bstr l) (by rw [hss]; omega) (by rw [hss]; omega) (by rw [hss]; exact hfit)
      rw [hss, hsc] at hrun
      have hge := grownCap_ge w (n + l.length) c e
      have hsz2 : (olds.toArray ++ news.toArray ++ Builtin.zeroCells z.cells (grownCap w (n + l.length) c e - (n + l.length))).size = grownCap w (n + l.length) c e := by
        simp only [Array.size_append, List.size_toArray, size_zeroCells, hzs, hol, hnl, hn]; omega
      have hk := hR.kill hb'
      have hm2 : (upd M' id (⟨[], false, 1⟩ : Blk)) nid = none := by simp only [upd, hnid, if_false]; exact hn'
      have hdm : ∀ j, dom M' j → dom (upd M' id (⟨[], false, 1⟩ : Blk)) j := by
        rintro j ⟨bj, hj⟩
        by_cases hji : j = id
        · rw [hji]; exact dom_upd
        · exact ⟨bj, by simp only [upd, hji, if_false]; exact hj⟩
      obtain ⟨ρ', h5, h6, _⟩ := (hk.drew).alloc hm2 (cells := cs ++ news) (rcells := olds.toArray ++ news.toArray ++ Builtin.zeroCells z.cells (grownCap w (n + l.length) c e - (n + l.length))) (elem := e) 1
        (by rw [hsz2, List.length_append, hn, hnl]; exact hge) (fun k v u a b => by
        have hkl : k < (olds ++ news).length := by
          have := (List.getElem?_eq_some_iff.1 a).1
          rw [List.length_append] at this ⊢
          rw [hol]; exact this
        rw [Array.getElem?_append_left (by simpa using hkl)] at b
        have b' : (olds ++ news)[k]? = some u := by simpa using b
        rcases Nat.lt_or_ge k cs.length with hk | hk
        · rw [List.getElem?_append_left hk] at a
          rw [List.getElem?_append_left (by rw [hol]; exact hk)] at b'
          exact (horel k v _ (by simpa [List.getElem?_take, hk] using a) b').mono hdm (fun _ _ => rfl) fun _ h => h
        · rw [List.getElem?_append_right hk] at a
          rw [List.getElem?_append_right (by rw [hol]; exact hk), hol] at b'
          exact (hnf _ v _ a b').mono hdm (fun _ _ => rfl) fun _ h => h)
      refine done _ _ hrun ⟨ρ', h5, ?_⟩
      have := VR.slice (m := .real) (ρ := ρ') nid 0 (n + l.length) (grownCap w (n + l.length) c e) hD2 (by simp) (fun _ => ⟨hge, fun L hL => by
        rw [h6] at hL ⊢
        simp only [Option.some.injEq] at hL
        rw [hsz2] at hL
        simp only; omega⟩)
      rw [h6] at this
      exact this
theorem FStep.strD {P : Program} {E : Env} {M : Mem} {d : Option Tmp} {ty : TypeId} {ps : String} {af : Array Edge} {g : Option (Nat × Bool)} {t s e : TypeId} {x : Operand} {n : Nat} {l : List Nat} (hx : aev E x = some (deep n 1 (l.map (vi .u8))))
    (hn : l.length = n) (ht : P.underlying t = some (.slice e)) (he : P.underlying e = some (.int .u8)) (hs : P.underlying s = some .string) :
    FStep P ⟨d, .convert t s x, ty, ps, af, g⟩ E M (.string (bstr l)) ⟨[], []⟩ := by
  intro E' M' h1 _ _ C ρ ac w hR
  have hxv := hR.eval (x := x) (by rw [h1 x (by simp [Op.operands])]; exact hx)
  have key : (execOp ac.eval ⟨d, .convert t s x, ty, ps, af, g⟩).run P w = .ok (.value (.string (bstr l))) w := by
    generalize hux : ac.eval x = ux at hxv
    have zero : l = [] → ∀ (b : Option Addr) (c : Nat), ux = .slice b 0 c → (b = none → c = 0) → (execOp ac.eval ⟨d, .convert t s x, ty, ps, af, g⟩).run P w = .ok (.value (.string (bstr l))) w := by
      intro hl0 b c hu hbc
      cases b with
      | none =>
        rw [hbc rfl] at hu
        have h3 : (Conv.bytesToString (.slice none 0 0)).run P w = .ok (.string (bstr l)) w := by rw [hl0]; rfl
        simp only [execOp, hux, hu, Sem.run_bind, run_convert_bytes_string w t s e _ 0 0 ht he hs, h3]
        rfl
      | some a0 =>
        have h3 := run_bytesToString (P := P) w a0 0 c [] (run_loadCells_list (P := P) w a0 [] (fun j v hv => by simp at hv))
        have h4 : (Conv.bytesToString (.slice (some a0) 0 c)).run P w = .ok (.string (bstr l)) w := by rw [hl0, h3]; rfl
        simp only [execOp, hux, hu, Sem.run_bind, run_convert_bytes_string w t s e _ 0 c ht he hs, h4]
        rfl
    unfold deep at hxv
    generalize hcc : (l.map (vi .u8)).toArray = ca at hxv
    cases hxv with
    | flat _ hf => simp [flatV] at hf
    | iface _ _ _ ht' => exact absurd rfl ht'
    | deepA _ _ _ hm => exact absurd rfl hm
    | deepR _ _ c o _ dd hm hd hnn hcs ho hc =>
      have hd' := hR.im dd hd
      subst hcc
      simp only [List.size_toArray, List.length_map] at hcs ho
      have hrun : (loadCells ⟨dd.blk, dd.off + o, none⟩ n).run P w = .ok ((l.map fun (n : Nat) => (n : Int)).map (Value.int .u8)).toArray w := by
        rw [List.map_map, show (Value.int .u8 ∘ fun (n : Nat) => (n : Int)) = vi .u8 from rfl]
        have := run_loadCells_list (P := P) w ⟨dd.blk, dd.off + o, none⟩ (l.map (vi .u8)) fun j v hv => by
          rw [addr_add]
          have hj : j < l.length := by have := (List.getElem?_eq_some_iff.1 hv).1; simpa using this
          have h1 : dd.cells[o + j]? = some v := by
            have h2 : ((dd.cells.drop o).take l.length)[j]? = some v := by rw [hcs]; exact hv
            rwa [List.getElem?_take, if_pos hj, List.getElem?_drop] at h2
          obtain ⟨u', g1, g2⟩ := hd'.cells _ v h1
          have hf : flatV v = true := flatM flat_vi v (List.mem_of_getElem? hv)
          rw [flat_inv g2 hf, ← Nat.add_assoc] at g1
          exact g1
        rw [List.length_map, hn] at this
        exact this
      have := run_bytesToString (P := P) w ⟨dd.blk, dd.off + o, none⟩ n c _ hrun
      simp only [execOp, hux, Sem.run_bind, run_convert_bytes_string w t s e _ n c ht he hs, this]
      rfl
    | deepN =>
      have : l = [] := by simpa using congrArg Array.toList hcc
      exact zero this none 0 rfl (fun _ => rfl)
    | deepE _ a0 c _ ha =>
      have : l = [] := by simpa using congrArg Array.toList hcc
      exact zero this (some a0) c rfl (fun h => by cases h)
  unfold StepTo Oper.wp
  rw [key]
  exact ⟨_, rfl, ρ, hR, .flat _ rfl⟩
section
variable {P : Program} {T : Tab} (H : TabOk P T)
variable {ops : Array Oper} {k i : Nat} {os : List Oper} {E : Env} {M : Mem} {D : List Eff → Prop} {K : ASt → Prop}
  {d : Tmp} {ty : TypeId} {ps : String} {af : Array Edge} {g : Option (Nat × Bool)}
include H
theorem AWo.appendStr {x y : Operand} {t u e : TypeId} {id n : Nat} {cs all : List Value} {l : List Nat} {z : Value} (nid : Nat)
    (hx : aev E x = some (.slice (some ⟨id, 0, none⟩) n 0)) (hy : aev E y = some (.string (bstr l))) (hb : M id = some ⟨cs, true, 1⟩) (hlb : ∀ x ∈ l, x < 256) (hn0 : n ≠ 0) (hn : cs.length = n) (hid : M nid = none)
    (ht : T.sl.lookup t = some e) (hu : P.underlying u = some .string) (hs : T.sz.lookup e = some 1) (hz : T.zero.lookup e = some z) (hzs : z.cells.size = 1) (hby : T.by'.lookup e = some 1)
    (hlen : n + l.length ≤ 140737488355328) (hall : cs ++ l.map (vi .u8) = all)
    (hw : wantA ops E ⟨some d, .call ⟨.builtin .append, #[x, y], #[t, u]⟩, ty, ps, af, g⟩ = some true) (hd : Nat.blt d k = true)
    (hr : AWo P ops k (i + 1) os ⟨upd E d (.slice (some ⟨nid, 0, none⟩) (n + l.length) 0), upd (upd M id ⟨[], false, 1⟩) nid ⟨all, true, 1⟩⟩
      (fun es' => D (⟨[id], [(nid, ⟨all, true, 1⟩), (id, ⟨[], false, 1⟩)]⟩ :: es')) K) :
    AWo P ops k i (⟨some d, .call ⟨.builtin .append, #[x, y], #[t, u]⟩, ty, ps, af, g⟩ :: os) ⟨E, M⟩ D K := by
  subst hall
  have h1 : nid ≠ id := fun e => by rw [e, hb] at hid; cases hid
  refine AWo.step (FStep.appendStr nid hx hy hb hlb hn0 hn h1 (H.sl t _ ht) hu (H.sz e _ hs) (H.zero e _ hz) hzs (H.by' e _ hby) hlen) hw hd (fun p hp hq => ?_) hr
  simp only [List.mem_cons, List.not_mem_nil, or_false] at hp
  rcases hp with rfl | rfl
  · exact hid
  · simp at hq
theorem AWo.strD {t s e : TypeId} {x : Operand} {n : Nat} (l : List Nat) (hx : aev E x = some (deep n 1 (l.map (vi .u8)))) (hn : l.length = n) (ht : T.sl.lookup t = some e) (he : P.underlying e = some (.int .u8)) (hs : P.underlying s = some .string)
    (hw : wantA ops E ⟨some d, .convert t s x, ty, ps, af, g⟩ = some true) (hd : Nat.blt d k = true)
    (hr : AWo P ops k (i + 1) os ⟨upd E d (.string (bstr l)), M⟩ (fun es => D (⟨[], []⟩ :: es)) K) :
    AWo P ops k i (⟨some d, .convert t s x, ty, ps, af, g⟩ :: os) ⟨E, M⟩ D K :=
  AWo.step (FStep.strD hx hn (H.sl t _ ht) he hs) hw hd (fun p hp => by cases hp) hr
end
end Go.Proofs.YtlfadlfjjkppfaaGreatDoor.Sim
namespace Go.Proofs.YtlfadlfjjkppfaaGreatDoor.Sim
open Go
theorem PureOp.andNotN {P : Program} {E : Env} {t t' : TypeId} {x y : Operand} {a b : Nat} (h1 : aev E x = some (vi .u64 a)) (h2 : aev E y = some (vi .u64 b)) (ha : a < 18446744073709551616) (hb : b < 18446744073709551616) :
    PureOp P (.binOp .andNot t x y t') E (vi .u64 (a &&& (18446744073709551615 - b))) :=
  PureOp.bin h1 h2 (by
    have e : ∀ c : Nat, BitVec.ofInt 64 (c : Int) = BitVec.ofNat 64 c := fun c => by simp
    have hm : a &&& (18446744073709551615 - b) < 2 ^ 64 := Nat.lt_of_le_of_lt Nat.and_le_left ha
    have hv : (BitVec.ofInt 64 (a : Int) &&& ~~~BitVec.ofInt 64 (b : Int)).toNat = a &&& (18446744073709551615 - b) := by
      rw [e, e, BitVec.toNat_and, BitVec.toNat_not, BitVec.toNat_ofNat, BitVec.toNat_ofNat, Nat.mod_eq_of_lt ha, Nat.mod_eq_of_lt hb]
    show some (Value.int .u64 (IntKind.u64.wrap ((BitVec.ofInt 64 (a : Int) &&& ~~~BitVec.ofInt 64 (b : Int)).toNat : Int))) = some (Value.int .u64 ((a &&& (18446744073709551615 - b) : Nat) : Int))
    rw [hv, wrap_in (k := .u64) hm (by decide)])
end Go.Proofs.YtlfadlfjjkppfaaGreatDoor.Sim
namespace Go.Proofs.YtlfadlfjjkppfaaGreatDoor.Sim
open Go Go.RowKit
theorem freeze_ne {w : World} {a : Addr} {n k : Nat} (h : k ≠ a.block) : (w.freeze a n).heap[k]? = w.heap[k]? := by
  unfold World.freeze
  split
  · rfl
  · simp only [Array.getElem?_modify]; rw [if_neg (fun e => h e.symm)]
theorem freeze_size {w : World} {a : Addr} {n : Nat} : (w.freeze a n).heap.size = w.heap.size := by
  unfold World.freeze
  split <;> simp
theorem freeze_cell {w : World} {a : Addr} {n : Nat} (p : Addr) : (w.freeze a n).cell? p = w.cell? p := by
  by_cases h : p.block = a.block
  · unfold World.freeze
    split
    · rfl
    · unfold World.cell?
      simp only [Array.getElem?_modify]
      rw [if_pos h.symm]
      cases hb : w.heap[p.block]? with
      | none => rfl
      | some o =>
        cases o <;> rfl
  · unfold World.cell?
    rw [freeze_ne h]
theorem freeze_os {w : World} {a : Addr} {n : Nat} : (w.freeze a n).os = w.os ∧ (w.freeze a n).tape = w.tape ∧ (w.freeze a n).output = w.output := by
  unfold World.freeze
  split <;> exact ⟨rfl, rfl, rfl⟩
theorem Rep.mark {C : Ctx} {ρ : Rho} {E : Env} {M : Mem} {a : Act} {w : World} (h : Rep C ρ ⟨E, M⟩ a w) {B n k : Nat} (hB : ∀ i b, M i = some b → b.own (ρ i) → (ρ i).blk ≠ B) (hf : C.RW B ∨ C.w0.heap.size ≤ B) :
    Rep C ρ ⟨E, M⟩ a (w.freeze ⟨B, n, none⟩ k) := by
  obtain ⟨o1, o2, o3⟩ := freeze_os (w := w) (a := ⟨B, n, none⟩) (n := k)
  refine ⟨h.size, h.defers, h.env, fun i b hb => ?_, h.agree, h.low, h.own, ⟨by rw [o1]; exact h.frame.os, by rw [o2]; exact h.frame.tape, by rw [o3]; exact h.frame.output, by rw [freeze_size]; exact h.frame.size, fun q hq hn => ?_⟩, fun d hd => ?_, h.imsub, h.imnew, h.gl⟩
  · have hb' := h.mem i b hb
    refine ⟨fun hs => by rw [freeze_size]; exact hb'.lt hs, fun c v hc => ?_, fun hr => ?_, hb'.es, hb'.room⟩
    · rw [freeze_cell]; exact hb'.cells c v hc
    · have hW := hb'.rw hr
      have hne := hB i b hb hr
      refine ⟨hW.off, fun o => ?_, ?_, hW.lone⟩
      · rw [frozen?_of_heap (freeze_ne hne)]; exact hW.soft o
      · obtain ⟨L, hL, hx⟩ := hW.lim
        exact ⟨L, hL, fun c hc => by rw [freeze_cell]; exact hx c hc⟩
  · have hne : q ≠ B := fun e => by
      rcases hf with h1 | h1
      · exact hn (e ▸ h1)
      · omega
    rw [freeze_ne (a := ⟨B, n, none⟩) hne]; exact h.frame.block q hq hn
  · have hd' := h.im d hd
    exact ⟨fun hc => by rw [freeze_size]; exact hd'.lt hc, fun c v hc => by rw [freeze_cell]; exact hd'.cells c v hc, hd'.own⟩
theorem FStep.cvtB {P : Program} {E : Env} {M : Mem} {d : Option Tmp} {ty : TypeId} {ps : String} {af : Array Edge} {g : Option (Nat × Bool)} {t e : TypeId} {x : Operand} {id n : Nat} {cells : List Value}
    (hx : aev E x = some (.slice (some ⟨id, 0, none⟩) n 0)) (hb : M id = some ⟨cells, true, 1⟩) (hn : cells.length = n) (hn0 : n ≠ 0) (hc : ∀ x ∈ cells, cloV x = true)
    (ht : P.underlying t = some (.slice e)) (he : P.underlying e = some (.int .u8)) :
    FStep P ⟨d, .convert t t x, ty, ps, af, g⟩ E M (deep n 1 cells) ⟨[id], [(id, ⟨cells, false, 1⟩)]⟩ := by
  intro E' M' h1 h2 _ C ρ ac w hR
  have hb' : M' id = some ⟨cells, true, 1⟩ := by rw [h2 id (by simp)]; exact hb
  have hxv := hR.eval (x := x) (by rw [h1 x (by simp [Op.operands])]; exact hx)
  have hB := hR.mem id _ hb'
  have hown : (⟨cells, true, 1⟩ : Blk).own (ρ id) := hB.owned rfl (by show 0 < cells.length; omega)
  have hW := hB.rw hown
  obtain ⟨ρ', hR', hv'⟩ := hR.freezeV (o := 0) (n := n) (l := cells) hxv hb' hc (by simp [hn]) (by rw [List.drop_zero, Nat.mul_one]; exact List.take_of_length_le (by omega))
  generalize hux : ac.eval x = ux at hxv hv'
  have hfar := hR.own id _ hb' hown
  cases hxv with
  | flat _ hf => simp [flatV] at hf
  | nilS => exact absurd rfl hn0
  | zeroS => exact absurd rfl hn0
  | slice _ _ _ c hd g1 g2 =>
    have hrun : ∃ w', (convert t t (.slice (some ⟨(ρ id).blk, (ρ id).off + 0, none⟩) n c)).run P w = .ok (.slice (some ⟨(ρ id).blk, (ρ id).off + 0, none⟩) n c) w' ∧ (w' = w ∨ ∃ N, w' = w.freeze ⟨(ρ id).blk, N, none⟩ 1) := by
      cases hs : w.shape? (ρ id).blk with
      | none => exact ⟨w, by simp [convert, run_underlying ht, run_underlying he, markStringish, hs], .inl rfl⟩
      | some q =>
        obtain ⟨q1, q2⟩ := q
        exact ⟨w.freeze ⟨(ρ id).blk, q2, none⟩ 1, by simp [convert, run_underlying ht, run_underlying he, markStringish, hs], .inr ⟨q2, rfl⟩⟩
    obtain ⟨w', hrun, hw'⟩ := hrun
    unfold StepTo Oper.wp
    have hex : (execOp ac.eval ⟨d, .convert t t x, ty, ps, af, g⟩).run P w = .ok (.value (.slice (some ⟨(ρ id).blk, (ρ id).off + 0, none⟩) n c)) w' := by
      simp only [execOp, hux, Sem.run_bind, hrun, Result.andThen_ok, Sem.run_pure]
    rw [hex]
    refine ⟨_, rfl, ρ', ?_, hv'⟩
    rcases hw' with rfl | ⟨N, rfl⟩
    · exact hR'
    · refine hR'.mark (fun i b hi hr => ?_) hfar
      have hpl : ∀ j, dom M' j → ρ' j = ρ j ∨ True := fun _ _ => .inr trivial
      simp only [upd] at hi
      by_cases hid : i = id
      · rw [if_pos hid] at hi; cases hi; cases hr.1
      · rw [if_neg hid] at hi
        intro hbad
        have hd' : ∃ dd ∈ ρ'.im, dd.cells ≠ [] ∧ dd.blk = (ρ id).blk := by
          unfold deep at hv'
          generalize hcc : cells.toArray = ca at hv'
          generalize hbb : (ρ id).blk = bb at hv' ⊢
          generalize hoo : (ρ id).off + 0 = oo at hv'
          cases hv' with
          | deepR _ _ c o _ dd hm hd hnn hcs ho hc' =>
            refine ⟨dd, hd, fun e => ?_, rfl⟩
            rw [e] at ho
            simp only [List.length_nil] at ho
            have : ca.size = n := by rw [← hcc]; simpa using hn
            omega
          | deepE => exact absurd rfl hn0
        obtain ⟨dd, hdd, hne, hblk⟩ := hd'
        exact (hR'.im dd hdd).own hne i b (by simp only [upd, if_neg hid]; exact hi) hr (by rw [hbad, hblk])
section
variable {P : Program} {T : Tab} (H : TabOk P T)
variable {ops : Array Oper} {k i : Nat} {os : List Oper} {E : Env} {M : Mem} {D : List Eff → Prop} {K : ASt → Prop}
  {d : Tmp} {ty : TypeId} {ps : String} {af : Array Edge} {g : Option (Nat × Bool)}
include H
theorem AWo.cvtB {t e : TypeId} {x : Operand} {id n : Nat} {cells : List Value} (hx : aev E x = some (.slice (some ⟨id, 0, none⟩) n 0)) (hb : M id = some ⟨cells, true, 1⟩) (hn : cells.length = n) (hn0 : n ≠ 0) (hc : ∀ x ∈ cells, cloV x = true)
    (ht : T.sl.lookup t = some e) (he : P.underlying e = some (.int .u8))
    (hw : wantA ops E ⟨some d, .convert t t x, ty, ps, af, g⟩ = some true) (hd : Nat.blt d k = true)
    (hr : AWo P ops k (i + 1) os ⟨upd E d (deep n 1 cells), upd M id ⟨cells, false, 1⟩⟩ (fun es => D (⟨[id], [(id, ⟨cells, false, 1⟩)]⟩ :: es)) K) :
    AWo P ops k i (⟨some d, .convert t t x, ty, ps, af, g⟩ :: os) ⟨E, M⟩ D K :=
  AWo.step (FStep.cvtB hx hb hn hn0 hc (H.sl t _ ht) he) hw hd (fun p hp hq => by simp at hp; subst hp; simp at hq) hr
end
end Go.Proofs.YtlfadlfjjkppfaaGreatDoor.Sim
