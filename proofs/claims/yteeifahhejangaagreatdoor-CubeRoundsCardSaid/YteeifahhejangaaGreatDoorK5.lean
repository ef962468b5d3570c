/- What the proof stands on, part 5: the walk of each function, and plain laws of numbers. -/
import Derived.Test.YteeifahhejangaaGreatDoorK4
namespace Go.Proofs.YteeifahhejangaaGreatDoor
open Go Sim
theorem Fp_dom (x y : Fp) (h : x * y = 0) : x = 0 ∨ y = 0 := by
  by_cases hx : x = 0
  · exact .inl hx
  · exact .inr (Rg.unit_zero (mul_finv hx) h)
theorem nc_fp : ∀ k : Nat, (Po.nc k : Fp) = fp k
  | 0 => rfl
  | k + 1 => by
    rw [Po.nc, nc_fp k, fp_addN]; rfl
theorem fp_val_lt {k : Nat} (h : k < 21888242871839275222246405745257275088548364400416034343698204186575808495617) : (fp k).val = k := Nat.mod_eq_of_lt h
theorem fp_ne {i j : Nat} (h : i < j) (hj : j < 1000000) : fp i ≠ fp j := fun e => by
  have h1 := congrArg Fin.val e
  have hP : 1000000 < 21888242871839275222246405745257275088548364400416034343698204186575808495617 := by decide
  rw [fp_val_lt (show i < 21888242871839275222246405745257275088548364400416034343698204186575808495617 by omega), fp_val_lt (show j < 21888242871839275222246405745257275088548364400416034343698204186575808495617 by omega)] at h1
  omega
theorem dg_bound {q : List Fp} {d : Nat} (h : ∀ i, d ≤ i → Po.co q i = 0) : Po.dg q ≤ d := by
  rcases Nat.lt_or_ge d (Po.dg q) with h1 | h1
  · obtain ⟨m, hm⟩ : ∃ m, Po.dg q = m + 1 := ⟨Po.dg q - 1, by omega⟩
    exact absurd (h m (by omega)) (Po.co_top q m hm)
  · exact h1
theorem co_pm2 {r s : Fp} : ∀ (p : List Fp) (i : Nat), p.length + 1 ≤ i → Po.co (Po.pm p [r, s]) i = 0
  | [], i, _ => by rw [Po.pm, Po.co_nil]
  | a :: p, 0, h => by simp at h
  | a :: p, i + 1, h => by
    simp only [List.length_cons] at h
    rw [Po.co_pm_succ, Po.co_len (p := [r, s]) (by simp only [List.length_cons, List.length_nil]; omega), co_pm2 p i (by omega), Rg.zero_mul, Rg.zero_add]
theorem nwL_len2 (ds : List Fp) (n : Nat) : ∀ j, (nwL ds n j).length ≤ j
  | 0 => Nat.le_refl _
  | j + 1 => by
    have h := nwL_len2 ds n j
    rw [nwL, Po.tr_len]
    have h1 := Po.dg_le (Po.pa (Po.tr (Po.pm (nwL ds n j) [-(fp (n - 1 - j)), fp 1])) [ds.getD (n - 1 - j) 0])
    rw [Po.pa_len, Po.tr_len] at h1
    have h2 : Po.dg (Po.pm (nwL ds n j) [-(fp (n - 1 - j)), fp 1]) ≤ (nwL ds n j).length + 1 := dg_bound fun i hi => co_pm2 _ i hi
    simp only [List.length_cons, List.length_nil] at h1
    have h4 : max (Po.dg (Po.pm (nwL ds n j) [-(fp (n - 1 - j)), fp 1])) (0 + 1) ≤ j + 1 := Nat.max_le.2 ⟨by omega, by omega⟩
    omega
theorem ringE (x k e d : Fp) : (0 + d) + e * (((0 * x + fp 1) * x) + -k) = e * (x - k) + d := by
  have h1 : fp 1 = (1 : Fp) := rfl
  rw [h1, Rg.zero_mul, Rg.zero_add, Rg.zero_add, Rg.one_mul, Rg.add_comm]
  congr 2
  exact (Fin.sub_eq_add_neg x k).symm
theorem ev_nwL (ds : List Fp) (n : Nat) (x : Fp) : ∀ j, Po.ev x (nwL ds n j) = Po.nw (fun k => ds.getD k 0) x n j
  | 0 => rfl
  | j + 1 => by
    rw [nwL, Po.ev_tr, Po.ev_pa, Po.ev_tr, Po.ev_pm, ev_nwL ds n x j, Po.nw, nc_fp, show n - (j + 1) = n - 1 - j by omega]
    have := ringE x (fp (n - 1 - j)) (Po.nw (fun k => ds.getD k 0) x n j) (ds.getD (n - 1 - j) 0)
    rw [← this, Rg.add_comm]
    congr 1
    show Po.ev x [] * x + _ = _
    rw [show Po.ev x ([] : List Fp) = 0 from rfl, Rg.zero_mul]
theorem inn_get {l : List Fp} {far : Fp} {n : Nat} (hn : l.length = n) (i : Nat) : ∀ m, m + 1 ≤ n → Po.co (inn l far n m) i = if n - m ≤ i ∧ i < n then (Po.co l i - Po.co l (i - 1)) * far else Po.co l i
  | 0, _ => by rw [if_neg (by omega), inn]
  | m + 1, h => by
    have hq := inn_get (far := far) hn (n - 1 - m) m (by omega)
    have hp := inn_get (far := far) hn (n - 1 - m - 1) m (by omega)
    rw [if_neg (by omega)] at hq hp
    rw [inn, co_set (by rw [inn_len, hn]; omega)]
    by_cases e : i = n - 1 - m
    · subst e
      rw [if_pos rfl, if_pos ⟨by omega, by omega⟩]
      show (Po.co (inn l far n m) (n - 1 - m) - Po.co (inn l far n m) (n - 1 - m - 1)) * far = _
      rw [hq, hp]
    · rw [if_neg e, inn_get hn i m (by omega)]
      by_cases h2 : n - m ≤ i ∧ i < n
      · rw [if_pos h2, if_pos ⟨by omega, h2.2⟩]
      · rw [if_neg h2, if_neg (by omega)]
def ivF (k : Nat) : Fp := finv (fp k)
theorem difN_get (vs : List Fp) : ∀ c, c + 1 ≤ vs.length → ∀ i, i < vs.length → Po.co (difN vs c) i = if i ≤ c then Po.U ivF (Po.co vs) i 0 else Po.U ivF (Po.co vs) c (i - c)
  | 0, _, i, _ => by
    rw [difN]
    by_cases h : i ≤ 0
    · obtain rfl : i = 0 := by omega
      rw [if_pos h]; rfl
    · rw [if_neg h]; rfl
  | c + 1, hc, i, hi => by
    have h1 := difN_get vs c (by omega) i hi
    rw [difN, inn_get (difN_len vs c) i (vs.length - 1 - c) (by omega)]
    by_cases h2 : i ≤ c
    · rw [if_neg (by omega), h1, if_pos h2, if_pos (by omega)]
    · have h3 := difN_get vs c (by omega) (i - 1) (by omega)
      have e3 : Po.co (difN vs c) (i - 1) = Po.U ivF (Po.co vs) c (i - 1 - c) := by
        rw [h3]
        by_cases h4 : i - 1 ≤ c
        · have : i - 1 = c := by omega
          rw [if_pos h4, this, Nat.sub_self]
        · rw [if_neg h4]
      rw [if_pos ⟨by omega, hi⟩, h1, if_neg h2, e3]
      have e4 : (Po.U ivF (Po.co vs) c (i - c) - Po.U ivF (Po.co vs) c (i - 1 - c)) * finv (fp (c + 1)) = Po.U ivF (Po.co vs) (c + 1) (i - (c + 1)) := by
        rw [Po.U, show i - (c + 1) + 1 = i - c by omega, show i - 1 - c = i - (c + 1) by omega]; rfl
      rw [e4]
      by_cases h5 : i ≤ c + 1
      · obtain rfl : i = c + 1 := by omega
        rw [if_pos h5, Nat.sub_self]
      · rw [if_neg h5]
theorem nw_congr {d d' : Nat → Fp} {x : Fp} {n : Nat} (h : ∀ k, k < n → d k = d' k) : ∀ j, j ≤ n → Po.nw d x n j = Po.nw d' x n j
  | 0, _ => rfl
  | j + 1, hj => by rw [Po.nw, Po.nw, nw_congr h j (by omega), h _ (by omega)]
theorem thr_ev {vs : List Fp} {m : Nat} (hn : vs.length < 1000000) (hm : m < vs.length) : Po.ev (fp m) (thr vs) = Po.co vs m := by
  rw [thr, Po.ev_tr, ev_nwL, nw_congr (d' := fun k => Po.U ivF (Po.co vs) k 0) (fun k hk => ?_) _ (Nat.le_refl _), ← nc_fp]
  · refine Po.newton (fun k hk h0 => ?_) hm
    rw [nc_fp]
    exact mul_finv fun e => fp_ne (i := 0) (j := k) h0 (by omega) e.symm
  · have := difN_get vs (vs.length - 1) (by omega) k hk
    rw [if_pos (by omega)] at this
    exact this
theorem thr_uniq {vs q : List Fp} (hn : vs.length < 1000000) (hq : q.length ≤ vs.length) (h : ∀ m, m < vs.length → Po.ev (fp m) q = Po.co vs m) : thr vs = Po.tr q := by
  have h1 : ∀ i, Po.co (nwL (difN vs (vs.length - 1)) vs.length vs.length) i = Po.co q i := by
    refine Po.uniq Fp_dom (N := vs.length) (fun i j hi hj => by rw [nc_fp, nc_fp]; exact fp_ne hi (by omega)) (nwL_len2 _ _ _) hq fun m hm => ?_
    rw [nc_fp, h m hm, ← thr_ev hn hm, thr, Po.ev_tr]
  exact Po.tr_congr h1
end Go.Proofs.YteeifahhejangaaGreatDoor
namespace Go.Proofs.YteeifahhejangaaGreatDoor
open Go Sim
theorem dv_pos {x : Fp} (h : 0 < (D 4294967296 x.val).length) : ¬ x = 0 := fun e => by rw [e] at h; exact absurd h (by decide)
theorem dv_none {x : Fp} (h : ¬ 0 < (D 4294967296 x.val).length) : x = 0 := by
  rcases Nat.eq_zero_or_pos x.val with e | e
  · exact Fin.ext e
  · exfalso
    rw [D_pos (by decide) (by omega)] at h
    simp at h
theorem rdeg_ctr {xs : List Fp} {n : Nat} (hn : xs.length = n) (hx : n < 1000000) : GC Tryz.prog 75 [.slice (some ⟨0, 0, none⟩) n 0] [⟨xs.map (dv), false, 1⟩] [vp (Po.dg xs)] [⟨xs.map (dv), false, 1⟩] := by
  refine GC.intro Tryz.func75 rfl (by show 1 ≤ 19; decide) (by first | exact Nat.le_refl _ | decide | simp) ?_
  subst hn
  rw [← hiN_dg]
  refine AW.seqR ?_
  refine AWo.pure (PureOp.assign rfl) rfl rfl ?_
  refine AWo.nil trivial ?_
  refine AW.seqR ?_
  refine AWo.pure (PureOp.assign rfl) rfl rfl ?_
  refine AWo.nil trivial ?_
  refine AW.seq ?_
  refine AW.seqR ?_
  refine AWo.pure (PureOp.assign rfl) rfl rfl ?_
  refine AWo.nil trivial ?_
  refine AW.block ?_
  refine AW.loopw (fun mm σ => ∃ i, (i ≤ xs.length) ∧ mm = xs.length - i ∧ σ = ⟨(upd (upd (upd emp 0 (.slice (some ⟨0, 0, none⟩) xs.length 0)) 3 (vp (hiN xs i))) 4 (vi .i64 i)), (upd emp 0 ⟨xs.map dv, false, 1⟩)⟩) (fm := []) ?_ ⟨0, Nat.zero_le _, rfl, rfl⟩ ?_
  ·
    refine Wk.of [0] ?_ ?_ ?_ (by decide) rfl
    ·
      refine WkE.upd rfl (by first | exact VR.flat _ rfl | exact VR.eqv (vp_succ _) rfl | exact VR.eqv (vp_succ _).symm rfl | exact VR.eqv (by first | rfl | (congr 1; omega) | (simp; done) | (simp; omega)) rfl) ?_
      refine WkE.upd rfl (by first | exact VR.flat _ rfl | exact VR.eqv (by rw [hh]; exact vp_succ _) rfl | exact VR.eqv (by rw [hh]) rfl) ?_
      refine WkE.upd rfl (.slice (0) 0 _ 0 ⟨_, rfl⟩ (by simp) (by simp)) ?_
      exact WkE.emp
    ·
      refine WkM.cloM rfl rfl (fun _ => rfl) (fun h => h) ?_
      exact WkM.emp
    ·
      repeat (refine dom_upd_mem (by decide) ?_)
      exact dom_emp
  ·
    rintro mm σ ⟨i, hinv, rfl, rfl⟩
    refine AW.seq ?_
    refine AW.seqR ?_
    refine AWo.pure (PureOp.move rfl) rfl rfl ?_
    refine AWo.pure (PureOp.move rfl) rfl rfl ?_
    first | refine AWo.pure (PureOp.lenS tbok rfl rfl) rfl rfl ?_ | refine AWo.pure (PureOp.lenD tbok rfl rfl) rfl rfl ?_
    first | refine AWo.pure (PureOp.ltN rfl rfl) rfl rfl ?_ | refine AWo.pure (PureOp.bin rfl rfl rfl) rfl rfl ?_
    refine AWo.nil trivial ?_
    refine AW.cond rfl (fun hb0 => ?_) (fun hb0 => ?_)
    ·
      have hi : i < xs.length := by simpa using hb0
      refine AW.skip ?_
      refine thenA_normal ?_
      refine AW.seq ?_
      refine AW.block ?_
      refine AW.seqR ?_
      refine AWo.pure (PureOp.move rfl) rfl rfl ?_
      refine AWo.pure (PureOp.move rfl) rfl rfl ?_
      refine AWo.pure (PureOp.idx1 tbok (j := i) rfl rfl rfl rfl hi) rfl rfl ?_
      refine AWo.loadM tbok (f := dv) 0 rfl rfl rfl hi rfl rfl ?_
      first | refine AWo.pure (PureOp.lenS tbok rfl rfl) rfl rfl ?_ | refine AWo.pure (PureOp.lenD tbok rfl rfl) rfl rfl ?_
      first | refine AWo.pure (PureOp.gtN (b := 0) rfl rfl) rfl rfl ?_ | refine AWo.pure (PureOp.bin rfl rfl rfl) rfl rfl ?_
      refine AWo.nil trivial ?_
      refine AW.cond rfl (fun hb1 => ?_) (fun hb1 => ?_)
      ·
        have hh : hiN xs (i + 1) = i + 1 := by rw [hiN, if_neg (dv_pos (of_decide_eq_true hb1))]
        refine AW.region ?_
        refine AWo.pure (PureOp.move rfl) rfl rfl ?_
        refine AWo.pure (PureOp.assign rfl) rfl rfl ?_
        refine AWo.nil trivial ?_
        refine inBlockA_normal ?_
        refine thenA_normal ?_
        refine AW.region ?_
        refine AWo.pure (PureOp.move rfl) rfl rfl ?_
        first | refine AWo.pure (PureOp.addI (b := 1) rfl rfl (by first | decide | omega)) rfl rfl ?_ | refine AWo.pure (PureOp.bin rfl rfl rfl) rfl rfl ?_
        refine AWo.pure (PureOp.assign rfl) rfl rfl ?_
        refine AWo.nil trivial ?_
        refine thenA_normal ?_
        refine ⟨xs.length - (i + 1), [], _, by omega, ?_, i + 1, by omega, rfl, rfl⟩
        refine Wk.of [0] ?_ ?_ ?_ (by decide) rfl
        ·
          refine WkE.upd rfl (by first | exact VR.flat _ rfl | exact VR.eqv (vp_succ _) rfl | exact VR.eqv (vp_succ _).symm rfl | exact VR.eqv (by first | rfl | (congr 1; omega) | (simp; done) | (simp; omega)) rfl) ?_
          refine WkE.upd rfl (by first | exact VR.flat _ rfl | exact VR.eqv (by rw [hh]; exact vp_succ _) rfl | exact VR.eqv (by rw [hh]) rfl) ?_
          refine WkE.upd rfl (.slice (0) 0 _ 0 ⟨_, rfl⟩ (by simp) (by simp)) ?_
          exact WkE.emp
        ·
          refine WkM.cloM rfl rfl (fun _ => rfl) (fun h => h) ?_
          exact WkM.emp
        ·
          repeat (refine dom_upd_mem (by decide) ?_)
          exact dom_emp
      ·
        have hh : hiN xs (i + 1) = hiN xs i := by rw [hiN, if_pos (dv_none (of_decide_eq_false hb1))]
        refine AW.skip ?_
        refine inBlockA_normal ?_
        refine thenA_normal ?_
        refine AW.region ?_
        refine AWo.pure (PureOp.move rfl) rfl rfl ?_
        first | refine AWo.pure (PureOp.addI (b := 1) rfl rfl (by first | decide | omega)) rfl rfl ?_ | refine AWo.pure (PureOp.bin rfl rfl rfl) rfl rfl ?_
        refine AWo.pure (PureOp.assign rfl) rfl rfl ?_
        refine AWo.nil trivial ?_
        refine thenA_normal ?_
        refine ⟨xs.length - (i + 1), [], _, by omega, ?_, i + 1, by omega, rfl, rfl⟩
        refine Wk.of [0] ?_ ?_ ?_ (by decide) rfl
        ·
          refine WkE.upd rfl (by first | exact VR.flat _ rfl | exact VR.eqv (vp_succ _) rfl | exact VR.eqv (vp_succ _).symm rfl | exact VR.eqv (by first | rfl | (congr 1; omega) | (simp; done) | (simp; omega)) rfl) ?_
          refine WkE.upd rfl (by first | exact VR.flat _ rfl | exact VR.eqv (by rw [hh]; exact vp_succ _) rfl | exact VR.eqv (by rw [hh]) rfl) ?_
          refine WkE.upd rfl (.slice (0) 0 _ 0 ⟨_, rfl⟩ (by simp) (by simp)) ?_
          exact WkE.emp
        ·
          refine WkM.cloM rfl rfl (fun _ => rfl) (fun h => h) ?_
          exact WkM.emp
        ·
          repeat (refine dom_upd_mem (by decide) ?_)
          exact dom_emp
    ·
      obtain rfl : i = xs.length := by simp at hb0; omega
      refine AW.exit ?_
      refine thenA_exit ?_
      refine thenA_exit ?_
      refine inBlockA_hit ?_
      refine thenA_normal ?_
      refine AW.seqR ?_
      refine AWo.pure (PureOp.move rfl) rfl rfl ?_
      refine AWo.pure (PureOp.assign rfl) rfl rfl ?_
      refine AWo.nil trivial ?_
      refine AW.ret ?_
      refine RetQ.gc [_] [] [.tmp 2] (.inl rfl) rfl (.tmp rfl .nil) rfl (.cons rfl rfl .nil) (OutL.clo rfl (cloM fun _ => rfl) (by intro h; first | rfl | exact h.elim id fun h => absurd h.1 (by simp)) trivial) (by decide) rfl
theorem rget_ctr {xs : List Fp} {n i : Nat} (hn : xs.length = n) (hx : n < 1000000) : GC Tryz.prog 58 [.slice (some ⟨0, 0, none⟩) n 0, vi .i64 (i)] [⟨xs.map (dv), false, 1⟩] [dv (Po.co xs i)] [⟨xs.map (dv), false, 1⟩] := by
  refine GC.intro Tryz.func58 rfl (by show 2 ≤ 13; decide) (by first | exact Nat.le_refl _ | decide | simp) ?_
  subst hn
  refine AW.seqR ?_
  refine yP (PureOp.nilDeep 1) ?_
  refine AWo.nil trivial ?_
  refine AW.seq ?_
  refine AW.seqR ?_
  refine AWo.pure (PureOp.move rfl) rfl rfl ?_
  refine AWo.pure (PureOp.move rfl) rfl rfl ?_
  first | refine AWo.pure (PureOp.lenS tbok rfl rfl) rfl rfl ?_ | refine AWo.pure (PureOp.lenD tbok rfl rfl) rfl rfl ?_
  first | refine AWo.pure (PureOp.ltN rfl rfl) rfl rfl ?_ | refine AWo.pure (PureOp.bin rfl rfl rfl) rfl rfl ?_
  refine AWo.nil trivial ?_
  refine AW.cond rfl (fun hb0 => ?_) (fun hb0 => ?_)
  ·
    have hi : i < xs.length := by simpa using hb0
    refine AW.seqR ?_
    refine AWo.pure (PureOp.move rfl) rfl rfl ?_
    refine AWo.pure (PureOp.move rfl) rfl rfl ?_
    refine AWo.pure (PureOp.idx1 tbok (j := i) rfl rfl rfl rfl hi) rfl rfl ?_
    refine AWo.loadM tbok (f := dv) 0 rfl rfl rfl hi rfl rfl ?_
    refine yA ?_
    refine AWo.nil trivial ?_
    refine AW.ret ?_
    refine thenA_ret ?_
    refine RetQ.gc [_] [] [.tmp 4] (.inl rfl) rfl (.tmp rfl .nil) rfl (.cons rfl rfl .nil) (OutL.clo rfl (cloM fun _ => rfl) (by intro h; first | rfl | exact h.elim id fun h => absurd h.1 (by simp)) trivial) (by decide) rfl
  ·
    have hi : Po.co xs i = 0 := Po.co_len (by have := of_decide_eq_false hb0; omega)
    rw [hi]
    refine AW.skip ?_
    refine thenA_normal ?_
    refine AW.seqR ?_
    refine yP (PureOp.nilDeep 1) ?_
    refine AWo.nil trivial ?_
    refine AW.ret ?_
    refine RetQ.gc [_] [] [.tmp 4] (.inl rfl) rfl (.tmp rfl .nil) rfl (.cons rfl rfl .nil) (OutL.clo rfl (cloM fun _ => rfl) (by intro h; first | rfl | exact h.elim id fun h => absurd h.1 (by simp)) trivial) (by decide) rfl
end Go.Proofs.YteeifahhejangaaGreatDoor
namespace Go.Proofs.YteeifahhejangaaGreatDoor
open Go Sim
theorem rtrim_ctr {xs : List Fp} {n : Nat} (hn : xs.length = n) (hx : n < 1000000) : GC Tryz.prog 59 [.slice (some ⟨0, 0, none⟩) n 0] [⟨xs.map (dv), false, 1⟩] [.slice (some ⟨0, 0, none⟩) (Po.dg xs) 0] [⟨xs.map (dv), false, 1⟩] := by
  refine GC.intro Tryz.func59 rfl (by show 1 ≤ 8; decide) (by first | exact Nat.le_refl _ | decide | simp) ?_
  subst hn
  have hdl := Po.dg_le xs
  refine AW.seqR ?_
  refine AWo.pure (PureOp.assign rfl) rfl rfl ?_
  refine AWo.nil trivial ?_
  refine AW.seqR ?_
  refine AWo.pure (PureOp.move rfl) rfl rfl ?_
  refine AWo.pure (PureOp.move rfl) rfl rfl ?_
  refine AWo.callX (rdeg_ctr (xs := xs) (n := xs.length) rfl (by omega)) bd75 [(0, 0)] [] rfl (.cons rfl .nil) rfl (.cons rfl rfl .nil) (.clo rfl (cloM fun _ => rfl) (by intro h; first | exact h | rfl) .nil) rfl (.keep rfl .nil) frN (by decide) (.cons rfl rfl .nil) rfl rfl rfl rfl ?_
  refine yP (PureOp.vpSucc (r := Po.dg xs) rfl rfl (by omega)) ?_
  refine AWo.sliceS tbok rfl .none (.some rfl) rfl rfl rfl rfl (by first | decide | omega | (simp; done) | (simp; omega)) (by first | decide | omega | (simp; done) | (simp; omega)) (.inl rfl) rfl rfl rfl ?_
  refine AWo.pure (PureOp.assign rfl) rfl rfl ?_
  refine AWo.nil trivial ?_
  refine AW.ret ?_
  refine RetQ.gc [_] [] [.tmp 2] (.inl rfl) rfl (.tmp rfl .nil) rfl (.cons rfl rfl .nil) (OutL.clo rfl (cloM fun _ => rfl) (by intro h; first | rfl | exact h.elim id fun h => absurd h.1 (by simp)) trivial) (by decide) rfl
end Go.Proofs.YteeifahhejangaaGreatDoor
namespace Go.Proofs.YteeifahhejangaaGreatDoor
open Go Sim
theorem are_get {xs zs : List Fp} {i : Nat} (hz : zs.take xs.length = xs) (hi : i < xs.length) : zs.getD i 0 = xs.getD i 0 := by
  have h := congrArg (fun l => l.getD i 0) hz
  simp only [List.getD_eq_getElem?_getD] at h ⊢
  rw [List.getElem?_take, if_pos hi] at h
  exact h
theorem are_ctr {xs zs : List Fp} {n m : Nat} (hn : xs.length = n) (hm : xs.length = m) (hz : zs.take xs.length = xs) (hx : n < 1000000) : GC Tryz.prog 12 [.slice (some ⟨0, 0, none⟩) n 0, .slice (some ⟨1, 0, none⟩) m 0] [⟨((xs.map fe).flatten).map (vi .u64), false, 4⟩, ⟨zs.map (dv), false, 1⟩] [.bool true] [⟨((xs.map fe).flatten).map (vi .u64), false, 4⟩, ⟨zs.map (dv), false, 1⟩] := by
  refine GC.intro Tryz.func12 rfl (by show 2 ≤ 27; decide) (by first | exact Nat.le_refl _ | decide | simp) ?_
  subst hn
  subst hm
  refine AW.seqR ?_
  refine AWo.pure (PureOp.assign rfl) rfl rfl ?_
  refine AWo.nil trivial ?_
  refine AW.seq ?_
  refine AW.seqR ?_
  refine AWo.pure (PureOp.move rfl) rfl rfl ?_
  first | refine AWo.pure (PureOp.lenS tbok rfl rfl) rfl rfl ?_ | refine AWo.pure (PureOp.lenD tbok rfl rfl) rfl rfl ?_
  refine AWo.pure (PureOp.move rfl) rfl rfl ?_
  first | refine AWo.pure (PureOp.lenS tbok rfl rfl) rfl rfl ?_ | refine AWo.pure (PureOp.lenD tbok rfl rfl) rfl rfl ?_
  first | refine AWo.pure ((PureOp.neN rfl rfl).mono (v' := .bool false) (congrArg Value.bool (by simp))) rfl rfl ?_ | refine AWo.pure ((PureOp.bin rfl rfl rfl).mono (v' := .bool false) (congrArg Value.bool (by simp))) rfl rfl ?_
  refine AWo.nil trivial ?_
  refine AW.condF rfl ?_
  refine AW.skip ?_
  refine thenA_normal ?_
  refine AW.seq ?_
  refine AW.seqR ?_
  refine AWo.pure (PureOp.move rfl) rfl rfl ?_
  first | refine AWo.pure (PureOp.lenS tbok rfl rfl) rfl rfl ?_ | refine AWo.pure (PureOp.lenD tbok rfl rfl) rfl rfl ?_
  refine AWo.pure (PureOp.move rfl) rfl rfl ?_
  refine AWo.nil trivial ?_
  refine AW.block ?_
  refine AW.loopw (fun mm σ => ∃ i, (i ≤ xs.length) ∧ mm = xs.length - i ∧ σ = ⟨(upd (upd (upd (upd emp 0 (.slice (some ⟨0, 0, none⟩) xs.length 0)) 1 (.slice (some ⟨1, 0, none⟩) xs.length 0)) 12 (vi .i64 xs.length)) 13 (vi .i64 i)), (upd (upd emp 0 ⟨((xs.map fe).flatten).map (vi .u64), false, 4⟩) 1 ⟨zs.map dv, false, 1⟩)⟩) (fm := []) ?_ ⟨0, Nat.zero_le _, rfl, rfl⟩ ?_
  ·
    refine Wk.of [0, 1] ?_ ?_ ?_ (by decide) rfl
    ·
      refine WkE.upd rfl (by first | exact VR.flat _ rfl | exact VR.eqv (vp_succ _) rfl | exact VR.eqv (vp_succ _).symm rfl | exact VR.eqv (by first | rfl | (congr 1; omega) | (simp; done) | (simp; omega)) rfl) ?_
      refine WkE.upd rfl (by first | exact VR.flat _ rfl | exact VR.eqv (vp_succ _) rfl | exact VR.eqv (vp_succ _).symm rfl | exact VR.eqv (by first | rfl | (congr 1; omega) | (simp; done) | (simp; omega)) rfl) ?_
      refine WkE.upd rfl (.slice (1) 0 _ 0 ⟨_, rfl⟩ (by simp) (by simp)) ?_
      refine WkE.upd rfl (.slice (0) 0 _ 0 ⟨_, rfl⟩ (by simp) (by simp)) ?_
      exact WkE.emp
    ·
      refine WkM.cloM rfl rfl (fun _ => rfl) (fun h => h) ?_
      refine WkM.flat rfl (flatM flat_vi) (fun h => h) ?_
      exact WkM.emp
    ·
      repeat (refine dom_upd_mem (by decide) ?_)
      exact dom_emp
  ·
    rintro mm σ ⟨i, hinv, rfl, rfl⟩
    refine AW.seqR ?_
    first | refine AWo.pure (PureOp.ltN rfl rfl) rfl rfl ?_ | refine AWo.pure (PureOp.bin rfl rfl rfl) rfl rfl ?_
    refine AWo.nil trivial ?_
    refine AW.seq ?_
    refine AW.cond rfl (fun hb0 => ?_) (fun hb0 => ?_)
    ·
      have hi : i < xs.length := by simpa using hb0
      refine AW.skip ?_
      refine thenA_normal ?_
      refine AW.seq ?_
      refine AW.block ?_
      refine AW.seqR ?_
      refine AWo.pure (PureOp.move rfl) rfl rfl ?_
      refine AWo.pure (PureOp.assign rfl) rfl rfl ?_
      refine AWo.nil trivial ?_
      refine AW.seqD mixed ?_
      refine AWo.pure (PureOp.move rfl) rfl rfl ?_
      refine AWo.pure (PureOp.move rfl) rfl rfl ?_
      first | refine AWo.pure (PureOp.idx1 tbok rfl rfl rfl rfl (by first | decide | omega)) rfl rfl ?_ | refine AWo.pure (PureOp.idx tbok rfl rfl rfl rfl (by first | decide | omega)) rfl rfl ?_
      refine yLJ (xs := xs) i ?_
      refine AWo.pure (PureOp.move rfl) rfl rfl ?_
      refine AWo.pure (PureOp.move rfl) rfl rfl ?_
      refine AWo.pure (PureOp.idx1 tbok (j := i) rfl rfl rfl rfl hi) rfl rfl ?_
      refine AWo.loadM tbok (f := dv) 0 rfl rfl rfl (by rw [← hz] at hi; rw [List.length_take] at hi; omega) rfl rfl ?_
      rw [show zs.getD i 0 = xs.getD i 0 from are_get hz hi]
      refine AWo.callX (isFd (x := xs.getD i 0)) bd9 [] [] rfl (.cons rfl (.cons rfl .nil)) rfl (.pure (by first | rfl | exact pure_aggM flat_vi | exact pure_aggM flat_bool) (.cons rfl rfl .nil)) .nil rfl .nil frN (by decide) (.cons rfl rfl .nil) rfl rfl rfl rfl ?_
      refine AWo.pure (PureOp.not rfl) rfl rfl ?_
      refine AWo.nil (by kernel_rfl) ?_
      refine AW.condF rfl ?_
      refine AW.skip ?_
      refine inBlockA_normal ?_
      refine thenA_normal ?_
      refine AW.region ?_
      first | refine AWo.pure (PureOp.addI (b := 1) rfl rfl (by first | decide | omega)) rfl rfl ?_ | refine AWo.pure (PureOp.bin rfl rfl rfl) rfl rfl ?_
      refine AWo.pure (PureOp.move rfl) rfl rfl ?_
      refine AWo.nil trivial ?_
      refine thenA_normal ?_
      refine ⟨xs.length - (i + 1), [], _, by omega, ?_, i + 1, by omega, rfl, rfl⟩
      refine Wk.of [0, 1] ?_ ?_ ?_ (by decide) rfl
      ·
        refine WkE.upd rfl (by first | exact VR.flat _ rfl | exact VR.eqv (vp_succ _) rfl | exact VR.eqv (vp_succ _).symm rfl | exact VR.eqv (by first | rfl | (congr 1; omega) | (simp; done) | (simp; omega)) rfl) ?_
        refine WkE.upd rfl (by first | exact VR.flat _ rfl | exact VR.eqv (vp_succ _) rfl | exact VR.eqv (vp_succ _).symm rfl | exact VR.eqv (by first | rfl | (congr 1; omega) | (simp; done) | (simp; omega)) rfl) ?_
        refine WkE.upd rfl (.slice (1) 0 _ 0 ⟨_, rfl⟩ (by simp) (by simp)) ?_
        refine WkE.upd rfl (.slice (0) 0 _ 0 ⟨_, rfl⟩ (by simp) (by simp)) ?_
        exact WkE.emp
      ·
        refine WkM.cloM rfl rfl (fun _ => rfl) (fun h => h) ?_
        refine WkM.flat rfl (flatM flat_vi) (fun h => h) ?_
        exact WkM.emp
      ·
        repeat (refine dom_upd_mem (by decide) ?_)
        exact dom_emp
    ·
      obtain rfl : i = xs.length := by simp at hb0; omega
      refine AW.exit ?_
      refine thenA_exit ?_
      refine thenA_exit ?_
      refine inBlockA_hit ?_
      refine thenA_normal ?_
      refine AW.seqR ?_
      refine AWo.pure (PureOp.assign rfl) rfl rfl ?_
      refine AWo.nil trivial ?_
      refine AW.ret ?_
      refine RetQ.gc [_] [] [.tmp 4] (.inl rfl) rfl (.tmp rfl .nil) rfl (.cons rfl rfl .nil) (OutL.flat rfl (flatM flat_vi) (by intro h; first | rfl | exact h.elim id fun h => absurd h.1 (by simp)) (OutL.clo rfl (cloM fun _ => rfl) (by intro h; first | rfl | exact h.elim id fun h => absurd h.1 (by simp)) trivial)) (by decide) rfl
end Go.Proofs.YteeifahhejangaaGreatDoor
namespace Go.Proofs.YteeifahhejangaaGreatDoor
open Go Sim
theorem sum0 {xs ys : List Fp} {k : Nat} : deep 0 1 ([] : List Value) = dv (Po.co (Po.pm (xs.take 0) ys) k) := by
  rw [List.take_zero, Po.pm, Po.co_nil]; rfl
theorem sum_step {xs ys : List Fp} {k i : Nat} (hi : i < xs.length) (hik : i ≤ k) : Po.co (Po.pm (xs.take (i + 1)) ys) k = Po.co (Po.pm (xs.take i) ys) k + xs.getD i 0 * Po.co ys (k - i) := by
  rw [List.take_succ_eq_append_getElem hi, co_snoc, List.length_take, Nat.min_eq_left (by omega), if_pos hik, List.getD_eq_getElem?_getD, List.getElem?_eq_getElem hi]; rfl
theorem sum_more {xs ys : List Fp} {k i : Nat} (h : k < i) : ∀ d, i + d ≤ xs.length → Po.co (Po.pm (xs.take (i + d)) ys) k = Po.co (Po.pm (xs.take i) ys) k
  | 0, _ => rfl
  | d + 1, hd => by
    rw [← Nat.add_assoc, List.take_succ_eq_append_getElem (show i + d < xs.length by omega), co_snoc, List.length_take, Nat.min_eq_left (by omega), if_neg (by omega), Rg.add_zero, sum_more h d (by omega)]
theorem sum_end {xs ys : List Fp} {k i : Nat} (h : (k < i) ∨ xs.length ≤ i) : Po.co (Po.pm (xs.take i) ys) k = Po.co (Po.pm xs ys) k := by
  by_cases h1 : xs.length ≤ i
  · rw [List.take_of_length_le h1]
  · have := sum_more (xs := xs) (ys := ys) (k := k) (i := i) (by omega) (xs.length - i) (by omega)
    rw [show i + (xs.length - i) = xs.length by omega, List.take_length] at this
    exact this.symm
theorem co_pad (xs ys : List Fp) (i : Nat) : Po.co ((List.range (xs.length + ys.length)).map (Po.co (Po.pm xs ys))) i = Po.co (Po.pm xs ys) i := by
  by_cases h : i < xs.length + ys.length
  · rw [Po.co_lt (by simpa using h)]; simp
  · rw [Po.co_len (by simp; omega), Po.co_len (Nat.le_trans (Po.pm_len xs ys) (by omega))]
theorem dg_pad (xs ys : List Fp) : Po.dg ((List.range (xs.length + ys.length)).map (Po.co (Po.pm xs ys))) = Po.dg (Po.pm xs ys) := Po.dg_congr (co_pad xs ys)
end Go.Proofs.YteeifahhejangaaGreatDoor
namespace Go.Proofs.YteeifahhejangaaGreatDoor
open Go Sim
theorem pad_tr (xs ys : List Fp) : ((List.range (xs.length + ys.length)).map (Po.co (Po.pm xs ys))).take (Po.dg (Po.pm xs ys)) = Po.tr (Po.pm xs ys) := by
  rw [← dg_pad]; exact Po.tr_congr (co_pad xs ys)
end Go.Proofs.YteeifahhejangaaGreatDoor
namespace Go.Proofs.YteeifahhejangaaGreatDoor
open Go Sim
def isV (n : Nat) : Bool := n != 0 && (n &&& (n - 1)) == 0 && decide (n ≤ 4096)
def vN (n : Nat) : Nat := if isV n then Lib.ctz 64 n else 0
def vC (n : Nat) : Int := if isV n then 0 else 7
def vAll : Bool := (List.range 4097).all fun n => !isV n || (2 ^ Lib.ctz 64 n == n && decide (Lib.ctz 64 n ≤ 12))
theorem vAll_t : vAll = true := by decide +kernel
theorem isV_pow {n : Nat} (h : isV n = true) : n = 2 ^ vN n ∧ vN n ≤ 12 := by
  have h4 : n ≤ 4096 := by
    simp only [isV, Bool.and_eq_true] at h
    exact of_decide_eq_true h.2
  have h1 := List.all_eq_true.1 vAll_t n (List.mem_range.2 (by omega))
  rw [h] at h1
  simp only [Bool.not_true, Bool.false_or, Bool.and_eq_true, beq_iff_eq, decide_eq_true_eq] at h1
  rw [vN, if_pos h]
  exact ⟨h1.1.symm, h1.2⟩
def pAll : Bool := (List.range 13).all fun k => isV (2 ^ k) && vN (2 ^ k) == k
theorem pAll_t : pAll = true := by decide +kernel
theorem pow_isV {k : Nat} (hk : k ≤ 12) : isV (2 ^ k) = true ∧ vN (2 ^ k) = k := by
  have h1 := List.all_eq_true.1 pAll_t k (List.mem_range.2 (by omega))
  simpa using h1
theorem vC_ok {n : Nat} (h : isV n = true) : vC n = 0 := if_pos h
theorem vC_no {n : Nat} (h : isV n = false) : vC n = 7 := if_neg (by rw [h]; decide)
theorem vN_no {n : Nat} (h : isV n = false) : vN n = 0 := if_neg (by rw [h]; decide)
theorem vC_iff {n : Nat} : vC n = 0 ↔ isV n = true := by
  cases h : isV n with
  | true => simp [vC_ok h]
  | false => simp [vC_no h]
theorem no_pow {n : Nat} (h : ∀ k, k ≤ 12 → n ≠ 2 ^ k) : isV n = false := by
  cases hv : isV n with
  | false => rfl
  | true => exact absurd (isV_pow hv).1 (h _ (isV_pow hv).2)
def fixL (xs : List Fp) (x : Fp) : List Fp := (List.range (xs.length / 2)).map fun i => xs.getD i 0 + x * (xs.getD (xs.length / 2 + i) 0 - xs.getD i 0)
def fixB (n : Nat) : Bool := isV n && decide (0 < vN n)
def fixT (xs : List Fp) (x : Fp) : List Fp := if fixB xs.length then fixL xs x else []
theorem fixL_len (xs : List Fp) (x : Fp) : (fixL xs x).length = xs.length / 2 := by simp [fixL]
theorem fixL_at {xs : List Fp} {x : Fp} {i : Nat} (h : i < xs.length / 2) : (fixL xs x).getD i 0 = xs.getD i 0 + x * (xs.getD (xs.length / 2 + i) 0 - xs.getD i 0) := by
  rw [fixL, List.getD_eq_getElem?_getD, List.getElem?_map, List.getElem?_range h]; rfl
theorem fixT_len (xs : List Fp) (x : Fp) : (fixT xs x).length ≤ xs.length / 2 := by
  unfold fixT; split
  · rw [fixL_len]; exact Nat.le_refl _
  · exact Nat.zero_le _
theorem fixB_pow {k : Nat} (hk : k + 1 ≤ 12) : fixB (2 ^ (k + 1)) = true := by
  have h := pow_isV hk
  rw [fixB, h.1, h.2]; simp
theorem pow_half (k : Nat) : 2 ^ (k + 1) / 2 = 2 ^ k := by rw [Nat.pow_succ, Nat.mul_div_cancel _ (by decide)]
theorem fix_eq {xs : List Fp} {x : Fp} {k : Nat} (hl : xs.length = 2 ^ (k + 1)) (hk : k + 1 ≤ 12) : fixT xs x = fixL xs x ∧ (fixT xs x).length = 2 ^ k := by
  have h : fixT xs x = fixL xs x := if_pos (by rw [hl]; exact fixB_pow hk)
  exact ⟨h, by rw [h, fixL_len, hl, pow_half]⟩
def evF (xs : List Fp) (ps : List Fp) : List Fp := ps.foldl fixT xs
def evV (xs : List Fp) (ps : List Fp) : Fp := (evF xs ps).getD 0 0
def evB (n k : Nat) : Bool := isV n && decide (vN n = k)
def eT (xs ps : List Fp) : Fp := if evB xs.length ps.length then evV xs ps else 0
def eC (xs ps : List Fp) : Int := if isV xs.length then (if vN xs.length = ps.length then 0 else 1) else 7
theorem evF_len : ∀ (ps xs : List Fp), xs.length = 2 ^ ps.length → ps.length ≤ 12 → (evF xs ps).length = 1
  | [], xs, h, _ => h
  | x :: ps, xs, h, hk => by
    simp only [List.length_cons] at h hk
    have h1 := fix_eq (x := x) h hk
    exact evF_len ps (fixT xs x) h1.2 (by omega)
theorem evB_spec {n k : Nat} (h : evB n k = true) : n = 2 ^ k ∧ k ≤ 12 := by
  simp only [evB, Bool.and_eq_true, decide_eq_true_eq] at h
  have := isV_pow h.1
  rw [h.2] at this
  exact this
theorem eC_B {xs ps : List Fp} : eC xs ps = 0 ↔ evB xs.length ps.length = true := by
  unfold eC evB
  cases isV xs.length <;> simp
def smN (f : Nat → Fp) : Nat → Fp
  | 0 => 0
  | n + 1 => smN f n + f n
end Go.Proofs.YteeifahhejangaaGreatDoor
namespace Go.Proofs.YteeifahhejangaaGreatDoor
open Go Sim
theorem isV_zero {n : Nat} (h : n = 0) : isV n = false := by rw [h]; rfl
theorem isV_and {n : Nat} (h : ¬ n &&& (n - 1) = 0) : isV n = false := by
  unfold isV; rw [show ((n &&& (n - 1)) == 0) = false from beq_eq_false_iff_ne.2 h, Bool.and_false, Bool.false_and]
theorem isV_gt {n : Nat} (h : 4096 < n) : isV n = false := by
  unfold isV; rw [decide_eq_false (show ¬ n ≤ 4096 by omega), Bool.and_false]
theorem isV_ok {n : Nat} (h0 : ¬ n = 0) (h1 : n &&& (n - 1) = 0) (h2 : n ≤ 4096) : isV n = true := by
  unfold isV; rw [h1, decide_eq_true h2]; simp [h0]
theorem fixB_no {n : Nat} (h : ¬ isV n = true) : fixB n = false := by
  unfold fixB; rw [Bool.eq_false_iff.2 h]; rfl
theorem fixB_n0 {n : Nat} (h : vN n = 0) : fixB n = false := by unfold fixB; rw [h]; simp
theorem fixB_ok {n : Nat} (hv : isV n = true) (h : ¬ vN n = 0) : fixB n = true := by
  unfold fixB; rw [hv, decide_eq_true (by omega)]; rfl
def fxp (xs : List Fp) (x : Fp) (i : Nat) : List Fp := (List.range (xs.length / 2)).map fun j => if j < i then (fixL xs x).getD j 0 else 0
theorem fxp_len (xs : List Fp) (x : Fp) (i : Nat) : (fxp xs x i).length = xs.length / 2 := by simp [fxp]
theorem fxp_zero (xs : List Fp) (x : Fp) : fxp xs x 0 = List.replicate (xs.length / 2) 0 := by
  refine List.ext_getElem (by simp [fxp]) fun i h1 h2 => ?_
  simp [fxp]
theorem fxp_all {xs : List Fp} {x : Fp} : fxp xs x (xs.length / 2) = fixL xs x := by
  refine List.ext_getElem (by simp [fxp, fixL_len]) fun i h1 h2 => ?_
  rw [fxp_len] at h1
  simp [fxp, h1, List.getElem?_eq_getElem h2]
theorem fxp_set {xs : List Fp} {x : Fp} {i : Nat} (hi : i < xs.length / 2) : (fxp xs x i).set i (xs.getD i 0 + x * (xs.getD (xs.length / 2 + i) 0 - xs.getD i 0)) = fxp xs x (i + 1) := by
  refine List.ext_getElem (by simp [fxp]) fun j h1 h2 => ?_
  simp only [fxp, List.getElem_set, List.getElem_map, List.getElem_range]
  by_cases h : i = j
  · subst h; rw [if_pos rfl, if_pos (Nat.lt_succ_self i), fixL_at hi]
  · rw [if_neg h]
    by_cases hj : j < i
    · rw [if_pos hj, if_pos (by omega)]
    · rw [if_neg hj, if_neg (by omega)]
theorem vars_ctr {xs : List Fp} {n : Nat} (hn : xs.length = n) (hx : n < 1000000) : GC Tryz.prog 32 [.slice (some ⟨0, 0, none⟩) n 0] [⟨((xs.map fe).flatten).map (vi .u64), false, 4⟩] [vi .i64 (vN n), .int .i64 (vC n)] [⟨((xs.map fe).flatten).map (vi .u64), false, 4⟩] := by
  refine GC.intro Tryz.func32 rfl (by show 1 ≤ 23; decide) (by first | exact Nat.le_refl _ | decide | simp) ?_
  refine AW.seqR ?_
  refine AWo.pure (PureOp.assign rfl) rfl rfl ?_
  refine AWo.pure (PureOp.assign rfl) rfl rfl ?_
  refine AWo.nil trivial ?_
  refine AW.seqR ?_
  refine AWo.pure (PureOp.move rfl) rfl rfl ?_
  first | refine AWo.pure (PureOp.lenS tbok rfl rfl) rfl rfl ?_ | refine AWo.pure (PureOp.lenD tbok rfl rfl) rfl rfl ?_
  refine AWo.pure (PureOp.assign rfl) rfl rfl ?_
  refine AWo.nil trivial ?_
  refine AW.seq ?_
  refine AW.seqR ?_
  refine AWo.pure (PureOp.move rfl) rfl rfl ?_
  first | refine AWo.pureB (PureOp.eqN (b := 0) rfl rfl) rfl rfl (fun hb0 => ?_) (fun hb0 => ?_) | refine AWo.pureB (PureOp.bin rfl rfl rfl) rfl rfl (fun hb0 => ?_) (fun hb0 => ?_)
  ·
    have hv : isV n = false := isV_zero (by simpa using hb0)
    refine AWo.pure (PureOp.move rfl) rfl rfl ?_
    refine AWo.skipped rfl rfl ?_
    refine AWo.skipped rfl rfl ?_
    refine AWo.skipped rfl rfl ?_
    refine AWo.skipped rfl rfl ?_
    refine AWo.skipped rfl rfl ?_
    refine AWo.pure (PureOp.pickT rfl rfl) rfl rfl ?_
    refine AWo.pure (PureOp.move rfl) rfl rfl ?_
    refine AWo.skipped rfl rfl ?_
    refine AWo.skipped rfl rfl ?_
    refine AWo.pure (PureOp.pickT rfl rfl) rfl rfl ?_
    refine AWo.nil trivial ?_
    refine AW.condT rfl ?_
    refine AW.seqR ?_
    refine AWo.pure (PureOp.assign rfl) rfl rfl ?_
    refine AWo.pure (PureOp.assign rfl) rfl rfl ?_
    refine AWo.nil trivial ?_
    refine AW.ret ?_
    refine thenA_ret ?_
    rw [vC_no hv, vN_no hv]
    refine RetQ.gc [_, _] [] [.tmp 2, .tmp 3] (.inl rfl) rfl (.tmp rfl (.tmp rfl .nil)) rfl (.pure rfl (.pure rfl .nil)) (OutL.flat rfl (flatM flat_vi) (by intro h; exact h.elim id fun h => absurd h.1 (by simp)) trivial) (by decide) rfl
  ·
    have h8 : ¬ n = 0 := by simpa using hb0
    refine AWo.pure (PureOp.move rfl) rfl rfl ?_
    refine AWo.pure (PureOp.move rfl) rfl rfl ?_
    refine AWo.pure (PureOp.move rfl) rfl rfl ?_
    first | refine AWo.pure (PureOp.subI (b := 1) rfl rfl (by first | decide | omega) (by first | decide | omega)) rfl rfl ?_ | refine AWo.pure (PureOp.subP rfl rfl (by first | decide | omega)) rfl rfl ?_ | refine AWo.pure (PureOp.bin rfl rfl rfl) rfl rfl ?_
    first | refine AWo.pure (PureOp.andN 9223372036854775808 rfl rfl (by decide) (by decide) (by first | decide | omega) (by first | decide | omega)) rfl rfl ?_ | refine AWo.pure (PureOp.bin rfl rfl rfl) rfl rfl ?_
    first | refine AWo.pureB (PureOp.neN (b := 0) rfl rfl) rfl rfl (fun hb1 => ?_) (fun hb1 => ?_) | refine AWo.pureB (PureOp.bin rfl rfl rfl) rfl rfl (fun hb1 => ?_) (fun hb1 => ?_)
    ·
      have hv : isV n = false := isV_and (by simpa using hb1)
      refine AWo.pure (PureOp.pickF rfl rfl) rfl rfl ?_
      refine AWo.pure (PureOp.move rfl) rfl rfl ?_
      refine AWo.skipped rfl rfl ?_
      refine AWo.skipped rfl rfl ?_
      refine AWo.pure (PureOp.pickT rfl rfl) rfl rfl ?_
      refine AWo.nil trivial ?_
      refine AW.condT rfl ?_
      refine AW.seqR ?_
      refine AWo.pure (PureOp.assign rfl) rfl rfl ?_
      refine AWo.pure (PureOp.assign rfl) rfl rfl ?_
      refine AWo.nil trivial ?_
      refine AW.ret ?_
      refine thenA_ret ?_
      rw [vC_no hv, vN_no hv]
      refine RetQ.gc [_, _] [] [.tmp 2, .tmp 3] (.inl rfl) rfl (.tmp rfl (.tmp rfl .nil)) rfl (.pure rfl (.pure rfl .nil)) (OutL.flat rfl (flatM flat_vi) (by intro h; exact h.elim id fun h => absurd h.1 (by simp)) trivial) (by decide) rfl
    ·
      have h14 : n &&& (n - 1) = 0 := by simpa using hb1
      refine AWo.pure (PureOp.pickF rfl rfl) rfl rfl ?_
      refine AWo.pure (PureOp.move rfl) rfl rfl ?_
      refine AWo.pure (PureOp.move rfl) rfl rfl ?_
      first | refine AWo.pure (PureOp.gtN (b := 4096) rfl rfl) rfl rfl ?_ | refine AWo.pure (PureOp.bin rfl rfl rfl) rfl rfl ?_
      refine AWo.pure (PureOp.pickF rfl rfl) rfl rfl ?_
      refine AWo.nil trivial ?_
      refine AW.cond rfl (fun hb2 => ?_) (fun hb2 => ?_)
      ·
        have hv : isV n = false := isV_gt (of_decide_eq_true hb2)
        refine AW.seqR ?_
        refine AWo.pure (PureOp.assign rfl) rfl rfl ?_
        refine AWo.pure (PureOp.assign rfl) rfl rfl ?_
        refine AWo.nil trivial ?_
        refine AW.ret ?_
        refine thenA_ret ?_
        rw [vC_no hv, vN_no hv]
        refine RetQ.gc [_, _] [] [.tmp 2, .tmp 3] (.inl rfl) rfl (.tmp rfl (.tmp rfl .nil)) rfl (.pure rfl (.pure rfl .nil)) (OutL.flat rfl (flatM flat_vi) (by intro h; exact h.elim id fun h => absurd h.1 (by simp)) trivial) (by decide) rfl
      ·
        have hv : isV n = true := isV_ok h8 h14 (by have := of_decide_eq_false hb2; omega)
        refine AW.skip ?_
        refine thenA_normal ?_
        refine AW.seqR ?_
        refine AWo.pure (PureOp.move rfl) rfl rfl ?_
        first | refine AWo.pure (PureOp.cvtN tbok 18446744073709551616 rfl rfl rfl (by decide) (by decide) (by first | decide | omega)) rfl rfl ?_ | refine AWo.pure (PureOp.cvtU tbok 18446744073709551616 rfl rfl rfl rfl rfl) rfl rfl ?_ | refine AWo.pure (PureOp.cvt tbok rfl rfl rfl) rfl rfl ?_
        refine AWo.callX (tz_ctr (x := n) (by omega) h8) bd63 [] [] rfl (.cons rfl .nil) rfl (.cons rfl rfl .nil) .nil rfl .nil frN (by decide) (.cons rfl rfl .nil) rfl rfl rfl rfl ?_
        refine AWo.pure (PureOp.assign rfl) rfl rfl ?_
        refine AWo.pure (PureOp.assign rfl) rfl rfl ?_
        refine AWo.nil trivial ?_
        refine AW.ret ?_
        rw [vC_ok hv, show vN n = Lib.ctz 64 n from if_pos hv]
        refine RetQ.gc [_, _] [] [.tmp 2, .tmp 3] (.inl rfl) rfl (.tmp rfl (.tmp rfl .nil)) rfl (.cons rfl rfl (.cons rfl rfl .nil)) (OutL.flat rfl (flatM flat_vi) (by intro h; exact h.elim id fun h => absurd h.1 (by simp)) trivial) (by decide) rfl
theorem rvars_ctr {xs : List Fp} {n : Nat} (hn : xs.length = n) (hx : n < 1000000) : GC Tryz.prog 36 [.slice (some ⟨0, 0, none⟩) n 0] [⟨xs.map (dv), false, 1⟩] [vi .i64 (vN n), .int .i64 (vC n)] [⟨xs.map (dv), false, 1⟩] := by
  refine GC.intro Tryz.func36 rfl (by show 1 ≤ 17; decide) (by first | exact Nat.le_refl _ | decide | simp) ?_
  refine AW.seqR ?_
  refine AWo.pure (PureOp.assign rfl) rfl rfl ?_
  refine AWo.pure (PureOp.assign rfl) rfl rfl ?_
  refine AWo.nil trivial ?_
  refine AW.seqR ?_
  refine AWo.pure (PureOp.assign rfl) rfl rfl ?_
  refine AWo.nil trivial ?_
  refine AW.seq ?_
  refine AW.seqR ?_
  refine AWo.pure (PureOp.assign rfl) rfl rfl ?_
  refine AWo.nil trivial ?_
  refine AW.block ?_
  refine AW.loopw (fun mm σ => ∃ k, (k ≤ 13 ∧ ∀ j, j < k → n ≠ 2 ^ j) ∧ mm = 13 - k ∧ σ = ⟨(upd (upd (upd emp 0 (.slice (some ⟨0, 0, none⟩) n 0)) 4 (vi .i64 (2 ^ k))) 5 (vi .i64 k)), (upd emp 0 ⟨xs.map dv, false, 1⟩)⟩) (fm := []) ?_ ⟨0, ⟨by decide, fun j hj => absurd hj (Nat.not_lt_zero j)⟩, rfl, rfl⟩ ?_
  ·
    refine Wk.of [0] ?_ ?_ ?_ (by decide) rfl
    ·
      refine WkE.upd rfl (by first | exact VR.flat _ rfl | exact VR.eqv (vp_succ _) rfl | exact VR.eqv (vp_succ _).symm rfl | exact VR.eqv (by first | rfl | (congr 1; omega) | (simp; done) | (simp; omega)) rfl) ?_
      refine WkE.upd rfl (by first | exact VR.flat _ rfl | exact VR.eqv (vp_succ _) rfl | exact VR.eqv (vp_succ _).symm rfl | exact VR.eqv (by first | rfl | (congr 1; omega) | (simp; done) | (simp; omega)) rfl) ?_
      refine WkE.upd rfl (.slice (0) 0 _ 0 ⟨_, rfl⟩ (by simp) (by simp)) ?_
      exact WkE.emp
    ·
      refine WkM.cloM rfl rfl (fun _ => rfl) (fun h => h) ?_
      exact WkM.emp
    ·
      repeat (refine dom_upd_mem (by decide) ?_)
      exact dom_emp
  ·
    rintro mm σ ⟨k, ⟨hk0, hno⟩, rfl, rfl⟩
    have h2k : 2 ^ k ≤ 8192 := Nat.le_trans (Nat.pow_le_pow_right (by decide) hk0) (by decide)
    refine AW.seq ?_
    refine AW.seqR ?_
    refine AWo.pure (PureOp.move rfl) rfl rfl ?_
    first | refine AWo.pure (PureOp.leN (b := 12) rfl rfl) rfl rfl ?_ | refine AWo.pure (PureOp.bin rfl rfl rfl) rfl rfl ?_
    refine AWo.nil trivial ?_
    refine AW.cond rfl (fun hb0 => ?_) (fun hb0 => ?_)
    ·
      have hk : k ≤ 12 := of_decide_eq_true hb0
      refine AW.skip ?_
      refine thenA_normal ?_
      refine AW.seq ?_
      refine AW.block ?_
      refine AW.seq ?_
      refine AW.seqR ?_
      refine AWo.pure (PureOp.move rfl) rfl rfl ?_
      first | refine AWo.pure (PureOp.lenS tbok rfl rfl) rfl rfl ?_ | refine AWo.pure (PureOp.lenD tbok rfl rfl) rfl rfl ?_
      refine AWo.pure (PureOp.move rfl) rfl rfl ?_
      first | refine AWo.pure (PureOp.eqN rfl rfl) rfl rfl ?_ | refine AWo.pure (PureOp.bin rfl rfl rfl) rfl rfl ?_
      refine AWo.nil trivial ?_
      refine AW.cond rfl (fun hb1 => ?_) (fun hb1 => ?_)
      ·
        have h13 : n = 2 ^ k := by simpa using hb1
        refine AW.seqR ?_
        refine AWo.pure (PureOp.move rfl) rfl rfl ?_
        refine AWo.pure (PureOp.assign rfl) rfl rfl ?_
        refine AWo.pure (PureOp.assign rfl) rfl rfl ?_
        refine AWo.nil trivial ?_
        refine AW.ret ?_
        refine thenA_ret ?_
        refine inBlockA_ret ?_
        refine thenA_ret ?_
        refine thenA_ret ?_
        refine inBlockA_ret ?_
        refine thenA_ret ?_
        have hv := pow_isV (show k ≤ 12 by omega)
        rw [h13, vC_ok hv.1, hv.2]
        refine RetQ.gc [_, _] [] [.tmp 2, .tmp 3] (.inl rfl) rfl (.tmp rfl (.tmp rfl .nil)) rfl (.cons rfl rfl (.pure rfl .nil)) (OutL.clo rfl (cloM fun _ => rfl) (by intro h; exact h.elim id fun h => absurd h.1 (by simp)) trivial) (by decide) rfl
      ·
        have h13 : n ≠ 2 ^ k := by simpa using hb1
        refine AW.skip ?_
        refine thenA_normal ?_
        refine AW.region ?_
        refine AWo.pure (PureOp.move rfl) rfl rfl ?_
        first | refine AWo.pure ((PureOp.mulI (b := 2) rfl rfl (by first | decide | omega)).mono (v' := vi .i64 (2 ^ (k + 1))) (congrArg (vi .i64) (Nat.pow_succ ..).symm)) rfl rfl ?_ | refine AWo.pure ((PureOp.bin rfl rfl rfl).mono (v' := vi .i64 (2 ^ (k + 1))) (congrArg (vi .i64) (Nat.pow_succ ..).symm)) rfl rfl ?_
        refine AWo.pure (PureOp.assign rfl) rfl rfl ?_
        refine AWo.nil trivial ?_
        refine inBlockA_normal ?_
        refine thenA_normal ?_
        refine AW.region ?_
        refine AWo.pure (PureOp.move rfl) rfl rfl ?_
        first | refine AWo.pure (PureOp.addI (b := 1) rfl rfl (by first | decide | omega)) rfl rfl ?_ | refine AWo.pure (PureOp.bin rfl rfl rfl) rfl rfl ?_
        refine AWo.pure (PureOp.assign rfl) rfl rfl ?_
        refine AWo.nil trivial ?_
        refine thenA_normal ?_
        refine ⟨13 - (k + 1), [], _, by omega, ?_, k + 1, ⟨by omega, fun j hj => (Nat.lt_succ_iff_lt_or_eq.1 hj).elim (hno j) (fun e => e ▸ h13)⟩, rfl, rfl⟩
        refine Wk.of [0] ?_ ?_ ?_ (by decide) rfl
        ·
          refine WkE.upd rfl (by first | exact VR.flat _ rfl | exact VR.eqv (vp_succ _) rfl | exact VR.eqv (vp_succ _).symm rfl | exact VR.eqv (by first | rfl | (congr 1; omega) | (simp; done) | (simp; omega)) rfl) ?_
          refine WkE.upd rfl (by first | exact VR.flat _ rfl | exact VR.eqv (vp_succ _) rfl | exact VR.eqv (vp_succ _).symm rfl | exact VR.eqv (by first | rfl | (congr 1; omega) | (simp; done) | (simp; omega)) rfl) ?_
          refine WkE.upd rfl (.slice (0) 0 _ 0 ⟨_, rfl⟩ (by simp) (by simp)) ?_
          exact WkE.emp
        ·
          refine WkM.cloM rfl rfl (fun _ => rfl) (fun h => h) ?_
          exact WkM.emp
        ·
          repeat (refine dom_upd_mem (by decide) ?_)
          exact dom_emp
    ·
      have hk : ¬ k ≤ 12 := of_decide_eq_false hb0
      refine AW.exit ?_
      refine thenA_exit ?_
      refine thenA_exit ?_
      refine inBlockA_hit ?_
      refine thenA_normal ?_
      refine AW.seqR ?_
      refine AWo.pure (PureOp.assign rfl) rfl rfl ?_
      refine AWo.pure (PureOp.assign rfl) rfl rfl ?_
      refine AWo.nil trivial ?_
      refine AW.ret ?_
      have hv := no_pow (n := n) (fun j hj => hno j (by omega))
      rw [vC_no hv, vN_no hv]
      refine RetQ.gc [_, _] [] [.tmp 2, .tmp 3] (.inl rfl) rfl (.tmp rfl (.tmp rfl .nil)) rfl (.pure rfl (.pure rfl .nil)) (OutL.clo rfl (cloM fun _ => rfl) (by intro h; exact h.elim id fun h => absurd h.1 (by simp)) trivial) (by decide) rfl
theorem fix_ctr {xs : List Fp} {x : Fp} {n : Nat} (hn : xs.length = n) (hx : n < 1000000) : GC Tryz.prog 26 [.slice (some ⟨0, 0, none⟩) n 0, .agg ((fe x).map (vi .u64)).toArray] [⟨((xs.map fe).flatten).map (vi .u64), false, 4⟩] [.slice (some ⟨1, 0, none⟩) (fixT xs x).length 0] [⟨((xs.map fe).flatten).map (vi .u64), false, 4⟩, ⟨(((fixT xs x).map fe).flatten).map (vi .u64), true, 4⟩] := by
  refine GC.intro Tryz.func26 rfl (by show 2 ≤ 54; decide) (by first | exact Nat.le_refl _ | decide | simp) ?_
  subst hn
  refine AW.seqR ?_
  refine AWo.box 4000 1 _ rfl rfl rfl rfl rfl ?_
  refine AWo.pure (PureOp.assign rfl) rfl rfl ?_
  refine AWo.nil trivial ?_
  refine AW.seqR ?_
  refine AWo.pure (PureOp.move rfl) rfl rfl ?_
  refine AWo.callX (vars_ctr (xs := xs) (n := xs.length) rfl hx) bd32 [(0, 0)] [] rfl (.cons rfl .nil) rfl (.cons rfl rfl .nil) (.flat rfl (flatM flat_vi) (by intro h; first | exact h | rfl) .nil) rfl (.keep rfl .nil) frN (by decide) (.cons rfl rfl (.cons rfl rfl .nil)) rfl rfl rfl rfl ?_
  refine AWo.pure (PureOp.move rfl) rfl rfl ?_
  refine AWo.pure (PureOp.extract rfl rfl) rfl rfl ?_
  refine AWo.pure (PureOp.extract rfl rfl) rfl rfl ?_
  refine AWo.pure (PureOp.assign rfl) rfl rfl ?_
  refine AWo.pure (PureOp.assign rfl) rfl rfl ?_
  refine AWo.nil trivial ?_
  refine AW.seq ?_
  refine AW.seqR ?_
  refine AWo.pure (PureOp.move rfl) rfl rfl ?_
  first | refine AWo.pureB (PureOp.neN (b := 0) rfl rfl) rfl rfl (fun hb0 => ?_) (fun hb0 => ?_) | refine AWo.pureB (PureOp.bin rfl rfl rfl) rfl rfl (fun hb0 => ?_) (fun hb0 => ?_)
  ·
    have hv : ¬ vC xs.length = 0 := by simpa using hb0
    have hfb : fixB xs.length = false := fixB_no (fun h => hv (vC_iff.2 h))
    refine AWo.pure (PureOp.move rfl) rfl rfl ?_
    refine AWo.skipped rfl rfl ?_
    refine AWo.skipped rfl rfl ?_
    refine AWo.pure (PureOp.pickT rfl rfl) rfl rfl ?_
    refine AWo.nil trivial ?_
    refine AW.condT rfl ?_
    refine AW.ghost 77000 4 rfl ?_
    refine AW.seqR ?_
    refine AWo.pure (PureOp.assign rfl) rfl rfl ?_
    refine AWo.nil trivial ?_
    refine AW.ret ?_
    refine thenA_ret ?_
    have e : fixT xs x = [] := if_neg (by rw [hfb]; decide)
    rw [e]
    refine RetQ.gc [_] [77000] [.tmp 4] (.inl rfl) rfl (.tmp rfl .nil) rfl (.nilS .nil) (OutL.flat rfl (flatM flat_vi) (by intro h; exact h.elim id fun h => absurd h.1 (by simp)) (OutL.flat rfl (flatM flat_vi) (fun _ => rfl) trivial)) (by decide) rfl
  ·
    have hv : isV xs.length = true := vC_iff.1 (by simpa using hb0)
    refine AWo.pure (PureOp.move rfl) rfl rfl ?_
    refine AWo.pure (PureOp.move rfl) rfl rfl ?_
    first | refine AWo.pure (PureOp.eqN (b := 0) rfl rfl) rfl rfl ?_ | refine AWo.pure (PureOp.bin rfl rfl rfl) rfl rfl ?_
    refine AWo.pure (PureOp.pickF rfl rfl) rfl rfl ?_
    refine AWo.nil trivial ?_
    refine AW.cond rfl (fun hb1 => ?_) (fun hb1 => ?_)
    ·
      have h0 : vN xs.length = 0 := by simpa using hb1
      have hfb : fixB xs.length = false := fixB_n0 h0
      refine AW.ghost 77000 4 rfl ?_
      refine AW.seqR ?_
      refine AWo.pure (PureOp.assign rfl) rfl rfl ?_
      refine AWo.nil trivial ?_
      refine AW.ret ?_
      refine thenA_ret ?_
      have e : fixT xs x = [] := if_neg (by rw [hfb]; decide)
      rw [e]
      refine RetQ.gc [_] [77000] [.tmp 4] (.inl rfl) rfl (.tmp rfl .nil) rfl (.nilS .nil) (OutL.flat rfl (flatM flat_vi) (by intro h; exact h.elim id fun h => absurd h.1 (by simp)) (OutL.flat rfl (flatM flat_vi) (fun _ => rfl) trivial)) (by decide) rfl
    ·
      have h0 : ¬ vN xs.length = 0 := by simpa using hb1
      have hfb : fixB xs.length = true := fixB_ok hv h0
      refine AW.skip ?_
      refine thenA_normal ?_
      refine AW.seqR ?_
      refine AWo.pure (PureOp.move rfl) rfl rfl ?_
      first | refine AWo.pure (PureOp.lenS tbok rfl rfl) rfl rfl ?_ | refine AWo.pure (PureOp.lenD tbok rfl rfl) rfl rfl ?_
      first | refine AWo.pure (PureOp.quoN (b := 2) 9223372036854775808 rfl rfl (by decide) (by decide) (by first | decide | omega) (by first | decide | omega)) rfl rfl ?_ | refine AWo.pure (PureOp.quo rfl rfl (by first | decide | omega)) rfl rfl ?_
      refine AWo.pure (PureOp.assign rfl) rfl rfl ?_
      refine AWo.nil trivial ?_
      refine AW.seqR ?_
      refine AWo.pure (PureOp.move rfl) rfl rfl ?_
      refine AWo.makeSliceC tbok 26000 ((((List.replicate (xs.length / 2) (0 : Fp)).map fe).flatten).map (vi .u64)) rfl rfl (Nat.le_refl _) rfl rfl (by decide) rfl rfl rfl rfl (by omega) (by omega) (zeroFF _).symm rfl rfl rfl ?_
      rw [show List.replicate (xs.length / 2) (0 : Fp) = fxp xs x 0 from (fxp_zero xs x).symm]
      refine AWo.pure (PureOp.assign rfl) rfl rfl ?_
      refine AWo.nil trivial ?_
      refine AW.seq ?_
      refine AW.seqR ?_
      refine AWo.pure (PureOp.move rfl) rfl rfl ?_
      first | refine AWo.pure (PureOp.lenS tbok rfl rfl) rfl rfl ?_ | refine AWo.pure (PureOp.lenD tbok rfl rfl) rfl rfl ?_
      refine AWo.pure (PureOp.move rfl) rfl rfl ?_
      refine AWo.nil trivial ?_
      refine AW.block ?_
      refine AW.loopw (fun mm σ => ∃ i, (i ≤ (xs.length / 2)) ∧ mm = (xs.length / 2) - i ∧ σ = ⟨(upd (upd (upd (upd (upd (upd emp 0 (.slice (some ⟨0, 0, none⟩) xs.length 0)) 3 (.pointer (some ⟨4000, 0, none⟩))) 7 (vi .i64 (xs.length / 2))) 8 (.slice (some ⟨26000, 0, none⟩) (xs.length / 2) 0)) 27 (vi .i64 (xs.length / 2))) 28 (vi .i64 i)), (upd (upd (upd emp 0 ⟨((xs.map fe).flatten).map (vi .u64), false, 4⟩) 4000 ⟨(fe x).map (vi .u64), true, 1⟩) 26000 ⟨(((fxp xs x i).map fe).flatten).map (vi .u64), true, 4⟩)⟩) (fm := []) ?_ ⟨0, Nat.zero_le _, rfl, rfl⟩ ?_
      ·
        refine Wk.of [0, 4000, 26000] ?_ ?_ ?_ (by decide) rfl
        ·
          refine WkE.upd rfl (by first | exact VR.flat _ rfl | exact VR.eqv (vp_succ _) rfl | exact VR.eqv (vp_succ _).symm rfl | exact VR.eqv (by first | rfl | (congr 1; omega) | (simp; done) | (simp; omega)) rfl) ?_
          refine WkE.upd rfl (by first | exact VR.flat _ rfl | exact VR.eqv (vp_succ _) rfl | exact VR.eqv (vp_succ _).symm rfl | exact VR.eqv (by first | rfl | (congr 1; omega) | (simp; done) | (simp; omega)) rfl) ?_
          refine WkE.upd rfl (.slice (26000) 0 _ 0 ⟨_, rfl⟩ (by simp) (by simp)) ?_
          refine WkE.upd rfl (by first | exact VR.flat _ rfl | exact VR.eqv (vp_succ _) rfl | exact VR.eqv (vp_succ _).symm rfl | exact VR.eqv (by first | rfl | (congr 1; omega) | (simp; done) | (simp; omega)) rfl) ?_
          refine WkE.upd rfl (.ptr (4000) 0 ⟨_, rfl⟩) ?_
          refine WkE.upd rfl (.slice (0) 0 _ 0 ⟨_, rfl⟩ (by simp) (by simp)) ?_
          exact WkE.emp
        ·
          refine WkM.flat rfl (flatM flat_vi) (fun h => h) ?_
          refine WkM.flat rfl (flatM flat_vi) (fun h => h) ?_
          refine WkM.flat rfl (flatM flat_vi) (fun h => h) ?_
          exact WkM.emp
        ·
          repeat (refine dom_upd_mem (by decide) ?_)
          exact dom_emp
      ·
        rintro mm σ ⟨i, hinv, rfl, rfl⟩
        have hfl := fxp_len xs x i
        refine AW.seqR ?_
        first | refine AWo.pure (PureOp.ltN rfl rfl) rfl rfl ?_ | refine AWo.pure (PureOp.bin rfl rfl rfl) rfl rfl ?_
        refine AWo.nil trivial ?_
        refine AW.seq ?_
        refine AW.cond rfl (fun hb2 => ?_) (fun hb2 => ?_)
        ·
          have hi : i < (xs.length / 2) := by simpa using hb2
          refine AW.skip ?_
          refine thenA_normal ?_
          refine AW.seq ?_
          refine AW.block ?_
          refine AW.seqR ?_
          refine AWo.pure (PureOp.move rfl) rfl rfl ?_
          refine AWo.pure (PureOp.assign rfl) rfl rfl ?_
          refine AWo.nil trivial ?_
          refine AW.draw mixed ?_
          refine AWo.pure (PureOp.move rfl) rfl rfl ?_
          refine AWo.pure (PureOp.move rfl) rfl rfl ?_
          refine AWo.pure (PureOp.move rfl) rfl rfl ?_
          refine AWo.pure (PureOp.move rfl) rfl rfl ?_
          first | refine AWo.pure (PureOp.idx1 tbok rfl rfl rfl rfl (by first | decide | omega)) rfl rfl ?_ | refine AWo.pure (PureOp.idx tbok rfl rfl rfl rfl (by first | decide | omega)) rfl rfl ?_
          refine yLJ (xs := xs) i ?_
          first | refine yLE ?_ | refine yLEi ?_
          refine AWo.pure (PureOp.move rfl) rfl rfl ?_
          refine AWo.pure (PureOp.move rfl) rfl rfl ?_
          refine AWo.pure (PureOp.move rfl) rfl rfl ?_
          first | refine AWo.pure (PureOp.addI rfl rfl (by first | decide | omega)) rfl rfl ?_ | refine AWo.pure (PureOp.bin rfl rfl rfl) rfl rfl ?_
          first | refine AWo.pure (PureOp.idx1 tbok rfl rfl rfl rfl (by first | decide | omega)) rfl rfl ?_ | refine AWo.pure (PureOp.idx tbok rfl rfl rfl rfl (by first | decide | omega)) rfl rfl ?_
          refine yLJ (xs := xs) (xs.length / 2 + i) ?_
          refine AWo.pure (PureOp.move rfl) rfl rfl ?_
          refine AWo.pure (PureOp.move rfl) rfl rfl ?_
          first | refine AWo.pure (PureOp.idx1 tbok rfl rfl rfl rfl (by first | decide | omega)) rfl rfl ?_ | refine AWo.pure (PureOp.idx tbok rfl rfl rfl rfl (by first | decide | omega)) rfl rfl ?_
          refine yLJ (xs := xs) i ?_
          refine AWo.callX (subF_ctr (x := xs.getD (xs.length / 2 + i) 0) (y := xs.getD i 0)) bd50 [] [] rfl (.cons rfl (.cons rfl .nil)) rfl (.pure (by first | rfl | exact pure_aggM flat_vi | exact pure_aggM flat_bool) (.pure (by first | rfl | exact pure_aggM flat_vi | exact pure_aggM flat_bool) .nil)) .nil rfl .nil frN (by decide) (.pure (by first | rfl | exact pure_aggM flat_vi | exact pure_aggM flat_bool) .nil) rfl rfl rfl rfl ?_
          refine AWo.callX (mulF_ctr (x := x) (y := xs.getD (xs.length / 2 + i) 0 - xs.getD i 0)) bd34 [] [] rfl (.cons rfl (.cons rfl .nil)) rfl (.pure (by first | rfl | exact pure_aggM flat_vi | exact pure_aggM flat_bool) (.pure (by first | rfl | exact pure_aggM flat_vi | exact pure_aggM flat_bool) .nil)) .nil rfl .nil frN (by decide) (.pure (by first | rfl | exact pure_aggM flat_vi | exact pure_aggM flat_bool) .nil) rfl rfl rfl rfl ?_
          refine AWo.callX (addF_ctr (x := xs.getD i 0) (y := x * (xs.getD (xs.length / 2 + i) 0 - xs.getD i 0))) bd35 [] [] rfl (.cons rfl (.cons rfl .nil)) rfl (.pure (by first | rfl | exact pure_aggM flat_vi | exact pure_aggM flat_bool) (.pure (by first | rfl | exact pure_aggM flat_vi | exact pure_aggM flat_bool) .nil)) .nil rfl .nil frN (by decide) (.pure (by first | rfl | exact pure_aggM flat_vi | exact pure_aggM flat_bool) .nil) rfl rfl rfl rfl ?_
          first | refine AWo.pure (PureOp.idx1 tbok rfl rfl rfl rfl (by first | decide | omega)) rfl rfl ?_ | refine AWo.pure (PureOp.idx tbok rfl rfl rfl rfl (by first | decide | omega)) rfl rfl ?_
          refine ySJ (xs := fxp xs x i) (y := (xs.getD i 0 + x * (xs.getD (xs.length / 2 + i) 0 - xs.getD i 0))) i ?_
          rw [fxp_set hi]
          refine AWo.nil (by kernel_rfl) ?_
          refine inBlockA_normal ?_
          refine thenA_normal ?_
          refine AW.region ?_
          first | refine AWo.pure (PureOp.addI (b := 1) rfl rfl (by first | decide | omega)) rfl rfl ?_ | refine AWo.pure (PureOp.bin rfl rfl rfl) rfl rfl ?_
          refine AWo.pure (PureOp.move rfl) rfl rfl ?_
          refine AWo.nil trivial ?_
          refine thenA_normal ?_
          refine ⟨(xs.length / 2) - (i + 1), [], _, by omega, ?_, i + 1, by omega, rfl, rfl⟩
          refine Wk.of [0, 4000, 26000] ?_ ?_ ?_ (by decide) rfl
          ·
            refine WkE.upd rfl (by first | exact VR.flat _ rfl | exact VR.eqv (vp_succ _) rfl | exact VR.eqv (vp_succ _).symm rfl | exact VR.eqv (by first | rfl | (congr 1; omega) | (simp; done) | (simp; omega)) rfl) ?_
            refine WkE.upd rfl (by first | exact VR.flat _ rfl | exact VR.eqv (vp_succ _) rfl | exact VR.eqv (vp_succ _).symm rfl | exact VR.eqv (by first | rfl | (congr 1; omega) | (simp; done) | (simp; omega)) rfl) ?_
            refine WkE.upd rfl (.slice (26000) 0 _ 0 ⟨_, rfl⟩ (by simp) (by simp)) ?_
            refine WkE.upd rfl (by first | exact VR.flat _ rfl | exact VR.eqv (vp_succ _) rfl | exact VR.eqv (vp_succ _).symm rfl | exact VR.eqv (by first | rfl | (congr 1; omega) | (simp; done) | (simp; omega)) rfl) ?_
            refine WkE.upd rfl (.ptr (4000) 0 ⟨_, rfl⟩) ?_
            refine WkE.upd rfl (.slice (0) 0 _ 0 ⟨_, rfl⟩ (by simp) (by simp)) ?_
            exact WkE.emp
          ·
            refine WkM.flat rfl (flatM flat_vi) (fun h => h) ?_
            refine WkM.flat rfl (flatM flat_vi) (fun h => h) ?_
            refine WkM.flat rfl (flatM flat_vi) (fun h => h) ?_
            exact WkM.emp
          ·
            repeat (refine dom_upd_mem (by decide) ?_)
            exact dom_emp
        ·
          obtain rfl : i = (xs.length / 2) := by simp at hb2; omega
          refine AW.exit ?_
          refine thenA_exit ?_
          refine thenA_exit ?_
          refine inBlockA_hit ?_
          refine thenA_normal ?_
          refine AW.seqR ?_
          refine AWo.pure (PureOp.move rfl) rfl rfl ?_
          refine AWo.pure (PureOp.assign rfl) rfl rfl ?_
          refine AWo.nil trivial ?_
          refine AW.ret ?_
          have e : fixT xs x = fixL xs x := if_pos hfb
          rw [e, fixL_len, fxp_all]
          refine RetQ.gc [_] [26000] [.tmp 4] (.inl rfl) rfl (.tmp rfl .nil) rfl (.cons rfl rfl .nil) (OutL.flat rfl (flatM flat_vi) (by intro h; exact h.elim id fun h => absurd h.1 (by simp)) (OutL.flat rfl (flatM flat_vi) (fun _ => rfl) trivial)) (by decide) rfl
end Go.Proofs.YteeifahhejangaaGreatDoor
namespace Go.Proofs.YteeifahhejangaaGreatDoor
open Go Sim
theorem evF_step {xs ps : List Fp} {i : Nat} (hi : i < ps.length) : fixT (evF xs (ps.take i)) (ps.getD i 0) = evF xs (ps.take (i + 1)) := by
  rw [List.take_succ_eq_append_getElem hi, evF, evF, List.foldl_append, List.getD_eq_getElem?_getD, List.getElem?_eq_getElem hi]; rfl
theorem evF_le : ∀ (xs ps : List Fp), (evF xs ps).length ≤ xs.length
  | _, [] => Nat.le_refl _
  | xs, x :: ps => by
    have h1 := evF_le (fixT xs x) ps
    have h2 := fixT_len xs x
    show (evF (fixT xs x) ps).length ≤ _
    omega
theorem sp_val : eT [fp 1, fp 2, fp 3, fp 4] [fp 1, fp 0] = fp 3 := by decide +kernel
theorem sp_code : eC [fp 1, fp 2, fp 3, fp 4] [fp 1, fp 0] = 0 := by decide +kernel
theorem sp_ne : ¬ eT [fp 1, fp 2, fp 3, fp 4] [fp 1, fp 0] = 0 := by decide +kernel
theorem fillB4 {c : Value} {x y z u : Fp} : fillL (fun i => some (i * 4, 4)) (List.replicate (4 * 4) c) [(0, .agg ((fe x).map (vi .u64)).toArray), (1, .agg ((fe y).map (vi .u64)).toArray), (2, .agg ((fe z).map (vi .u64)).toArray), (3, .agg ((fe u).map (vi .u64)).toArray)] = some (FF [x, y, z, u]) := by
  have hl : ∀ x : Fp, ((fe x).map (vi .u64)).length = 4 := fun x => by rw [List.length_map, fe_len]
  refine fill4 (A := []) (k := 12) rfl rfl (fill4 (k := 8) (by simp [hl]) rfl (fill4 (k := 4) (by simp [hl]) rfl (fill4 (k := 0) (by simp [hl]) rfl ?_)))
  simp [fillL]
theorem evT_ctr {xs ps : List Fp} {n k : Nat} (hn : xs.length = n) (hk : ps.length = k) (hx : n < 1000000) (hy : k < 1000000) : GC Tryz.prog 14 [.slice (some ⟨0, 0, none⟩) n 0, .slice (some ⟨1, 0, none⟩) k 0] [⟨((xs.map fe).flatten).map (vi .u64), false, 4⟩, ⟨((ps.map fe).flatten).map (vi .u64), false, 4⟩] [.agg ((fe (eT xs ps)).map (vi .u64)).toArray, .int .i64 (eC xs ps)] [⟨((xs.map fe).flatten).map (vi .u64), false, 4⟩, ⟨((ps.map fe).flatten).map (vi .u64), false, 4⟩] := by
  refine GC.intro Tryz.func14 rfl (by show 2 ≤ 39; decide) (by first | exact Nat.le_refl _ | decide | simp) ?_
  subst hn
  subst hk
  refine AW.seqR ?_
  refine yN 5000 1 ((fe 0).map (vi .u64)) ?_ (hc := by rw [fe_zero]; rfl)
  refine AWo.pure (PureOp.assign rfl) rfl rfl ?_
  refine AWo.nil trivial ?_
  refine AW.seqR ?_
  refine AWo.pure (PureOp.move rfl) rfl rfl ?_
  refine AWo.callX (vars_ctr (xs := xs) (n := xs.length) rfl hx) bd32 [(0, 0)] [] rfl (.cons rfl .nil) rfl (.cons rfl rfl .nil) (.flat rfl (flatM flat_vi) (by intro h; first | exact h | rfl) .nil) rfl (.keep rfl .nil) frN (by decide) (.cons rfl rfl (.cons rfl rfl .nil)) rfl rfl rfl rfl ?_
  refine AWo.pure (PureOp.move rfl) rfl rfl ?_
  refine AWo.pure (PureOp.extract rfl rfl) rfl rfl ?_
  refine AWo.pure (PureOp.extract rfl rfl) rfl rfl ?_
  refine AWo.pure (PureOp.assign rfl) rfl rfl ?_
  refine AWo.pure (PureOp.assign rfl) rfl rfl ?_
  refine AWo.nil trivial ?_
  refine AW.seq ?_
  refine AW.block ?_
  refine AW.seqR ?_
  refine AWo.pure (PureOp.move rfl) rfl rfl ?_
  first | refine AWo.pure (PureOp.neN (b := 0) rfl rfl) rfl rfl ?_ | refine AWo.pure (PureOp.bin rfl rfl rfl) rfl rfl ?_
  refine AWo.pure (PureOp.assign rfl) rfl rfl ?_
  refine AWo.nil trivial ?_
  refine AW.cond rfl (fun hb0 => ?_) (fun hb0 => ?_)
  ·
    have h16 : ¬ vC xs.length = 0 := by simpa using hb0
    refine AW.seqR ?_
    refine AWo.pure ((PureOp.buildStruct [] pl32.choose_spec.1 zr32 (by decide) pl32.choose_spec.2 rfl rfl).mono (v' := .agg ((fe 0).map (vi .u64)).toArray) (by kernel_rfl)) rfl rfl ?_
    refine AWo.pure (PureOp.move rfl) rfl rfl ?_
    refine AWo.storeAllN tbok rfl rfl rfl rfl (by first | (simp [*]; done) | rfl) (by first | (simp [*]; done) | rfl) (by first | exact oneM (fun _ => rfl) _ | rfl | (simp; done)) rfl ?_
    refine AWo.pure (PureOp.assign rfl) rfl rfl ?_
    refine AWo.nil trivial ?_
    refine AW.ret ?_
    refine inBlockA_ret ?_
    refine thenA_ret ?_
    have hv : isV xs.length = false := Bool.eq_false_iff.2 fun h => h16 (vC_iff.2 h)
    rw [show eT xs ps = 0 from if_neg (by rw [evB, hv, Bool.false_and]; decide), show eC xs ps = 7 from if_neg (by rw [hv]; decide), vC_no hv]
    refine RetQ.gc [_, _] [] [.cell 4 32, .tmp 5] (.inl rfl) rfl (.val (RVal.cellAll tbok rfl rfl rfl rfl (by first | (simp [*]; done) | rfl)) (.tmp rfl .nil)) rfl (.pure (pure_aggM flat_vi) (.pure rfl .nil)) (OutL.flat rfl (flatM flat_vi) (by intro h; exact h.elim id fun h => absurd h.1 (by simp)) (OutL.flat rfl (flatM flat_vi) (by intro h; exact h.elim id fun h => absurd h.1 (by simp)) trivial)) (by decide) rfl
  ·
    have hv : isV xs.length = true := vC_iff.1 (by simpa using hb0)
    refine AW.seqR ?_
    refine AWo.pure (PureOp.move rfl) rfl rfl ?_
    refine AWo.pure (PureOp.move rfl) rfl rfl ?_
    first | refine AWo.pure (PureOp.lenS tbok rfl rfl) rfl rfl ?_ | refine AWo.pure (PureOp.lenD tbok rfl rfl) rfl rfl ?_
    first | refine AWo.pure (PureOp.neN rfl rfl) rfl rfl ?_ | refine AWo.pure (PureOp.bin rfl rfl rfl) rfl rfl ?_
    refine AWo.pure (PureOp.assign rfl) rfl rfl ?_
    refine AWo.nil trivial ?_
    refine AW.cond rfl (fun hb1 => ?_) (fun hb1 => ?_)
    ·
      have h21 : ¬ vN xs.length = ps.length := by simpa using hb1
      refine AW.seqR ?_
      refine AWo.pure ((PureOp.buildStruct [] pl32.choose_spec.1 zr32 (by decide) pl32.choose_spec.2 rfl rfl).mono (v' := .agg ((fe 0).map (vi .u64)).toArray) (by kernel_rfl)) rfl rfl ?_
      refine AWo.storeAllN tbok rfl rfl rfl rfl (by first | (simp [*]; done) | rfl) (by first | (simp [*]; done) | rfl) (by first | exact oneM (fun _ => rfl) _ | rfl | (simp; done)) rfl ?_
      refine AWo.pure (PureOp.assign rfl) rfl rfl ?_
      refine AWo.nil trivial ?_
      refine AW.ret ?_
      refine inBlockA_ret ?_
      refine thenA_ret ?_
      rw [show eT xs ps = 0 from if_neg (by rw [evB, decide_eq_false h21, Bool.and_false]; decide), show eC xs ps = 1 by rw [eC, if_pos hv, if_neg h21]]
      refine RetQ.gc [_, _] [] [.cell 4 32, .tmp 5] (.inl rfl) rfl (.val (RVal.cellAll tbok rfl rfl rfl rfl (by first | (simp [*]; done) | rfl)) (.tmp rfl .nil)) rfl (.pure (pure_aggM flat_vi) (.pure rfl .nil)) (OutL.flat rfl (flatM flat_vi) (by intro h; exact h.elim id fun h => absurd h.1 (by simp)) (OutL.flat rfl (flatM flat_vi) (by intro h; exact h.elim id fun h => absurd h.1 (by simp)) trivial)) (by decide) rfl
    ·
      have h21 : vN xs.length = ps.length := by simpa using hb1
      refine AW.skip ?_
      refine inBlockA_normal ?_
      refine thenA_normal ?_
      refine AW.seq ?_
      refine AW.seqR ?_
      refine AWo.pure (PureOp.move rfl) rfl rfl ?_
      first | refine AWo.pure (PureOp.lenS tbok rfl rfl) rfl rfl ?_ | refine AWo.pure (PureOp.lenD tbok rfl rfl) rfl rfl ?_
      refine AWo.pure (PureOp.move rfl) rfl rfl ?_
      refine AWo.nil trivial ?_
      refine AW.block ?_
      refine AW.alias 0 0 76000 rfl rfl rfl ?_
      refine AW.loopw (fun mm σ => ∃ i, (i ≤ ps.length) ∧ mm = ps.length - i ∧ σ = ⟨(upd (upd (upd (upd (upd (upd emp 0 (.slice (some ⟨76000, 0, none⟩) (evF xs (ps.take i)).length 0)) 1 (.slice (some ⟨1, 0, none⟩) ps.length 0)) 4 (.pointer (some ⟨5000, 0, none⟩))) 26 (.slice (some ⟨1, 0, none⟩) ps.length 0)) 27 (vi .i64 ps.length)) 28 (vi .i64 i)), (upd (upd (upd (upd emp 0 ⟨((xs.map fe).flatten).map (vi .u64), false, 4⟩) 1 ⟨((ps.map fe).flatten).map (vi .u64), false, 4⟩) 5000 ⟨(fe 0).map (vi .u64), true, 1⟩) 76000 ⟨(((evF xs (ps.take i)).map fe).flatten).map (vi .u64), false, 4⟩)⟩) (fm := []) ?_ ⟨0, Nat.zero_le _, rfl, rfl⟩ ?_
      ·
        refine Wk.of [0, 1, 5000, 76000] ?_ ?_ ?_ (by decide) rfl
        ·
          refine WkE.upd rfl (by first | exact VR.flat _ rfl | exact VR.eqv (vp_succ _) rfl | exact VR.eqv (vp_succ _).symm rfl | exact VR.eqv (by first | rfl | (congr 1; omega) | (simp; done) | (simp; omega)) rfl) ?_
          refine WkE.upd rfl (by first | exact VR.flat _ rfl | exact VR.eqv (vp_succ _) rfl | exact VR.eqv (vp_succ _).symm rfl | exact VR.eqv (by first | rfl | (congr 1; omega) | (simp; done) | (simp; omega)) rfl) ?_
          refine WkE.upd rfl (.slice (1) 0 _ 0 ⟨_, rfl⟩ (by simp) (by simp)) ?_
          refine WkE.upd rfl (.ptr (5000) 0 ⟨_, rfl⟩) ?_
          refine WkE.upd rfl (.slice (1) 0 _ 0 ⟨_, rfl⟩ (by simp) (by simp)) ?_
          refine WkE.upd rfl (.slice (76000) 0 _ 0 ⟨_, rfl⟩ (by simp) (by simp)) ?_
          exact WkE.emp
        ·
          refine WkM.flat rfl (flatM flat_vi) (fun h => by cases h) ?_
          refine WkM.flat rfl (flatM flat_vi) (fun h => h) ?_
          refine WkM.flat rfl (flatM flat_vi) (fun h => h) ?_
          refine WkM.flat rfl (flatM flat_vi) (fun h => h) ?_
          exact WkM.emp
        ·
          repeat (refine dom_upd_mem (by decide) ?_)
          exact dom_emp
      ·
        rintro mm σ ⟨i, hinv, rfl, rfl⟩
        have hel := evF_le xs (ps.take i)
        refine AW.seqR ?_
        first | refine AWo.pure (PureOp.ltN rfl rfl) rfl rfl ?_ | refine AWo.pure (PureOp.bin rfl rfl rfl) rfl rfl ?_
        refine AWo.nil trivial ?_
        refine AW.seq ?_
        refine AW.cond rfl (fun hb2 => ?_) (fun hb2 => ?_)
        ·
          have hi : i < ps.length := by simpa using hb2
          refine AW.skip ?_
          refine thenA_normal ?_
          refine AW.seq ?_
          refine AW.block ?_
          refine AW.seqR ?_
          first | refine AWo.pure (PureOp.idx1 tbok rfl rfl rfl rfl (by first | decide | omega)) rfl rfl ?_ | refine AWo.pure (PureOp.idx tbok rfl rfl rfl rfl (by first | decide | omega)) rfl rfl ?_
          refine yLJ (xs := ps) i ?_
          refine AWo.alloc tbok 10000 1 _ rfl rfl rfl rfl rfl rfl ?_
          refine AWo.storeAllN tbok rfl rfl rfl rfl (by first | (simp [*]; done) | rfl) (by first | (simp [*]; done) | rfl) (by first | exact oneM (fun _ => rfl) _ | rfl | (simp; done)) rfl ?_
          refine AWo.nil trivial ?_
          refine AW.region ?_
          refine AWo.pure (PureOp.move rfl) rfl rfl ?_
          first | refine yLE ?_ | refine yLEi ?_
          refine AWo.callX (fix_ctr (xs := (evF xs (ps.take i))) (x := ps.getD i 0) (n := (evF xs (ps.take i)).length) rfl (by omega)) bd26 [(76000, 0)] [35000] rfl (.cons rfl (.cons rfl .nil)) rfl (.cons rfl rfl (.pure (by first | rfl | exact pure_aggM flat_vi | exact pure_aggM flat_bool) .nil)) (.flat rfl (flatM flat_vi) (by intro h; first | exact h | rfl) .nil) rfl (.keep rfl (.new (flat_map_ren (flatM flat_vi)) (OkL.flat (flatM flat_vi)) .nil)) (frC rfl frN) (by decide) (.cons rfl rfl .nil) rfl rfl rfl rfl ?_
          refine AWo.pure (PureOp.assign rfl) rfl rfl ?_
          refine AWo.nil trivial ?_
          refine inBlockA_normal ?_
          refine thenA_normal ?_
          refine AW.region ?_
          first | refine AWo.pure (PureOp.addI (b := 1) rfl rfl (by first | decide | omega)) rfl rfl ?_ | refine AWo.pure (PureOp.bin rfl rfl rfl) rfl rfl ?_
          refine AWo.pure (PureOp.move rfl) rfl rfl ?_
          refine AWo.nil trivial ?_
          refine thenA_normal ?_
          rw [evF_step hi]
          refine ⟨ps.length - (i + 1), [(76000, 35000)], _, by omega, ?_, i + 1, by omega, rfl, rfl⟩
          refine Wk.of [0, 1, 5000, 76000] ?_ ?_ ?_ (by decide) rfl
          ·
            refine WkE.upd rfl (by first | exact VR.flat _ rfl | exact VR.eqv (vp_succ _) rfl | exact VR.eqv (vp_succ _).symm rfl | exact VR.eqv (by first | rfl | (congr 1; omega) | (simp; done) | (simp; omega)) rfl) ?_
            refine WkE.upd rfl (by first | exact VR.flat _ rfl | exact VR.eqv (vp_succ _) rfl | exact VR.eqv (vp_succ _).symm rfl | exact VR.eqv (by first | rfl | (congr 1; omega) | (simp; done) | (simp; omega)) rfl) ?_
            refine WkE.upd rfl (.slice (1) 0 _ 0 ⟨_, rfl⟩ (by simp) (by simp)) ?_
            refine WkE.upd rfl (.ptr (5000) 0 ⟨_, rfl⟩) ?_
            refine WkE.upd rfl (.slice (1) 0 _ 0 ⟨_, rfl⟩ (by simp) (by simp)) ?_
            refine WkE.upd rfl (.slice (76000) 0 _ 0 ⟨_, rfl⟩ (by simp) (by simp)) ?_
            exact WkE.emp
          ·
            refine WkM.flat rfl (flatM flat_vi) (fun h => by cases h) ?_
            refine WkM.flat rfl (flatM flat_vi) (fun h => h) ?_
            refine WkM.flat rfl (flatM flat_vi) (fun h => h) ?_
            refine WkM.flat rfl (flatM flat_vi) (fun h => h) ?_
            exact WkM.emp
          ·
            repeat (refine dom_upd_mem (by decide) ?_)
            exact dom_emp
        ·
          obtain rfl : i = ps.length := by simp at hb2; omega
          have hb : evB xs.length ps.length = true := by rw [evB, hv, decide_eq_true h21]; rfl
          have hl1 : (evF xs ps).length = 1 := evF_len ps xs (evB_spec hb).1 (evB_spec hb).2
          rw [List.take_length]
          refine AW.exit ?_
          refine thenA_exit ?_
          refine thenA_exit ?_
          refine inBlockA_hit ?_
          refine thenA_normal ?_
          refine AW.seqR ?_
          refine AWo.pure (PureOp.move rfl) rfl rfl ?_
          first | refine AWo.pure (PureOp.idx1 (j := 0) tbok rfl rfl rfl rfl (by first | decide | omega)) rfl rfl ?_ | refine AWo.pure (PureOp.idx (j := 0) tbok rfl rfl rfl rfl (by first | decide | omega)) rfl rfl ?_
          refine yLJ (xs := evF xs ps) 0 ?_
          refine AWo.storeAllN tbok rfl rfl rfl rfl (by first | (simp [*]; done) | rfl) (by first | (simp [*]; done) | rfl) (by first | exact oneM (fun _ => rfl) _ | rfl | (simp; done)) rfl ?_
          refine AWo.pure (PureOp.assign rfl) rfl rfl ?_
          refine AWo.nil trivial ?_
          refine AW.ret ?_
          rw [show eC xs ps = 0 from eC_B.2 hb, show eT xs ps = (evF xs ps).getD 0 0 from if_pos hb]
          refine RetQ.gc [_, _] [] [.cell 4 32, .tmp 5] (.inl rfl) rfl (.val (RVal.cellAll tbok rfl rfl rfl rfl (by first | (simp [*]; done) | rfl)) (.tmp rfl .nil)) rfl (.pure (pure_aggM flat_vi) (.pure rfl .nil)) (OutL.flat rfl (flatM flat_vi) (by intro h; exact h.elim id fun h => absurd h.1 (by simp)) (OutL.flat rfl (flatM flat_vi) (by intro h; exact h.elim id fun h => absurd h.1 (by simp)) trivial)) (by decide) rfl
theorem of23_ctr {Ls : List (List Nat)} (hB : ∀ b ∈ Ls, bd 256 b) (hS : ∀ b ∈ Ls, b.length ≤ 40) (hL : Ls.length < 1000000) : GC Tryz.prog 18 [.slice (some ⟨0, 0, none⟩) Ls.length 0] [⟨Ls.map (db), false, 1⟩] [.slice (some ⟨1, 0, none⟩) Ls.length 0, .slice (some ⟨2, 0, none⟩) Ls.length 0] [⟨Ls.map (db), false, 1⟩, ⟨(((Ls.map nb).map fe).flatten).map (vi .u64), true, 4⟩, ⟨(Ls.map nb).map dv, true, 1⟩] := by
  refine GC.intro Tryz.func18 rfl (by show 1 ≤ 13; decide) (by first | exact Nat.le_refl _ | decide | simp) ?_
  refine AW.seqR ?_
  refine AWo.pure (PureOp.assign rfl) rfl rfl ?_
  refine AWo.pure (PureOp.assign rfl) rfl rfl ?_
  refine AWo.nil trivial ?_
  refine AW.seqR ?_
  refine AWo.pure (PureOp.move rfl) rfl rfl ?_
  refine AWo.callX (of22_ctr (Ls := Ls) hB hS hL) bd33 [(0, 0)] [9000, 9001] rfl (.cons rfl .nil) rfl (.cons rfl rfl .nil) (.clo rfl (cloM fun _ => rfl) (by intro h; first | exact h | rfl) .nil) rfl (.keep rfl (.new (flat_map_ren (flatM flat_vi)) (OkL.flat (flatM flat_vi)) (.new (clo_map_ren (cloM fun _ => rfl)) (OkL.clo (cloM fun _ => rfl)) .nil))) (frC rfl (frC rfl frN)) (by decide) (.cons rfl rfl (.cons rfl rfl .nil)) rfl rfl rfl rfl ?_
  refine AWo.pure (PureOp.move rfl) rfl rfl ?_
  refine AWo.pure (PureOp.extract rfl rfl) rfl rfl ?_
  refine AWo.pure (PureOp.extract rfl rfl) rfl rfl ?_
  refine AWo.pure (PureOp.assign rfl) rfl rfl ?_
  refine AWo.pure (PureOp.assign rfl) rfl rfl ?_
  refine AWo.nil trivial ?_
  refine AW.seqR ?_
  refine AWo.pure (PureOp.move rfl) rfl rfl ?_
  refine AWo.pure (PureOp.move rfl) rfl rfl ?_
  refine AWo.pure (PureOp.assign rfl) rfl rfl ?_
  refine AWo.pure (PureOp.assign rfl) rfl rfl ?_
  refine AWo.nil trivial ?_
  refine AW.ret ?_
  refine RetQ.gc [_, _] [9000, 9001] [.tmp 2, .tmp 3] (.inl rfl) rfl (.tmp rfl (.tmp rfl .nil)) rfl (.cons rfl rfl (.cons rfl rfl .nil)) (OutL.clo rfl (cloM fun _ => rfl) (by intro h; first | rfl | exact h.elim id fun h => absurd h.1 (by simp)) (OutL.flat rfl (flatM flat_vi) (by intro h; first | rfl | exact h.elim id fun h => absurd h.1 (by simp)) (OutL.clo rfl (cloM fun _ => rfl) (by intro h; first | rfl | exact h.elim id fun h => absurd h.1 (by simp)) trivial))) (by decide) rfl
theorem speaks23_ctr : GC Tryz.prog 4 [] [] [.bool true] [] := by
  refine GC.intro Tryz.func4 rfl (by show 0 ≤ 35; decide) (by first | exact Nat.le_refl _ | decide | simp) ?_
  refine AW.seqR ?_
  refine AWo.pure (PureOp.assign rfl) rfl rfl ?_
  refine AWo.nil trivial ?_
  refine AW.seqR ?_
  refine AWo.pure (PureOp.assign rfl) rfl rfl ?_
  refine AWo.nil trivial ?_
  refine AW.seqR ?_
  refine AWo.pure (PureOp.move rfl) rfl rfl ?_
  refine AWo.callX (fromuF_ctr (v := 1) (by decide)) bd13 [] [] rfl (.cons rfl .nil) rfl (.cons rfl rfl .nil) .nil rfl .nil frN (by decide) (.pure (by first | rfl | exact pure_aggM flat_vi | exact pure_aggM flat_bool) .nil) rfl rfl rfl rfl ?_
  refine AWo.pure (PureOp.move rfl) rfl rfl ?_
  refine AWo.callX (fromuF_ctr (v := 2) (by decide)) bd13 [] [] rfl (.cons rfl .nil) rfl (.cons rfl rfl .nil) .nil rfl .nil frN (by decide) (.pure (by first | rfl | exact pure_aggM flat_vi | exact pure_aggM flat_bool) .nil) rfl rfl rfl rfl ?_
  refine AWo.pure (PureOp.move rfl) rfl rfl ?_
  refine AWo.callX (fromuF_ctr (v := 3) (by decide)) bd13 [] [] rfl (.cons rfl .nil) rfl (.cons rfl rfl .nil) .nil rfl .nil frN (by decide) (.pure (by first | rfl | exact pure_aggM flat_vi | exact pure_aggM flat_bool) .nil) rfl rfl rfl rfl ?_
  refine AWo.pure (PureOp.move rfl) rfl rfl ?_
  refine AWo.callX (fromuF_ctr (v := 4) (by decide)) bd13 [] [] rfl (.cons rfl .nil) rfl (.cons rfl rfl .nil) .nil rfl .nil frN (by decide) (.pure (by first | rfl | exact pure_aggM flat_vi | exact pure_aggM flat_bool) .nil) rfl rfl rfl rfl ?_
  refine AWo.buildSlice tbok 14000 [(0, .agg ((fe (fp 1)).map (vi .u64)).toArray), (1, .agg ((fe (fp 2)).map (vi .u64)).toArray), (2, .agg ((fe (fp 3)).map (vi .u64)).toArray), (3, .agg ((fe (fp 4)).map (vi .u64)).toArray)] (out := FF [fp 1, fp 2, fp 3, fp 4]) rfl rfl (by decide) rfl rfl rfl (by decide) rfl fillB4 rfl rfl rfl ?_
  refine AWo.pure (PureOp.move rfl) rfl rfl ?_
  refine AWo.callX (fromuF_ctr (v := 1) (by decide)) bd13 [] [] rfl (.cons rfl .nil) rfl (.cons rfl rfl .nil) .nil rfl .nil frN (by decide) (.pure (by first | rfl | exact pure_aggM flat_vi | exact pure_aggM flat_bool) .nil) rfl rfl rfl rfl ?_
  refine AWo.pure (PureOp.move rfl) rfl rfl ?_
  refine AWo.callX (fromuF_ctr (v := 0) (by decide)) bd13 [] [] rfl (.cons rfl .nil) rfl (.cons rfl rfl .nil) .nil rfl .nil frN (by decide) (.pure (by first | rfl | exact pure_aggM flat_vi | exact pure_aggM flat_bool) .nil) rfl rfl rfl rfl ?_
  refine AWo.buildSlice tbok 19000 [(0, .agg ((fe (fp 1)).map (vi .u64)).toArray), (1, .agg ((fe (fp 0)).map (vi .u64)).toArray)] (out := FF [fp 1, fp 0]) rfl rfl (by decide) rfl rfl rfl (by decide) rfl fillB2 rfl rfl rfl ?_
  refine AWo.callX (evT_ctr (xs := [fp 1, fp 2, fp 3, fp 4]) (ps := [fp 1, fp 0]) (n := 4) (k := 2) rfl rfl (by decide) (by decide)) bd14 [(14000, 0), (19000, 0)] [] rfl (.cons rfl (.cons rfl .nil)) rfl (.cons rfl rfl (.cons rfl rfl .nil)) (.flat rfl (flatM flat_vi) (by intro h; first | exact h | rfl) (.flat rfl (flatM flat_vi) (by intro h; first | exact h | rfl) .nil)) rfl (.keep rfl (.keep rfl .nil)) frN (by decide) (.pure (by first | rfl | exact pure_aggM flat_vi | exact pure_aggM flat_bool) (.cons rfl rfl .nil)) rfl rfl rfl rfl ?_
  refine AWo.pure (PureOp.move rfl) rfl rfl ?_
  refine AWo.pure (PureOp.extract rfl rfl) rfl rfl ?_
  refine AWo.pure (PureOp.extract rfl rfl) rfl rfl ?_
  refine AWo.alloc tbok 3000 1 _ rfl rfl rfl rfl rfl rfl ?_
  refine AWo.storeAllN tbok rfl rfl rfl rfl (by first | (simp [*]; done) | rfl) (by first | (simp [*]; done) | rfl) (by first | exact oneM (fun _ => rfl) _ | rfl | (simp; done)) rfl ?_
  refine AWo.pure (PureOp.assign rfl) rfl rfl ?_
  refine AWo.nil trivial ?_
  refine AW.seqD mixed ?_
  refine AWo.pure (PureOp.move rfl) rfl rfl ?_
  first | refine AWo.pure ((PureOp.eqN (b := 0) rfl rfl).mono (v' := .bool true) (congrArg Value.bool (by rw [sp_code]; rfl))) rfl rfl ?_ | refine AWo.pure ((PureOp.bin rfl rfl rfl).mono (v' := .bool true) (congrArg Value.bool (by rw [sp_code]; rfl))) rfl rfl ?_
  refine AWo.pure (PureOp.move rfl) rfl rfl ?_
  first | refine yLE ?_ | refine yLEi ?_
  refine AWo.pure (PureOp.move rfl) rfl rfl ?_
  refine AWo.callX (fromuF_ctr (v := 3) (by decide)) bd13 [] [] rfl (.cons rfl .nil) rfl (.cons rfl rfl .nil) .nil rfl .nil frN (by decide) (.pure (by first | rfl | exact pure_aggM flat_vi | exact pure_aggM flat_bool) .nil) rfl rfl rfl rfl ?_
  refine AWo.callX (v := .bool true) (equalF_ctr (x := eT [fp 1, fp 2, fp 3, fp 4] [fp 1, fp 0]) (y := fp 3)) bd15 [] [] rfl (.cons rfl (.cons rfl .nil)) rfl (.pure (by first | rfl | exact pure_aggM flat_vi | exact pure_aggM flat_bool) (.pure (by first | rfl | exact pure_aggM flat_vi | exact pure_aggM flat_bool) .nil)) .nil rfl .nil frN (by decide) (.cons rfl rfl .nil) (congrArg Value.bool (decide_eq_true (sp_val))) rfl rfl rfl ?_
  refine AWo.pure (PureOp.pickT rfl rfl) rfl rfl ?_
  refine AWo.pure (PureOp.move rfl) rfl rfl ?_
  first | refine yLE ?_ | refine yLEi ?_
  refine AWo.callX (v := .bool false) (iszeroF_ctr (x := eT [fp 1, fp 2, fp 3, fp 4] [fp 1, fp 0])) bd16 [] [] rfl (.cons rfl .nil) rfl (.pure (by first | rfl | exact pure_aggM flat_vi | exact pure_aggM flat_bool) .nil) .nil rfl .nil frN (by decide) (.cons rfl rfl .nil) (congrArg Value.bool (decide_eq_false sp_ne)) rfl rfl rfl ?_
  refine AWo.pure (PureOp.not rfl) rfl rfl ?_
  refine AWo.pure (PureOp.pickT rfl rfl) rfl rfl ?_
  refine AWo.pure (PureOp.assign rfl) rfl rfl ?_
  refine AWo.nil (by kernel_rfl) ?_
  refine AW.ret ?_
  refine RetQ.gc [_] [] [.tmp 0] (.inl rfl) rfl (.tmp rfl .nil) rfl (.cons rfl rfl .nil) trivial (by decide) rfl
end Go.Proofs.YteeifahhejangaaGreatDoor
namespace Go.Proofs.YteeifahhejangaaGreatDoor
open Go Sim
theorem fp_one : fp 1 = (1 : Fp) := by decide +kernel
end Go.Proofs.YteeifahhejangaaGreatDoor
namespace Go.Proofs.YteeifahhejangaaGreatDoor
open Go Sim
theorem isV_half {n : Nat} (hv : isV n = true) (h : ¬ vN n = 0) : ∃ k, n = 2 ^ (k + 1) ∧ k + 1 ≤ 12 ∧ vN n = k + 1 := by
  obtain ⟨h1, h2⟩ := isV_pow hv
  refine ⟨vN n - 1, ?_, by omega, by omega⟩
  rw [show vN n - 1 + 1 = vN n by omega]; exact h1
theorem fix_L {xs : List Fp} {x : Fp} (hv : isV xs.length = true) (h : ¬ vN xs.length = 0) : fixT xs x = fixL xs x := by
  obtain ⟨k, h1, h2, _⟩ := isV_half hv h
  exact (fix_eq h1 h2).1
theorem FF_len4 : ∀ xs : List Fp, (((xs.map fe).flatten).map (vi .u64)).length = xs.length * 4
  | [] => rfl
  | x :: xs => by
    have h := FF_len4 xs
    simp only [List.length_map, List.map_cons, List.flatten_cons, List.length_append, List.length_cons, fe_len] at h ⊢
    omega
end Go.Proofs.YteeifahhejangaaGreatDoor
namespace Go.Proofs.YteeifahhejangaaGreatDoor
open Go Sim
def dt (xs : List Fp) : Value := deep xs.length 4 (((xs.map fe).flatten).map (vi .u64))
theorem getT_mem {Ts : List (List Fp)} {j : Nat} (h : j < Ts.length) : Ts.getD j [] ∈ Ts := by
  rw [List.getD_eq_getElem?_getD, List.getElem?_eq_getElem h]; exact List.getElem_mem h
theorem of_getD {Ts : List (List Fp)} {Q : List Fp → Prop} (h : ∀ j, j < Ts.length → Q (Ts.getD j [])) : ∀ t ∈ Ts, Q t := by
  intro t ht
  obtain ⟨j, hj⟩ := List.mem_iff_getElem?.1 ht
  have hl := (List.getElem?_eq_some_iff.1 hj).1
  have := h j hl
  rwa [List.getD_eq_getElem?_getD, hj] at this
def chC (Ts : List (List Fp)) : Int := if Ts.length = 0 then 1 else if ∀ t ∈ Ts, isV t.length = true then (if ∀ t ∈ Ts, vN t.length = vN (Ts.getD 0 []).length then 0 else 1) else 7
def chV (Ts : List (List Fp)) : Nat := if chC Ts = 0 then vN (Ts.getD 0 []).length else 0
theorem ch_0 {Ts : List (List Fp)} (h : Ts.length = 0) : chC Ts = 1 ∧ chV Ts = 0 := by
  have e : chC Ts = 1 := if_pos h
  exact ⟨e, if_neg (by rw [e]; decide)⟩
theorem ch_bad {Ts : List (List Fp)} {i : Nat} (hi : i < Ts.length) (hb : isV (Ts.getD i []).length = false) : chC Ts = 7 ∧ chV Ts = 0 := by
  have e : chC Ts = 7 := by
    rw [chC, if_neg (by omega), if_neg (fun h => ?_)]
    have := h _ (getT_mem hi)
    rw [hb] at this; cases this
  exact ⟨e, if_neg (by rw [e]; decide)⟩
theorem ch_mis {Ts : List (List Fp)} {i : Nat} (hi : i < Ts.length) (ha : ∀ j, j < Ts.length → isV (Ts.getD j []).length = true) (hm : ¬ vN (Ts.getD i []).length = vN (Ts.getD 0 []).length) : chC Ts = 1 ∧ chV Ts = 0 := by
  have e : chC Ts = 1 := by
    rw [chC, if_neg (by omega), if_pos (of_getD (Q := fun t => isV t.length = true) ha), if_neg (fun h => hm (h _ (getT_mem hi)))]
  exact ⟨e, if_neg (by rw [e]; decide)⟩
theorem ch_ok {Ts : List (List Fp)} (h0 : ¬ Ts.length = 0) (ha : ∀ j, j < Ts.length → isV (Ts.getD j []).length = true) (hm : ∀ j, j < Ts.length → vN (Ts.getD j []).length = vN (Ts.getD 0 []).length) : chC Ts = 0 ∧ chV Ts = vN (Ts.getD 0 []).length := by
  have e : chC Ts = 0 := by
    rw [chC, if_neg h0, if_pos (of_getD (Q := fun t => isV t.length = true) ha), if_pos (of_getD (Q := fun t => vN t.length = vN (Ts.getD 0 []).length) hm)]
  exact ⟨e, if_pos e⟩
theorem ch_zero {Ts : List (List Fp)} (h : chC Ts = 0) : 0 < Ts.length ∧ ∀ t ∈ Ts, t.length = (Ts.getD 0 []).length := by
  unfold chC at h
  split at h
  · cases h
  · split at h
    · split at h
      · rename_i h0 h1 h2
        have hp : 0 < Ts.length := by omega
        refine ⟨hp, fun t ht => ?_⟩
        rw [(isV_pow (h1 t ht)).1, (isV_pow (h1 _ (getT_mem hp))).1, h2 t ht]
      · cases h
    · cases h
def cv (Ts : List (List Fp)) (i : Nat) : List Nat := (List.range Ts.length).map fun j => if j < i then vN (Ts.getD j []).length else 0
theorem cv_len (Ts : List (List Fp)) (i : Nat) : (cv Ts i).length = Ts.length := by simp [cv]
theorem cv_zero (Ts : List (List Fp)) : List.replicate Ts.length (0 : Nat) = cv Ts 0 := by
  refine List.ext_getElem (by simp [cv]) fun i h1 h2 => ?_
  simp [cv]
theorem cv_set {Ts : List (List Fp)} {i : Nat} (_hi : i < Ts.length) : (cv Ts i).set i (vN (Ts.getD i []).length) = cv Ts (i + 1) := by
  refine List.ext_getElem (by simp [cv]) fun j h1 h2 => ?_
  simp only [cv, List.getElem_set, List.getElem_map, List.getElem_range]
  by_cases h : i = j
  · subst h; rw [if_pos rfl, if_pos (Nat.lt_succ_self i)]
  · rw [if_neg h]
    by_cases hj : j < i
    · rw [if_pos hj, if_pos (by omega)]
    · rw [if_neg hj, if_neg (by omega)]
theorem cv_at {Ts : List (List Fp)} {i j : Nat} (hj : j < Ts.length) (h : j < i) : (cv Ts i).getD j 0 = vN (Ts.getD j []).length := by
  rw [cv, List.getD_eq_getElem?_getD, List.getElem?_map, List.getElem?_range hj, Option.map_some, if_pos h]; rfl
def prN (Ts : List (List Fp)) (i : Nat) : Nat → Fp
  | 0 => fp 1
  | j + 1 => prN Ts i j * (Ts.getD j []).getD i 0
def prT (Ts : List (List Fp)) (i : Nat) : Fp := prN Ts i Ts.length
def toT (Ts : List (List Fp)) : Fp := if chC Ts = 0 then smN (prT Ts) (Ts.getD 0 []).length else 0
theorem check_ctr {Ts : List (List Fp)} {k : Nat} (hk : Ts.length = k) (hk6 : k < 1000000) (hs : ∀ t ∈ Ts, t.length < 1000000) : GC Tryz.prog 19 [.slice (some ⟨0, 0, none⟩) k 0] [⟨Ts.map (dt), false, 1⟩] [vi .i64 (chV Ts), .int .i64 (chC Ts)] [⟨Ts.map (dt), false, 1⟩] := by
  refine GC.intro Tryz.func19 rfl (by show 1 ≤ 52; decide) (by first | exact Nat.le_refl _ | decide | simp) ?_
  subst hk
  refine AW.seqR ?_
  refine AWo.pure (PureOp.assign rfl) rfl rfl ?_
  refine AWo.pure (PureOp.assign rfl) rfl rfl ?_
  refine AWo.nil trivial ?_
  refine AW.seq ?_
  refine AW.seqR ?_
  refine AWo.pure (PureOp.move rfl) rfl rfl ?_
  first | refine AWo.pure (PureOp.lenS tbok rfl rfl) rfl rfl ?_ | refine AWo.pure (PureOp.lenD tbok rfl rfl) rfl rfl ?_
  first | refine AWo.pure (PureOp.eqN (b := 0) rfl rfl) rfl rfl ?_ | refine AWo.pure (PureOp.bin rfl rfl rfl) rfl rfl ?_
  refine AWo.nil trivial ?_
  refine AW.cond rfl (fun hb0 => ?_) (fun hb0 => ?_)
  ·
    have h0 : Ts.length = 0 := by simpa using hb0
    refine AW.seqR ?_
    refine AWo.pure (PureOp.assign rfl) rfl rfl ?_
    refine AWo.pure (PureOp.assign rfl) rfl rfl ?_
    refine AWo.nil trivial ?_
    refine AW.ret ?_
    refine thenA_ret ?_
    rw [(ch_0 h0).1, (ch_0 h0).2]
    refine RetQ.gc [_, _] [] [.tmp 2, .tmp 3] (.inl rfl) rfl (.tmp rfl (.tmp rfl .nil)) rfl (.pure rfl (.pure rfl .nil)) (OutL.clo rfl (cloM fun _ => rfl) (by intro h; exact h.elim id fun h => absurd h.1 (by simp)) trivial) (by decide) rfl
  ·
    have h0 : ¬ Ts.length = 0 := by simpa using hb0
    refine AW.skip ?_
    refine thenA_normal ?_
    refine AW.seqR ?_
    refine AWo.pure (PureOp.move rfl) rfl rfl ?_
    first | refine AWo.pure (PureOp.lenS tbok rfl rfl) rfl rfl ?_ | refine AWo.pure (PureOp.lenD tbok rfl rfl) rfl rfl ?_
    refine AWo.makeI tbok 17000 rfl rfl rfl rfl rfl rfl (by omega) (by omega) rfl rfl rfl ?_
    rw [show List.replicate Ts.length (0 : Nat) = cv Ts 0 from cv_zero Ts]
    refine AWo.pure (PureOp.assign rfl) rfl rfl ?_
    refine AWo.nil trivial ?_
    refine AW.seq ?_
    refine AW.seqR ?_
    refine AWo.pure (PureOp.move rfl) rfl rfl ?_
    first | refine AWo.pure (PureOp.lenS tbok rfl rfl) rfl rfl ?_ | refine AWo.pure (PureOp.lenD tbok rfl rfl) rfl rfl ?_
    refine AWo.pure (PureOp.move rfl) rfl rfl ?_
    refine AWo.nil trivial ?_
    refine AW.block ?_
    refine AW.loopw (fun mm σ => ∃ i, (i ≤ Ts.length ∧ ∀ j, j < i → isV (Ts.getD j []).length = true) ∧ mm = Ts.length - i ∧ σ = ⟨(upd (upd (upd (upd (upd emp 0 (.slice (some ⟨0, 0, none⟩) Ts.length 0)) 4 (.slice (some ⟨17000, 0, none⟩) Ts.length 0)) 17 (.slice (some ⟨0, 0, none⟩) Ts.length 0)) 18 (vi .i64 Ts.length)) 19 (vi .i64 i)), (upd (upd emp 0 ⟨Ts.map (dt), false, 1⟩) 17000 ⟨(cv Ts i).map (vi .i64), true, 1⟩)⟩) (fm := []) ?_ ⟨0, ⟨Nat.zero_le _, fun j hj => absurd hj (Nat.not_lt_zero j)⟩, rfl, rfl⟩ ?_
    ·
      refine Wk.of [0, 17000] ?_ ?_ ?_ (by decide) rfl
      ·
        refine WkE.upd rfl (by first | exact VR.flat _ rfl | exact VR.eqv (vp_succ _) rfl | exact VR.eqv (vp_succ _).symm rfl | exact VR.eqv (by first | rfl | (congr 1; omega) | (simp; done) | (simp; omega)) rfl) ?_
        refine WkE.upd rfl (by first | exact VR.flat _ rfl | exact VR.eqv (vp_succ _) rfl | exact VR.eqv (vp_succ _).symm rfl | exact VR.eqv (by first | rfl | (congr 1; omega) | (simp; done) | (simp; omega)) rfl) ?_
        refine WkE.upd rfl (.slice (0) 0 _ 0 ⟨_, rfl⟩ (by simp) (by simp)) ?_
        refine WkE.upd rfl (.slice (17000) 0 _ 0 ⟨_, rfl⟩ (by simp) (by simp)) ?_
        refine WkE.upd rfl (.slice (0) 0 _ 0 ⟨_, rfl⟩ (by simp) (by simp)) ?_
        exact WkE.emp
      ·
        refine WkM.flat rfl (flatM flat_vi) (fun h => h) ?_
        refine WkM.cloM rfl rfl (fun _ => rfl) (fun h => h) ?_
        exact WkM.emp
      ·
        repeat (refine dom_upd_mem (by decide) ?_)
        exact dom_emp
    ·
      rintro mm σ ⟨i, ⟨hinv, hall⟩, rfl, rfl⟩
      have hcl := cv_len Ts i
      refine AW.seqR ?_
      first | refine AWo.pure (PureOp.ltN rfl rfl) rfl rfl ?_ | refine AWo.pure (PureOp.bin rfl rfl rfl) rfl rfl ?_
      refine AWo.nil trivial ?_
      refine AW.seq ?_
      refine AW.cond rfl (fun hb1 => ?_) (fun hb1 => ?_)
      ·
        have hi : i < Ts.length := of_decide_eq_true hb1
        have hsi : (Ts.getD i []).length < 1000000 := hs _ (getT_mem hi)
        refine AW.skip ?_
        refine thenA_normal ?_
        refine AW.seq ?_
        refine AW.block ?_
        refine AW.seqR ?_
        refine AWo.pure (PureOp.move rfl) rfl rfl ?_
        first | refine AWo.pure (PureOp.idx1 tbok rfl rfl rfl rfl (by first | decide | omega)) rfl rfl ?_ | refine AWo.pure (PureOp.idx tbok rfl rfl rfl rfl (by first | decide | omega)) rfl rfl ?_
        refine AWo.loadM tbok (f := dt) [] rfl rfl rfl (by omega) rfl rfl ?_
        refine AWo.pure (PureOp.assign rfl) rfl rfl ?_
        refine AWo.pure (PureOp.assign rfl) rfl rfl ?_
        refine AWo.nil trivial ?_
        refine AW.seqR ?_
        refine AWo.pureX 26000 (n := (Ts.getD i []).length) (es := 4) (cells := (((Ts.getD i []).map fe).flatten).map (vi .u64)) (PureOp.move rfl) rfl rfl rfl ?_
        refine AWo.callX (vars_ctr (xs := (Ts.getD i [])) (n := (Ts.getD i []).length) rfl hsi) bd32 [(26000, 0)] [] rfl (.cons rfl .nil) rfl (.cons rfl rfl .nil) (.flat rfl (flatM flat_vi) (by intro h; first | exact h | rfl) .nil) rfl (.keep rfl .nil) frN (by decide) (.cons rfl rfl (.cons rfl rfl .nil)) rfl rfl rfl rfl ?_
        refine AWo.pure (PureOp.move rfl) rfl rfl ?_
        refine AWo.pure (PureOp.extract rfl rfl) rfl rfl ?_
        refine AWo.pure (PureOp.extract rfl rfl) rfl rfl ?_
        refine AWo.pure (PureOp.assign rfl) rfl rfl ?_
        refine AWo.pure (PureOp.assign rfl) rfl rfl ?_
        refine AWo.nil trivial ?_
        refine AW.seq ?_
        refine AW.seqR ?_
        refine AWo.pure (PureOp.move rfl) rfl rfl ?_
        first | refine AWo.pure (PureOp.neN (b := 0) rfl rfl) rfl rfl ?_ | refine AWo.pure (PureOp.bin rfl rfl rfl) rfl rfl ?_
        refine AWo.nil trivial ?_
        refine AW.cond rfl (fun hb2 => ?_) (fun hb2 => ?_)
        ·
          have hbad : isV (Ts.getD i []).length = false := Bool.eq_false_iff.2 fun h => (show ¬ vC (Ts.getD i []).length = 0 by simpa using hb2) (vC_iff.2 h)
          refine AW.seqR ?_
          refine AWo.pure (PureOp.move rfl) rfl rfl ?_
          refine AWo.pure (PureOp.assign rfl) rfl rfl ?_
          refine AWo.pure (PureOp.assign rfl) rfl rfl ?_
          refine AWo.nil trivial ?_
          refine AW.ret ?_
          refine thenA_ret ?_
          refine inBlockA_ret ?_
          refine thenA_ret ?_
          refine thenA_ret ?_
          refine inBlockA_ret ?_
          refine thenA_ret ?_
          rw [(ch_bad hi hbad).1, (ch_bad hi hbad).2, vC_no hbad]
          refine RetQ.gc [_, _] [] [.tmp 2, .tmp 3] (.inl rfl) rfl (.tmp rfl (.tmp rfl .nil)) rfl (.pure rfl (.pure rfl .nil)) (OutL.clo rfl (cloM fun _ => rfl) (by intro h; exact h.elim id fun h => absurd h.1 (by simp)) trivial) (by decide) rfl
        ·
          have hgood : isV (Ts.getD i []).length = true := vC_iff.1 (by simpa using hb2)
          refine AW.skip ?_
          refine thenA_normal ?_
          refine AW.region ?_
          refine AWo.pure (PureOp.move rfl) rfl rfl ?_
          refine AWo.pure (PureOp.move rfl) rfl rfl ?_
          refine AWo.pure (PureOp.move rfl) rfl rfl ?_
          first | refine AWo.pure (PureOp.idx1 tbok rfl rfl rfl rfl (by first | decide | omega)) rfl rfl ?_ | refine AWo.pure (PureOp.idx tbok rfl rfl rfl rfl (by first | decide | omega)) rfl rfl ?_
          refine AWo.storeM (f := (vi .i64)) tbok rfl rfl rfl rfl (by rw [cv_len]; omega) rfl rfl ?_
          rw [cv_set hi]
          refine AWo.nil trivial ?_
          refine inBlockA_normal ?_
          refine thenA_normal ?_
          refine AW.region ?_
          first | refine AWo.pure (PureOp.addI (b := 1) rfl rfl (by first | decide | omega)) rfl rfl ?_ | refine AWo.pure (PureOp.bin rfl rfl rfl) rfl rfl ?_
          refine AWo.pure (PureOp.move rfl) rfl rfl ?_
          refine AWo.nil trivial ?_
          refine thenA_normal ?_
          refine ⟨Ts.length - (i + 1), [], _, by omega, ?_, i + 1, ⟨by omega, fun j hj => (Nat.lt_succ_iff_lt_or_eq.1 hj).elim (hall j) (fun e => e ▸ hgood)⟩, rfl, rfl⟩
          refine Wk.of [0, 17000] ?_ ?_ ?_ (by decide) rfl
          ·
            refine WkE.upd rfl (by first | exact VR.flat _ rfl | exact VR.eqv (vp_succ _) rfl | exact VR.eqv (vp_succ _).symm rfl | exact VR.eqv (by first | rfl | (congr 1; omega) | (simp; done) | (simp; omega)) rfl) ?_
            refine WkE.upd rfl (by first | exact VR.flat _ rfl | exact VR.eqv (vp_succ _) rfl | exact VR.eqv (vp_succ _).symm rfl | exact VR.eqv (by first | rfl | (congr 1; omega) | (simp; done) | (simp; omega)) rfl) ?_
            refine WkE.upd rfl (.slice (0) 0 _ 0 ⟨_, rfl⟩ (by simp) (by simp)) ?_
            refine WkE.upd rfl (.slice (17000) 0 _ 0 ⟨_, rfl⟩ (by simp) (by simp)) ?_
            refine WkE.upd rfl (.slice (0) 0 _ 0 ⟨_, rfl⟩ (by simp) (by simp)) ?_
            exact WkE.emp
          ·
            refine WkM.flat rfl (flatM flat_vi) (fun h => h) ?_
            refine WkM.cloM rfl rfl (fun _ => rfl) (fun h => h) ?_
            exact WkM.emp
          ·
            repeat (refine dom_upd_mem (by decide) ?_)
            exact dom_emp
      ·
        obtain rfl : i = Ts.length := by have := of_decide_eq_false hb1; omega
        refine AW.exit ?_
        refine thenA_exit ?_
        refine thenA_exit ?_
        refine inBlockA_hit ?_
        refine thenA_normal ?_
        refine AW.seq ?_
        refine AW.seqR ?_
        refine AWo.pure (PureOp.move rfl) rfl rfl ?_
        first | refine AWo.pure (PureOp.lenS tbok rfl rfl) rfl rfl ?_ | refine AWo.pure (PureOp.lenD tbok rfl rfl) rfl rfl ?_
        refine AWo.pure (PureOp.move rfl) rfl rfl ?_
        refine AWo.nil trivial ?_
        refine AW.block ?_
        refine AW.loopw (fun mm σ => ∃ i, (i ≤ Ts.length ∧ ∀ j, j < i → vN (Ts.getD j []).length = vN (Ts.getD 0 []).length) ∧ mm = Ts.length - i ∧ σ = ⟨(upd (upd (upd (upd (upd emp 0 (.slice (some ⟨0, 0, none⟩) Ts.length 0)) 4 (.slice (some ⟨17000, 0, none⟩) Ts.length 0)) 37 (.slice (some ⟨17000, 0, none⟩) Ts.length 0)) 38 (vi .i64 Ts.length)) 39 (vi .i64 i)), (upd (upd emp 0 ⟨Ts.map (dt), false, 1⟩) 17000 ⟨(cv Ts Ts.length).map (vi .i64), true, 1⟩)⟩) (fm := []) ?_ ⟨0, ⟨Nat.zero_le _, fun j hj => absurd hj (Nat.not_lt_zero j)⟩, rfl, rfl⟩ ?_
        ·
          refine Wk.of [0, 17000] ?_ ?_ ?_ (by decide) rfl
          ·
            refine WkE.upd rfl (by first | exact VR.flat _ rfl | exact VR.eqv (vp_succ _) rfl | exact VR.eqv (vp_succ _).symm rfl | exact VR.eqv (by first | rfl | (congr 1; omega) | (simp; done) | (simp; omega)) rfl) ?_
            refine WkE.upd rfl (by first | exact VR.flat _ rfl | exact VR.eqv (vp_succ _) rfl | exact VR.eqv (vp_succ _).symm rfl | exact VR.eqv (by first | rfl | (congr 1; omega) | (simp; done) | (simp; omega)) rfl) ?_
            refine WkE.upd rfl (.slice (17000) 0 _ 0 ⟨_, rfl⟩ (by simp) (by simp)) ?_
            refine WkE.upd rfl (.slice (17000) 0 _ 0 ⟨_, rfl⟩ (by simp) (by simp)) ?_
            refine WkE.upd rfl (.slice (0) 0 _ 0 ⟨_, rfl⟩ (by simp) (by simp)) ?_
            exact WkE.emp
          ·
            refine WkM.flat rfl (flatM flat_vi) (fun h => h) ?_
            refine WkM.cloM rfl rfl (fun _ => rfl) (fun h => h) ?_
            exact WkM.emp
          ·
            repeat (refine dom_upd_mem (by decide) ?_)
            exact dom_emp
        ·
          rintro mm σ ⟨i, ⟨hinv, hsam⟩, rfl, rfl⟩
          have hcl := cv_len Ts Ts.length
          refine AW.seqR ?_
          first | refine AWo.pure (PureOp.ltN rfl rfl) rfl rfl ?_ | refine AWo.pure (PureOp.bin rfl rfl rfl) rfl rfl ?_
          refine AWo.nil trivial ?_
          refine AW.seq ?_
          refine AW.cond rfl (fun hb3 => ?_) (fun hb3 => ?_)
          ·
            have hi : i < Ts.length := of_decide_eq_true hb3
            refine AW.skip ?_
            refine thenA_normal ?_
            refine AW.seq ?_
            refine AW.block ?_
            refine AW.seqR ?_
            first | refine AWo.pure (PureOp.idx1 tbok rfl rfl rfl rfl (by first | decide | omega)) rfl rfl ?_ | refine AWo.pure (PureOp.idx tbok rfl rfl rfl rfl (by first | decide | omega)) rfl rfl ?_
            refine AWo.loadM tbok (f := vi .i64) 0 rfl rfl rfl (by rw [cv_len]; omega) rfl rfl ?_
            refine AWo.pure (PureOp.assign rfl) rfl rfl ?_
            refine AWo.nil trivial ?_
            refine AW.seqR ?_
            refine AWo.pure (PureOp.move rfl) rfl rfl ?_
            refine AWo.pure (PureOp.move rfl) rfl rfl ?_
            first | refine AWo.pure (PureOp.idx1 (j := 0) tbok rfl rfl rfl rfl (by first | decide | omega)) rfl rfl ?_ | refine AWo.pure (PureOp.idx (j := 0) tbok rfl rfl rfl rfl (by first | decide | omega)) rfl rfl ?_
            refine AWo.loadM tbok (f := vi .i64) 0 rfl rfl rfl (by rw [cv_len]; omega) rfl rfl ?_
            first | refine AWo.pure (PureOp.neN rfl rfl) rfl rfl ?_ | refine AWo.pure (PureOp.bin rfl rfl rfl) rfl rfl ?_
            refine AWo.nil trivial ?_
            refine AW.cond rfl (fun hb4 => ?_) (fun hb4 => ?_)
            ·
              have hmis : ¬ vN (Ts.getD i []).length = vN (Ts.getD 0 []).length := by rw [cv_at hi (by omega), cv_at (by omega) (by omega)] at hb4; simpa using hb4
              refine AW.seqR ?_
              refine AWo.pure (PureOp.assign rfl) rfl rfl ?_
              refine AWo.pure (PureOp.assign rfl) rfl rfl ?_
              refine AWo.nil trivial ?_
              refine AW.ret ?_
              refine inBlockA_ret ?_
              refine thenA_ret ?_
              refine thenA_ret ?_
              refine inBlockA_ret ?_
              refine thenA_ret ?_
              rw [(ch_mis hi hall hmis).1, (ch_mis hi hall hmis).2]
              refine RetQ.gc [_, _] [] [.tmp 2, .tmp 3] (.inl rfl) rfl (.tmp rfl (.tmp rfl .nil)) rfl (.pure rfl (.pure rfl .nil)) (OutL.clo rfl (cloM fun _ => rfl) (by intro h; exact h.elim id fun h => absurd h.1 (by simp)) trivial) (by decide) rfl
            ·
              have hsm : vN (Ts.getD i []).length = vN (Ts.getD 0 []).length := by rw [cv_at hi (by omega), cv_at (by omega) (by omega)] at hb4; simpa using hb4
              refine AW.skip ?_
              refine inBlockA_normal ?_
              refine thenA_normal ?_
              refine AW.region ?_
              first | refine AWo.pure (PureOp.addI (b := 1) rfl rfl (by first | decide | omega)) rfl rfl ?_ | refine AWo.pure (PureOp.bin rfl rfl rfl) rfl rfl ?_
              refine AWo.pure (PureOp.move rfl) rfl rfl ?_
              refine AWo.nil trivial ?_
              refine thenA_normal ?_
              refine ⟨Ts.length - (i + 1), [], _, by omega, ?_, i + 1, ⟨by omega, fun j hj => (Nat.lt_succ_iff_lt_or_eq.1 hj).elim (hsam j) (fun e => e ▸ hsm)⟩, rfl, rfl⟩
              refine Wk.of [0, 17000] ?_ ?_ ?_ (by decide) rfl
              ·
                refine WkE.upd rfl (by first | exact VR.flat _ rfl | exact VR.eqv (vp_succ _) rfl | exact VR.eqv (vp_succ _).symm rfl | exact VR.eqv (by first | rfl | (congr 1; omega) | (simp; done) | (simp; omega)) rfl) ?_
                refine WkE.upd rfl (by first | exact VR.flat _ rfl | exact VR.eqv (vp_succ _) rfl | exact VR.eqv (vp_succ _).symm rfl | exact VR.eqv (by first | rfl | (congr 1; omega) | (simp; done) | (simp; omega)) rfl) ?_
                refine WkE.upd rfl (.slice (17000) 0 _ 0 ⟨_, rfl⟩ (by simp) (by simp)) ?_
                refine WkE.upd rfl (.slice (17000) 0 _ 0 ⟨_, rfl⟩ (by simp) (by simp)) ?_
                refine WkE.upd rfl (.slice (0) 0 _ 0 ⟨_, rfl⟩ (by simp) (by simp)) ?_
                exact WkE.emp
              ·
                refine WkM.flat rfl (flatM flat_vi) (fun h => h) ?_
                refine WkM.cloM rfl rfl (fun _ => rfl) (fun h => h) ?_
                exact WkM.emp
              ·
                repeat (refine dom_upd_mem (by decide) ?_)
                exact dom_emp
          ·
            obtain rfl : i = Ts.length := by have := of_decide_eq_false hb3; omega
            refine AW.exit ?_
            refine thenA_exit ?_
            refine thenA_exit ?_
            refine inBlockA_hit ?_
            refine thenA_normal ?_
            refine AW.seqR ?_
            refine AWo.pure (PureOp.move rfl) rfl rfl ?_
            first | refine AWo.pure (PureOp.idx1 (j := 0) tbok rfl rfl rfl rfl (by first | decide | omega)) rfl rfl ?_ | refine AWo.pure (PureOp.idx (j := 0) tbok rfl rfl rfl rfl (by first | decide | omega)) rfl rfl ?_
            refine AWo.loadM tbok (f := vi .i64) 0 rfl rfl rfl (by rw [cv_len]; omega) rfl rfl ?_
            refine AWo.pure (PureOp.assign rfl) rfl rfl ?_
            refine AWo.pure (PureOp.assign rfl) rfl rfl ?_
            refine AWo.nil trivial ?_
            refine AW.ret ?_
            rw [(ch_ok h0 hall hsam).1, (ch_ok h0 hall hsam).2, cv_at (by omega) (by omega)]
            refine RetQ.gc [_, _] [] [.tmp 2, .tmp 3] (.inl rfl) rfl (.tmp rfl (.tmp rfl .nil)) rfl (.pure rfl (.pure rfl .nil)) (OutL.clo rfl (cloM fun _ => rfl) (by intro h; exact h.elim id fun h => absurd h.1 (by simp)) trivial) (by decide) rfl
theorem total_ctr {Ts : List (List Fp)} {k m : Nat} (hk : Ts.length = k) (h0 : 0 < k) (hm : ∀ t ∈ Ts, t.length = m) (hk6 : k < 1000000) (hmb : m < 1000000) : GC Tryz.prog 20 [.slice (some ⟨0, 0, none⟩) k 0] [⟨Ts.map (dt), false, 1⟩] [.agg ((fe ((smN (prT Ts) m))).map (vi .u64)).toArray] [⟨Ts.map (dt), false, 1⟩] := by
  refine GC.intro Tryz.func20 rfl (by show 1 ≤ 34; decide) (by first | exact Nat.le_refl _ | decide | simp) ?_
  subst hk
  have hm0 : (Ts.getD 0 []).length = m := hm _ (getT_mem h0)
  refine AW.seqR ?_
  refine yN 3000 1 ((fe 0).map (vi .u64)) ?_ (hc := by rw [fe_zero]; rfl)
  refine AWo.nil trivial ?_
  refine AW.seqR ?_
  refine yN 4000 1 ((fe 0).map (vi .u64)) ?_ (hc := by rw [fe_zero]; rfl)
  refine AWo.nil trivial ?_
  refine AW.seq ?_
  refine AW.seqR ?_
  refine AWo.pure (PureOp.move rfl) rfl rfl ?_
  first | refine AWo.pure (PureOp.idx1 (j := 0) tbok rfl rfl rfl rfl (by first | decide | omega)) rfl rfl ?_ | refine AWo.pure (PureOp.idx (j := 0) tbok rfl rfl rfl rfl (by first | decide | omega)) rfl rfl ?_
  refine AWo.loadM tbok (f := dt) [] rfl rfl rfl (by omega) rfl rfl ?_
  first | refine AWo.pure ((PureOp.lenS tbok rfl rfl).mono (v' := vi .i64 m) (congrArg (vi .i64) hm0)) rfl rfl ?_ | refine AWo.pure ((PureOp.lenD tbok rfl rfl).mono (v' := vi .i64 m) (congrArg (vi .i64) hm0)) rfl rfl ?_
  refine AWo.pure (PureOp.move rfl) rfl rfl ?_
  refine AWo.nil trivial ?_
  refine AW.block ?_
  refine AW.loopw (fun mm σ => ∃ i, (i ≤ m) ∧ mm = m - i ∧ σ = ⟨(upd (upd (upd (upd (upd emp 0 (.slice (some ⟨0, 0, none⟩) Ts.length 0)) 2 (.pointer (some ⟨3000, 0, none⟩))) 3 (.pointer (some ⟨4000, 0, none⟩))) 11 (vi .i64 m)) 12 (vi .i64 i)), (upd (upd (upd emp 0 ⟨Ts.map (dt), false, 1⟩) 3000 ⟨(fe 0).map (vi .u64), true, 1⟩) 4000 ⟨(fe (smN (prT Ts) i)).map (vi .u64), true, 1⟩)⟩) (fm := []) ?_ ⟨0, Nat.zero_le _, rfl, rfl⟩ ?_
  ·
    refine Wk.of [0, 3000, 4000] ?_ ?_ ?_ (by decide) rfl
    ·
      refine WkE.upd rfl (by first | exact VR.flat _ rfl | exact VR.eqv (vp_succ _) rfl | exact VR.eqv (vp_succ _).symm rfl | exact VR.eqv (by first | rfl | (congr 1; omega) | (simp; done) | (simp; omega)) rfl) ?_
      refine WkE.upd rfl (by first | exact VR.flat _ rfl | exact VR.eqv (vp_succ _) rfl | exact VR.eqv (vp_succ _).symm rfl | exact VR.eqv (by first | rfl | (congr 1; omega) | (simp; done) | (simp; omega)) rfl) ?_
      refine WkE.upd rfl (.ptr (4000) 0 ⟨_, rfl⟩) ?_
      refine WkE.upd rfl (.ptr (3000) 0 ⟨_, rfl⟩) ?_
      refine WkE.upd rfl (.slice (0) 0 _ 0 ⟨_, rfl⟩ (by simp) (by simp)) ?_
      exact WkE.emp
    ·
      refine WkM.flat rfl (flatM flat_vi) (fun h => h) ?_
      refine WkM.flat rfl (flatM flat_vi) (fun h => h) ?_
      refine WkM.cloM rfl rfl (fun _ => rfl) (fun h => h) ?_
      exact WkM.emp
    ·
      repeat (refine dom_upd_mem (by decide) ?_)
      exact dom_emp
  ·
    rintro mm σ ⟨i, hinv, rfl, rfl⟩
    refine AW.seqR ?_
    first | refine AWo.pure (PureOp.ltN rfl rfl) rfl rfl ?_ | refine AWo.pure (PureOp.bin rfl rfl rfl) rfl rfl ?_
    refine AWo.nil trivial ?_
    refine AW.seq ?_
    refine AW.cond rfl (fun hb0 => ?_) (fun hb0 => ?_)
    ·
      have hi : i < m := of_decide_eq_true hb0
      refine AW.skip ?_
      refine thenA_normal ?_
      refine AW.seq ?_
      refine AW.block ?_
      refine AW.seqR ?_
      refine AWo.pure (PureOp.move rfl) rfl rfl ?_
      refine AWo.pure (PureOp.assign rfl) rfl rfl ?_
      refine AWo.nil trivial ?_
      refine AW.seqR ?_
      refine AWo.callX (fromuF_ctr (v := 1) (by decide)) bd13 [] [] rfl (.cons rfl .nil) rfl (.cons rfl rfl .nil) .nil rfl .nil frN (by decide) (.pure (by first | rfl | exact pure_aggM flat_vi | exact pure_aggM flat_bool) .nil) rfl rfl rfl rfl ?_
      refine AWo.alloc tbok 6000 1 _ rfl rfl rfl rfl rfl rfl ?_
      refine AWo.storeAllN tbok rfl rfl rfl rfl (by first | (simp [*]; done) | rfl) (by first | (simp [*]; done) | rfl) (by first | exact oneM (fun _ => rfl) _ | rfl | (simp; done)) rfl ?_
      refine AWo.nil trivial ?_
      refine AW.seq ?_
      refine AW.seqR ?_
      refine AWo.pure (PureOp.move rfl) rfl rfl ?_
      first | refine AWo.pure (PureOp.lenS tbok rfl rfl) rfl rfl ?_ | refine AWo.pure (PureOp.lenD tbok rfl rfl) rfl rfl ?_
      refine AWo.pure (PureOp.move rfl) rfl rfl ?_
      refine AWo.nil trivial ?_
      refine AW.block ?_
      refine AW.loopw (fun mm σ => ∃ j, (j ≤ Ts.length) ∧ mm = Ts.length - j ∧ σ = ⟨(upd (upd (upd (upd (upd (upd (upd (upd (upd (upd emp 0 (.slice (some ⟨0, 0, none⟩) Ts.length 0)) 2 (.pointer (some ⟨3000, 0, none⟩))) 3 (.pointer (some ⟨4000, 0, none⟩))) 4 (vi .i64 i)) 5 (.pointer (some ⟨6000, 0, none⟩))) 11 (vi .i64 m)) 12 (vi .i64 i)) 16 (.slice (some ⟨0, 0, none⟩) Ts.length 0)) 17 (vi .i64 Ts.length)) 18 (vi .i64 j)), (upd (upd (upd (upd emp 0 ⟨Ts.map (dt), false, 1⟩) 3000 ⟨(fe 0).map (vi .u64), true, 1⟩) 4000 ⟨(fe (smN (prT Ts) i)).map (vi .u64), true, 1⟩) 6000 ⟨(fe (prN Ts i j)).map (vi .u64), true, 1⟩)⟩) (fm := []) ?_ ⟨0, Nat.zero_le _, rfl, rfl⟩ ?_
      ·
        refine Wk.of [0, 3000, 4000, 6000] ?_ ?_ ?_ (by decide) rfl
        ·
          refine WkE.upd rfl (by first | exact VR.flat _ rfl | exact VR.eqv (vp_succ _) rfl | exact VR.eqv (vp_succ _).symm rfl | exact VR.eqv (by first | rfl | (congr 1; omega) | (simp; done) | (simp; omega)) rfl) ?_
          refine WkE.upd rfl (by first | exact VR.flat _ rfl | exact VR.eqv (vp_succ _) rfl | exact VR.eqv (vp_succ _).symm rfl | exact VR.eqv (by first | rfl | (congr 1; omega) | (simp; done) | (simp; omega)) rfl) ?_
          refine WkE.upd rfl (.slice (0) 0 _ 0 ⟨_, rfl⟩ (by simp) (by simp)) ?_
          refine WkE.upd rfl (by first | exact VR.flat _ rfl | exact VR.eqv (vp_succ _) rfl | exact VR.eqv (vp_succ _).symm rfl | exact VR.eqv (by first | rfl | (congr 1; omega) | (simp; done) | (simp; omega)) rfl) ?_
          refine WkE.upd rfl (by first | exact VR.flat _ rfl | exact VR.eqv (vp_succ _) rfl | exact VR.eqv (vp_succ _).symm rfl | exact VR.eqv (by first | rfl | (congr 1; omega) | (simp; done) | (simp; omega)) rfl) ?_
          refine WkE.upd rfl (.ptr (6000) 0 ⟨_, rfl⟩) ?_
          refine WkE.upd rfl (by first | exact VR.flat _ rfl | exact VR.eqv (vp_succ _) rfl | exact VR.eqv (vp_succ _).symm rfl | exact VR.eqv (by first | rfl | (congr 1; omega) | (simp; done) | (simp; omega)) rfl) ?_
          refine WkE.upd rfl (.ptr (4000) 0 ⟨_, rfl⟩) ?_
          refine WkE.upd rfl (.ptr (3000) 0 ⟨_, rfl⟩) ?_
          refine WkE.upd rfl (.slice (0) 0 _ 0 ⟨_, rfl⟩ (by simp) (by simp)) ?_
          exact WkE.emp
        ·
          refine WkM.flat rfl (flatM flat_vi) (fun h => h) ?_
          refine WkM.flat rfl (flatM flat_vi) (fun h => h) ?_
          refine WkM.flat rfl (flatM flat_vi) (fun h => h) ?_
          refine WkM.cloM rfl rfl (fun _ => rfl) (fun h => h) ?_
          exact WkM.emp
        ·
          repeat (refine dom_upd_mem (by decide) ?_)
          exact dom_emp
      ·
        rintro mm σ ⟨j, hinv, rfl, rfl⟩
        refine AW.seqR ?_
        first | refine AWo.pure (PureOp.ltN rfl rfl) rfl rfl ?_ | refine AWo.pure (PureOp.bin rfl rfl rfl) rfl rfl ?_
        refine AWo.nil trivial ?_
        refine AW.seq ?_
        refine AW.cond rfl (fun hb1 => ?_) (fun hb1 => ?_)
        ·
          have hj : j < Ts.length := of_decide_eq_true hb1
          have hjm : (Ts.getD j []).length = m := hm _ (getT_mem hj)
          refine AW.skip ?_
          refine thenA_normal ?_
          refine AW.seq ?_
          refine AW.block ?_
          refine AW.seqR ?_
          first | refine AWo.pure (PureOp.idx1 tbok rfl rfl rfl rfl (by first | decide | omega)) rfl rfl ?_ | refine AWo.pure (PureOp.idx tbok rfl rfl rfl rfl (by first | decide | omega)) rfl rfl ?_
          refine AWo.loadM tbok (f := dt) [] rfl rfl rfl (by omega) rfl rfl ?_
          refine AWo.pure (PureOp.assign rfl) rfl rfl ?_
          refine AWo.nil trivial ?_
          refine AW.draw mixed ?_
          first | refine yLE ?_ | refine yLEi ?_
          refine AWo.pureX 24000 (n := (Ts.getD j []).length) (es := 4) (cells := (((Ts.getD j []).map fe).flatten).map (vi .u64)) (PureOp.move rfl) rfl rfl rfl ?_
          refine AWo.pure (PureOp.move rfl) rfl rfl ?_
          first | refine AWo.pure (PureOp.idx1 tbok rfl rfl rfl rfl (by first | decide | omega)) rfl rfl ?_ | refine AWo.pure (PureOp.idx tbok rfl rfl rfl rfl (by first | decide | omega)) rfl rfl ?_
          refine yLJ (xs := (Ts.getD j [])) i ?_
          refine AWo.callX (v := .agg ((fe (prN Ts i (j + 1))).map (vi .u64)).toArray) (mulF_ctr (x := prN Ts i j) (y := (Ts.getD j []).getD i 0)) bd34 [] [] rfl (.cons rfl (.cons rfl .nil)) rfl (.pure (by first | rfl | exact pure_aggM flat_vi | exact pure_aggM flat_bool) (.pure (by first | rfl | exact pure_aggM flat_vi | exact pure_aggM flat_bool) .nil)) .nil rfl .nil frN (by decide) (.pure (by first | rfl | exact pure_aggM flat_vi | exact pure_aggM flat_bool) .nil) rfl rfl rfl rfl ?_
          refine AWo.storeAllN tbok rfl rfl rfl rfl (by first | (simp [*]; done) | rfl) (by first | (simp [*]; done) | rfl) (by first | exact oneM (fun _ => rfl) _ | rfl | (simp; done)) rfl ?_
          refine AWo.nil (by kernel_rfl) ?_
          refine inBlockA_normal ?_
          refine thenA_normal ?_
          refine AW.region ?_
          first | refine AWo.pure (PureOp.addI (b := 1) rfl rfl (by first | decide | omega)) rfl rfl ?_ | refine AWo.pure (PureOp.bin rfl rfl rfl) rfl rfl ?_
          refine AWo.pure (PureOp.move rfl) rfl rfl ?_
          refine AWo.nil trivial ?_
          refine thenA_normal ?_
          refine ⟨Ts.length - (j + 1), [], _, by omega, ?_, j + 1, by omega, rfl, rfl⟩
          refine Wk.of [0, 3000, 4000, 6000] ?_ ?_ ?_ (by decide) rfl
          ·
            refine WkE.upd rfl (by first | exact VR.flat _ rfl | exact VR.eqv (vp_succ _) rfl | exact VR.eqv (vp_succ _).symm rfl | exact VR.eqv (by first | rfl | (congr 1; omega) | (simp; done) | (simp; omega)) rfl) ?_
            refine WkE.upd rfl (by first | exact VR.flat _ rfl | exact VR.eqv (vp_succ _) rfl | exact VR.eqv (vp_succ _).symm rfl | exact VR.eqv (by first | rfl | (congr 1; omega) | (simp; done) | (simp; omega)) rfl) ?_
            refine WkE.upd rfl (.slice (0) 0 _ 0 ⟨_, rfl⟩ (by simp) (by simp)) ?_
            refine WkE.upd rfl (by first | exact VR.flat _ rfl | exact VR.eqv (vp_succ _) rfl | exact VR.eqv (vp_succ _).symm rfl | exact VR.eqv (by first | rfl | (congr 1; omega) | (simp; done) | (simp; omega)) rfl) ?_
            refine WkE.upd rfl (by first | exact VR.flat _ rfl | exact VR.eqv (vp_succ _) rfl | exact VR.eqv (vp_succ _).symm rfl | exact VR.eqv (by first | rfl | (congr 1; omega) | (simp; done) | (simp; omega)) rfl) ?_
            refine WkE.upd rfl (.ptr (6000) 0 ⟨_, rfl⟩) ?_
            refine WkE.upd rfl (by first | exact VR.flat _ rfl | exact VR.eqv (vp_succ _) rfl | exact VR.eqv (vp_succ _).symm rfl | exact VR.eqv (by first | rfl | (congr 1; omega) | (simp; done) | (simp; omega)) rfl) ?_
            refine WkE.upd rfl (.ptr (4000) 0 ⟨_, rfl⟩) ?_
            refine WkE.upd rfl (.ptr (3000) 0 ⟨_, rfl⟩) ?_
            refine WkE.upd rfl (.slice (0) 0 _ 0 ⟨_, rfl⟩ (by simp) (by simp)) ?_
            exact WkE.emp
          ·
            refine WkM.flat rfl (flatM flat_vi) (fun h => h) ?_
            refine WkM.flat rfl (flatM flat_vi) (fun h => h) ?_
            refine WkM.flat rfl (flatM flat_vi) (fun h => h) ?_
            refine WkM.cloM rfl rfl (fun _ => rfl) (fun h => h) ?_
            exact WkM.emp
          ·
            repeat (refine dom_upd_mem (by decide) ?_)
            exact dom_emp
        ·
          obtain rfl : j = Ts.length := by have := of_decide_eq_false hb1; omega
          refine AW.exit ?_
          refine thenA_exit ?_
          refine thenA_exit ?_
          refine inBlockA_hit ?_
          refine thenA_normal ?_
          refine AW.region ?_
          first | refine yLE ?_ | refine yLEi ?_
          first | refine yLE ?_ | refine yLEi ?_
          refine AWo.callX (v := .agg ((fe (smN (prT Ts) (i + 1))).map (vi .u64)).toArray) (addF_ctr (x := (smN (prT Ts) i)) (y := prN Ts i Ts.length)) bd35 [] [] rfl (.cons rfl (.cons rfl .nil)) rfl (.pure (by first | rfl | exact pure_aggM flat_vi | exact pure_aggM flat_bool) (.pure (by first | rfl | exact pure_aggM flat_vi | exact pure_aggM flat_bool) .nil)) .nil rfl .nil frN (by decide) (.pure (by first | rfl | exact pure_aggM flat_vi | exact pure_aggM flat_bool) .nil) rfl rfl rfl rfl ?_
          refine AWo.storeAllN tbok rfl rfl rfl rfl (by first | (simp [*]; done) | rfl) (by first | (simp [*]; done) | rfl) (by first | exact oneM (fun _ => rfl) _ | rfl | (simp; done)) rfl ?_
          refine AWo.nil trivial ?_
          refine inBlockA_normal ?_
          refine thenA_normal ?_
          refine AW.region ?_
          first | refine AWo.pure (PureOp.addI (b := 1) rfl rfl (by first | decide | omega)) rfl rfl ?_ | refine AWo.pure (PureOp.bin rfl rfl rfl) rfl rfl ?_
          refine AWo.pure (PureOp.move rfl) rfl rfl ?_
          refine AWo.nil trivial ?_
          refine thenA_normal ?_
          refine ⟨m - (i + 1), [], _, by omega, ?_, i + 1, by omega, rfl, rfl⟩
          refine Wk.of [0, 3000, 4000] ?_ ?_ ?_ (by decide) rfl
          ·
            refine WkE.upd rfl (by first | exact VR.flat _ rfl | exact VR.eqv (vp_succ _) rfl | exact VR.eqv (vp_succ _).symm rfl | exact VR.eqv (by first | rfl | (congr 1; omega) | (simp; done) | (simp; omega)) rfl) ?_
            refine WkE.upd rfl (by first | exact VR.flat _ rfl | exact VR.eqv (vp_succ _) rfl | exact VR.eqv (vp_succ _).symm rfl | exact VR.eqv (by first | rfl | (congr 1; omega) | (simp; done) | (simp; omega)) rfl) ?_
            refine WkE.upd rfl (.ptr (4000) 0 ⟨_, rfl⟩) ?_
            refine WkE.upd rfl (.ptr (3000) 0 ⟨_, rfl⟩) ?_
            refine WkE.upd rfl (.slice (0) 0 _ 0 ⟨_, rfl⟩ (by simp) (by simp)) ?_
            exact WkE.emp
          ·
            refine WkM.flat rfl (flatM flat_vi) (fun h => h) ?_
            refine WkM.flat rfl (flatM flat_vi) (fun h => h) ?_
            refine WkM.cloM rfl rfl (fun _ => rfl) (fun h => h) ?_
            exact WkM.emp
          ·
            repeat (refine dom_upd_mem (by decide) ?_)
            exact dom_emp
    ·
      obtain rfl : i = m := by have := of_decide_eq_false hb0; omega
      refine AW.exit ?_
      refine thenA_exit ?_
      refine thenA_exit ?_
      refine inBlockA_hit ?_
      refine thenA_normal ?_
      refine AW.seqR ?_
      first | refine yLE ?_ | refine yLEi ?_
      refine AWo.storeAllN tbok rfl rfl rfl rfl (by first | (simp [*]; done) | rfl) (by first | (simp [*]; done) | rfl) (by first | exact oneM (fun _ => rfl) _ | rfl | (simp; done)) rfl ?_
      refine AWo.nil trivial ?_
      refine AW.ret ?_
      refine RetQ.gc [_] [] [.cell 2 32] (.inl rfl) rfl (.val (RVal.cellAll tbok rfl rfl rfl rfl (by first | (simp [*]; done) | rfl)) .nil) rfl (.pure (by first | rfl | exact pure_aggM flat_vi | exact pure_aggM flat_bool) .nil) (OutL.clo rfl (cloM fun _ => rfl) (by intro h; first | rfl | exact h.elim id fun h => absurd h.1 (by simp)) trivial) (by decide) rfl
theorem Total_ctr {Ts : List (List Fp)} {k : Nat} (hk : Ts.length = k) (hk6 : k < 1000000) (hs : ∀ t ∈ Ts, t.length < 1000000) : GC Tryz.prog 7 [.slice (some ⟨0, 0, none⟩) k 0] [⟨Ts.map (dt), false, 1⟩] [.agg ((fe ((toT Ts))).map (vi .u64)).toArray, .int .i64 (chC Ts)] [⟨Ts.map (dt), false, 1⟩] := by
  refine GC.intro Tryz.func7 rfl (by show 1 ≤ 17; decide) (by first | exact Nat.le_refl _ | decide | simp) ?_
  subst hk
  refine AW.seqR ?_
  refine yN 3000 1 ((fe 0).map (vi .u64)) ?_ (hc := by rw [fe_zero]; rfl)
  refine AWo.pure (PureOp.assign rfl) rfl rfl ?_
  refine AWo.nil trivial ?_
  refine AW.seq ?_
  refine AW.seqR ?_
  refine AWo.pure (PureOp.move rfl) rfl rfl ?_
  refine AWo.callX (check_ctr (Ts := Ts) (k := Ts.length) rfl hk6 hs) bd19 [(0, 0)] [] rfl (.cons rfl .nil) rfl (.cons rfl rfl .nil) (.clo rfl (cloM fun _ => rfl) (by intro h; first | exact h | rfl) .nil) rfl (.keep rfl .nil) frN (by decide) (.cons rfl rfl (.cons rfl rfl .nil)) rfl rfl rfl rfl ?_
  refine AWo.pure (PureOp.move rfl) rfl rfl ?_
  refine AWo.pure (PureOp.extract rfl rfl) rfl rfl ?_
  refine AWo.pure (PureOp.extract rfl rfl) rfl rfl ?_
  refine AWo.pure (PureOp.assign rfl) rfl rfl ?_
  refine AWo.pure (PureOp.assign rfl) rfl rfl ?_
  refine AWo.nil trivial ?_
  refine AW.seqR ?_
  refine AWo.pure (PureOp.move rfl) rfl rfl ?_
  first | refine AWo.pure (PureOp.neN (b := 0) rfl rfl) rfl rfl ?_ | refine AWo.pure (PureOp.bin rfl rfl rfl) rfl rfl ?_
  refine AWo.nil trivial ?_
  refine AW.cond rfl (fun hb0 => ?_) (fun hb0 => ?_)
  ·
    have hc : ¬ chC Ts = 0 := by simpa using hb0
    refine AW.seqR ?_
    refine AWo.pure ((PureOp.buildStruct [] pl32.choose_spec.1 zr32 (by decide) pl32.choose_spec.2 rfl rfl).mono (v' := .agg ((fe 0).map (vi .u64)).toArray) (by kernel_rfl)) rfl rfl ?_
    refine AWo.pure (PureOp.move rfl) rfl rfl ?_
    refine AWo.storeAllN tbok rfl rfl rfl rfl (by first | (simp [*]; done) | rfl) (by first | (simp [*]; done) | rfl) (by first | exact oneM (fun _ => rfl) _ | rfl | (simp; done)) rfl ?_
    refine AWo.pure (PureOp.assign rfl) rfl rfl ?_
    refine AWo.nil trivial ?_
    refine AW.ret ?_
    refine thenA_ret ?_
    rw [show toT Ts = 0 from if_neg hc]
    refine RetQ.gc [_, _] [] [.cell 2 32, .tmp 3] (.inl rfl) rfl (.val (RVal.cellAll tbok rfl rfl rfl rfl (by first | (simp [*]; done) | rfl)) (.tmp rfl .nil)) rfl (.pure (pure_aggM flat_vi) (.cons rfl rfl .nil)) (OutL.clo rfl (cloM fun _ => rfl) (by intro h; exact h.elim id fun h => absurd h.1 (by simp)) trivial) (by decide) rfl
  ·
    have hc : chC Ts = 0 := by simpa using hb0
    obtain ⟨hq0, hqm⟩ := ch_zero hc
    refine AW.skip ?_
    refine thenA_normal ?_
    refine AW.seqR ?_
    refine AWo.pure (PureOp.move rfl) rfl rfl ?_
    refine AWo.callX (total_ctr (Ts := Ts) (k := Ts.length) (m := (Ts.getD 0 []).length) rfl hq0 hqm hk6 (hs _ (getT_mem hq0))) bd20 [(0, 0)] [] rfl (.cons rfl .nil) rfl (.cons rfl rfl .nil) (.clo rfl (cloM fun _ => rfl) (by intro h; first | exact h | rfl) .nil) rfl (.keep rfl .nil) frN (by decide) (.pure (by first | rfl | exact pure_aggM flat_vi | exact pure_aggM flat_bool) .nil) rfl rfl rfl rfl ?_
    refine AWo.storeAllN tbok rfl rfl rfl rfl (by first | (simp [*]; done) | rfl) (by first | (simp [*]; done) | rfl) (by first | exact oneM (fun _ => rfl) _ | rfl | (simp; done)) rfl ?_
    refine AWo.pure (PureOp.assign rfl) rfl rfl ?_
    refine AWo.nil trivial ?_
    refine AW.ret ?_
    rw [hc, show toT Ts = smN (prT Ts) (Ts.getD 0 []).length from if_pos hc]
    refine RetQ.gc [_, _] [] [.cell 2 32, .tmp 3] (.inl rfl) rfl (.val (RVal.cellAll tbok rfl rfl rfl rfl (by first | (simp [*]; done) | rfl)) (.tmp rfl .nil)) rfl (.pure (pure_aggM flat_vi) (.pure rfl .nil)) (OutL.clo rfl (cloM fun _ => rfl) (by intro h; exact h.elim id fun h => absurd h.1 (by simp)) trivial) (by decide) rfl
end Go.Proofs.YteeifahhejangaaGreatDoor
namespace Go.Proofs.YteeifahhejangaaGreatDoor
open Go Sim
def dlb (L : List (List Nat)) : Value := deep L.length 1 (L.map db)
def dr (xs : List Fp) : Value := deep xs.length 1 (xs.map dv)
def tb (L : List (List Nat)) : List Fp := L.map nb
theorem tb_len (L : List (List Nat)) : (tb L).length = L.length := List.length_map ..
theorem getD3 {L3 : List (List (List Nat))} {j : Nat} (h : j < L3.length) : L3.getD j [] ∈ L3 := by
  rw [List.getD_eq_getElem?_getD, List.getElem?_eq_getElem h]; exact List.getElem_mem h
theorem takeL3 {L3 : List (List (List Nat))} {i : Nat} (h : i < L3.length) : L3.take i ++ [L3.getD i []] = L3.take (i + 1) := by
  rw [List.take_succ_eq_append_getElem h, List.getD_eq_getElem?_getD, List.getElem?_eq_getElem h]; rfl
def few3 (L3 : List (List (List Nat))) : Bool := (L3.all fun L => fewB L 40) && decide (L3.length ≤ 5)
theorem few3_bad {L3 : List (List (List Nat))} {i : Nat} (hi : i < L3.length) (h : fewB (L3.getD i []) 40 = false) : few3 L3 = false := by
  rw [few3, Bool.and_eq_false_iff]
  left
  rw [List.all_eq_false]
  exact ⟨_, getD3 hi, by rw [h]; decide⟩
theorem few3_ok {L3 : List (List (List Nat))} (h : ∀ j, j < L3.length → fewB (L3.getD j []) 40 = true) : few3 L3 = decide (L3.length ≤ 5) := by
  rw [few3, List.all_eq_true.2 (fun L hL => ?_), Bool.true_and]
  obtain ⟨j, hj⟩ := List.mem_iff_getElem?.1 hL
  have := h j (List.getElem?_eq_some_iff.1 hj).1
  rwa [List.getD_eq_getElem?_getD, hj] at this
theorem few3_get {L3 : List (List (List Nat))} (h : few3 L3 = true) : (∀ L ∈ L3, fewB L 40 = true) ∧ L3.length ≤ 5 := by
  rw [few3, Bool.and_eq_true] at h
  exact ⟨List.all_eq_true.1 h.1, of_decide_eq_true h.2⟩
theorem few3_ctr {L3 : List (List (List Nat))} {k : Nat} (hk : L3.length = k) (hk6 : k ≤ 9223372036854775807) (hm3 : ∀ L ∈ L3, L.length ≤ 9223372036854775807) : GC Tryz.prog 5 [.slice (some ⟨0, 0, none⟩) k 0] [⟨L3.map (dlb), false, 1⟩] [.bool (few3 L3)] [⟨L3.map (dlb), false, 1⟩] := by
  refine GC.intro Tryz.func5 rfl (by show 1 ≤ 18; decide) (by first | exact Nat.le_refl _ | decide | simp) ?_
  subst hk
  refine AW.seqR ?_
  refine AWo.pure (PureOp.assign rfl) rfl rfl ?_
  refine AWo.nil trivial ?_
  refine AW.seq ?_
  refine AW.seqR ?_
  refine AWo.pure (PureOp.move rfl) rfl rfl ?_
  first | refine AWo.pure (PureOp.lenS tbok rfl rfl) rfl rfl ?_ | refine AWo.pure (PureOp.lenD tbok rfl rfl) rfl rfl ?_
  refine AWo.pure (PureOp.move rfl) rfl rfl ?_
  refine AWo.nil trivial ?_
  refine AW.block ?_
  refine AW.loopw (fun mm σ => ∃ i, (i ≤ L3.length ∧ ∀ j, j < i → fewB (L3.getD j []) 40 = true) ∧ mm = L3.length - i ∧ σ = ⟨(upd (upd (upd (upd emp 0 (.slice (some ⟨0, 0, none⟩) L3.length 0)) 5 (.slice (some ⟨0, 0, none⟩) L3.length 0)) 6 (vi .i64 L3.length)) 7 (vi .i64 i)), (upd emp 0 ⟨L3.map (dlb), false, 1⟩)⟩) (fm := []) ?_ ⟨0, ⟨Nat.zero_le _, fun j hj => absurd hj (Nat.not_lt_zero j)⟩, rfl, rfl⟩ ?_
  ·
    refine Wk.of [0] ?_ ?_ ?_ (by decide) rfl
    ·
      refine WkE.upd rfl (by first | exact VR.flat _ rfl | exact VR.eqv (vp_succ _) rfl | exact VR.eqv (vp_succ _).symm rfl | exact VR.eqv (by first | rfl | (congr 1; omega) | (simp; done) | (simp; omega)) rfl) ?_
      refine WkE.upd rfl (by first | exact VR.flat _ rfl | exact VR.eqv (vp_succ _) rfl | exact VR.eqv (vp_succ _).symm rfl | exact VR.eqv (by first | rfl | (congr 1; omega) | (simp; done) | (simp; omega)) rfl) ?_
      refine WkE.upd rfl (.slice (0) 0 _ 0 ⟨_, rfl⟩ (by simp) (by simp)) ?_
      refine WkE.upd rfl (.slice (0) 0 _ 0 ⟨_, rfl⟩ (by simp) (by simp)) ?_
      exact WkE.emp
    ·
      refine WkM.cloM rfl rfl (fun _ => rfl) (fun h => h) ?_
      exact WkM.emp
    ·
      repeat (refine dom_upd_mem (by decide) ?_)
      exact dom_emp
  ·
    rintro mm σ ⟨i, ⟨hinv, hall⟩, rfl, rfl⟩
    refine AW.seqR ?_
    first | refine AWo.pure (PureOp.ltN rfl rfl) rfl rfl ?_ | refine AWo.pure (PureOp.bin rfl rfl rfl) rfl rfl ?_
    refine AWo.nil trivial ?_
    refine AW.seq ?_
    refine AW.cond rfl (fun hb0 => ?_) (fun hb0 => ?_)
    ·
      have hi : i < L3.length := of_decide_eq_true hb0
      refine AW.skip ?_
      refine thenA_normal ?_
      refine AW.seq ?_
      refine AW.block ?_
      refine AW.seqR ?_
      first | refine AWo.pure (PureOp.idx1 tbok rfl rfl rfl rfl (by first | decide | omega)) rfl rfl ?_ | refine AWo.pure (PureOp.idx tbok rfl rfl rfl rfl (by first | decide | omega)) rfl rfl ?_
      refine AWo.loadM tbok (f := dlb) [] rfl rfl rfl (by omega) rfl rfl ?_
      refine AWo.pure (PureOp.assign rfl) rfl rfl ?_
      refine AWo.nil trivial ?_
      refine AW.seqR ?_
      refine AWo.pureX 12000 (n := (L3.getD i []).length) (es := 1) (cells := (L3.getD i []).map db) (PureOp.move rfl) rfl rfl rfl ?_
      refine AWo.callX (few22_ctr (Ls := (L3.getD i [])) (most := 40) (hm3 _ (getD3 hi)) (by decide)) bd17 [(12000, 0)] [] rfl (.cons rfl (.cons rfl .nil)) rfl (.cons rfl rfl (.cons rfl rfl .nil)) (.clo rfl (cloM fun _ => rfl) (by intro h; first | exact h | rfl) .nil) rfl (.keep rfl .nil) frN (by decide) (.cons rfl rfl .nil) rfl rfl rfl rfl ?_
      refine AWo.pure (PureOp.not rfl) rfl rfl ?_
      refine AWo.nil trivial ?_
      refine AW.cond rfl (fun hb1 => ?_) (fun hb1 => ?_)
      ·
        have hbd := hb1
        refine AW.seqR ?_
        refine AWo.pure (PureOp.assign rfl) rfl rfl ?_
        refine AWo.nil trivial ?_
        refine AW.ret ?_
        refine inBlockA_ret ?_
        refine thenA_ret ?_
        refine thenA_ret ?_
        refine inBlockA_ret ?_
        refine thenA_ret ?_
        rw [few3_bad hi (by simpa using hbd)]
        refine RetQ.gc [_] [] [.tmp 2] (.inl rfl) rfl (.tmp rfl .nil) rfl (.pure rfl .nil) (OutL.clo rfl (cloM fun _ => rfl) (by intro h; exact h.elim id fun h => absurd h.1 (by simp)) trivial) (by decide) rfl
      ·
        have hgd : fewB (L3.getD i []) 40 = true := by simpa using hb1
        refine AW.skip ?_
        refine inBlockA_normal ?_
        refine thenA_normal ?_
        refine AW.region ?_
        first | refine AWo.pure (PureOp.addI (b := 1) rfl rfl (by first | decide | omega)) rfl rfl ?_ | refine AWo.pure (PureOp.bin rfl rfl rfl) rfl rfl ?_
        refine AWo.pure (PureOp.move rfl) rfl rfl ?_
        refine AWo.nil trivial ?_
        refine thenA_normal ?_
        refine ⟨L3.length - (i + 1), [], _, by omega, ?_, i + 1, ⟨by omega, fun j hj => (Nat.lt_succ_iff_lt_or_eq.1 hj).elim (hall j) (fun e => e ▸ hgd)⟩, rfl, rfl⟩
        refine Wk.of [0] ?_ ?_ ?_ (by decide) rfl
        ·
          refine WkE.upd rfl (by first | exact VR.flat _ rfl | exact VR.eqv (vp_succ _) rfl | exact VR.eqv (vp_succ _).symm rfl | exact VR.eqv (by first | rfl | (congr 1; omega) | (simp; done) | (simp; omega)) rfl) ?_
          refine WkE.upd rfl (by first | exact VR.flat _ rfl | exact VR.eqv (vp_succ _) rfl | exact VR.eqv (vp_succ _).symm rfl | exact VR.eqv (by first | rfl | (congr 1; omega) | (simp; done) | (simp; omega)) rfl) ?_
          refine WkE.upd rfl (.slice (0) 0 _ 0 ⟨_, rfl⟩ (by simp) (by simp)) ?_
          refine WkE.upd rfl (.slice (0) 0 _ 0 ⟨_, rfl⟩ (by simp) (by simp)) ?_
          exact WkE.emp
        ·
          refine WkM.cloM rfl rfl (fun _ => rfl) (fun h => h) ?_
          exact WkM.emp
        ·
          repeat (refine dom_upd_mem (by decide) ?_)
          exact dom_emp
    ·
      obtain rfl : i = L3.length := by have := of_decide_eq_false hb0; omega
      refine AW.exit ?_
      refine thenA_exit ?_
      refine thenA_exit ?_
      refine inBlockA_hit ?_
      refine thenA_normal ?_
      refine AW.seqR ?_
      refine AWo.pure (PureOp.move rfl) rfl rfl ?_
      first | refine AWo.pure (PureOp.lenS tbok rfl rfl) rfl rfl ?_ | refine AWo.pure (PureOp.lenD tbok rfl rfl) rfl rfl ?_
      first | refine AWo.pure (PureOp.leN (b := 5) rfl rfl) rfl rfl ?_ | refine AWo.pure (PureOp.bin rfl rfl rfl) rfl rfl ?_
      refine AWo.pure (PureOp.assign rfl) rfl rfl ?_
      refine AWo.nil trivial ?_
      refine AW.ret ?_
      rw [few3_ok hall]
      refine RetQ.gc [_] [] [.tmp 2] (.inl rfl) rfl (.tmp rfl .nil) rfl (.cons rfl rfl .nil) (OutL.clo rfl (cloM fun _ => rfl) (by intro h; exact h.elim id fun h => absurd h.1 (by simp)) trivial) (by decide) rfl
theorem ofs_ctr {L3 : List (List (List Nat))} {k : Nat} (hk : L3.length = k) (hk6 : k < 1000000) (hB3 : ∀ L ∈ L3, ∀ b ∈ L, bd 256 b) (hS3 : ∀ L ∈ L3, ∀ b ∈ L, b.length ≤ 40) (hn3 : ∀ L ∈ L3, L.length < 1000000) : GC Tryz.prog 6 [.slice (some ⟨0, 0, none⟩) k 0] [⟨L3.map (dlb), false, 1⟩] [.slice (some ⟨1, 0, none⟩) k 0, .slice (some ⟨2, 0, none⟩) k 0] [⟨L3.map (dlb), false, 1⟩, ⟨(L3.map tb).map dt, true, 1⟩, ⟨(L3.map tb).map dr, true, 1⟩] := by
  refine GC.intro Tryz.func6 rfl (by show 1 ≤ 33; decide) (by first | exact Nat.le_refl _ | decide | simp) ?_
  subst hk
  refine AW.ghost 77000 1 rfl ?_
  refine AW.seqR ?_
  refine AWo.pure (PureOp.assign rfl) rfl rfl ?_
  refine AWo.pure (PureOp.assign rfl) rfl rfl ?_
  refine AWo.nil trivial ?_
  refine AW.seqR ?_
  refine AWo.pure (PureOp.assign rfl) rfl rfl ?_
  refine AWo.nil trivial ?_
  refine AW.seqR ?_
  refine AWo.buildSlice tbok 11000 [] (out := []) rfl rfl (by decide) rfl rfl rfl (by decide) rfl rfl rfl rfl rfl ?_
  refine AWo.pure (PureOp.assign rfl) rfl rfl ?_
  refine AWo.nil trivial ?_
  refine AW.seq ?_
  refine AW.seqR ?_
  refine AWo.pure (PureOp.move rfl) rfl rfl ?_
  first | refine AWo.pure (PureOp.lenS tbok rfl rfl) rfl rfl ?_ | refine AWo.pure (PureOp.lenD tbok rfl rfl) rfl rfl ?_
  refine AWo.pure (PureOp.move rfl) rfl rfl ?_
  refine AWo.nil trivial ?_
  refine AW.block ?_
  refine AW.loopw (fun mm σ => ∃ i, (i ≤ L3.length) ∧ mm = L3.length - i ∧ σ = ⟨(upd (upd (upd (upd (upd (upd emp 0 (.slice (some ⟨0, 0, none⟩) L3.length 0)) 4 (.slice (some ⟨77000, 0, none⟩) i 0)) 5 (.slice (some ⟨78000, 0, none⟩) i 0)) 11 (.slice (some ⟨0, 0, none⟩) L3.length 0)) 12 (vi .i64 L3.length)) 13 (vi .i64 i)), (upd (upd (upd emp 0 ⟨L3.map (dlb), false, 1⟩) 77000 ⟨((L3.take i).map tb).map dt, true, 1⟩) 78000 ⟨((L3.take i).map tb).map dr, true, 1⟩)⟩) (fm := [(78000, 11000)]) ?_ ⟨0, Nat.zero_le _, rfl, rfl⟩ ?_
  ·
    refine Wk.of [0, 77000, 78000] ?_ ?_ ?_ (by decide) rfl
    ·
      refine WkE.upd rfl (by first | exact VR.flat _ rfl | exact VR.eqv (vp_succ _) rfl | exact VR.eqv (vp_succ _).symm rfl | exact VR.eqv (by first | rfl | (congr 1; omega) | (simp; done) | (simp; omega)) rfl) ?_
      refine WkE.upd rfl (by first | exact VR.flat _ rfl | exact VR.eqv (vp_succ _) rfl | exact VR.eqv (vp_succ _).symm rfl | exact VR.eqv (by first | rfl | (congr 1; omega) | (simp; done) | (simp; omega)) rfl) ?_
      refine WkE.upd rfl (.slice (0) 0 _ 0 ⟨_, rfl⟩ (by simp) (by simp)) ?_
      refine WkE.upd rfl (by first | exact .nilS _ (by simp) | exact .slice (78000) 0 _ 0 ⟨_, rfl⟩ (by simp) (by simp)) ?_
      refine WkE.upd rfl (by first | exact .nilS _ (by simp) | exact .slice (77000) 0 _ 0 ⟨_, rfl⟩ (by simp) (by simp)) ?_
      refine WkE.upd rfl (.slice (0) 0 _ 0 ⟨_, rfl⟩ (by simp) (by simp)) ?_
      exact WkE.emp
    ·
      refine WkM.cloM rfl rfl (fun _ => rfl) (fun h => h) ?_
      refine WkM.cloM rfl rfl (fun _ => rfl) (fun h => h) ?_
      refine WkM.cloM rfl rfl (fun _ => rfl) (fun h => h) ?_
      exact WkM.emp
    ·
      repeat (refine dom_upd_mem (by decide) ?_)
      exact dom_emp
  ·
    rintro mm σ ⟨i, hinv, rfl, rfl⟩
    refine AW.seqR ?_
    first | refine AWo.pure (PureOp.ltN rfl rfl) rfl rfl ?_ | refine AWo.pure (PureOp.bin rfl rfl rfl) rfl rfl ?_
    refine AWo.nil trivial ?_
    refine AW.seq ?_
    refine AW.cond rfl (fun hb0 => ?_) (fun hb0 => ?_)
    ·
      have hi : i < L3.length := of_decide_eq_true hb0
      refine AW.skip ?_
      refine thenA_normal ?_
      refine AW.seq ?_
      refine AW.block ?_
      refine AW.seqR ?_
      first | refine AWo.pure (PureOp.idx1 tbok rfl rfl rfl rfl (by first | decide | omega)) rfl rfl ?_ | refine AWo.pure (PureOp.idx tbok rfl rfl rfl rfl (by first | decide | omega)) rfl rfl ?_
      refine AWo.loadM tbok (f := dlb) [] rfl rfl rfl (by omega) rfl rfl ?_
      refine AWo.pure (PureOp.assign rfl) rfl rfl ?_
      refine AWo.nil trivial ?_
      refine AW.seqR ?_
      refine AWo.pureX 19000 (n := (L3.getD i []).length) (es := 1) (cells := (L3.getD i []).map db) (PureOp.move rfl) rfl rfl rfl ?_
      refine AWo.callX (of23_ctr (Ls := (L3.getD i [])) (hB3 _ (getD3 hi)) (hS3 _ (getD3 hi)) (hn3 _ (getD3 hi))) bd18 [(19000, 0)] [20000, 20001] rfl (.cons rfl .nil) rfl (.cons rfl rfl .nil) (.clo rfl (cloM fun _ => rfl) (by intro h; first | exact h | rfl) .nil) rfl (.keep rfl (.new (flat_map_ren (flatM flat_vi)) (OkL.flat (flatM flat_vi)) (.new (clo_map_ren (cloM fun _ => rfl)) (OkL.clo (cloM fun _ => rfl)) .nil))) (frC rfl (frC rfl frN)) (by decide) (.cons rfl rfl (.cons rfl rfl .nil)) rfl rfl rfl rfl ?_
      refine AWo.pure (PureOp.move rfl) rfl rfl ?_
      refine AWo.pure (PureOp.extract rfl rfl) rfl rfl ?_
      refine AWo.pure (PureOp.extract rfl rfl) rfl rfl ?_
      refine AWo.pure (PureOp.assign rfl) rfl rfl ?_
      refine AWo.pure (PureOp.assign rfl) rfl rfl ?_
      refine AWo.nil trivial ?_
      refine AW.freeze 8 20000 (((((L3.getD i []).map nb).map fe).flatten).map (vi .u64)) ?_ rfl rfl (cloM fun _ => rfl) (by show 0 + (L3.getD i []).length * 4 ≤ _; rw [FF_len4, List.length_map]; omega) (by show List.take ((L3.getD i []).length * 4) (List.drop 0 _) = _; rw [List.drop_zero]; exact List.take_of_length_le (by rw [FF_len4, List.length_map]; omega))
      rw [show deep (L3.getD i []).length 4 (((((L3.getD i []).map nb).map fe).flatten).map (vi .u64)) = dt (tb (L3.getD i [])) by rw [dt, tb_len]; rfl]
      refine AW.freeze 9 20001 (((L3.getD i []).map nb).map dv) ?_ rfl rfl (cloM fun _ => rfl) (by show 0 + (L3.getD i []).length * 1 ≤ _; rw [List.length_map, List.length_map]; omega) (by show List.take ((L3.getD i []).length * 1) (List.drop 0 _) = _; rw [List.drop_zero]; exact List.take_of_length_le (by rw [List.length_map, List.length_map]; omega))
      rw [show deep (L3.getD i []).length 1 (((L3.getD i []).map nb).map dv) = dr (tb (L3.getD i [])) by rw [dr, tb_len]; rfl]
      refine AW.seqR ?_
      refine AWo.pure (PureOp.move rfl) rfl rfl ?_
      refine AWo.pure (PureOp.move rfl) rfl rfl ?_
      refine AWo.buildSlice tbok 25000 [(0, dt (tb (L3.getD i [])))] (out := [dt (tb (L3.getD i []))]) rfl rfl (by decide) rfl rfl rfl (by decide) rfl rfl rfl rfl rfl ?_
      refine AWo.append tbok (all := ((L3.take (i + 1)).map tb).map dt) (news := [dt (tb (L3.getD i []))]) 26000 rfl rfl rfl rfl (by simp; omega) (by show List.take _ (List.drop 0 _) = _; rw [List.drop_zero]; exact List.take_of_length_le (by simp)) (by first | decide | (simp; done) | (simp; omega)) (by decide) rfl rfl rfl (by first | decide | exact Nat.one_ne_zero) rfl rfl rfl (by first | decide | omega) (by first | decide | omega) (by rfl) (by rw [← takeL3 hi, List.map_append, List.map_append]; rfl) rfl rfl ?_
      refine AWo.pure (PureOp.assign rfl) rfl rfl ?_
      refine AWo.nil trivial ?_
      refine AW.region ?_
      refine AWo.pure (PureOp.move rfl) rfl rfl ?_
      refine AWo.pure (PureOp.move rfl) rfl rfl ?_
      refine AWo.buildSlice tbok 29000 [(0, dr (tb (L3.getD i [])))] (out := [dr (tb (L3.getD i []))]) rfl rfl (by decide) rfl rfl rfl (by decide) rfl rfl rfl rfl rfl ?_
      refine AWo.append tbok (all := ((L3.take (i + 1)).map tb).map dr) (news := [dr (tb (L3.getD i []))]) 30000 rfl rfl rfl rfl (by simp; omega) (by show List.take _ (List.drop 0 _) = _; rw [List.drop_zero]; exact List.take_of_length_le (by simp)) (by first | decide | (simp; done) | (simp; omega)) (by decide) rfl rfl rfl (by first | decide | exact Nat.one_ne_zero) rfl rfl rfl (by first | decide | omega) (by first | decide | omega) (by rfl) (by rw [← takeL3 hi, List.map_append, List.map_append]; rfl) rfl rfl ?_
      refine AWo.pure (PureOp.assign rfl) rfl rfl ?_
      refine AWo.nil trivial ?_
      refine inBlockA_normal ?_
      refine thenA_normal ?_
      refine AW.region ?_
      first | refine AWo.pure (PureOp.addI (b := 1) rfl rfl (by first | decide | omega)) rfl rfl ?_ | refine AWo.pure (PureOp.bin rfl rfl rfl) rfl rfl ?_
      refine AWo.pure (PureOp.move rfl) rfl rfl ?_
      refine AWo.nil trivial ?_
      refine thenA_normal ?_
      refine ⟨L3.length - (i + 1), [(77000, 26000), (78000, 30000)], _, by omega, ?_, i + 1, by omega, rfl, rfl⟩
      refine Wk.of [0, 77000, 78000] ?_ ?_ ?_ (by decide) rfl
      ·
        refine WkE.upd rfl (by first | exact VR.flat _ rfl | exact VR.eqv (vp_succ _) rfl | exact VR.eqv (vp_succ _).symm rfl | exact VR.eqv (by first | rfl | (congr 1; omega) | (simp; done) | (simp; omega)) rfl) ?_
        refine WkE.upd rfl (by first | exact VR.flat _ rfl | exact VR.eqv (vp_succ _) rfl | exact VR.eqv (vp_succ _).symm rfl | exact VR.eqv (by first | rfl | (congr 1; omega) | (simp; done) | (simp; omega)) rfl) ?_
        refine WkE.upd rfl (.slice (0) 0 _ 0 ⟨_, rfl⟩ (by simp) (by simp)) ?_
        refine WkE.upd rfl (by first | exact .nilS _ (by simp) | exact .slice (78000) 0 _ 0 ⟨_, rfl⟩ (by simp) (by simp)) ?_
        refine WkE.upd rfl (by first | exact .nilS _ (by simp) | exact .slice (77000) 0 _ 0 ⟨_, rfl⟩ (by simp) (by simp)) ?_
        refine WkE.upd rfl (.slice (0) 0 _ 0 ⟨_, rfl⟩ (by simp) (by simp)) ?_
        exact WkE.emp
      ·
        refine WkM.cloM rfl rfl (fun _ => rfl) (fun h => h) ?_
        refine WkM.cloM rfl rfl (fun _ => rfl) (fun h => h) ?_
        refine WkM.cloM rfl rfl (fun _ => rfl) (fun h => h) ?_
        exact WkM.emp
      ·
        repeat (refine dom_upd_mem (by decide) ?_)
        exact dom_emp
    ·
      obtain rfl : i = L3.length := by have := of_decide_eq_false hb0; omega
      rw [List.take_length]
      refine AW.exit ?_
      refine thenA_exit ?_
      refine thenA_exit ?_
      refine inBlockA_hit ?_
      refine thenA_normal ?_
      refine AW.seqR ?_
      refine AWo.pure (PureOp.move rfl) rfl rfl ?_
      refine AWo.pure (PureOp.move rfl) rfl rfl ?_
      refine AWo.pure (PureOp.assign rfl) rfl rfl ?_
      refine AWo.pure (PureOp.assign rfl) rfl rfl ?_
      refine AWo.nil trivial ?_
      refine AW.ret ?_
      refine RetQ.gc [_, _] [77000, 78000] [.tmp 2, .tmp 3] (.inl rfl) rfl (.tmp rfl (.tmp rfl .nil)) rfl (.cons rfl rfl (.cons rfl rfl .nil)) (OutL.clo rfl (cloM fun _ => rfl) (by intro h; first | rfl | exact h.elim id fun h => absurd h.1 (by simp)) (OutL.clo rfl (cloM fun _ => rfl) (by intro h; first | rfl | exact h.elim id fun h => absurd h.1 (by simp)) (OutL.clo rfl (cloM fun _ => rfl) (by intro h; first | rfl | exact h.elim id fun h => absurd h.1 (by simp)) trivial))) (by decide) rfl
theorem fix_d {xs : List Fp} {x : Fp} (hx : xs.length < 1000000) : GC Tryz.prog 26 [dt xs, .agg ((fe (x)).map (vi .u64)).toArray] [] [dt (fixT xs x)] [] :=
  GC.deepen (fix_ctr (xs := xs) (x := x) rfl hx) (.deep (.pure (cloA flat_vi) .nil)) (.new (Nat.le_refl _) rfl (by rw [FF_len4]) (cloM fun _ => rfl) .nil)
end Go.Proofs.YteeifahhejangaaGreatDoor
namespace Go.Proofs.YteeifahhejangaaGreatDoor
open Go Sim
def rTs (Ts : List (List Fp)) (c : Nat) : List (List Fp) := Ts.map fun t => fixT t (fp c)
def rV (Ts : List (List Fp)) (c : Nat) : Fp := smN (prT (rTs Ts c)) ((Ts.getD 0 []).length / 2)
def pad (p : List Fp) (n : Nat) : List Fp := p ++ List.replicate (n - p.length) 0
def roT (Ts : List (List Fp)) : List Fp := if chC Ts = 0 ∧ ¬ chV Ts = 0 then pad (thr ((List.range (Ts.length + 1)).map (rV Ts))) (Ts.length + 1) else []
def roC (Ts : List (List Fp)) : Int := if chC Ts = 0 then (if chV Ts = 0 then 13 else 0) else chC Ts
theorem rTs_len (Ts : List (List Fp)) (c : Nat) : (rTs Ts c).length = Ts.length := List.length_map ..
theorem pad_len {p : List Fp} {n : Nat} (h : p.length ≤ n) : (pad p n).length = n := by simp [pad]; omega
theorem pad_FF {p : List Fp} {n : Nat} (h : p.length ≤ n) : setL ((((List.replicate n (0 : Fp)).map fe).flatten).map (vi .u64)) 0 (((p.map fe).flatten).map (vi .u64)) = (((pad p n).map fe).flatten).map (vi .u64) := by
  have e : List.replicate n (0 : Fp) = List.replicate p.length 0 ++ List.replicate (n - p.length) 0 := by
    rw [List.replicate_append_replicate]; congr 1; omega
  rw [e, pad, List.map_append, List.flatten_append, List.map_append, List.map_append, List.flatten_append, List.map_append, setL_head]
  rw [FF_len4, FF_len4, List.length_replicate]
def rp (Ts : List (List Fp)) (c j : Nat) : List (List Fp) := (List.range Ts.length).map fun i => if i < j then fixT (Ts.getD i []) (fp c) else []
theorem rp_len (Ts : List (List Fp)) (c j : Nat) : (rp Ts c j).length = Ts.length := by simp [rp]
theorem rp_zero {Ts : List (List Fp)} {c k : Nat} {v : Value} (h : ((rp Ts c 0).map dt)[k]? = some v) : v = dt [] := by
  have hk := (List.getElem?_eq_some_iff.1 h).1
  simp only [List.length_map, rp_len] at hk
  rw [rp, List.getElem?_map, List.getElem?_map, List.getElem?_range hk] at h
  simpa using h.symm
theorem rp_set {Ts : List (List Fp)} {c j : Nat} (_hj : j < Ts.length) : (rp Ts c j).set j (fixT (Ts.getD j []) (fp c)) = rp Ts c (j + 1) := by
  refine List.ext_getElem (by simp [rp]) fun i h1 h2 => ?_
  simp only [rp, List.getElem_set, List.getElem_map, List.getElem_range]
  by_cases h : j = i
  · subst h; rw [if_pos rfl, if_pos (Nat.lt_succ_self j)]
  · rw [if_neg h]
    by_cases hj : i < j
    · rw [if_pos hj, if_pos (by omega)]
    · rw [if_neg hj, if_neg (by omega)]
theorem rp_all (Ts : List (List Fp)) (c : Nat) : rp Ts c Ts.length = rTs Ts c := by
  refine List.ext_getElem (by simp [rp, rTs]) fun i h1 h2 => ?_
  rw [rp_len] at h1
  simp only [rp, rTs, List.getElem_map, List.getElem_range, if_pos h1, List.getD_eq_getElem?_getD, List.getElem?_eq_getElem h1, Option.getD_some]
theorem ch_fix {Ts : List (List Fp)} (hc : chC Ts = 0) (hv : ¬ chV Ts = 0) : ∀ t ∈ Ts, t.length = (Ts.getD 0 []).length ∧ isV t.length = true ∧ ¬ vN t.length = 0 := by
  have e : chV Ts = vN (Ts.getD 0 []).length := if_pos hc
  rw [e] at hv
  have h1 := ch_zero hc
  have h2 : isV (Ts.getD 0 []).length = true := by
    cases h : isV (Ts.getD 0 []).length with
    | true => rfl
    | false => exact absurd (vN_no h) hv
  intro t ht
  have := h1.2 t ht
  exact ⟨this, by rw [this]; exact h2, by rw [this]; exact hv⟩
theorem rTs_m {Ts : List (List Fp)} {c : Nat} (hc : chC Ts = 0) (hv : ¬ chV Ts = 0) : ∀ t ∈ rTs Ts c, t.length = (Ts.getD 0 []).length / 2 := by
  intro t ht
  obtain ⟨s, hs, rfl⟩ := List.mem_map.1 ht
  obtain ⟨h1, h2, h3⟩ := ch_fix hc hv s hs
  rw [fix_L h2 h3, fixL_len, h1]
theorem thr_le3 {vs : List Fp} {n : Nat} (h : vs.length = n) : (thr vs).length ≤ n := by
  rw [thr]
  exact Nat.le_trans (tr_le _) (h ▸ nwL_len2 _ _ _)
where
  tr_le (p : List Fp) : (Po.tr p).length ≤ p.length := by rw [Po.tr_len]; exact Po.dg_le p
theorem round_ctr {Ts : List (List Fp)} {k : Nat} (hk : Ts.length = k) (hk6 : k < 1000) (hs : ∀ t ∈ Ts, t.length < 1000000) : GC Tryz.prog 10 [.slice (some ⟨0, 0, none⟩) k 0] [⟨Ts.map (dt), false, 1⟩] [.slice (some ⟨1, 0, none⟩) (roT Ts).length 0, .int .i64 (roC Ts)] [⟨Ts.map (dt), false, 1⟩, ⟨(((roT Ts).map fe).flatten).map (vi .u64), true, 4⟩] := by
  refine GC.intro Tryz.func10 rfl (by show 1 ≤ 64; decide) (by first | exact Nat.le_refl _ | decide | simp) ?_
  subst hk
  refine AW.ghost 77000 4 rfl ?_
  refine AW.seqR ?_
  refine AWo.pure (PureOp.assign rfl) rfl rfl ?_
  refine AWo.pure (PureOp.assign rfl) rfl rfl ?_
  refine AWo.nil trivial ?_
  refine AW.seqR ?_
  refine AWo.pure (PureOp.move rfl) rfl rfl ?_
  refine AWo.callX (check_ctr (Ts := Ts) (k := Ts.length) rfl (by omega) hs) bd19 [(0, 0)] [] rfl (.cons rfl .nil) rfl (.cons rfl rfl .nil) (.clo rfl (cloM fun _ => rfl) (by intro h; first | exact h | rfl) .nil) rfl (.keep rfl .nil) frN (by decide) (.cons rfl rfl (.cons rfl rfl .nil)) rfl rfl rfl rfl ?_
  refine AWo.pure (PureOp.move rfl) rfl rfl ?_
  refine AWo.pure (PureOp.extract rfl rfl) rfl rfl ?_
  refine AWo.pure (PureOp.extract rfl rfl) rfl rfl ?_
  refine AWo.pure (PureOp.assign rfl) rfl rfl ?_
  refine AWo.pure (PureOp.assign rfl) rfl rfl ?_
  refine AWo.nil trivial ?_
  refine AW.seq ?_
  refine AW.block ?_
  refine AW.seqR ?_
  refine AWo.pure (PureOp.move rfl) rfl rfl ?_
  first | refine AWo.pure (PureOp.neN (b := 0) rfl rfl) rfl rfl ?_ | refine AWo.pure (PureOp.bin rfl rfl rfl) rfl rfl ?_
  refine AWo.pure (PureOp.assign rfl) rfl rfl ?_
  refine AWo.nil trivial ?_
  refine AW.cond rfl (fun hb0 => ?_) (fun hb0 => ?_)
  ·
    have hc : ¬ chC Ts = 0 := by simpa using hb0
    refine AW.seqR ?_
    refine AWo.pure (PureOp.move rfl) rfl rfl ?_
    refine AWo.pure (PureOp.assign rfl) rfl rfl ?_
    refine AWo.pure (PureOp.assign rfl) rfl rfl ?_
    refine AWo.nil trivial ?_
    refine AW.ret ?_
    refine inBlockA_ret ?_
    refine thenA_ret ?_
    rw [show roT Ts = [] from if_neg fun h => hc h.1, show roC Ts = chC Ts from if_neg hc]
    refine RetQ.gc [_, _] [77000] [.tmp 2, .tmp 3] (.inl rfl) rfl (.tmp rfl (.tmp rfl .nil)) rfl (.nilS (.cons rfl rfl .nil)) (OutL.clo rfl (cloM fun _ => rfl) (by intro h; exact h.elim id fun h => absurd h.1 (by simp)) (OutL.flat rfl (flatM flat_vi) (fun _ => rfl) trivial)) (by decide) rfl
  ·
    have hc : chC Ts = 0 := by simpa using hb0
    obtain ⟨hq0, hqm⟩ := ch_zero hc
    refine AW.seqR ?_
    refine AWo.pure (PureOp.move rfl) rfl rfl ?_
    first | refine AWo.pure (PureOp.eqN (b := 0) rfl rfl) rfl rfl ?_ | refine AWo.pure (PureOp.bin rfl rfl rfl) rfl rfl ?_
    refine AWo.pure (PureOp.assign rfl) rfl rfl ?_
    refine AWo.nil trivial ?_
    refine AW.cond rfl (fun hb1 => ?_) (fun hb1 => ?_)
    ·
      have hv : chV Ts = 0 := by simpa using hb1
      refine AW.seqR ?_
      refine AWo.pure (PureOp.assign rfl) rfl rfl ?_
      refine AWo.pure (PureOp.assign rfl) rfl rfl ?_
      refine AWo.nil trivial ?_
      refine AW.ret ?_
      refine inBlockA_ret ?_
      refine thenA_ret ?_
      rw [show roT Ts = [] from if_neg fun h => h.2 hv, show roC Ts = 13 by rw [roC, if_pos hc, if_pos hv]]
      refine RetQ.gc [_, _] [77000] [.tmp 2, .tmp 3] (.inl rfl) rfl (.tmp rfl (.tmp rfl .nil)) rfl (.nilS (.pure rfl .nil)) (OutL.clo rfl (cloM fun _ => rfl) (by intro h; exact h.elim id fun h => absurd h.1 (by simp)) (OutL.flat rfl (flatM flat_vi) (fun _ => rfl) trivial)) (by decide) rfl
    ·
      have hv : ¬ chV Ts = 0 := by simpa using hb1
      refine AW.skip ?_
      refine inBlockA_normal ?_
      refine thenA_normal ?_
      refine AW.seqR ?_
      refine AWo.pure (PureOp.assign rfl) rfl rfl ?_
      refine AWo.nil trivial ?_
      refine AW.seq ?_
      refine AW.seqR ?_
      refine AWo.pure (PureOp.move rfl) rfl rfl ?_
      first | refine AWo.pure (PureOp.lenS tbok rfl rfl) rfl rfl ?_ | refine AWo.pure (PureOp.lenD tbok rfl rfl) rfl rfl ?_
      first | refine AWo.pure (PureOp.addI (b := 1) rfl rfl (by first | decide | omega)) rfl rfl ?_ | refine AWo.pure (PureOp.bin rfl rfl rfl) rfl rfl ?_
      refine AWo.pure (PureOp.move rfl) rfl rfl ?_
      refine AWo.nil trivial ?_
      refine AW.block ?_
      refine AW.loopw (fun mm σ => ∃ c, (c ≤ (Ts.length + 1)) ∧ mm = (Ts.length + 1) - c ∧ σ = ⟨(upd (upd (upd (upd emp 0 (.slice (some ⟨0, 0, none⟩) Ts.length 0)) 6 (.slice (some ⟨77000, 0, none⟩) c 0)) 26 (vi .i64 (Ts.length + 1))) 27 (vi .i64 c)), (upd (upd emp 0 ⟨Ts.map (dt), false, 1⟩) 77000 ⟨((((List.range c).map (rV Ts)).map fe).flatten).map (vi .u64), true, 4⟩)⟩) (fm := []) ?_ ⟨0, Nat.zero_le _, rfl, rfl⟩ ?_
      ·
        refine Wk.of [0, 77000] ?_ ?_ ?_ (by decide) rfl
        ·
          refine WkE.upd rfl (by first | exact VR.flat _ rfl | exact VR.eqv (vp_succ _) rfl | exact VR.eqv (vp_succ _).symm rfl | exact VR.eqv (by first | rfl | (congr 1; omega) | (simp; done) | (simp; omega)) rfl) ?_
          refine WkE.upd rfl (by first | exact VR.flat _ rfl | exact VR.eqv (vp_succ _) rfl | exact VR.eqv (vp_succ _).symm rfl | exact VR.eqv (by first | rfl | (congr 1; omega) | (simp; done) | (simp; omega)) rfl) ?_
          refine WkE.upd rfl (by first | exact .nilS _ (by simp) | exact .slice (77000) 0 _ 0 ⟨_, rfl⟩ (by simp) (by simp)) ?_
          refine WkE.upd rfl (.slice (0) 0 _ 0 ⟨_, rfl⟩ (by simp) (by simp)) ?_
          exact WkE.emp
        ·
          refine WkM.flat rfl (flatM flat_vi) (fun h => h) ?_
          refine WkM.cloM rfl rfl (fun _ => rfl) (fun h => h) ?_
          exact WkM.emp
        ·
          repeat (refine dom_upd_mem (by decide) ?_)
          exact dom_emp
      ·
        rintro mm σ ⟨c, hinv, rfl, rfl⟩
        refine AW.seqR ?_
        first | refine AWo.pure (PureOp.ltN rfl rfl) rfl rfl ?_ | refine AWo.pure (PureOp.bin rfl rfl rfl) rfl rfl ?_
        refine AWo.nil trivial ?_
        refine AW.seq ?_
        refine AW.cond rfl (fun hb2 => ?_) (fun hb2 => ?_)
        ·
          have hcl : c < (Ts.length + 1) := of_decide_eq_true hb2
          refine AW.skip ?_
          refine thenA_normal ?_
          refine AW.seq ?_
          refine AW.block ?_
          refine AW.seqR ?_
          refine AWo.pure (PureOp.move rfl) rfl rfl ?_
          refine AWo.pure (PureOp.assign rfl) rfl rfl ?_
          refine AWo.nil trivial ?_
          refine AW.seqR ?_
          refine AWo.pure (PureOp.move rfl) rfl rfl ?_
          first | refine AWo.pure (PureOp.lenS tbok rfl rfl) rfl rfl ?_ | refine AWo.pure (PureOp.lenD tbok rfl rfl) rfl rfl ?_
          refine AWo.makeSliceC tbok 33000 (List.replicate Ts.length (.slice none 0 0)) rfl rfl (Nat.le_refl _) rfl rfl (by decide) rfl rfl rfl rfl (by omega) (by omega) (by rw [Nat.mul_one]) rfl rfl rfl ?_
          refine AWo.pure (PureOp.assign rfl) rfl rfl ?_
          refine AWo.nil trivial ?_
          refine AW.seq ?_
          refine AW.recell 33000 ((rp Ts c 0).map dt) rfl (by simp [rp]) (fun k v hv => ⟨.slice none 0 0, by have := (List.getElem?_eq_some_iff.1 hv).1; rw [List.getElem?_replicate, if_pos (by simpa [rp] using this)], fun D ρ u hu => ?_⟩) ?_
          · obtain rfl : v = dt [] := rp_zero hv
            rw [flat_inv hu rfl]
            exact .deepN 4 (by simp)
          refine AW.seqR ?_
          refine AWo.pure (PureOp.move rfl) rfl rfl ?_
          first | refine AWo.pure (PureOp.lenS tbok rfl rfl) rfl rfl ?_ | refine AWo.pure (PureOp.lenD tbok rfl rfl) rfl rfl ?_
          refine AWo.pure (PureOp.move rfl) rfl rfl ?_
          refine AWo.nil trivial ?_
          refine AW.block ?_
          refine AW.loopw (fun mm σ => ∃ j, (j ≤ Ts.length) ∧ mm = Ts.length - j ∧ σ = ⟨(upd (upd (upd (upd (upd (upd (upd (upd (upd emp 0 (.slice (some ⟨0, 0, none⟩) Ts.length 0)) 6 (.slice (some ⟨77000, 0, none⟩) c 0)) 7 (vi .i64 c)) 8 (.slice (some ⟨33000, 0, none⟩) Ts.length 0)) 26 (vi .i64 (Ts.length + 1))) 27 (vi .i64 c)) 33 (.slice (some ⟨0, 0, none⟩) Ts.length 0)) 34 (vi .i64 Ts.length)) 35 (vi .i64 j)), (upd (upd (upd emp 0 ⟨Ts.map (dt), false, 1⟩) 77000 ⟨((((List.range c).map (rV Ts)).map fe).flatten).map (vi .u64), true, 4⟩) 33000 ⟨(rp Ts c j).map dt, true, 1⟩)⟩) (fm := []) ?_ ⟨0, Nat.zero_le _, rfl, rfl⟩ ?_
          ·
            refine Wk.of [0, 77000, 33000] ?_ ?_ ?_ (by decide) rfl
            ·
              refine WkE.upd rfl (by first | exact VR.flat _ rfl | exact VR.eqv (vp_succ _) rfl | exact VR.eqv (vp_succ _).symm rfl | exact VR.eqv (by first | rfl | (congr 1; omega) | (simp; done) | (simp; omega)) rfl) ?_
              refine WkE.upd rfl (by first | exact VR.flat _ rfl | exact VR.eqv (vp_succ _) rfl | exact VR.eqv (vp_succ _).symm rfl | exact VR.eqv (by first | rfl | (congr 1; omega) | (simp; done) | (simp; omega)) rfl) ?_
              refine WkE.upd rfl (.slice (0) 0 _ 0 ⟨_, rfl⟩ (by simp) (by simp)) ?_
              refine WkE.upd rfl (by first | exact VR.flat _ rfl | exact VR.eqv (vp_succ _) rfl | exact VR.eqv (vp_succ _).symm rfl | exact VR.eqv (by first | rfl | (congr 1; omega) | (simp; done) | (simp; omega)) rfl) ?_
              refine WkE.upd rfl (by first | exact VR.flat _ rfl | exact VR.eqv (vp_succ _) rfl | exact VR.eqv (vp_succ _).symm rfl | exact VR.eqv (by first | rfl | (congr 1; omega) | (simp; done) | (simp; omega)) rfl) ?_
              refine WkE.upd rfl (.slice (33000) 0 _ 0 ⟨_, rfl⟩ (by simp) (by simp)) ?_
              refine WkE.upd rfl (by first | exact VR.flat _ rfl | exact VR.eqv (vp_succ _) rfl | exact VR.eqv (vp_succ _).symm rfl | exact VR.eqv (by first | rfl | (congr 1; omega) | (simp; done) | (simp; omega)) rfl) ?_
              refine WkE.upd rfl (by first | exact .nilS _ (by simp) | exact .slice (77000) 0 _ 0 ⟨_, rfl⟩ (by simp) (by simp)) ?_
              refine WkE.upd rfl (.slice (0) 0 _ 0 ⟨_, rfl⟩ (by simp) (by simp)) ?_
              exact WkE.emp
            ·
              refine WkM.cloM rfl rfl (fun _ => rfl) (fun h => h) ?_
              refine WkM.flat rfl (flatM flat_vi) (fun h => h) ?_
              refine WkM.cloM rfl rfl (fun _ => rfl) (fun h => h) ?_
              exact WkM.emp
            ·
              repeat (refine dom_upd_mem (by decide) ?_)
              exact dom_emp
          ·
            rintro mm σ ⟨j, hinv, rfl, rfl⟩
            refine AW.seqR ?_
            first | refine AWo.pure (PureOp.ltN rfl rfl) rfl rfl ?_ | refine AWo.pure (PureOp.bin rfl rfl rfl) rfl rfl ?_
            refine AWo.nil trivial ?_
            refine AW.seq ?_
            refine AW.cond rfl (fun hb3 => ?_) (fun hb3 => ?_)
            ·
              have hj : j < Ts.length := of_decide_eq_true hb3
              refine AW.skip ?_
              refine thenA_normal ?_
              refine AW.seq ?_
              refine AW.block ?_
              refine AW.seqR ?_
              refine AWo.pure (PureOp.move rfl) rfl rfl ?_
              first | refine AWo.pure (PureOp.idx1 tbok rfl rfl rfl rfl (by first | decide | omega)) rfl rfl ?_ | refine AWo.pure (PureOp.idx tbok rfl rfl rfl rfl (by first | decide | omega)) rfl rfl ?_
              refine AWo.loadM tbok (f := dt) [] rfl rfl rfl (by omega) rfl rfl ?_
              refine AWo.pure (PureOp.assign rfl) rfl rfl ?_
              refine AWo.pure (PureOp.assign rfl) rfl rfl ?_
              refine AWo.nil trivial ?_
              refine AW.region ?_
              refine AWo.pure (PureOp.move rfl) rfl rfl ?_
              refine AWo.pure (PureOp.move rfl) rfl rfl ?_
              refine AWo.pure (PureOp.move rfl) rfl rfl ?_
              refine AWo.pure (PureOp.move rfl) rfl rfl ?_
              first | refine AWo.pure (PureOp.cvtN tbok 18446744073709551616 rfl rfl rfl (by decide) (by decide) (by first | decide | omega)) rfl rfl ?_ | refine AWo.pure (PureOp.cvtU tbok 18446744073709551616 rfl rfl rfl rfl rfl) rfl rfl ?_ | refine AWo.pure (PureOp.cvt tbok rfl rfl rfl) rfl rfl ?_
              refine AWo.callX (fromuF_ctr (v := c) (by omega)) bd13 [] [] rfl (.cons rfl .nil) rfl (.cons rfl rfl .nil) .nil rfl .nil frN (by decide) (.pure (by first | rfl | exact pure_aggM flat_vi | exact pure_aggM flat_bool) .nil) rfl rfl rfl rfl ?_
              refine AWo.callX (fix_d (xs := Ts.getD j []) (x := fp c) (hs _ (getT_mem hj))) bd26 [] [] rfl (.cons rfl (.cons rfl .nil)) rfl (.cons rfl rfl (.pure (by first | rfl | exact pure_aggM flat_vi | exact pure_aggM flat_bool) .nil)) .nil rfl .nil frN (by decide) (.cons rfl rfl .nil) rfl rfl rfl rfl ?_
              first | refine AWo.pure (PureOp.idx1 tbok rfl rfl rfl rfl (by first | decide | omega)) rfl rfl ?_ | refine AWo.pure (PureOp.idx tbok rfl rfl rfl rfl (by first | decide | omega)) rfl rfl ?_
              refine AWo.storeM (f := dt) tbok rfl rfl rfl rfl (by rw [rp_len]; omega) rfl rfl ?_
              rw [rp_set hj]
              refine AWo.nil trivial ?_
              refine inBlockA_normal ?_
              refine thenA_normal ?_
              refine AW.region ?_
              first | refine AWo.pure (PureOp.addI (b := 1) rfl rfl (by first | decide | omega)) rfl rfl ?_ | refine AWo.pure (PureOp.bin rfl rfl rfl) rfl rfl ?_
              refine AWo.pure (PureOp.move rfl) rfl rfl ?_
              refine AWo.nil trivial ?_
              refine thenA_normal ?_
              refine ⟨Ts.length - (j + 1), [], _, by omega, ?_, j + 1, by omega, rfl, rfl⟩
              refine Wk.of [0, 77000, 33000] ?_ ?_ ?_ (by decide) rfl
              ·
                refine WkE.upd rfl (by first | exact VR.flat _ rfl | exact VR.eqv (vp_succ _) rfl | exact VR.eqv (vp_succ _).symm rfl | exact VR.eqv (by first | rfl | (congr 1; omega) | (simp; done) | (simp; omega)) rfl) ?_
                refine WkE.upd rfl (by first | exact VR.flat _ rfl | exact VR.eqv (vp_succ _) rfl | exact VR.eqv (vp_succ _).symm rfl | exact VR.eqv (by first | rfl | (congr 1; omega) | (simp; done) | (simp; omega)) rfl) ?_
                refine WkE.upd rfl (.slice (0) 0 _ 0 ⟨_, rfl⟩ (by simp) (by simp)) ?_
                refine WkE.upd rfl (by first | exact VR.flat _ rfl | exact VR.eqv (vp_succ _) rfl | exact VR.eqv (vp_succ _).symm rfl | exact VR.eqv (by first | rfl | (congr 1; omega) | (simp; done) | (simp; omega)) rfl) ?_
                refine WkE.upd rfl (by first | exact VR.flat _ rfl | exact VR.eqv (vp_succ _) rfl | exact VR.eqv (vp_succ _).symm rfl | exact VR.eqv (by first | rfl | (congr 1; omega) | (simp; done) | (simp; omega)) rfl) ?_
                refine WkE.upd rfl (.slice (33000) 0 _ 0 ⟨_, rfl⟩ (by simp) (by simp)) ?_
                refine WkE.upd rfl (by first | exact VR.flat _ rfl | exact VR.eqv (vp_succ _) rfl | exact VR.eqv (vp_succ _).symm rfl | exact VR.eqv (by first | rfl | (congr 1; omega) | (simp; done) | (simp; omega)) rfl) ?_
                refine WkE.upd rfl (by first | exact .nilS _ (by simp) | exact .slice (77000) 0 _ 0 ⟨_, rfl⟩ (by simp) (by simp)) ?_
                refine WkE.upd rfl (.slice (0) 0 _ 0 ⟨_, rfl⟩ (by simp) (by simp)) ?_
                exact WkE.emp
              ·
                refine WkM.cloM rfl rfl (fun _ => rfl) (fun h => h) ?_
                refine WkM.flat rfl (flatM flat_vi) (fun h => h) ?_
                refine WkM.cloM rfl rfl (fun _ => rfl) (fun h => h) ?_
                exact WkM.emp
              ·
                repeat (refine dom_upd_mem (by decide) ?_)
                exact dom_emp
            ·
              obtain rfl : j = Ts.length := by have := of_decide_eq_false hb3; omega
              rw [rp_all]
              refine AW.exit ?_
              refine thenA_exit ?_
              refine thenA_exit ?_
              refine inBlockA_hit ?_
              refine thenA_normal ?_
              refine AW.region ?_
              refine AWo.pure (PureOp.move rfl) rfl rfl ?_
              refine AWo.pure (PureOp.move rfl) rfl rfl ?_
              refine AWo.callX (v := .agg ((fe (rV Ts c)).map (vi .u64)).toArray) (total_ctr (Ts := rTs Ts c) (k := Ts.length) (m := (Ts.getD 0 []).length / 2) (rTs_len _ _) hq0 (rTs_m hc hv) (by omega) (by have := hs _ (getT_mem hq0); omega)) bd20 [(33000, 0)] [] rfl (.cons rfl .nil) rfl (.cons rfl rfl .nil) (.clo rfl (cloM fun _ => rfl) (by intro h; first | exact h | rfl) .nil) rfl (.keep rfl .nil) frN (by decide) (.pure (by first | rfl | exact pure_aggM flat_vi | exact pure_aggM flat_bool) .nil) rfl rfl rfl rfl ?_
              refine AWo.buildSlice tbok 53000 [(0, .agg ((fe (rV Ts c)).map (vi .u64)).toArray)] (out := [fe (rV Ts c)].flatten.map (vi .u64)) rfl rfl (by decide) rfl rfl rfl (by decide) rfl (fillB1 (fe_len _)) rfl rfl rfl ?_
              refine AWo.append tbok (all := ((((List.range (c + 1)).map (rV Ts)).map fe).flatten).map (vi .u64)) (news := [fe (rV Ts c)].flatten.map (vi .u64)) 54000 rfl rfl rfl rfl (by rw [FF_len4]; simp) (by show List.take _ (List.drop 0 _) = _; rw [List.drop_zero]; exact List.take_of_length_le (by simp)) (by simp; done) (by decide) rfl rfl rfl (by first | decide | exact Nat.one_ne_zero) rfl rfl rfl (by first | decide | omega) (by first | decide | omega) (oneM (fun _ => rfl) _) (by rw [List.range_succ, List.map_append, List.map_append, List.flatten_append, List.map_append]; rfl) rfl rfl ?_
              refine AWo.pure (PureOp.assign rfl) rfl rfl ?_
              refine AWo.nil trivial ?_
              refine inBlockA_normal ?_
              refine thenA_normal ?_
              refine AW.region ?_
              first | refine AWo.pure (PureOp.addI (b := 1) rfl rfl (by first | decide | omega)) rfl rfl ?_ | refine AWo.pure (PureOp.bin rfl rfl rfl) rfl rfl ?_
              refine AWo.pure (PureOp.move rfl) rfl rfl ?_
              refine AWo.nil trivial ?_
              refine thenA_normal ?_
              refine ⟨(Ts.length + 1) - (c + 1), [(77000, 54000)], _, by omega, ?_, c + 1, by omega, rfl, rfl⟩
              refine Wk.of [0, 77000] ?_ ?_ ?_ (by decide) rfl
              ·
                refine WkE.upd rfl (by first | exact VR.flat _ rfl | exact VR.eqv (vp_succ _) rfl | exact VR.eqv (vp_succ _).symm rfl | exact VR.eqv (by first | rfl | (congr 1; omega) | (simp; done) | (simp; omega)) rfl) ?_
                refine WkE.upd rfl (by first | exact VR.flat _ rfl | exact VR.eqv (vp_succ _) rfl | exact VR.eqv (vp_succ _).symm rfl | exact VR.eqv (by first | rfl | (congr 1; omega) | (simp; done) | (simp; omega)) rfl) ?_
                refine WkE.upd rfl (by first | exact .nilS _ (by simp) | exact .slice (77000) 0 _ 0 ⟨_, rfl⟩ (by simp) (by simp)) ?_
                refine WkE.upd rfl (.slice (0) 0 _ 0 ⟨_, rfl⟩ (by simp) (by simp)) ?_
                exact WkE.emp
              ·
                refine WkM.flat rfl (flatM flat_vi) (fun h => h) ?_
                refine WkM.cloM rfl rfl (fun _ => rfl) (fun h => h) ?_
                exact WkM.emp
              ·
                repeat (refine dom_upd_mem (by decide) ?_)
                exact dom_emp
        ·
          obtain rfl : c = (Ts.length + 1) := by have := of_decide_eq_false hb2; omega
          refine AW.exit ?_
          refine thenA_exit ?_
          refine thenA_exit ?_
          refine inBlockA_hit ?_
          refine thenA_normal ?_
          refine AW.seqR ?_
          refine AWo.pure (PureOp.move rfl) rfl rfl ?_
          first | refine AWo.pure (PureOp.lenS tbok rfl rfl) rfl rfl ?_ | refine AWo.pure (PureOp.lenD tbok rfl rfl) rfl rfl ?_
          first | refine AWo.pure (PureOp.addI (b := 1) rfl rfl (by first | decide | omega)) rfl rfl ?_ | refine AWo.pure (PureOp.bin rfl rfl rfl) rfl rfl ?_
          refine AWo.makeSliceC tbok 59000 ((((List.replicate (Ts.length + 1) (0 : Fp)).map fe).flatten).map (vi .u64)) rfl rfl (Nat.le_refl _) rfl rfl (by decide) rfl rfl rfl rfl (by omega) (by omega) (zeroFF _).symm rfl rfl rfl ?_
          refine AWo.pure (PureOp.assign rfl) rfl rfl ?_
          refine AWo.nil trivial ?_
          refine AW.seqR ?_
          refine AWo.pure (PureOp.move rfl) rfl rfl ?_
          refine AWo.pure (PureOp.move rfl) rfl rfl ?_
          refine AWo.callX (thrp_ctr (vs := ((List.range (Ts.length + 1)).map (rV Ts))) (n := (Ts.length + 1)) (by simp) (by omega)) bd27 [(77000, 0)] [62000] rfl (.cons rfl .nil) rfl (.cons rfl rfl .nil) (.flat rfl (flatM flat_vi) (by intro h; first | exact h | rfl) .nil) rfl (.keep rfl (.new (flat_map_ren (flatM flat_vi)) (OkL.flat (flatM flat_vi)) .nil)) (frC rfl frN) (by decide) (.cons rfl rfl .nil) rfl rfl rfl rfl ?_
          have htl : (thr ((List.range (Ts.length + 1)).map (rV Ts))).length ≤ (Ts.length + 1) := thr_le3 (by simp)
          refine AWo.copy tbok ((((pad (thr ((List.range (Ts.length + 1)).map (rV Ts))) (Ts.length + 1)).map fe).flatten).map (vi .u64)) rfl rfl rfl rfl htl (by rw [FF_len4, List.length_replicate]; omega) (by show List.take _ (List.drop 0 _) = _; rw [List.drop_zero]; exact List.take_of_length_le (by rw [FF_len4]; exact Nat.le_refl _)) (by show 0 + _ * 4 ≤ _; rw [FF_len4]; omega) rfl rfl (oneM (fun _ => rfl) _) (pad_FF htl) rfl rfl ?_
          refine AWo.nil trivial ?_
          refine AW.seqR ?_
          refine AWo.pure (PureOp.move rfl) rfl rfl ?_
          refine AWo.pure (PureOp.assign rfl) rfl rfl ?_
          refine AWo.pure (PureOp.assign rfl) rfl rfl ?_
          refine AWo.nil trivial ?_
          refine AW.ret ?_
          rw [show roT Ts = pad (thr ((List.range (Ts.length + 1)).map (rV Ts))) (Ts.length + 1) from if_pos ⟨hc, hv⟩, show roC Ts = 0 by rw [roC, if_pos hc, if_neg hv], pad_len htl]
          refine RetQ.gc [_, _] [59000] [.tmp 2, .tmp 3] (.inl rfl) rfl (.tmp rfl (.tmp rfl .nil)) rfl (.cons rfl rfl (.pure rfl .nil)) (OutL.clo rfl (cloM fun _ => rfl) (by intro h; exact h.elim id fun h => absurd h.1 (by simp)) (OutL.flat rfl (flatM flat_vi) (fun _ => rfl) trivial)) (by decide) rfl
end Go.Proofs.YteeifahhejangaaGreatDoor
namespace Go.Proofs.YteeifahhejangaaGreatDoor
open Go Sim
def fxs (Ts : List (List Fp)) (x : Fp) : List (List Fp) := Ts.map fun t => fixT t x
theorem fxs_len (Ts : List (List Fp)) (x : Fp) : (fxs Ts x).length = Ts.length := List.length_map ..
theorem fxs_at {Ts : List (List Fp)} {x : Fp} {j : Nat} (hj : j < Ts.length) : (fxs Ts x).getD j [] = fixT (Ts.getD j []) x := by
  rw [fxs, List.getD_eq_getElem?_getD, List.getElem?_map, List.getD_eq_getElem?_getD, List.getElem?_eq_getElem hj]; rfl
def mlin (a d : Fp) (q : List Fp) : List Fp := Po.pa (Po.ps a q) (0 :: Po.ps d q)
theorem mlin_len (a d : Fp) (q : List Fp) : (mlin a d q).length = q.length + 1 := by
  rw [mlin, Po.pa_len, List.length_cons, Po.ps, Po.ps, List.length_map, List.length_map]; omega
theorem mlin_ring (e a d x : Fp) : e * a + (e * d * x + 0) = e * (a + x * d) := by grind
theorem ev_mlin (a d x : Fp) (q : List Fp) : Po.ev x (mlin a d q) = Po.ev x q * (a + x * d) := by
  rw [mlin, Po.ev_pa, Po.ev_ps, show Po.ev x (0 :: Po.ps d q) = Po.ev x (Po.ps d q) * x + 0 from rfl, Po.ev_ps, mlin_ring]
def qN (Ts : List (List Fp)) (h i : Nat) : Nat → List Fp
  | 0 => [fp 1]
  | j + 1 => mlin ((Ts.getD j []).getD i 0) ((Ts.getD j []).getD (h + i) 0 - (Ts.getD j []).getD i 0) (qN Ts h i j)
def sQ (Ts : List (List Fp)) (h : Nat) : Nat → List Fp
  | 0 => []
  | n + 1 => Po.pa (sQ Ts h n) (qN Ts h n Ts.length)
theorem qN_len (Ts : List (List Fp)) (h i : Nat) : ∀ j, (qN Ts h i j).length = j + 1
  | 0 => rfl
  | j + 1 => by rw [qN, mlin_len, qN_len Ts h i j]
theorem sQ_len (Ts : List (List Fp)) (h : Nat) : ∀ n, (sQ Ts h n).length ≤ Ts.length + 1
  | 0 => Nat.zero_le _
  | n + 1 => by
    rw [sQ, Po.pa_len, qN_len]
    have := sQ_len Ts h n
    omega
theorem one_ev (x : Fp) : (0 : Fp) * x + fp 1 = fp 1 := by grind
section
variable {Ts : List (List Fp)} (hc : chC Ts = 0) (hv : ¬ chV Ts = 0)
include hc hv
theorem fx_at {x : Fp} {i j : Nat} (hj : j < Ts.length) (hi : i < (Ts.getD 0 []).length / 2) :
    ((fxs Ts x).getD j []).getD i 0 = (Ts.getD j []).getD i 0 + x * ((Ts.getD j []).getD ((Ts.getD 0 []).length / 2 + i) 0 - (Ts.getD j []).getD i 0) := by
  obtain ⟨h1, h2, h3⟩ := ch_fix hc hv _ (getT_mem hj)
  rw [fxs_at hj, fix_L h2 h3, fixL_at (by rw [h1]; exact hi), h1]
theorem ev_qN (x : Fp) {i : Nat} (hi : i < (Ts.getD 0 []).length / 2) : ∀ j, j ≤ Ts.length → prN (fxs Ts x) i j = Po.ev x (qN Ts ((Ts.getD 0 []).length / 2) i j)
  | 0, _ => (one_ev x).symm
  | j + 1, h => by rw [prN, ev_qN x hi j (by omega), fx_at hc hv (by omega) hi, qN, ev_mlin]
theorem ev_sQ (x : Fp) : ∀ n, n ≤ (Ts.getD 0 []).length / 2 → smN (prT (fxs Ts x)) n = Po.ev x (sQ Ts ((Ts.getD 0 []).length / 2) n)
  | 0, _ => rfl
  | n + 1, h => by rw [smN, ev_sQ x n (by omega), sQ, Po.ev_pa, prT, fxs_len, ev_qN hc hv x (by omega) _ (Nat.le_refl _)]
theorem rt_eq : roT Ts = pad (thr ((List.range (Ts.length + 1)).map (rV Ts))) (Ts.length + 1) := if_pos ⟨hc, hv⟩
theorem half_m : (Ts.getD 0 []).length = (Ts.getD 0 []).length / 2 + (Ts.getD 0 []).length / 2 := by
  obtain ⟨h1, h2, h3⟩ := ch_fix hc hv _ (getT_mem (ch_zero hc).1)
  obtain ⟨k, hk, _, _⟩ := isV_half h2 h3
  rw [hk, pow_half, Nat.pow_succ]; omega
end
end Go.Proofs.YteeifahhejangaaGreatDoor
namespace Go.Proofs.YteeifahhejangaaGreatDoor
open Go Sim
theorem lin_ev (a d x : Fp) : Po.ev x [a, d] = a + x * d := by
  show (0 * x + d) * x + a = _
  grind
theorem mlin_pm (a d : Fp) {q : List Fp} (hq : q.length < 900000) : ∀ i, Po.co (Po.pm q [a, d]) i = Po.co (mlin a d q) i := by
  refine Po.uniq Fp_dom (N := q.length + 2) (fun i j hi hj => by rw [nc_fp, nc_fp]; exact fp_ne hi (by omega)) (Po.pm_len _ _) (by rw [mlin_len]; omega) fun m _ => ?_
  rw [Po.ev_pm, ev_mlin, lin_ev]
theorem co_mlin (a d : Fp) {p q : List Fp} (h : ∀ i, Po.co p i = Po.co q i) (i : Nat) : Po.co (mlin a d p) i = Po.co (mlin a d q) i := by
  rw [mlin, mlin, Po.co_pa, Po.co_pa, Po.co_ps, Po.co_ps, h]
  cases i with
  | zero => rfl
  | succ i => rw [Po.co_succ, Po.co_succ, Po.co_ps, Po.co_ps, h]
theorem tr_one : Po.tr [fp 1] = [(1 : Fp)] := by decide +kernel
theorem part_step (Ts : List (List Fp)) (h i : Nat) {j : Nat} (hj : j < 100000) :
    Po.tr (Po.pm (Po.tr (qN Ts h i j)) [(Ts.getD j []).getD i 0, (Ts.getD j []).getD (h + i) 0 - (Ts.getD j []).getD i 0]) = Po.tr (qN Ts h i (j + 1)) := by
  refine Po.tr_congr fun n => ?_
  rw [mlin_pm _ _ (by have := Po.dg_le (qN Ts h i j); rw [qN_len] at this; rw [Po.tr_len]; omega)]
  exact co_mlin _ _ (Po.co_tr _) n
theorem out_step (Ts : List (List Fp)) (h i : Nat) : Po.tr (Po.pa (Po.tr (sQ Ts h i)) (Po.tr (qN Ts h i Ts.length))) = Po.tr (sQ Ts h (i + 1)) := by
  refine Po.tr_congr fun n => ?_
  rw [Po.co_pa, Po.co_tr, Po.co_tr, sQ, Po.co_pa]
theorem trq_le (Ts : List (List Fp)) (h i j : Nat) : (Po.tr (qN Ts h i j)).length ≤ j + 1 := by
  rw [Po.tr_len]; exact Nat.le_trans (Po.dg_le _) (Nat.le_of_eq (qN_len _ _ _ _))
theorem trs_le (Ts : List (List Fp)) (h n : Nat) : (Po.tr (sQ Ts h n)).length ≤ Ts.length + 1 := by
  rw [Po.tr_len]; exact Nat.le_trans (Po.dg_le _) (sQ_len _ _ _)
theorem rt_sQ {Ts : List (List Fp)} (hc : chC Ts = 0) (hv : ¬ chV Ts = 0) (hk : Ts.length < 1000) : roT Ts = pad (Po.tr (sQ Ts ((Ts.getD 0 []).length / 2) ((Ts.getD 0 []).length / 2))) (Ts.length + 1) := by
  have hvl : ((List.range (Ts.length + 1)).map (rV Ts)).length = Ts.length + 1 := by simp
  rw [rt_eq hc hv, thr_uniq (q := sQ Ts ((Ts.getD 0 []).length / 2) ((Ts.getD 0 []).length / 2)) (by omega) (by rw [hvl]; exact sQ_len _ _ _) (fun m hm => ?_)]
  rw [← ev_sQ hc hv _ _ (Nat.le_refl _)]
  rw [hvl] at hm
  have e : ((List.range (Ts.length + 1)).map (rV Ts)).getD m 0 = rV Ts m := by
    rw [List.getD_eq_getElem?_getD, List.getElem?_map, List.getElem?_range hm]; rfl
  rw [Po.co, e]
  rfl
theorem ch_len {Ts : List (List Fp)} {i : Nat} (hi : i < Ts.length) (ha : ∀ j, j < Ts.length → isV (Ts.getD j []).length = true) (hm : ¬ (Ts.getD i []).length = (Ts.getD 0 []).length) : chC Ts = 1 ∧ chV Ts = 0 :=
  ch_mis hi ha fun h => hm (by rw [(isV_pow (ha i hi)).1, (isV_pow (ha 0 (by omega))).1, h])
theorem ch_lok {Ts : List (List Fp)} (h0 : ¬ Ts.length = 0) (ha : ∀ j, j < Ts.length → isV (Ts.getD j []).length = true) (hm : ∀ j, j < Ts.length → (Ts.getD j []).length = (Ts.getD 0 []).length) : chC Ts = 0 ∧ chV Ts = vN (Ts.getD 0 []).length :=
  ch_ok h0 ha fun j hj => by rw [hm j hj]
end Go.Proofs.YteeifahhejangaaGreatDoor
namespace Go.Proofs.YteeifahhejangaaGreatDoor
open Go Sim
theorem rvars_d {xs : List Fp} (hx : xs.length < 1000000) : GC Tryz.prog 36 [dr xs] [] [vi .i64 (vN xs.length), .int .i64 (vC xs.length)] [] :=
  GC.deepen (rvars_ctr (xs := xs) rfl hx) (.deep .nil) (.pure rfl (.pure rfl .nil))
theorem dr_at {Ts : List (List Fp)} {j : Nat} (hj : j < Ts.length) : (Ts.map dr)[j]? = some (deep (Ts.getD j []).length 1 ((Ts.getD j []).map dv)) := by
  rw [List.getElem?_map, List.getD_eq_getElem?_getD, List.getElem?_eq_getElem hj]; rfl
theorem rcheck_ctr {Ts : List (List Fp)} {k : Nat} (hk : Ts.length = k) (hk6 : k < 1000000) (hs : ∀ t ∈ Ts, t.length < 1000000) : GC Tryz.prog 21 [.slice (some ⟨0, 0, none⟩) k 0] [⟨Ts.map (dr), false, 1⟩] [vi .i64 (chV Ts), .int .i64 (chC Ts)] [⟨Ts.map (dr), false, 1⟩] := by
  refine GC.intro Tryz.func21 rfl (by show 1 ≤ 50; decide) (by first | exact Nat.le_refl _ | decide | simp) ?_
  subst hk
  refine AW.seqR ?_
  refine AWo.pure (PureOp.assign rfl) rfl rfl ?_
  refine AWo.pure (PureOp.assign rfl) rfl rfl ?_
  refine AWo.nil trivial ?_
  refine AW.seq ?_
  refine AW.seqR ?_
  refine AWo.pure (PureOp.move rfl) rfl rfl ?_
  first | refine AWo.pure (PureOp.lenS tbok rfl rfl) rfl rfl ?_ | refine AWo.pure (PureOp.lenD tbok rfl rfl) rfl rfl ?_
  first | refine AWo.pure (PureOp.eqN (b := 0) rfl rfl) rfl rfl ?_ | refine AWo.pure (PureOp.bin rfl rfl rfl) rfl rfl ?_
  refine AWo.nil trivial ?_
  refine AW.cond rfl (fun hb0 => ?_) (fun hb0 => ?_)
  ·
    have h0 : Ts.length = 0 := by simpa using hb0
    refine AW.seqR ?_
    refine AWo.pure (PureOp.assign rfl) rfl rfl ?_
    refine AWo.pure (PureOp.assign rfl) rfl rfl ?_
    refine AWo.nil trivial ?_
    refine AW.ret ?_
    refine thenA_ret ?_
    rw [(ch_0 h0).1, (ch_0 h0).2]
    refine RetQ.gc [_, _] [] [.tmp 2, .tmp 3] (.inl rfl) rfl (.tmp rfl (.tmp rfl .nil)) rfl (.pure rfl (.pure rfl .nil)) (OutL.clo rfl (cloM fun _ => rfl) (by intro h; exact h.elim id fun h => absurd h.1 (by simp)) trivial) (by decide) rfl
  ·
    have h0 : ¬ Ts.length = 0 := by simpa using hb0
    refine AW.skip ?_
    refine thenA_normal ?_
    refine AW.seq ?_
    refine AW.seqR ?_
    refine AWo.pure (PureOp.assign rfl) rfl rfl ?_
    refine AWo.nil trivial ?_
    refine AW.block ?_
    refine AW.loopw (fun mm σ => ∃ i, (i ≤ Ts.length ∧ ∀ j, j < i → isV (Ts.getD j []).length = true) ∧ mm = Ts.length - i ∧ σ = ⟨(upd (upd emp 0 (.slice (some ⟨0, 0, none⟩) Ts.length 0)) 4 (vi .i64 i)), (upd emp 0 ⟨Ts.map (dr), false, 1⟩)⟩) (fm := []) ?_ ⟨0, ⟨Nat.zero_le _, fun j hj => absurd hj (Nat.not_lt_zero j)⟩, rfl, rfl⟩ ?_
    ·
      refine Wk.of [0] ?_ ?_ ?_ (by decide) rfl
      ·
        refine WkE.upd rfl (by first | exact VR.flat _ rfl | exact VR.eqv (vp_succ _) rfl | exact VR.eqv (vp_succ _).symm rfl | exact VR.eqv (by first | rfl | (congr 1; omega) | (simp; done) | (simp; omega)) rfl) ?_
        refine WkE.upd rfl (.slice (0) 0 _ 0 ⟨_, rfl⟩ (by simp) (by simp)) ?_
        exact WkE.emp
      ·
        refine WkM.cloM rfl rfl (fun _ => rfl) (fun h => h) ?_
        exact WkM.emp
      ·
        repeat (refine dom_upd_mem (by decide) ?_)
        exact dom_emp
    ·
      rintro mm σ ⟨i, ⟨hinv, hall⟩, rfl, rfl⟩
      refine AW.seq ?_
      refine AW.seqR ?_
      refine AWo.pure (PureOp.move rfl) rfl rfl ?_
      refine AWo.pure (PureOp.move rfl) rfl rfl ?_
      first | refine AWo.pure (PureOp.lenS tbok rfl rfl) rfl rfl ?_ | refine AWo.pure (PureOp.lenD tbok rfl rfl) rfl rfl ?_
      first | refine AWo.pure (PureOp.ltN rfl rfl) rfl rfl ?_ | refine AWo.pure (PureOp.bin rfl rfl rfl) rfl rfl ?_
      refine AWo.nil trivial ?_
      refine AW.cond rfl (fun hb1 => ?_) (fun hb1 => ?_)
      ·
        have hi : i < Ts.length := of_decide_eq_true hb1
        refine AW.skip ?_
        refine thenA_normal ?_
        refine AW.seq ?_
        refine AW.block ?_
        refine AW.seqR ?_
        refine AWo.pure (PureOp.move rfl) rfl rfl ?_
        refine AWo.pure (PureOp.move rfl) rfl rfl ?_
        first | refine AWo.pure (PureOp.idx1 tbok rfl rfl rfl rfl (by first | decide | omega)) rfl rfl ?_ | refine AWo.pure (PureOp.idx tbok rfl rfl rfl rfl (by first | decide | omega)) rfl rfl ?_
        refine AWo.loadM tbok (f := dr) [] rfl rfl rfl (by omega) rfl rfl ?_
        refine AWo.callX (rvars_d (xs := (Ts.getD i [])) (hs _ (getT_mem hi))) bd36 [] [] rfl (.cons rfl .nil) rfl (.cons rfl rfl .nil) .nil rfl .nil frN (by decide) (.cons rfl rfl (.cons rfl rfl .nil)) rfl rfl rfl rfl ?_
        refine AWo.pure (PureOp.move rfl) rfl rfl ?_
        refine AWo.pure (PureOp.extract rfl rfl) rfl rfl ?_
        refine AWo.pure (PureOp.extract rfl rfl) rfl rfl ?_
        refine AWo.pure (PureOp.assign rfl) rfl rfl ?_
        refine AWo.pure (PureOp.assign rfl) rfl rfl ?_
        refine AWo.nil trivial ?_
        refine AW.seqR ?_
        refine AWo.pure (PureOp.move rfl) rfl rfl ?_
        first | refine AWo.pure (PureOp.neN (b := 0) rfl rfl) rfl rfl ?_ | refine AWo.pure (PureOp.bin rfl rfl rfl) rfl rfl ?_
        refine AWo.nil trivial ?_
        refine AW.cond rfl (fun hb2 => ?_) (fun hb2 => ?_)
        ·
          have hbad : isV (Ts.getD i []).length = false := Bool.eq_false_iff.2 fun h => (show ¬ vC (Ts.getD i []).length = 0 by simpa using hb2) (vC_iff.2 h)
          refine AW.seqR ?_
          refine AWo.pure (PureOp.move rfl) rfl rfl ?_
          refine AWo.pure (PureOp.assign rfl) rfl rfl ?_
          refine AWo.pure (PureOp.assign rfl) rfl rfl ?_
          refine AWo.nil trivial ?_
          refine AW.ret ?_
          refine inBlockA_ret ?_
          refine thenA_ret ?_
          refine thenA_ret ?_
          refine inBlockA_ret ?_
          refine thenA_ret ?_
          rw [(ch_bad hi hbad).1, (ch_bad hi hbad).2, vC_no hbad]
          refine RetQ.gc [_, _] [] [.tmp 2, .tmp 3] (.inl rfl) rfl (.tmp rfl (.tmp rfl .nil)) rfl (.pure rfl (.pure rfl .nil)) (OutL.clo rfl (cloM fun _ => rfl) (by intro h; exact h.elim id fun h => absurd h.1 (by simp)) trivial) (by decide) rfl
        ·
          have hgood : isV (Ts.getD i []).length = true := vC_iff.1 (by simpa using hb2)
          refine AW.skip ?_
          refine inBlockA_normal ?_
          refine thenA_normal ?_
          refine AW.region ?_
          refine AWo.pure (PureOp.move rfl) rfl rfl ?_
          first | refine AWo.pure (PureOp.addI (b := 1) rfl rfl (by first | decide | omega)) rfl rfl ?_ | refine AWo.pure (PureOp.bin rfl rfl rfl) rfl rfl ?_
          refine AWo.pure (PureOp.assign rfl) rfl rfl ?_
          refine AWo.nil trivial ?_
          refine thenA_normal ?_
          refine ⟨Ts.length - (i + 1), [], _, by omega, ?_, i + 1, ⟨by omega, fun j hj => (Nat.lt_succ_iff_lt_or_eq.1 hj).elim (hall j) (fun e => e ▸ hgood)⟩, rfl, rfl⟩
          refine Wk.of [0] ?_ ?_ ?_ (by decide) rfl
          ·
            refine WkE.upd rfl (by first | exact VR.flat _ rfl | exact VR.eqv (vp_succ _) rfl | exact VR.eqv (vp_succ _).symm rfl | exact VR.eqv (by first | rfl | (congr 1; omega) | (simp; done) | (simp; omega)) rfl) ?_
            refine WkE.upd rfl (.slice (0) 0 _ 0 ⟨_, rfl⟩ (by simp) (by simp)) ?_
            exact WkE.emp
          ·
            refine WkM.cloM rfl rfl (fun _ => rfl) (fun h => h) ?_
            exact WkM.emp
          ·
            repeat (refine dom_upd_mem (by decide) ?_)
            exact dom_emp
      ·
        obtain rfl : i = Ts.length := by have := of_decide_eq_false hb1; omega
        refine AW.exit ?_
        refine thenA_exit ?_
        refine thenA_exit ?_
        refine inBlockA_hit ?_
        refine thenA_normal ?_
        refine AW.seq ?_
        refine AW.seqR ?_
        refine AWo.pure (PureOp.assign rfl) rfl rfl ?_
        refine AWo.nil trivial ?_
        refine AW.block ?_
        refine AW.loopw (fun mm σ => ∃ i, (i ≤ Ts.length ∧ ∀ j, j < i → (Ts.getD j []).length = (Ts.getD 0 []).length) ∧ mm = Ts.length - i ∧ σ = ⟨(upd (upd emp 0 (.slice (some ⟨0, 0, none⟩) Ts.length 0)) 7 (vi .i64 i)), (upd emp 0 ⟨Ts.map (dr), false, 1⟩)⟩) (fm := []) ?_ ⟨0, ⟨Nat.zero_le _, fun j hj => absurd hj (Nat.not_lt_zero j)⟩, rfl, rfl⟩ ?_
        ·
          refine Wk.of [0] ?_ ?_ ?_ (by decide) rfl
          ·
            refine WkE.upd rfl (by first | exact VR.flat _ rfl | exact VR.eqv (vp_succ _) rfl | exact VR.eqv (vp_succ _).symm rfl | exact VR.eqv (by first | rfl | (congr 1; omega) | (simp; done) | (simp; omega)) rfl) ?_
            refine WkE.upd rfl (.slice (0) 0 _ 0 ⟨_, rfl⟩ (by simp) (by simp)) ?_
            exact WkE.emp
          ·
            refine WkM.cloM rfl rfl (fun _ => rfl) (fun h => h) ?_
            exact WkM.emp
          ·
            repeat (refine dom_upd_mem (by decide) ?_)
            exact dom_emp
        ·
          rintro mm σ ⟨i, ⟨hinv, hsam⟩, rfl, rfl⟩
          refine AW.seq ?_
          refine AW.seqR ?_
          refine AWo.pure (PureOp.move rfl) rfl rfl ?_
          refine AWo.pure (PureOp.move rfl) rfl rfl ?_
          first | refine AWo.pure (PureOp.lenS tbok rfl rfl) rfl rfl ?_ | refine AWo.pure (PureOp.lenD tbok rfl rfl) rfl rfl ?_
          first | refine AWo.pure (PureOp.ltN rfl rfl) rfl rfl ?_ | refine AWo.pure (PureOp.bin rfl rfl rfl) rfl rfl ?_
          refine AWo.nil trivial ?_
          refine AW.cond rfl (fun hb3 => ?_) (fun hb3 => ?_)
          ·
            have hi : i < Ts.length := of_decide_eq_true hb3
            refine AW.skip ?_
            refine thenA_normal ?_
            refine AW.seq ?_
            refine AW.block ?_
            refine AW.seqD mixed ?_
            refine AWo.pure (PureOp.move rfl) rfl rfl ?_
            refine AWo.pure (PureOp.move rfl) rfl rfl ?_
            first | refine AWo.pure (PureOp.idx1 tbok rfl rfl rfl rfl (by first | decide | omega)) rfl rfl ?_ | refine AWo.pure (PureOp.idx tbok rfl rfl rfl rfl (by first | decide | omega)) rfl rfl ?_
            refine AWo.loadM tbok (f := dr) [] rfl rfl rfl (by omega) rfl rfl ?_
            first | refine AWo.pure (PureOp.lenS tbok rfl rfl) rfl rfl ?_ | refine AWo.pure (PureOp.lenD tbok rfl rfl) rfl rfl ?_
            refine AWo.pure (PureOp.move rfl) rfl rfl ?_
            first | refine AWo.pure (PureOp.idx1 (j := 0) tbok rfl rfl rfl rfl (by first | decide | omega)) rfl rfl ?_ | refine AWo.pure (PureOp.idx (j := 0) tbok rfl rfl rfl rfl (by first | decide | omega)) rfl rfl ?_
            refine AWo.loadM tbok (f := dr) [] rfl rfl rfl (by omega) rfl rfl ?_
            first | refine AWo.pure (PureOp.lenS tbok rfl rfl) rfl rfl ?_ | refine AWo.pure (PureOp.lenD tbok rfl rfl) rfl rfl ?_
            first | refine AWo.pure (PureOp.neN rfl rfl) rfl rfl ?_ | refine AWo.pure (PureOp.bin rfl rfl rfl) rfl rfl ?_
            refine AWo.nil (by kernel_rfl) ?_
            refine AW.cond rfl (fun hb4 => ?_) (fun hb4 => ?_)
            ·
              have hmis : ¬ (Ts.getD i []).length = (Ts.getD 0 []).length := by simpa using hb4
              refine AW.seqR ?_
              refine AWo.pure (PureOp.assign rfl) rfl rfl ?_
              refine AWo.pure (PureOp.assign rfl) rfl rfl ?_
              refine AWo.nil trivial ?_
              refine AW.ret ?_
              refine inBlockA_ret ?_
              refine thenA_ret ?_
              refine thenA_ret ?_
              refine inBlockA_ret ?_
              refine thenA_ret ?_
              rw [(ch_len hi hall hmis).1, (ch_len hi hall hmis).2]
              refine RetQ.gc [_, _] [] [.tmp 2, .tmp 3] (.inl rfl) rfl (.tmp rfl (.tmp rfl .nil)) rfl (.pure rfl (.pure rfl .nil)) (OutL.clo rfl (cloM fun _ => rfl) (by intro h; exact h.elim id fun h => absurd h.1 (by simp)) trivial) (by decide) rfl
            ·
              have hsm : (Ts.getD i []).length = (Ts.getD 0 []).length := by simpa using hb4
              refine AW.skip ?_
              refine inBlockA_normal ?_
              refine thenA_normal ?_
              refine AW.region ?_
              refine AWo.pure (PureOp.move rfl) rfl rfl ?_
              first | refine AWo.pure (PureOp.addI (b := 1) rfl rfl (by first | decide | omega)) rfl rfl ?_ | refine AWo.pure (PureOp.bin rfl rfl rfl) rfl rfl ?_
              refine AWo.pure (PureOp.assign rfl) rfl rfl ?_
              refine AWo.nil trivial ?_
              refine thenA_normal ?_
              refine ⟨Ts.length - (i + 1), [], _, by omega, ?_, i + 1, ⟨by omega, fun j hj => (Nat.lt_succ_iff_lt_or_eq.1 hj).elim (hsam j) (fun e => e ▸ hsm)⟩, rfl, rfl⟩
              refine Wk.of [0] ?_ ?_ ?_ (by decide) rfl
              ·
                refine WkE.upd rfl (by first | exact VR.flat _ rfl | exact VR.eqv (vp_succ _) rfl | exact VR.eqv (vp_succ _).symm rfl | exact VR.eqv (by first | rfl | (congr 1; omega) | (simp; done) | (simp; omega)) rfl) ?_
                refine WkE.upd rfl (.slice (0) 0 _ 0 ⟨_, rfl⟩ (by simp) (by simp)) ?_
                exact WkE.emp
              ·
                refine WkM.cloM rfl rfl (fun _ => rfl) (fun h => h) ?_
                exact WkM.emp
              ·
                repeat (refine dom_upd_mem (by decide) ?_)
                exact dom_emp
          ·
            obtain rfl : i = Ts.length := by have := of_decide_eq_false hb3; omega
            refine AW.exit ?_
            refine thenA_exit ?_
            refine thenA_exit ?_
            refine inBlockA_hit ?_
            refine thenA_normal ?_
            refine AW.seqR ?_
            refine AWo.pure (PureOp.move rfl) rfl rfl ?_
            first | refine AWo.pure (PureOp.idx1 (j := 0) tbok rfl rfl rfl rfl (by first | decide | omega)) rfl rfl ?_ | refine AWo.pure (PureOp.idx (j := 0) tbok rfl rfl rfl rfl (by first | decide | omega)) rfl rfl ?_
            refine AWo.loadM tbok (f := dr) [] rfl rfl rfl (by omega) rfl rfl ?_
            refine AWo.callX (rvars_d (xs := (Ts.getD 0 [])) (hs _ (getT_mem (by omega)))) bd36 [] [] rfl (.cons rfl .nil) rfl (.cons rfl rfl .nil) .nil rfl .nil frN (by decide) (.cons rfl rfl (.cons rfl rfl .nil)) rfl rfl rfl rfl ?_
            refine AWo.pure (PureOp.extract rfl rfl) rfl rfl ?_
            refine AWo.pure (PureOp.extract rfl rfl) rfl rfl ?_
            refine AWo.pure (PureOp.assign rfl) rfl rfl ?_
            refine AWo.pure (PureOp.assign rfl) rfl rfl ?_
            refine AWo.nil trivial ?_
            refine AW.ret ?_
            rw [(ch_lok h0 hall hsam).1, (ch_lok h0 hall hsam).2, vC_ok (hall 0 (by omega))]
            refine RetQ.gc [_, _] [] [.tmp 2, .tmp 3] (.inl rfl) rfl (.tmp rfl (.tmp rfl .nil)) rfl (.cons rfl rfl (.cons rfl rfl .nil)) (OutL.clo rfl (cloM fun _ => rfl) (by intro h; exact h.elim id fun h => absurd h.1 (by simp)) trivial) (by decide) rfl
theorem rTotal_ctr {Ts : List (List Fp)} {k : Nat} (hk : Ts.length = k) (hk6 : k < 1000000) (hs : ∀ t ∈ Ts, t.length < 1000000) : GC Tryz.prog 8 [.slice (some ⟨0, 0, none⟩) k 0] [⟨Ts.map (dr), false, 1⟩] [dv (toT Ts), .int .i64 (chC Ts)] [⟨Ts.map (dr), false, 1⟩] := by
  refine GC.intro Tryz.func8 rfl (by show 1 ≤ 47; decide) (by first | exact Nat.le_refl _ | decide | simp) ?_
  subst hk
  refine AW.seqR ?_
  refine yP (PureOp.nilDeep 1) ?_
  refine AWo.pure (PureOp.assign rfl) rfl rfl ?_
  refine AWo.nil trivial ?_
  refine AW.seq ?_
  refine AW.seqR ?_
  refine AWo.pure (PureOp.move rfl) rfl rfl ?_
  refine AWo.callX (rcheck_ctr (Ts := Ts) (k := Ts.length) rfl hk6 hs) bd21 [(0, 0)] [] rfl (.cons rfl .nil) rfl (.cons rfl rfl .nil) (.clo rfl (cloM fun _ => rfl) (by intro h; first | exact h | rfl) .nil) rfl (.keep rfl .nil) frN (by decide) (.cons rfl rfl (.cons rfl rfl .nil)) rfl rfl rfl rfl ?_
  refine AWo.pure (PureOp.move rfl) rfl rfl ?_
  refine AWo.pure (PureOp.extract rfl rfl) rfl rfl ?_
  refine AWo.pure (PureOp.extract rfl rfl) rfl rfl ?_
  refine AWo.pure (PureOp.assign rfl) rfl rfl ?_
  refine AWo.pure (PureOp.assign rfl) rfl rfl ?_
  refine AWo.nil trivial ?_
  refine AW.seqR ?_
  refine AWo.pure (PureOp.move rfl) rfl rfl ?_
  first | refine AWo.pure (PureOp.neN (b := 0) rfl rfl) rfl rfl ?_ | refine AWo.pure (PureOp.bin rfl rfl rfl) rfl rfl ?_
  refine AWo.nil trivial ?_
  refine AW.cond rfl (fun hb0 => ?_) (fun hb0 => ?_)
  ·
    have hc : ¬ chC Ts = 0 := by simpa using hb0
    refine AW.seqR ?_
    refine AWo.pure (PureOp.move rfl) rfl rfl ?_
    refine yP (PureOp.nilDeep 1) ?_
    refine AWo.pure (PureOp.assign rfl) rfl rfl ?_
    refine AWo.nil trivial ?_
    refine AW.ret ?_
    refine thenA_ret ?_
    rw [show toT Ts = 0 from if_neg hc]
    refine RetQ.gc [_, _] [] [.tmp 2, .tmp 3] (.inl rfl) rfl (.tmp rfl (.tmp rfl .nil)) rfl (.cons rfl rfl (.cons rfl rfl .nil)) (OutL.clo rfl (cloM fun _ => rfl) (by intro h; exact h.elim id fun h => absurd h.1 (by simp)) trivial) (by decide) rfl
  ·
    have hc : chC Ts = 0 := by simpa using hb0
    obtain ⟨hq0, hqm⟩ := ch_zero hc
    refine AW.skip ?_
    refine thenA_normal ?_
    refine AW.seqR ?_
    refine AWo.buildSlice tbok 19000 [] (out := []) rfl rfl (by decide) rfl rfl rfl (by decide) rfl rfl rfl rfl rfl ?_
    refine AWo.pure (PureOp.assign rfl) rfl rfl ?_
    refine AWo.nil trivial ?_
    refine AW.seq ?_
    refine AW.freeze 6 19000 ([] : List Value) ?_ rfl rfl (by simp) (by simp) rfl
    rw [show deep 0 1 ([] : List Value) = dv (smN (prT Ts) 0) from rfl]
    refine AW.seqR ?_
    refine AWo.pure (PureOp.assign rfl) rfl rfl ?_
    refine AWo.nil trivial ?_
    refine AW.block ?_
    refine AW.loopw (fun mm σ => ∃ i, (i ≤ (Ts.getD 0 []).length) ∧ mm = (Ts.getD 0 []).length - i ∧ σ = ⟨(upd (upd (upd emp 0 (.slice (some ⟨0, 0, none⟩) Ts.length 0)) 6 (dv (smN (prT Ts) i))) 7 (vi .i64 i)), (upd emp 0 ⟨Ts.map (dr), false, 1⟩)⟩) (fm := []) ?_ ⟨0, Nat.zero_le _, rfl, rfl⟩ ?_
    ·
      refine Wk.of [0] ?_ ?_ ?_ (by decide) rfl
      ·
        refine WkE.upd rfl (by first | exact VR.flat _ rfl | exact VR.eqv (vp_succ _) rfl | exact VR.eqv (vp_succ _).symm rfl | exact VR.eqv (by first | rfl | (congr 1; omega) | (simp; done) | (simp; omega)) rfl) ?_
        refine WkE.upd rfl (clo_refl (by simp) rfl) ?_
        refine WkE.upd rfl (.slice (0) 0 _ 0 ⟨_, rfl⟩ (by simp) (by simp)) ?_
        exact WkE.emp
      ·
        refine WkM.cloM rfl rfl (fun _ => rfl) (fun h => h) ?_
        exact WkM.emp
      ·
        repeat (refine dom_upd_mem (by decide) ?_)
        exact dom_emp
    ·
      rintro mm σ ⟨i, hinv, rfl, rfl⟩
      refine AW.seq ?_
      refine AW.seqR ?_
      refine AWo.pure (PureOp.move rfl) rfl rfl ?_
      refine AWo.pure (PureOp.move rfl) rfl rfl ?_
      first | refine AWo.pure (PureOp.idx1 (j := 0) tbok rfl rfl rfl rfl (by first | decide | omega)) rfl rfl ?_ | refine AWo.pure (PureOp.idx (j := 0) tbok rfl rfl rfl rfl (by first | decide | omega)) rfl rfl ?_
      refine AWo.loadM tbok (f := dr) [] rfl rfl rfl (by omega) rfl rfl ?_
      first | refine AWo.pure (PureOp.lenS tbok rfl rfl) rfl rfl ?_ | refine AWo.pure (PureOp.lenD tbok rfl rfl) rfl rfl ?_
      first | refine AWo.pure (PureOp.ltN rfl rfl) rfl rfl ?_ | refine AWo.pure (PureOp.bin rfl rfl rfl) rfl rfl ?_
      refine AWo.nil trivial ?_
      refine AW.cond rfl (fun hb1 => ?_) (fun hb1 => ?_)
      ·
        have hi : i < (Ts.getD 0 []).length := of_decide_eq_true hb1
        have hsi := hs _ (getT_mem hq0)
        refine AW.skip ?_
        refine thenA_normal ?_
        refine AW.seq ?_
        refine AW.block ?_
        refine AW.seqR ?_
        refine AWo.buildSliceF tbok 28000 [(0, vi .u64 1)] (out := [vi .u64 1]) rfl rfl (by decide) rfl rfl rfl (by decide) rfl rfl rfl rfl (fun x hx => by simp at hx; subst hx; rfl) rfl rfl ?_
        rw [show deep 1 1 [vi .u64 1] = dv (prN Ts i 0) by rw [prN, fp_one]; rfl]
        refine AWo.pure (PureOp.assign rfl) rfl rfl ?_
        refine AWo.nil trivial ?_
        refine AW.seq ?_
        refine AW.seqR ?_
        refine AWo.pure (PureOp.assign rfl) rfl rfl ?_
        refine AWo.nil trivial ?_
        refine AW.block ?_
        refine AW.loopw (fun mm σ => ∃ j, (j ≤ Ts.length) ∧ mm = Ts.length - j ∧ σ = ⟨(upd (upd (upd (upd (upd emp 0 (.slice (some ⟨0, 0, none⟩) Ts.length 0)) 6 (dv (smN (prT Ts) i))) 7 (vi .i64 i)) 8 (dv (prN Ts i j))) 9 (vi .i64 j)), (upd emp 0 ⟨Ts.map (dr), false, 1⟩)⟩) (fm := []) ?_ ⟨0, Nat.zero_le _, rfl, rfl⟩ ?_
        ·
          refine Wk.of [0] ?_ ?_ ?_ (by decide) rfl
          ·
            refine WkE.upd rfl (by first | exact VR.flat _ rfl | exact VR.eqv (vp_succ _) rfl | exact VR.eqv (vp_succ _).symm rfl | exact VR.eqv (by first | rfl | (congr 1; omega) | (simp; done) | (simp; omega)) rfl) ?_
            refine WkE.upd rfl (clo_refl (by simp) rfl) ?_
            refine WkE.upd rfl (by first | exact VR.flat _ rfl | exact VR.eqv (vp_succ _) rfl | exact VR.eqv (vp_succ _).symm rfl | exact VR.eqv (by first | rfl | (congr 1; omega) | (simp; done) | (simp; omega)) rfl) ?_
            refine WkE.upd rfl (clo_refl (by simp) rfl) ?_
            refine WkE.upd rfl (.slice (0) 0 _ 0 ⟨_, rfl⟩ (by simp) (by simp)) ?_
            exact WkE.emp
          ·
            refine WkM.cloM rfl rfl (fun _ => rfl) (fun h => h) ?_
            exact WkM.emp
          ·
            repeat (refine dom_upd_mem (by decide) ?_)
            exact dom_emp
        ·
          rintro mm σ ⟨j, hinv, rfl, rfl⟩
          refine AW.seq ?_
          refine AW.seqR ?_
          refine AWo.pure (PureOp.move rfl) rfl rfl ?_
          refine AWo.pure (PureOp.move rfl) rfl rfl ?_
          first | refine AWo.pure (PureOp.lenS tbok rfl rfl) rfl rfl ?_ | refine AWo.pure (PureOp.lenD tbok rfl rfl) rfl rfl ?_
          first | refine AWo.pure (PureOp.ltN rfl rfl) rfl rfl ?_ | refine AWo.pure (PureOp.bin rfl rfl rfl) rfl rfl ?_
          refine AWo.nil trivial ?_
          refine AW.cond rfl (fun hb2 => ?_) (fun hb2 => ?_)
          ·
            have hj : j < Ts.length := of_decide_eq_true hb2
            have hjm : (Ts.getD j []).length = (Ts.getD 0 []).length := hqm _ (getT_mem hj)
            refine AW.skip ?_
            refine thenA_normal ?_
            refine AW.seq ?_
            refine AW.block ?_
            refine AW.region ?_
            refine AWo.pure (PureOp.move rfl) rfl rfl ?_
            refine AWo.pure (PureOp.move rfl) rfl rfl ?_
            refine AWo.pure (PureOp.move rfl) rfl rfl ?_
            first | refine AWo.pure (PureOp.idx1 tbok rfl rfl rfl rfl (by first | decide | omega)) rfl rfl ?_ | refine AWo.pure (PureOp.idx tbok rfl rfl rfl rfl (by first | decide | omega)) rfl rfl ?_
            refine AWo.loadX tbok (n := (Ts.getD j []).length) (es := 1) (cells := (Ts.getD j []).map dv) 39000 rfl rfl rfl (dr_at hj) rfl rfl rfl ?_
            refine AWo.pure (PureOp.move rfl) rfl rfl ?_
            refine AWo.pure (PureOp.idx1 tbok (j := i) rfl rfl rfl rfl (by omega)) rfl rfl ?_
            refine AWo.loadM tbok (f := dv) 0 rfl rfl rfl (by omega) rfl rfl ?_
            refine AWo.callX (v := dv (prN Ts i (j + 1))) (mulRd (x := prN Ts i j) (y := (Ts.getD j []).getD i 0)) bd22 [] [] rfl (.cons rfl (.cons rfl .nil)) rfl (.cons rfl rfl (.cons rfl rfl .nil)) .nil rfl .nil frN (by decide) (.cons rfl rfl .nil) rfl rfl rfl rfl ?_
            refine AWo.pure (PureOp.assign rfl) rfl rfl ?_
            refine AWo.nil trivial ?_
            refine inBlockA_normal ?_
            refine thenA_normal ?_
            refine AW.region ?_
            refine AWo.pure (PureOp.move rfl) rfl rfl ?_
            first | refine AWo.pure (PureOp.addI (b := 1) rfl rfl (by first | decide | omega)) rfl rfl ?_ | refine AWo.pure (PureOp.bin rfl rfl rfl) rfl rfl ?_
            refine AWo.pure (PureOp.assign rfl) rfl rfl ?_
            refine AWo.nil trivial ?_
            refine thenA_normal ?_
            refine ⟨Ts.length - (j + 1), [], _, by omega, ?_, j + 1, by omega, rfl, rfl⟩
            refine Wk.of [0] ?_ ?_ ?_ (by decide) rfl
            ·
              refine WkE.upd rfl (by first | exact VR.flat _ rfl | exact VR.eqv (vp_succ _) rfl | exact VR.eqv (vp_succ _).symm rfl | exact VR.eqv (by first | rfl | (congr 1; omega) | (simp; done) | (simp; omega)) rfl) ?_
              refine WkE.upd rfl (clo_refl (by simp) rfl) ?_
              refine WkE.upd rfl (by first | exact VR.flat _ rfl | exact VR.eqv (vp_succ _) rfl | exact VR.eqv (vp_succ _).symm rfl | exact VR.eqv (by first | rfl | (congr 1; omega) | (simp; done) | (simp; omega)) rfl) ?_
              refine WkE.upd rfl (clo_refl (by simp) rfl) ?_
              refine WkE.upd rfl (.slice (0) 0 _ 0 ⟨_, rfl⟩ (by simp) (by simp)) ?_
              exact WkE.emp
            ·
              refine WkM.cloM rfl rfl (fun _ => rfl) (fun h => h) ?_
              exact WkM.emp
            ·
              repeat (refine dom_upd_mem (by decide) ?_)
              exact dom_emp
          ·
            obtain rfl : j = Ts.length := by have := of_decide_eq_false hb2; omega
            refine AW.exit ?_
            refine thenA_exit ?_
            refine thenA_exit ?_
            refine inBlockA_hit ?_
            refine thenA_normal ?_
            refine AW.region ?_
            refine AWo.pure (PureOp.move rfl) rfl rfl ?_
            refine AWo.pure (PureOp.move rfl) rfl rfl ?_
            refine AWo.callX (v := dv (smN (prT Ts) (i + 1))) (addRd (x := (smN (prT Ts) i)) (y := prN Ts i Ts.length)) bd23 [] [] rfl (.cons rfl (.cons rfl .nil)) rfl (.cons rfl rfl (.cons rfl rfl .nil)) .nil rfl .nil frN (by decide) (.cons rfl rfl .nil) rfl rfl rfl rfl ?_
            refine AWo.pure (PureOp.assign rfl) rfl rfl ?_
            refine AWo.nil trivial ?_
            refine inBlockA_normal ?_
            refine thenA_normal ?_
            refine AW.region ?_
            refine AWo.pure (PureOp.move rfl) rfl rfl ?_
            first | refine AWo.pure (PureOp.addI (b := 1) rfl rfl (by first | decide | omega)) rfl rfl ?_ | refine AWo.pure (PureOp.bin rfl rfl rfl) rfl rfl ?_
            refine AWo.pure (PureOp.assign rfl) rfl rfl ?_
            refine AWo.nil trivial ?_
            refine thenA_normal ?_
            refine ⟨(Ts.getD 0 []).length - (i + 1), [], _, by omega, ?_, i + 1, by omega, rfl, rfl⟩
            refine Wk.of [0] ?_ ?_ ?_ (by decide) rfl
            ·
              refine WkE.upd rfl (by first | exact VR.flat _ rfl | exact VR.eqv (vp_succ _) rfl | exact VR.eqv (vp_succ _).symm rfl | exact VR.eqv (by first | rfl | (congr 1; omega) | (simp; done) | (simp; omega)) rfl) ?_
              refine WkE.upd rfl (clo_refl (by simp) rfl) ?_
              refine WkE.upd rfl (.slice (0) 0 _ 0 ⟨_, rfl⟩ (by simp) (by simp)) ?_
              exact WkE.emp
            ·
              refine WkM.cloM rfl rfl (fun _ => rfl) (fun h => h) ?_
              exact WkM.emp
            ·
              repeat (refine dom_upd_mem (by decide) ?_)
              exact dom_emp
      ·
        obtain rfl : i = (Ts.getD 0 []).length := by have := of_decide_eq_false hb1; omega
        refine AW.exit ?_
        refine thenA_exit ?_
        refine thenA_exit ?_
        refine inBlockA_hit ?_
        refine thenA_normal ?_
        refine AW.seqR ?_
        refine AWo.pure (PureOp.move rfl) rfl rfl ?_
        refine yA ?_
        refine AWo.pure (PureOp.assign rfl) rfl rfl ?_
        refine AWo.nil trivial ?_
        refine AW.ret ?_
        rw [hc, show toT Ts = smN (prT Ts) (Ts.getD 0 []).length from if_pos hc]
        refine RetQ.gc [_, _] [] [.tmp 2, .tmp 3] (.inl rfl) rfl (.tmp rfl (.tmp rfl .nil)) rfl (.cons rfl rfl (.pure rfl .nil)) (OutL.clo rfl (cloM fun _ => rfl) (by intro h; exact h.elim id fun h => absurd h.1 (by simp)) trivial) (by decide) rfl
end Go.Proofs.YteeifahhejangaaGreatDoor
namespace Go.Proofs.YteeifahhejangaaGreatDoor
open Go Sim
theorem OutL.cloPart {m : Nat} {nids : List Nat} {M : Mem} {n k : Nat} {c c' : List Value} {rw rw' : Bool} {es : Nat} {r : List Blk} (hM : M (hmap m nids k).blk = some ⟨c', rw', es⟩)
    (hc : c'.take c.length = c) (hf : ∀ x ∈ c, cloV x = true) (hrw : rw = true ∨ (m ≤ k ∧ c ≠ []) → rw' = true) (hl : c.length ≤ c'.length) (hr : OutL m nids M n (k + 1) r) : OutL m nids M n k (⟨c, rw, es⟩ :: r) :=
  ⟨⟨_, hM, by rw [clo_map_ren hf]; exact hc, OkL.clo hf, hrw, rfl, hl⟩, hr⟩
theorem take_pa (xs ys : List Fp) : ((Po.pa xs ys).map dv).take ((Po.tr (Po.pa xs ys)).map dv).length = (Po.tr (Po.pa xs ys)).map dv := by
  rw [← List.map_take, List.length_map, Po.tr_len]; rfl
theorem take_paL (xs ys : List Fp) : ((Po.tr (Po.pa xs ys)).map dv).length ≤ ((Po.pa xs ys).map dv).length := by
  rw [List.length_map, List.length_map, Po.tr_len]; exact Po.dg_le _
theorem take_pm (xs ys : List Fp) : (((List.range (xs.length + ys.length)).map (Po.co (Po.pm xs ys))).map dv).take ((Po.tr (Po.pm xs ys)).map dv).length = (Po.tr (Po.pm xs ys)).map dv := by
  rw [← List.map_take, List.length_map, Po.tr_len, pad_tr]
theorem take_pmL (xs ys : List Fp) : ((Po.tr (Po.pm xs ys)).map dv).length ≤ (((List.range (xs.length + ys.length)).map (Po.co (Po.pm xs ys))).map dv).length := by
  rw [List.length_map, List.length_map, Po.tr_len, List.length_map, List.length_range]
  exact Nat.le_trans (Po.dg_le _) (Po.pm_len xs ys)
theorem raddT_ctr {xs ys zs : List Fp} {n k : Nat} (hn : xs.length = n) (hk : ys.length = k) (hx : n < 1000000) (hy : k < 1000000) (hz : Po.tr (Po.pa xs ys) = zs) : GC Tryz.prog 30 [.slice (some ⟨0, 0, none⟩) n 0, .slice (some ⟨1, 0, none⟩) k 0] [⟨xs.map (dv), false, 1⟩, ⟨ys.map (dv), false, 1⟩] [.slice (some ⟨2, 0, none⟩) zs.length 0] [⟨xs.map (dv), false, 1⟩, ⟨ys.map (dv), false, 1⟩, ⟨zs.map dv, true, 1⟩] := by
  subst hz
  rw [Po.tr_len]
  refine GC.intro Tryz.func30 rfl (by show 2 ≤ 32; decide) (by first | exact Nat.le_refl _ | decide | simp) ?_
  subst hn
  subst hk
  have hpl : (Po.pa xs ys).length = (Nat.max xs.length ys.length) := Po.pa_len xs ys
  have hm1 := Nat.max_lt.2 ⟨hx, hy⟩
  have hm2 : (Nat.max xs.length ys.length) < 1000000 := hm1
  refine AW.seqR ?_
  refine AWo.pure (PureOp.assign rfl) rfl rfl ?_
  refine AWo.nil trivial ?_
  refine AW.seqR ?_
  refine AWo.buildSlice tbok 8000 [] (out := []) rfl rfl (by decide) rfl rfl rfl (by decide) rfl rfl rfl rfl rfl ?_
  refine AWo.pure (PureOp.assign rfl) rfl rfl ?_
  refine AWo.nil trivial ?_
  refine AW.seq ?_
  refine AW.seqR ?_
  refine AWo.pure (PureOp.assign rfl) rfl rfl ?_
  refine AWo.nil trivial ?_
  refine AW.block ?_
  refine AW.loopw (fun mm σ => ∃ i, (i ≤ (Nat.max xs.length ys.length)) ∧ mm = (Nat.max xs.length ys.length) - i ∧ σ = ⟨(upd (upd (upd (upd emp 0 (.slice (some ⟨0, 0, none⟩) xs.length 0)) 1 (.slice (some ⟨1, 0, none⟩) ys.length 0)) 5 (.slice (some ⟨77000, 0, none⟩) i 0)) 6 (vi .i64 i)), (upd (upd (upd emp 0 ⟨xs.map dv, false, 1⟩) 1 ⟨ys.map dv, false, 1⟩) 77000 ⟨((Po.pa xs ys).take i).map dv, true, 1⟩)⟩) (fm := [(77000, 8000)]) ?_ ⟨0, Nat.zero_le _, rfl, rfl⟩ ?_
  ·
    refine Wk.of [0, 1, 77000] ?_ ?_ ?_ (by decide) rfl
    ·
      refine WkE.upd rfl (by first | exact VR.flat _ rfl | exact VR.eqv (vp_succ _) rfl | exact VR.eqv (vp_succ _).symm rfl | exact VR.eqv (by first | rfl | (congr 1; omega) | (simp; done) | (simp; omega)) rfl) ?_
      refine WkE.upd rfl (by first | exact .nilS _ (by simp) | exact .slice (77000) 0 _ 0 ⟨_, rfl⟩ (by simp) (by simp)) ?_
      refine WkE.upd rfl (.slice (1) 0 _ 0 ⟨_, rfl⟩ (by simp) (by simp)) ?_
      refine WkE.upd rfl (.slice (0) 0 _ 0 ⟨_, rfl⟩ (by simp) (by simp)) ?_
      exact WkE.emp
    ·
      refine WkM.cloM rfl rfl (fun _ => rfl) (fun h => h) ?_
      refine WkM.cloM rfl rfl (fun _ => rfl) (fun h => h) ?_
      refine WkM.cloM rfl rfl (fun _ => rfl) (fun h => h) ?_
      exact WkM.emp
    ·
      repeat (refine dom_upd_mem (by decide) ?_)
      exact dom_emp
  ·
    rintro mm σ ⟨i, hinv, rfl, rfl⟩
    refine AW.seq ?_
    refine AW.seqR ?_
    refine AWo.pure (PureOp.move rfl) rfl rfl ?_
    refine AWo.pure (PureOp.move rfl) rfl rfl ?_
    first | refine AWo.pure (PureOp.lenS tbok rfl rfl) rfl rfl ?_ | refine AWo.pure (PureOp.lenD tbok rfl rfl) rfl rfl ?_
    first | refine AWo.pure (PureOp.ltN rfl rfl) rfl rfl ?_ | refine AWo.pure (PureOp.bin rfl rfl rfl) rfl rfl ?_
    first | refine AWo.pureB (PureOp.move rfl) rfl rfl (fun hb0 => ?_) (fun hb0 => ?_)
    ·
      have hi : i < (Nat.max xs.length ys.length) := Nat.lt_of_lt_of_le (of_decide_eq_true hb0) (Nat.le_max_left _ _)
      refine AWo.skipped rfl rfl ?_
      refine AWo.skipped rfl rfl ?_
      refine AWo.skipped rfl rfl ?_
      refine AWo.skipped rfl rfl ?_
      refine AWo.pure (PureOp.pickT rfl rfl) rfl rfl ?_
      refine AWo.nil trivial ?_
      refine AW.condT rfl ?_
      refine AW.skip ?_
      refine thenA_normal ?_
      refine AW.seq ?_
      refine AW.block ?_
      refine AW.region ?_
      refine AWo.pure (PureOp.move rfl) rfl rfl ?_
      refine AWo.pure (PureOp.move rfl) rfl rfl ?_
      refine AWo.pure (PureOp.move rfl) rfl rfl ?_
      refine AWo.callX (rget_ctr (xs := xs) (n := xs.length) (i := i) rfl (by omega)) bd58 [(0, 0)] [] rfl (.cons rfl (.cons rfl .nil)) rfl (.cons rfl rfl (.cons rfl rfl .nil)) (.clo rfl (cloM fun _ => rfl) (by intro h; first | exact h | rfl) .nil) rfl (.keep rfl .nil) frN (by decide) (.cons rfl rfl .nil) rfl rfl rfl rfl ?_
      refine AWo.pure (PureOp.move rfl) rfl rfl ?_
      refine AWo.pure (PureOp.move rfl) rfl rfl ?_
      refine AWo.callX (rget_ctr (xs := ys) (n := ys.length) (i := i) rfl (by omega)) bd58 [(1, 0)] [] rfl (.cons rfl (.cons rfl .nil)) rfl (.cons rfl rfl (.cons rfl rfl .nil)) (.clo rfl (cloM fun _ => rfl) (by intro h; first | exact h | rfl) .nil) rfl (.keep rfl .nil) frN (by decide) (.cons rfl rfl .nil) rfl rfl rfl rfl ?_
      refine AWo.callX (addRd (x := Po.co xs i) (y := Po.co ys i)) bd23 [] [] rfl (.cons rfl (.cons rfl .nil)) rfl (.cons rfl rfl (.cons rfl rfl .nil)) .nil rfl .nil frN (by decide) (.cons rfl rfl .nil) rfl rfl rfl rfl ?_
      refine AWo.buildSlice tbok 29000 [(0, dv (Po.co xs i + Po.co ys i))] (out := [dv (Po.co xs i + Po.co ys i)]) rfl rfl (by decide) rfl rfl rfl (by decide) rfl rfl rfl rfl rfl ?_
      refine AWo.append tbok (all := ((Po.pa xs ys).take (i + 1)).map dv) (news := [dv (Po.co xs i + Po.co ys i)]) 30000 rfl rfl rfl rfl (by simp; omega) (by show List.take _ (List.drop 0 _) = _; rw [List.drop_zero]; exact List.take_of_length_le (by simp)) (by first | decide | (simp; done) | (simp; omega)) (by decide) rfl rfl rfl (by first | decide | exact Nat.one_ne_zero) rfl rfl rfl (by first | decide | omega) (by first | decide | omega) (by rfl) (by rw [← pa_step (by omega), List.map_append]; rfl) rfl rfl ?_
      refine AWo.pure (PureOp.assign rfl) rfl rfl ?_
      refine AWo.nil trivial ?_
      refine inBlockA_normal ?_
      refine thenA_normal ?_
      refine AW.region ?_
      refine AWo.pure (PureOp.move rfl) rfl rfl ?_
      first | refine AWo.pure (PureOp.addI (b := 1) rfl rfl (by first | decide | omega)) rfl rfl ?_ | refine AWo.pure (PureOp.bin rfl rfl rfl) rfl rfl ?_
      refine AWo.pure (PureOp.assign rfl) rfl rfl ?_
      refine AWo.nil trivial ?_
      refine thenA_normal ?_
      refine ⟨(Nat.max xs.length ys.length) - (i + 1), [(77000, 30000)], _, by omega, ?_, i + 1, by omega, rfl, rfl⟩
      refine Wk.of [0, 1, 77000] ?_ ?_ ?_ (by decide) rfl
      ·
        refine WkE.upd rfl (by first | exact VR.flat _ rfl | exact VR.eqv (vp_succ _) rfl | exact VR.eqv (vp_succ _).symm rfl | exact VR.eqv (by first | rfl | (congr 1; omega) | (simp; done) | (simp; omega)) rfl) ?_
        refine WkE.upd rfl (by first | exact .nilS _ (by simp) | exact .slice (77000) 0 _ 0 ⟨_, rfl⟩ (by simp) (by simp)) ?_
        refine WkE.upd rfl (.slice (1) 0 _ 0 ⟨_, rfl⟩ (by simp) (by simp)) ?_
        refine WkE.upd rfl (.slice (0) 0 _ 0 ⟨_, rfl⟩ (by simp) (by simp)) ?_
        exact WkE.emp
      ·
        refine WkM.cloM rfl rfl (fun _ => rfl) (fun h => h) ?_
        refine WkM.cloM rfl rfl (fun _ => rfl) (fun h => h) ?_
        refine WkM.cloM rfl rfl (fun _ => rfl) (fun h => h) ?_
        exact WkM.emp
      ·
        repeat (refine dom_upd_mem (by decide) ?_)
        exact dom_emp
    ·
      have hnx := of_decide_eq_false hb0
      refine AWo.pure (PureOp.move rfl) rfl rfl ?_
      refine AWo.pure (PureOp.move rfl) rfl rfl ?_
      first | refine AWo.pure (PureOp.lenS tbok rfl rfl) rfl rfl ?_ | refine AWo.pure (PureOp.lenD tbok rfl rfl) rfl rfl ?_
      first | refine AWo.pure (PureOp.ltN rfl rfl) rfl rfl ?_ | refine AWo.pure (PureOp.bin rfl rfl rfl) rfl rfl ?_
      refine AWo.pure (PureOp.pickF rfl rfl) rfl rfl ?_
      refine AWo.nil trivial ?_
      refine AW.cond rfl (fun hb1 => ?_) (fun hb1 => ?_)
      ·
        have hi : i < (Nat.max xs.length ys.length) := Nat.lt_of_lt_of_le (of_decide_eq_true hb1) (Nat.le_max_right _ _)
        refine AW.skip ?_
        refine thenA_normal ?_
        refine AW.seq ?_
        refine AW.block ?_
        refine AW.region ?_
        refine AWo.pure (PureOp.move rfl) rfl rfl ?_
        refine AWo.pure (PureOp.move rfl) rfl rfl ?_
        refine AWo.pure (PureOp.move rfl) rfl rfl ?_
        refine AWo.callX (rget_ctr (xs := xs) (n := xs.length) (i := i) rfl (by omega)) bd58 [(0, 0)] [] rfl (.cons rfl (.cons rfl .nil)) rfl (.cons rfl rfl (.cons rfl rfl .nil)) (.clo rfl (cloM fun _ => rfl) (by intro h; first | exact h | rfl) .nil) rfl (.keep rfl .nil) frN (by decide) (.cons rfl rfl .nil) rfl rfl rfl rfl ?_
        refine AWo.pure (PureOp.move rfl) rfl rfl ?_
        refine AWo.pure (PureOp.move rfl) rfl rfl ?_
        refine AWo.callX (rget_ctr (xs := ys) (n := ys.length) (i := i) rfl (by omega)) bd58 [(1, 0)] [] rfl (.cons rfl (.cons rfl .nil)) rfl (.cons rfl rfl (.cons rfl rfl .nil)) (.clo rfl (cloM fun _ => rfl) (by intro h; first | exact h | rfl) .nil) rfl (.keep rfl .nil) frN (by decide) (.cons rfl rfl .nil) rfl rfl rfl rfl ?_
        refine AWo.callX (addRd (x := Po.co xs i) (y := Po.co ys i)) bd23 [] [] rfl (.cons rfl (.cons rfl .nil)) rfl (.cons rfl rfl (.cons rfl rfl .nil)) .nil rfl .nil frN (by decide) (.cons rfl rfl .nil) rfl rfl rfl rfl ?_
        refine AWo.buildSlice tbok 29000 [(0, dv (Po.co xs i + Po.co ys i))] (out := [dv (Po.co xs i + Po.co ys i)]) rfl rfl (by decide) rfl rfl rfl (by decide) rfl rfl rfl rfl rfl ?_
        refine AWo.append tbok (all := ((Po.pa xs ys).take (i + 1)).map dv) (news := [dv (Po.co xs i + Po.co ys i)]) 30000 rfl rfl rfl rfl (by simp; omega) (by show List.take _ (List.drop 0 _) = _; rw [List.drop_zero]; exact List.take_of_length_le (by simp)) (by first | decide | (simp; done) | (simp; omega)) (by decide) rfl rfl rfl (by first | decide | exact Nat.one_ne_zero) rfl rfl rfl (by first | decide | omega) (by first | decide | omega) (by rfl) (by rw [← pa_step (by omega), List.map_append]; rfl) rfl rfl ?_
        refine AWo.pure (PureOp.assign rfl) rfl rfl ?_
        refine AWo.nil trivial ?_
        refine inBlockA_normal ?_
        refine thenA_normal ?_
        refine AW.region ?_
        refine AWo.pure (PureOp.move rfl) rfl rfl ?_
        first | refine AWo.pure (PureOp.addI (b := 1) rfl rfl (by first | decide | omega)) rfl rfl ?_ | refine AWo.pure (PureOp.bin rfl rfl rfl) rfl rfl ?_
        refine AWo.pure (PureOp.assign rfl) rfl rfl ?_
        refine AWo.nil trivial ?_
        refine thenA_normal ?_
        refine ⟨(Nat.max xs.length ys.length) - (i + 1), [(77000, 30000)], _, by omega, ?_, i + 1, by omega, rfl, rfl⟩
        refine Wk.of [0, 1, 77000] ?_ ?_ ?_ (by decide) rfl
        ·
          refine WkE.upd rfl (by first | exact VR.flat _ rfl | exact VR.eqv (vp_succ _) rfl | exact VR.eqv (vp_succ _).symm rfl | exact VR.eqv (by first | rfl | (congr 1; omega) | (simp; done) | (simp; omega)) rfl) ?_
          refine WkE.upd rfl (by first | exact .nilS _ (by simp) | exact .slice (77000) 0 _ 0 ⟨_, rfl⟩ (by simp) (by simp)) ?_
          refine WkE.upd rfl (.slice (1) 0 _ 0 ⟨_, rfl⟩ (by simp) (by simp)) ?_
          refine WkE.upd rfl (.slice (0) 0 _ 0 ⟨_, rfl⟩ (by simp) (by simp)) ?_
          exact WkE.emp
        ·
          refine WkM.cloM rfl rfl (fun _ => rfl) (fun h => h) ?_
          refine WkM.cloM rfl rfl (fun _ => rfl) (fun h => h) ?_
          refine WkM.cloM rfl rfl (fun _ => rfl) (fun h => h) ?_
          exact WkM.emp
        ·
          repeat (refine dom_upd_mem (by decide) ?_)
          exact dom_emp
      ·
        have hny := of_decide_eq_false hb1
        have hle : (Nat.max xs.length ys.length) ≤ i := Nat.max_le.2 ⟨by omega, by omega⟩
        obtain rfl : i = (Nat.max xs.length ys.length) := by omega
        simp only [List.take_of_length_le (show (Po.pa xs ys).length ≤ (Nat.max xs.length ys.length) by omega)]
        refine AW.exit ?_
        refine thenA_exit ?_
        refine thenA_exit ?_
        refine inBlockA_hit ?_
        refine thenA_normal ?_
        refine AW.seqR ?_
        refine AWo.pure (PureOp.move rfl) rfl rfl ?_
        refine AWo.callX (rtrim_ctr (xs := Po.pa xs ys) (n := (Nat.max xs.length ys.length)) hpl (by omega)) bd59 [(77000, 0)] [] rfl (.cons rfl .nil) rfl (.cons rfl rfl .nil) (.clo rfl (cloM fun _ => rfl) (by intro h; first | exact h | rfl) .nil) rfl (.keep rfl .nil) frN (by decide) (.cons rfl rfl .nil) rfl rfl rfl rfl ?_
        refine AWo.pure (PureOp.assign rfl) rfl rfl ?_
        refine AWo.nil trivial ?_
        refine AW.ret ?_
        refine RetQ.gc [_] [77000] [.tmp 4] (.inl rfl) rfl (.tmp rfl .nil) rfl (.cons rfl rfl .nil) (OutL.clo rfl (cloM fun _ => rfl) (by intro h; first | rfl | exact h.elim id fun h => absurd h.1 (by simp)) (OutL.clo rfl (cloM fun _ => rfl) (by intro h; first | rfl | exact h.elim id fun h => absurd h.1 (by simp)) (OutL.cloPart rfl (take_pa xs ys) (cloM fun _ => rfl) (fun _ => rfl) (take_paL xs ys) trivial))) (by decide) rfl
theorem rmulT_ctr {xs ys zs : List Fp} {n m : Nat} (hn : xs.length = n) (hk : ys.length = m) (hx : n < 100000) (hy : m < 100000) (hz : Po.tr (Po.pm xs ys) = zs) : GC Tryz.prog 28 [.slice (some ⟨0, 0, none⟩) n 0, .slice (some ⟨1, 0, none⟩) m 0] [⟨xs.map (dv), false, 1⟩, ⟨ys.map (dv), false, 1⟩] [.slice (some ⟨2, 0, none⟩) zs.length 0] [⟨xs.map (dv), false, 1⟩, ⟨ys.map (dv), false, 1⟩, ⟨zs.map dv, true, 1⟩] := by
  subst hz
  rw [Po.tr_len]
  refine GC.intro Tryz.func28 rfl (by show 2 ≤ 49; decide) (by first | exact Nat.le_refl _ | decide | simp) ?_
  subst hn
  subst hk
  refine AW.seqR ?_
  refine AWo.pure (PureOp.assign rfl) rfl rfl ?_
  refine AWo.nil trivial ?_
  refine AW.seqR ?_
  refine AWo.buildSlice tbok 10000 [] (out := []) rfl rfl (by decide) rfl rfl rfl (by decide) rfl rfl rfl rfl rfl ?_
  refine AWo.pure (PureOp.assign rfl) rfl rfl ?_
  refine AWo.nil trivial ?_
  refine AW.seq ?_
  refine AW.seqR ?_
  refine AWo.pure (PureOp.assign rfl) rfl rfl ?_
  refine AWo.nil trivial ?_
  refine AW.block ?_
  refine AW.loopw (fun mm σ => ∃ k, (k ≤ (xs.length + ys.length)) ∧ mm = (xs.length + ys.length) - k ∧ σ = ⟨(upd (upd (upd (upd emp 0 (.slice (some ⟨0, 0, none⟩) xs.length 0)) 1 (.slice (some ⟨1, 0, none⟩) ys.length 0)) 5 (.slice (some ⟨77000, 0, none⟩) k 0)) 6 (vi .i64 k)), (upd (upd (upd emp 0 ⟨xs.map dv, false, 1⟩) 1 ⟨ys.map dv, false, 1⟩) 77000 ⟨((List.range k).map (Po.co (Po.pm xs ys))).map dv, true, 1⟩)⟩) (fm := [(77000, 10000)]) ?_ ⟨0, Nat.zero_le _, rfl, rfl⟩ ?_
  ·
    refine Wk.of [0, 1, 77000] ?_ ?_ ?_ (by decide) rfl
    ·
      refine WkE.upd rfl (by first | exact VR.flat _ rfl | exact VR.eqv (vp_succ _) rfl | exact VR.eqv (vp_succ _).symm rfl | exact VR.eqv (by first | rfl | (congr 1; omega) | (simp; done) | (simp; omega)) rfl) ?_
      refine WkE.upd rfl (by first | exact .nilS _ (by simp) | exact .slice (77000) 0 _ 0 ⟨_, rfl⟩ (by simp) (by simp)) ?_
      refine WkE.upd rfl (.slice (1) 0 _ 0 ⟨_, rfl⟩ (by simp) (by simp)) ?_
      refine WkE.upd rfl (.slice (0) 0 _ 0 ⟨_, rfl⟩ (by simp) (by simp)) ?_
      exact WkE.emp
    ·
      refine WkM.cloM rfl rfl (fun _ => rfl) (fun h => h) ?_
      refine WkM.cloM rfl rfl (fun _ => rfl) (fun h => h) ?_
      refine WkM.cloM rfl rfl (fun _ => rfl) (fun h => h) ?_
      exact WkM.emp
    ·
      repeat (refine dom_upd_mem (by decide) ?_)
      exact dom_emp
  ·
    rintro mm σ ⟨k, hk0, rfl, rfl⟩
    refine AW.seq ?_
    refine AW.seqR ?_
    refine AWo.pure (PureOp.move rfl) rfl rfl ?_
    refine AWo.pure (PureOp.move rfl) rfl rfl ?_
    first | refine AWo.pure (PureOp.lenS tbok rfl rfl) rfl rfl ?_ | refine AWo.pure (PureOp.lenD tbok rfl rfl) rfl rfl ?_
    refine AWo.pure (PureOp.move rfl) rfl rfl ?_
    first | refine AWo.pure (PureOp.lenS tbok rfl rfl) rfl rfl ?_ | refine AWo.pure (PureOp.lenD tbok rfl rfl) rfl rfl ?_
    first | refine AWo.pure (PureOp.addI rfl rfl (by first | decide | omega)) rfl rfl ?_ | refine AWo.pure (PureOp.bin rfl rfl rfl) rfl rfl ?_
    first | refine AWo.pure (PureOp.ltN rfl rfl) rfl rfl ?_ | refine AWo.pure (PureOp.bin rfl rfl rfl) rfl rfl ?_
    refine AWo.nil trivial ?_
    refine AW.cond rfl (fun hb0 => ?_) (fun hb0 => ?_)
    ·
      have hk1 : k < (xs.length + ys.length) := by simpa using hb0
      refine AW.skip ?_
      refine thenA_normal ?_
      refine AW.seq ?_
      refine AW.block ?_
      refine AW.seqR ?_
      refine AWo.buildSlice tbok 20000 [] (out := []) rfl rfl (by decide) rfl rfl rfl (by decide) rfl rfl rfl rfl rfl ?_
      refine AWo.pure (PureOp.assign rfl) rfl rfl ?_
      refine AWo.nil trivial ?_
      refine AW.seq ?_
      refine AW.freeze 7 20000 ([] : List Value) ?_ rfl rfl (by simp) (by simp) rfl
      rw [sum0 (xs := xs) (ys := ys) (k := k)]
      refine AW.seqR ?_
      refine AWo.pure (PureOp.assign rfl) rfl rfl ?_
      refine AWo.nil trivial ?_
      refine AW.block ?_
      refine AW.loopw (fun mm σ => ∃ i, (i ≤ xs.length) ∧ mm = xs.length - i ∧ σ = ⟨(upd (upd (upd (upd (upd (upd emp 0 (.slice (some ⟨0, 0, none⟩) xs.length 0)) 1 (.slice (some ⟨1, 0, none⟩) ys.length 0)) 5 (.slice (some ⟨77000, 0, none⟩) k 0)) 6 (vi .i64 k)) 7 (dv (Po.co (Po.pm (xs.take i) ys) k))) 8 (vi .i64 i)), (upd (upd (upd emp 0 ⟨xs.map dv, false, 1⟩) 1 ⟨ys.map dv, false, 1⟩) 77000 ⟨((List.range k).map (Po.co (Po.pm xs ys))).map dv, true, 1⟩)⟩) (fm := []) ?_ ⟨0, Nat.zero_le _, rfl, rfl⟩ ?_
      ·
        refine Wk.of [0, 1, 77000] ?_ ?_ ?_ (by decide) rfl
        ·
          refine WkE.upd rfl (by first | exact VR.flat _ rfl | exact VR.eqv (vp_succ _) rfl | exact VR.eqv (vp_succ _).symm rfl | exact VR.eqv (by first | rfl | (congr 1; omega) | (simp; done) | (simp; omega)) rfl) ?_
          refine WkE.upd rfl (clo_refl (by simp) rfl) ?_
          refine WkE.upd rfl (by first | exact VR.flat _ rfl | exact VR.eqv (vp_succ _) rfl | exact VR.eqv (vp_succ _).symm rfl | exact VR.eqv (by first | rfl | (congr 1; omega) | (simp; done) | (simp; omega)) rfl) ?_
          refine WkE.upd rfl (by first | exact .nilS _ (by simp) | exact .slice (77000) 0 _ 0 ⟨_, rfl⟩ (by simp) (by simp)) ?_
          refine WkE.upd rfl (.slice (1) 0 _ 0 ⟨_, rfl⟩ (by simp) (by simp)) ?_
          refine WkE.upd rfl (.slice (0) 0 _ 0 ⟨_, rfl⟩ (by simp) (by simp)) ?_
          exact WkE.emp
        ·
          refine WkM.cloM rfl rfl (fun _ => rfl) (fun h => h) ?_
          refine WkM.cloM rfl rfl (fun _ => rfl) (fun h => h) ?_
          refine WkM.cloM rfl rfl (fun _ => rfl) (fun h => h) ?_
          exact WkM.emp
        ·
          repeat (refine dom_upd_mem (by decide) ?_)
          exact dom_emp
      ·
        rintro mm σ ⟨i, hinv, rfl, rfl⟩
        refine AW.seq ?_
        refine AW.seqR ?_
        refine AWo.pure (PureOp.move rfl) rfl rfl ?_
        refine AWo.pure (PureOp.move rfl) rfl rfl ?_
        refine yP (PureOp.leN (a := i) (b := k) rfl rfl) ?_
        first | refine AWo.pureB (PureOp.move rfl) rfl rfl (fun hb1 => ?_) (fun hb1 => ?_)
        ·
          have hik : i ≤ k := of_decide_eq_true hb1
          refine AWo.pure (PureOp.move rfl) rfl rfl ?_
          refine AWo.pure (PureOp.move rfl) rfl rfl ?_
          first | refine AWo.pure (PureOp.lenS tbok rfl rfl) rfl rfl ?_ | refine AWo.pure (PureOp.lenD tbok rfl rfl) rfl rfl ?_
          first | refine AWo.pure (PureOp.ltN rfl rfl) rfl rfl ?_ | refine AWo.pure (PureOp.bin rfl rfl rfl) rfl rfl ?_
          refine AWo.pure (PureOp.pickT rfl rfl) rfl rfl ?_
          refine AWo.nil trivial ?_
          refine AW.cond rfl (fun hb2 => ?_) (fun hb2 => ?_)
          ·
            have hi : i < xs.length := of_decide_eq_true hb2
            refine AW.skip ?_
            refine thenA_normal ?_
            refine AW.seq ?_
            refine AW.block ?_
            refine AW.draw mixed ?_
            refine AWo.pure (PureOp.move rfl) rfl rfl ?_
            refine AWo.pure (PureOp.move rfl) rfl rfl ?_
            refine AWo.pure (PureOp.move rfl) rfl rfl ?_
            refine AWo.pure (PureOp.idx1 tbok (j := i) rfl rfl rfl rfl hi) rfl rfl ?_
            refine AWo.loadM tbok (f := dv) 0 rfl rfl rfl hi rfl rfl ?_
            refine AWo.pure (PureOp.move rfl) rfl rfl ?_
            refine AWo.pure (PureOp.move rfl) rfl rfl ?_
            refine AWo.pure (PureOp.move rfl) rfl rfl ?_
            first | refine AWo.pure (PureOp.subI rfl rfl (by first | decide | omega) (by first | decide | omega)) rfl rfl ?_ | refine AWo.pure (PureOp.subP rfl rfl (by first | decide | omega)) rfl rfl ?_ | refine AWo.pure (PureOp.bin rfl rfl rfl) rfl rfl ?_
            refine AWo.callX (rget_ctr (xs := ys) (n := ys.length) (i := k - i) rfl (by omega)) bd58 [(1, 0)] [] rfl (.cons rfl (.cons rfl .nil)) rfl (.cons rfl rfl (.cons rfl rfl .nil)) (.clo rfl (cloM fun _ => rfl) (by intro h; first | exact h | rfl) .nil) rfl (.keep rfl .nil) frN (by decide) (.cons rfl rfl .nil) rfl rfl rfl rfl ?_
            refine AWo.callX (mulRd (x := xs.getD i 0) (y := Po.co ys (k - i))) bd22 [] [] rfl (.cons rfl (.cons rfl .nil)) rfl (.cons rfl rfl (.cons rfl rfl .nil)) .nil rfl .nil frN (by decide) (.cons rfl rfl .nil) rfl rfl rfl rfl ?_
            refine AWo.callX (v := dv (Po.co (Po.pm (xs.take (i + 1)) ys) k)) (addRd (x := Po.co (Po.pm (xs.take i) ys) k) (y := xs.getD i 0 * Po.co ys (k - i))) bd23 [] [] rfl (.cons rfl (.cons rfl .nil)) rfl (.cons rfl rfl (.cons rfl rfl .nil)) .nil rfl .nil frN (by decide) (.cons rfl rfl .nil) (by rw [sum_step hi hik]; rfl) rfl rfl rfl ?_
            refine AWo.pure (PureOp.assign rfl) rfl rfl ?_
            refine AWo.nil (by kernel_rfl) ?_
            refine inBlockA_normal ?_
            refine thenA_normal ?_
            refine AW.region ?_
            refine AWo.pure (PureOp.move rfl) rfl rfl ?_
            first | refine AWo.pure (PureOp.addI (b := 1) rfl rfl (by first | decide | omega)) rfl rfl ?_ | refine AWo.pure (PureOp.bin rfl rfl rfl) rfl rfl ?_
            refine AWo.pure (PureOp.assign rfl) rfl rfl ?_
            refine AWo.nil trivial ?_
            refine thenA_normal ?_
            refine ⟨xs.length - (i + 1), [], _, by omega, ?_, i + 1, by omega, rfl, rfl⟩
            refine Wk.of [0, 1, 77000] ?_ ?_ ?_ (by decide) rfl
            ·
              refine WkE.upd rfl (by first | exact VR.flat _ rfl | exact VR.eqv (vp_succ _) rfl | exact VR.eqv (vp_succ _).symm rfl | exact VR.eqv (by first | rfl | (congr 1; omega) | (simp; done) | (simp; omega)) rfl) ?_
              refine WkE.upd rfl (clo_refl (by simp) rfl) ?_
              refine WkE.upd rfl (by first | exact VR.flat _ rfl | exact VR.eqv (vp_succ _) rfl | exact VR.eqv (vp_succ _).symm rfl | exact VR.eqv (by first | rfl | (congr 1; omega) | (simp; done) | (simp; omega)) rfl) ?_
              refine WkE.upd rfl (by first | exact .nilS _ (by simp) | exact .slice (77000) 0 _ 0 ⟨_, rfl⟩ (by simp) (by simp)) ?_
              refine WkE.upd rfl (.slice (1) 0 _ 0 ⟨_, rfl⟩ (by simp) (by simp)) ?_
              refine WkE.upd rfl (.slice (0) 0 _ 0 ⟨_, rfl⟩ (by simp) (by simp)) ?_
              exact WkE.emp
            ·
              refine WkM.cloM rfl rfl (fun _ => rfl) (fun h => h) ?_
              refine WkM.cloM rfl rfl (fun _ => rfl) (fun h => h) ?_
              refine WkM.cloM rfl rfl (fun _ => rfl) (fun h => h) ?_
              exact WkM.emp
            ·
              repeat (refine dom_upd_mem (by decide) ?_)
              exact dom_emp
          ·
            have hi := of_decide_eq_false hb2
            rw [sum_end (xs := xs) (ys := ys) (k := k) (i := i) (.inr (by omega))]
            refine AW.exit ?_
            refine thenA_exit ?_
            refine thenA_exit ?_
            refine inBlockA_hit ?_
            refine thenA_normal ?_
            refine AW.region ?_
            refine AWo.pure (PureOp.move rfl) rfl rfl ?_
            refine AWo.pure (PureOp.move rfl) rfl rfl ?_
            refine AWo.buildSlice tbok 46000 [(0, dv (Po.co (Po.pm xs ys) k))] (out := [dv (Po.co (Po.pm xs ys) k)]) rfl rfl (by decide) rfl rfl rfl (by decide) rfl rfl rfl rfl rfl ?_
            refine AWo.append tbok (all := ((List.range (k + 1)).map (Po.co (Po.pm xs ys))).map dv) (news := [dv (Po.co (Po.pm xs ys) k)]) 47000 rfl rfl rfl rfl (by simp) (by show List.take _ (List.drop 0 _) = _; rw [List.drop_zero]; exact List.take_of_length_le (by simp)) (by first | decide | (simp; done) | (simp; omega)) (by decide) rfl rfl rfl (by first | decide | exact Nat.one_ne_zero) rfl rfl rfl (by first | decide | omega) (by first | decide | omega) (by rfl) (by rw [List.range_succ, List.map_append, List.map_append]; rfl) rfl rfl ?_
            refine AWo.pure (PureOp.assign rfl) rfl rfl ?_
            refine AWo.nil trivial ?_
            refine inBlockA_normal ?_
            refine thenA_normal ?_
            refine AW.region ?_
            refine AWo.pure (PureOp.move rfl) rfl rfl ?_
            first | refine AWo.pure (PureOp.addI (b := 1) rfl rfl (by first | decide | omega)) rfl rfl ?_ | refine AWo.pure (PureOp.bin rfl rfl rfl) rfl rfl ?_
            refine AWo.pure (PureOp.assign rfl) rfl rfl ?_
            refine AWo.nil trivial ?_
            refine thenA_normal ?_
            refine ⟨(xs.length + ys.length) - (k + 1), [(77000, 47000)], _, by omega, ?_, k + 1, by omega, rfl, rfl⟩
            refine Wk.of [0, 1, 77000] ?_ ?_ ?_ (by decide) rfl
            ·
              refine WkE.upd rfl (by first | exact VR.flat _ rfl | exact VR.eqv (vp_succ _) rfl | exact VR.eqv (vp_succ _).symm rfl | exact VR.eqv (by first | rfl | (congr 1; omega) | (simp; done) | (simp; omega)) rfl) ?_
              refine WkE.upd rfl (by first | exact .nilS _ (by simp) | exact .slice (77000) 0 _ 0 ⟨_, rfl⟩ (by simp) (by simp)) ?_
              refine WkE.upd rfl (.slice (1) 0 _ 0 ⟨_, rfl⟩ (by simp) (by simp)) ?_
              refine WkE.upd rfl (.slice (0) 0 _ 0 ⟨_, rfl⟩ (by simp) (by simp)) ?_
              exact WkE.emp
            ·
              refine WkM.cloM rfl rfl (fun _ => rfl) (fun h => h) ?_
              refine WkM.cloM rfl rfl (fun _ => rfl) (fun h => h) ?_
              refine WkM.cloM rfl rfl (fun _ => rfl) (fun h => h) ?_
              exact WkM.emp
            ·
              repeat (refine dom_upd_mem (by decide) ?_)
              exact dom_emp
        ·
          have hik := of_decide_eq_false hb1
          rw [sum_end (xs := xs) (ys := ys) (k := k) (i := i) (.inl (by omega))]
          refine AWo.skipped rfl rfl ?_
          refine AWo.skipped rfl rfl ?_
          refine AWo.skipped rfl rfl ?_
          refine AWo.skipped rfl rfl ?_
          refine AWo.pure (PureOp.pickF rfl rfl) rfl rfl ?_
          refine AWo.nil trivial ?_
          refine AW.condF rfl ?_
          refine AW.exit ?_
          refine thenA_exit ?_
          refine thenA_exit ?_
          refine inBlockA_hit ?_
          refine thenA_normal ?_
          refine AW.region ?_
          refine AWo.pure (PureOp.move rfl) rfl rfl ?_
          refine AWo.pure (PureOp.move rfl) rfl rfl ?_
          refine AWo.buildSlice tbok 46000 [(0, dv (Po.co (Po.pm xs ys) k))] (out := [dv (Po.co (Po.pm xs ys) k)]) rfl rfl (by decide) rfl rfl rfl (by decide) rfl rfl rfl rfl rfl ?_
          refine AWo.append tbok (all := ((List.range (k + 1)).map (Po.co (Po.pm xs ys))).map dv) (news := [dv (Po.co (Po.pm xs ys) k)]) 47000 rfl rfl rfl rfl (by simp) (by show List.take _ (List.drop 0 _) = _; rw [List.drop_zero]; exact List.take_of_length_le (by simp)) (by first | decide | (simp; done) | (simp; omega)) (by decide) rfl rfl rfl (by first | decide | exact Nat.one_ne_zero) rfl rfl rfl (by first | decide | omega) (by first | decide | omega) (by rfl) (by rw [List.range_succ, List.map_append, List.map_append]; rfl) rfl rfl ?_
          refine AWo.pure (PureOp.assign rfl) rfl rfl ?_
          refine AWo.nil trivial ?_
          refine inBlockA_normal ?_
          refine thenA_normal ?_
          refine AW.region ?_
          refine AWo.pure (PureOp.move rfl) rfl rfl ?_
          first | refine AWo.pure (PureOp.addI (b := 1) rfl rfl (by first | decide | omega)) rfl rfl ?_ | refine AWo.pure (PureOp.bin rfl rfl rfl) rfl rfl ?_
          refine AWo.pure (PureOp.assign rfl) rfl rfl ?_
          refine AWo.nil trivial ?_
          refine thenA_normal ?_
          refine ⟨(xs.length + ys.length) - (k + 1), [(77000, 47000)], _, by omega, ?_, k + 1, by omega, rfl, rfl⟩
          refine Wk.of [0, 1, 77000] ?_ ?_ ?_ (by decide) rfl
          ·
            refine WkE.upd rfl (by first | exact VR.flat _ rfl | exact VR.eqv (vp_succ _) rfl | exact VR.eqv (vp_succ _).symm rfl | exact VR.eqv (by first | rfl | (congr 1; omega) | (simp; done) | (simp; omega)) rfl) ?_
            refine WkE.upd rfl (by first | exact .nilS _ (by simp) | exact .slice (77000) 0 _ 0 ⟨_, rfl⟩ (by simp) (by simp)) ?_
            refine WkE.upd rfl (.slice (1) 0 _ 0 ⟨_, rfl⟩ (by simp) (by simp)) ?_
            refine WkE.upd rfl (.slice (0) 0 _ 0 ⟨_, rfl⟩ (by simp) (by simp)) ?_
            exact WkE.emp
          ·
            refine WkM.cloM rfl rfl (fun _ => rfl) (fun h => h) ?_
            refine WkM.cloM rfl rfl (fun _ => rfl) (fun h => h) ?_
            refine WkM.cloM rfl rfl (fun _ => rfl) (fun h => h) ?_
            exact WkM.emp
          ·
            repeat (refine dom_upd_mem (by decide) ?_)
            exact dom_emp
    ·
      obtain rfl : k = (xs.length + ys.length) := by simp at hb0; omega
      rw [← dg_pad xs ys]
      refine AW.exit ?_
      refine thenA_exit ?_
      refine thenA_exit ?_
      refine inBlockA_hit ?_
      refine thenA_normal ?_
      refine AW.seqR ?_
      refine AWo.pure (PureOp.move rfl) rfl rfl ?_
      refine AWo.callX (rtrim_ctr (xs := (List.range (xs.length + ys.length)).map (Po.co (Po.pm xs ys))) (n := (xs.length + ys.length)) (by simp) (by omega)) bd59 [(77000, 0)] [] rfl (.cons rfl .nil) rfl (.cons rfl rfl .nil) (.clo rfl (cloM fun _ => rfl) (by intro h; first | exact h | rfl) .nil) rfl (.keep rfl .nil) frN (by decide) (.cons rfl rfl .nil) rfl rfl rfl rfl ?_
      refine AWo.pure (PureOp.assign rfl) rfl rfl ?_
      refine AWo.nil trivial ?_
      refine AW.ret ?_
      refine RetQ.gc [_] [77000] [.tmp 4] (.inl rfl) rfl (.tmp rfl .nil) rfl (.cons rfl rfl .nil) (OutL.clo rfl (cloM fun _ => rfl) (by intro h; first | rfl | exact h.elim id fun h => absurd h.1 (by simp)) (OutL.clo rfl (cloM fun _ => rfl) (by intro h; first | rfl | exact h.elim id fun h => absurd h.1 (by simp)) (OutL.cloPart rfl (take_pm xs ys) (cloM fun _ => rfl) (fun _ => rfl) (take_pmL xs ys) trivial))) (by decide) rfl
theorem tr_le {p : List Fp} {d : Nat} (h : ∀ i, d ≤ i → Po.co p i = 0) : (Po.tr p).length ≤ d := by rw [Po.tr_len]; exact dg_bound h
end Go.Proofs.YteeifahhejangaaGreatDoor
namespace Go.Proofs.YteeifahhejangaaGreatDoor
open Go Sim
theorem nil_clo (xs : List Fp) (m : Nat) : ∀ v ∈ xs.map dv ++ List.replicate m (Value.slice none 0 0), cloV v = true := by
  intro v hv
  rcases List.mem_append.1 hv with h | h
  · obtain ⟨x, _, rfl⟩ := List.mem_map.1 h; rfl
  · rw [(List.mem_replicate.1 h).2]; rfl
theorem nil_pad (xs : List Fp) (n : Nat) : ∀ (k : Nat) (v' : Value), ((pad xs n).map dv)[k]? = some v' → ∃ v, (xs.map dv ++ List.replicate (n - xs.length) (Value.slice none 0 0))[k]? = some v ∧ ∀ D ρ u, VR .real D ρ v u → VR .real D ρ v' u := by
  intro k v' hv
  rw [pad, List.map_append] at hv
  by_cases hk : k < xs.length
  · rw [List.getElem?_append_left (by simpa using hk)] at hv
    exact ⟨v', by rw [List.getElem?_append_left (by simpa using hk)]; exact hv, fun _ _ _ h => h⟩
  · rw [List.getElem?_append_right (by simpa using hk)] at hv
    have hl := (List.getElem?_eq_some_iff.1 hv).1
    simp only [List.length_map, List.length_replicate] at hl
    rw [List.map_replicate, List.getElem?_replicate, if_pos (by simpa using hl)] at hv
    obtain rfl := Option.some.inj hv
    refine ⟨.slice none 0 0, by rw [List.getElem?_append_right (by simpa using hk), List.getElem?_replicate, if_pos (by simpa using hl)], fun D ρ u hu => ?_⟩
    rw [flat_inv hu rfl]
    exact .deepN 1 (by simp)
theorem rRound_ctr {Ts : List (List Fp)} {k : Nat} (hk : Ts.length = k) (hk6 : k < 1000) (hs : ∀ t ∈ Ts, t.length < 1000000) : GC Tryz.prog 11 [.slice (some ⟨0, 0, none⟩) k 0] [⟨Ts.map (dr), false, 1⟩] [.slice (some ⟨1, 0, none⟩) (roT Ts).length 0, .int .i64 (roC Ts)] [⟨Ts.map (dr), false, 1⟩, ⟨(roT Ts).map dv, true, 1⟩] := by
  refine GC.intro Tryz.func11 rfl (by show 1 ≤ 80; decide) (by first | exact Nat.le_refl _ | decide | simp) ?_
  subst hk
  refine AW.ghost 77000 1 rfl ?_
  refine AW.seqR ?_
  refine AWo.pure (PureOp.assign rfl) rfl rfl ?_
  refine AWo.pure (PureOp.assign rfl) rfl rfl ?_
  refine AWo.nil trivial ?_
  refine AW.seqR ?_
  refine AWo.pure (PureOp.move rfl) rfl rfl ?_
  refine AWo.callX (rcheck_ctr (Ts := Ts) (k := Ts.length) rfl (by omega) hs) bd21 [(0, 0)] [] rfl (.cons rfl .nil) rfl (.cons rfl rfl .nil) (.clo rfl (cloM fun _ => rfl) (by intro h; first | exact h | rfl) .nil) rfl (.keep rfl .nil) frN (by decide) (.cons rfl rfl (.cons rfl rfl .nil)) rfl rfl rfl rfl ?_
  refine AWo.pure (PureOp.move rfl) rfl rfl ?_
  refine AWo.pure (PureOp.extract rfl rfl) rfl rfl ?_
  refine AWo.pure (PureOp.extract rfl rfl) rfl rfl ?_
  refine AWo.pure (PureOp.assign rfl) rfl rfl ?_
  refine AWo.pure (PureOp.assign rfl) rfl rfl ?_
  refine AWo.nil trivial ?_
  refine AW.seq ?_
  refine AW.seqR ?_
  refine AWo.pure (PureOp.move rfl) rfl rfl ?_
  first | refine AWo.pure (PureOp.neN (b := 0) rfl rfl) rfl rfl ?_ | refine AWo.pure (PureOp.bin rfl rfl rfl) rfl rfl ?_
  refine AWo.nil trivial ?_
  refine AW.cond rfl (fun hb0 => ?_) (fun hb0 => ?_)
  ·
    have hc : ¬ chC Ts = 0 := by simpa using hb0
    refine AW.seqR ?_
    refine AWo.pure (PureOp.move rfl) rfl rfl ?_
    refine AWo.pure (PureOp.assign rfl) rfl rfl ?_
    refine AWo.pure (PureOp.assign rfl) rfl rfl ?_
    refine AWo.nil trivial ?_
    refine AW.ret ?_
    refine thenA_ret ?_
    rw [show roT Ts = [] from if_neg fun h => hc h.1, show roC Ts = chC Ts from if_neg hc]
    refine RetQ.gc [_, _] [77000] [.tmp 2, .tmp 3] (.inl rfl) rfl (.tmp rfl (.tmp rfl .nil)) rfl (.nilS (.cons rfl rfl .nil)) (OutL.clo rfl (cloM fun _ => rfl) (by intro h; exact h.elim id fun h => absurd h.1 (by simp)) (OutL.clo rfl (cloM fun _ => rfl) (fun _ => rfl) trivial)) (by decide) rfl
  ·
    have hc : chC Ts = 0 := by simpa using hb0
    obtain ⟨hq0, hqm⟩ := ch_zero hc
    have hsi := hs _ (getT_mem hq0)
    refine AW.skip ?_
    refine thenA_normal ?_
    refine AW.seq ?_
    refine AW.seqR ?_
    refine AWo.pure (PureOp.move rfl) rfl rfl ?_
    first | refine AWo.pure (PureOp.eqN (b := 0) rfl rfl) rfl rfl ?_ | refine AWo.pure (PureOp.bin rfl rfl rfl) rfl rfl ?_
    refine AWo.nil trivial ?_
    refine AW.cond rfl (fun hb1 => ?_) (fun hb1 => ?_)
    ·
      have hv : chV Ts = 0 := by simpa using hb1
      refine AW.seqR ?_
      refine AWo.pure (PureOp.assign rfl) rfl rfl ?_
      refine AWo.pure (PureOp.assign rfl) rfl rfl ?_
      refine AWo.nil trivial ?_
      refine AW.ret ?_
      refine thenA_ret ?_
      rw [show roT Ts = [] from if_neg fun h => h.2 hv, show roC Ts = 13 by rw [roC, if_pos hc, if_pos hv]]
      refine RetQ.gc [_, _] [77000] [.tmp 2, .tmp 3] (.inl rfl) rfl (.tmp rfl (.tmp rfl .nil)) rfl (.nilS (.pure rfl .nil)) (OutL.clo rfl (cloM fun _ => rfl) (by intro h; exact h.elim id fun h => absurd h.1 (by simp)) (OutL.clo rfl (cloM fun _ => rfl) (fun _ => rfl) trivial)) (by decide) rfl
    ·
      have hv : ¬ chV Ts = 0 := by simpa using hb1
      have hhm := half_m hc hv
      refine AW.skip ?_
      refine thenA_normal ?_
      refine AW.seqR ?_
      refine AWo.pure (PureOp.move rfl) rfl rfl ?_
      first | refine AWo.pure (PureOp.idx1 (j := 0) tbok rfl rfl rfl rfl (by first | decide | omega)) rfl rfl ?_ | refine AWo.pure (PureOp.idx (j := 0) tbok rfl rfl rfl rfl (by first | decide | omega)) rfl rfl ?_
      refine AWo.loadM tbok (f := dr) [] rfl rfl rfl (by omega) rfl rfl ?_
      first | refine AWo.pure (PureOp.lenS tbok rfl rfl) rfl rfl ?_ | refine AWo.pure (PureOp.lenD tbok rfl rfl) rfl rfl ?_
      first | refine AWo.pure (PureOp.quoN (b := 2) 9223372036854775808 rfl rfl (by decide) (by decide) (by first | decide | omega) (by first | decide | omega)) rfl rfl ?_ | refine AWo.pure (PureOp.quo rfl rfl (by first | decide | omega)) rfl rfl ?_
      refine AWo.pure (PureOp.assign rfl) rfl rfl ?_
      refine AWo.nil trivial ?_
      refine AW.seqR ?_
      refine AWo.buildSlice tbok 27000 [] (out := []) rfl rfl (by decide) rfl rfl rfl (by decide) rfl rfl rfl rfl rfl ?_
      refine AWo.pure (PureOp.assign rfl) rfl rfl ?_
      refine AWo.nil trivial ?_
      refine AW.seq ?_
      refine AW.seqR ?_
      refine AWo.pure (PureOp.assign rfl) rfl rfl ?_
      refine AWo.nil trivial ?_
      refine AW.block ?_
      refine AW.loopw (fun mm σ => ∃ i, (i ≤ ((Ts.getD 0 []).length / 2)) ∧ mm = ((Ts.getD 0 []).length / 2) - i ∧ σ = ⟨(upd (upd (upd (upd emp 0 (.slice (some ⟨0, 0, none⟩) Ts.length 0)) 6 (vi .i64 ((Ts.getD 0 []).length / 2))) 7 (.slice (some ⟨88000, 0, none⟩) (Po.tr (sQ Ts ((Ts.getD 0 []).length / 2) i)).length 0)) 8 (vi .i64 i)), (upd (upd emp 0 ⟨Ts.map (dr), false, 1⟩) 88000 ⟨(Po.tr (sQ Ts ((Ts.getD 0 []).length / 2) i)).map dv, true, 1⟩)⟩) (fm := [(88000, 27000)]) ?_ ⟨0, Nat.zero_le _, rfl, rfl⟩ ?_
      ·
        refine Wk.of [0, 88000] ?_ ?_ ?_ (by decide) rfl
        ·
          refine WkE.upd rfl (by first | exact VR.flat _ rfl | exact VR.eqv (vp_succ _) rfl | exact VR.eqv (vp_succ _).symm rfl | exact VR.eqv (by first | rfl | (congr 1; omega) | (simp; done) | (simp; omega)) rfl) ?_
          refine WkE.upd rfl (.slice (88000) 0 _ 0 ⟨_, rfl⟩ (by simp) (by simp)) ?_
          refine WkE.upd rfl (by first | exact VR.flat _ rfl | exact VR.eqv (vp_succ _) rfl | exact VR.eqv (vp_succ _).symm rfl | exact VR.eqv (by first | rfl | (congr 1; omega) | (simp; done) | (simp; omega)) rfl) ?_
          refine WkE.upd rfl (.slice (0) 0 _ 0 ⟨_, rfl⟩ (by simp) (by simp)) ?_
          exact WkE.emp
        ·
          refine WkM.cloM rfl rfl (fun _ => rfl) (fun h => h) ?_
          refine WkM.cloM rfl rfl (fun _ => rfl) (fun h => h) ?_
          exact WkM.emp
        ·
          repeat (refine dom_upd_mem (by decide) ?_)
          exact dom_emp
      ·
        rintro mm σ ⟨i, hinv, rfl, rfl⟩
        refine AW.seq ?_
        refine AW.seqR ?_
        refine AWo.pure (PureOp.move rfl) rfl rfl ?_
        refine AWo.pure (PureOp.move rfl) rfl rfl ?_
        first | refine AWo.pure (PureOp.ltN rfl rfl) rfl rfl ?_ | refine AWo.pure (PureOp.bin rfl rfl rfl) rfl rfl ?_
        refine AWo.nil trivial ?_
        refine AW.cond rfl (fun hb2 => ?_) (fun hb2 => ?_)
        ·
          have hi : i < ((Ts.getD 0 []).length / 2) := of_decide_eq_true hb2
          refine AW.skip ?_
          refine thenA_normal ?_
          refine AW.seq ?_
          refine AW.block ?_
          refine AW.seqR ?_
          refine AWo.buildSliceF tbok 33000 [(0, vi .u64 1)] (out := [vi .u64 1]) rfl rfl (by decide) rfl rfl rfl (by decide) rfl rfl rfl rfl (fun x hx => by simp at hx; subst hx; rfl) rfl rfl ?_
          rw [show deep 1 1 [vi .u64 1] = dv 1 from rfl]
          refine AWo.buildSlice tbok 34000 [(0, dv 1)] (out := [dv 1]) rfl rfl (by decide) rfl rfl rfl (by decide) rfl rfl rfl rfl rfl ?_
          refine AWo.pure (PureOp.assign rfl) rfl rfl ?_
          refine AWo.nil trivial ?_
          refine AW.seq ?_
          rw [show [dv 1] = (Po.tr (qN Ts ((Ts.getD 0 []).length / 2) i 0)).map dv by rw [qN, tr_one]; rfl]
          refine AW.seqR ?_
          refine AWo.pure (PureOp.assign rfl) rfl rfl ?_
          refine AWo.nil trivial ?_
          refine AW.block ?_
          refine AW.loopw (fun mm σ => ∃ j, (j ≤ Ts.length) ∧ mm = Ts.length - j ∧ σ = ⟨(upd (upd (upd (upd (upd (upd emp 0 (.slice (some ⟨0, 0, none⟩) Ts.length 0)) 6 (vi .i64 ((Ts.getD 0 []).length / 2))) 7 (.slice (some ⟨88000, 0, none⟩) (Po.tr (sQ Ts ((Ts.getD 0 []).length / 2) i)).length 0)) 8 (vi .i64 i)) 9 (.slice (some ⟨89000, 0, none⟩) (Po.tr (qN Ts ((Ts.getD 0 []).length / 2) i j)).length 0)) 10 (vi .i64 j)), (upd (upd (upd emp 0 ⟨Ts.map (dr), false, 1⟩) 88000 ⟨(Po.tr (sQ Ts ((Ts.getD 0 []).length / 2) i)).map dv, true, 1⟩) 89000 ⟨(Po.tr (qN Ts ((Ts.getD 0 []).length / 2) i j)).map dv, true, 1⟩)⟩) (fm := [(89000, 34000)]) ?_ ⟨0, Nat.zero_le _, rfl, rfl⟩ ?_
          ·
            refine Wk.of [0, 88000, 89000] ?_ ?_ ?_ (by decide) rfl
            ·
              refine WkE.upd rfl (by first | exact VR.flat _ rfl | exact VR.eqv (vp_succ _) rfl | exact VR.eqv (vp_succ _).symm rfl | exact VR.eqv (by first | rfl | (congr 1; omega) | (simp; done) | (simp; omega)) rfl) ?_
              refine WkE.upd rfl (.slice (89000) 0 _ 0 ⟨_, rfl⟩ (by simp) (by simp)) ?_
              refine WkE.upd rfl (by first | exact VR.flat _ rfl | exact VR.eqv (vp_succ _) rfl | exact VR.eqv (vp_succ _).symm rfl | exact VR.eqv (by first | rfl | (congr 1; omega) | (simp; done) | (simp; omega)) rfl) ?_
              refine WkE.upd rfl (.slice (88000) 0 _ 0 ⟨_, rfl⟩ (by simp) (by simp)) ?_
              refine WkE.upd rfl (by first | exact VR.flat _ rfl | exact VR.eqv (vp_succ _) rfl | exact VR.eqv (vp_succ _).symm rfl | exact VR.eqv (by first | rfl | (congr 1; omega) | (simp; done) | (simp; omega)) rfl) ?_
              refine WkE.upd rfl (.slice (0) 0 _ 0 ⟨_, rfl⟩ (by simp) (by simp)) ?_
              exact WkE.emp
            ·
              refine WkM.cloM rfl rfl (fun _ => rfl) (fun h => h) ?_
              refine WkM.cloM rfl rfl (fun _ => rfl) (fun h => h) ?_
              refine WkM.cloM rfl rfl (fun _ => rfl) (fun h => h) ?_
              exact WkM.emp
            ·
              repeat (refine dom_upd_mem (by decide) ?_)
              exact dom_emp
          ·
            rintro mm σ ⟨j, hinv, rfl, rfl⟩
            refine AW.seq ?_
            refine AW.seqR ?_
            refine AWo.pure (PureOp.move rfl) rfl rfl ?_
            refine AWo.pure (PureOp.move rfl) rfl rfl ?_
            first | refine AWo.pure (PureOp.lenS tbok rfl rfl) rfl rfl ?_ | refine AWo.pure (PureOp.lenD tbok rfl rfl) rfl rfl ?_
            first | refine AWo.pure (PureOp.ltN rfl rfl) rfl rfl ?_ | refine AWo.pure (PureOp.bin rfl rfl rfl) rfl rfl ?_
            refine AWo.nil trivial ?_
            refine AW.cond rfl (fun hb3 => ?_) (fun hb3 => ?_)
            ·
              have hj : j < Ts.length := of_decide_eq_true hb3
              have hjm : (Ts.getD j []).length = (Ts.getD 0 []).length := hqm _ (getT_mem hj)
              have hpl := trq_le Ts ((Ts.getD 0 []).length / 2) i j
              refine AW.skip ?_
              refine thenA_normal ?_
              refine AW.seq ?_
              refine AW.block ?_
              refine AW.draw mixed ?_
              refine AWo.pure (PureOp.move rfl) rfl rfl ?_
              refine AWo.pure (PureOp.move rfl) rfl rfl ?_
              refine AWo.pure (PureOp.move rfl) rfl rfl ?_
              first | refine AWo.pure (PureOp.idx1 tbok rfl rfl rfl rfl (by first | decide | omega)) rfl rfl ?_ | refine AWo.pure (PureOp.idx tbok rfl rfl rfl rfl (by first | decide | omega)) rfl rfl ?_
              refine AWo.loadX tbok (n := (Ts.getD j []).length) (es := 1) (cells := (Ts.getD j []).map dv) 45000 rfl rfl rfl (dr_at hj) rfl rfl rfl ?_
              refine AWo.pure (PureOp.move rfl) rfl rfl ?_
              refine AWo.pure (PureOp.idx1 tbok (j := i) rfl rfl rfl rfl (by omega)) rfl rfl ?_
              refine AWo.loadM tbok (f := dv) 0 rfl rfl rfl (by omega) rfl rfl ?_
              refine AWo.pure (PureOp.move rfl) rfl rfl ?_
              refine AWo.pure (PureOp.move rfl) rfl rfl ?_
              first | refine AWo.pure (PureOp.idx1 tbok rfl rfl rfl rfl (by first | decide | omega)) rfl rfl ?_ | refine AWo.pure (PureOp.idx tbok rfl rfl rfl rfl (by first | decide | omega)) rfl rfl ?_
              refine AWo.loadX tbok (n := (Ts.getD j []).length) (es := 1) (cells := (Ts.getD j []).map dv) 52000 rfl rfl rfl (dr_at hj) rfl rfl rfl ?_
              refine AWo.pure (PureOp.move rfl) rfl rfl ?_
              refine AWo.pure (PureOp.move rfl) rfl rfl ?_
              first | refine AWo.pure (PureOp.addI rfl rfl (by first | decide | omega)) rfl rfl ?_ | refine AWo.pure (PureOp.bin rfl rfl rfl) rfl rfl ?_
              refine AWo.pure (PureOp.idx1 tbok (j := ((Ts.getD 0 []).length / 2) + i) rfl rfl rfl rfl (by omega)) rfl rfl ?_
              refine AWo.loadM tbok (f := dv) 0 rfl rfl rfl (by omega) rfl rfl ?_
              refine AWo.pure (PureOp.move rfl) rfl rfl ?_
              refine AWo.pure (PureOp.move rfl) rfl rfl ?_
              first | refine AWo.pure (PureOp.idx1 tbok rfl rfl rfl rfl (by first | decide | omega)) rfl rfl ?_ | refine AWo.pure (PureOp.idx tbok rfl rfl rfl rfl (by first | decide | omega)) rfl rfl ?_
              refine AWo.loadX tbok (n := (Ts.getD j []).length) (es := 1) (cells := (Ts.getD j []).map dv) 61000 rfl rfl rfl (dr_at hj) rfl rfl rfl ?_
              refine AWo.pure (PureOp.move rfl) rfl rfl ?_
              refine AWo.pure (PureOp.idx1 tbok (j := i) rfl rfl rfl rfl (by omega)) rfl rfl ?_
              refine AWo.loadM tbok (f := dv) 0 rfl rfl rfl (by omega) rfl rfl ?_
              refine AWo.callX (subRd (x := ((Ts.getD j []).getD (((Ts.getD 0 []).length / 2) + i) 0)) (y := ((Ts.getD j []).getD i 0))) bd29 [] [] rfl (.cons rfl (.cons rfl .nil)) rfl (.cons rfl rfl (.cons rfl rfl .nil)) .nil rfl .nil frN (by decide) (.cons rfl rfl .nil) rfl rfl rfl rfl ?_
              refine AWo.buildSlice tbok 66000 [(0, dv ((Ts.getD j []).getD i 0)), (1, dv (((Ts.getD j []).getD (((Ts.getD 0 []).length / 2) + i) 0) - ((Ts.getD j []).getD i 0)))] (out := [dv ((Ts.getD j []).getD i 0), dv (((Ts.getD j []).getD (((Ts.getD 0 []).length / 2) + i) 0) - ((Ts.getD j []).getD i 0))]) rfl rfl (by decide) rfl rfl rfl (by decide) rfl rfl rfl rfl rfl ?_
              rw [show [dv ((Ts.getD j []).getD i 0), dv (((Ts.getD j []).getD (((Ts.getD 0 []).length / 2) + i) 0) - ((Ts.getD j []).getD i 0))] = [((Ts.getD j []).getD i 0), ((Ts.getD j []).getD (((Ts.getD 0 []).length / 2) + i) 0) - ((Ts.getD j []).getD i 0)].map dv from rfl]
              refine AWo.callX (rmulT_ctr (xs := (Po.tr (qN Ts ((Ts.getD 0 []).length / 2) i j))) (ys := [((Ts.getD j []).getD i 0), ((Ts.getD j []).getD (((Ts.getD 0 []).length / 2) + i) 0) - ((Ts.getD j []).getD i 0)]) (zs := (Po.tr (qN Ts ((Ts.getD 0 []).length / 2) i (j + 1)))) (n := (Po.tr (qN Ts ((Ts.getD 0 []).length / 2) i j)).length) (m := 2) rfl rfl (by omega) (by decide) (part_step Ts ((Ts.getD 0 []).length / 2) i (by omega))) bd28 [(89000, 0), (66000, 0)] [67000] rfl (.cons rfl (.cons rfl .nil)) rfl (.cons rfl rfl (.cons rfl rfl .nil)) (.clo rfl (cloM fun _ => rfl) (by intro h; first | exact h | rfl) (.clo rfl (cloM fun _ => rfl) (by intro h; first | exact h | rfl) .nil)) rfl (.keep rfl (.keep rfl (.new (clo_map_ren (cloM fun _ => rfl)) (OkL.clo (cloM fun _ => rfl)) .nil))) (frC rfl frN) (by decide) (.cons rfl rfl .nil) rfl rfl rfl rfl ?_
              refine AWo.pure (PureOp.assign rfl) rfl rfl ?_
              refine AWo.nil (by kernel_rfl) ?_
              refine inBlockA_normal ?_
              refine thenA_normal ?_
              refine AW.region ?_
              refine AWo.pure (PureOp.move rfl) rfl rfl ?_
              first | refine AWo.pure (PureOp.addI (b := 1) rfl rfl (by first | decide | omega)) rfl rfl ?_ | refine AWo.pure (PureOp.bin rfl rfl rfl) rfl rfl ?_
              refine AWo.pure (PureOp.assign rfl) rfl rfl ?_
              refine AWo.nil trivial ?_
              refine thenA_normal ?_
              refine ⟨Ts.length - (j + 1), [(89000, 67000)], _, by omega, ?_, j + 1, by omega, rfl, rfl⟩
              refine Wk.of [0, 88000, 89000] ?_ ?_ ?_ (by decide) rfl
              ·
                refine WkE.upd rfl (by first | exact VR.flat _ rfl | exact VR.eqv (vp_succ _) rfl | exact VR.eqv (vp_succ _).symm rfl | exact VR.eqv (by first | rfl | (congr 1; omega) | (simp; done) | (simp; omega)) rfl) ?_
                refine WkE.upd rfl (.slice (89000) 0 _ 0 ⟨_, rfl⟩ (by simp) (by simp)) ?_
                refine WkE.upd rfl (by first | exact VR.flat _ rfl | exact VR.eqv (vp_succ _) rfl | exact VR.eqv (vp_succ _).symm rfl | exact VR.eqv (by first | rfl | (congr 1; omega) | (simp; done) | (simp; omega)) rfl) ?_
                refine WkE.upd rfl (.slice (88000) 0 _ 0 ⟨_, rfl⟩ (by simp) (by simp)) ?_
                refine WkE.upd rfl (by first | exact VR.flat _ rfl | exact VR.eqv (vp_succ _) rfl | exact VR.eqv (vp_succ _).symm rfl | exact VR.eqv (by first | rfl | (congr 1; omega) | (simp; done) | (simp; omega)) rfl) ?_
                refine WkE.upd rfl (.slice (0) 0 _ 0 ⟨_, rfl⟩ (by simp) (by simp)) ?_
                exact WkE.emp
              ·
                refine WkM.cloM rfl rfl (fun _ => rfl) (fun h => h) ?_
                refine WkM.cloM rfl rfl (fun _ => rfl) (fun h => h) ?_
                refine WkM.cloM rfl rfl (fun _ => rfl) (fun h => h) ?_
                exact WkM.emp
              ·
                repeat (refine dom_upd_mem (by decide) ?_)
                exact dom_emp
            ·
              obtain rfl : j = Ts.length := by have := of_decide_eq_false hb3; omega
              have hpl := trq_le Ts ((Ts.getD 0 []).length / 2) i Ts.length
              have hol := trs_le Ts ((Ts.getD 0 []).length / 2) i
              refine AW.exit ?_
              refine thenA_exit ?_
              refine thenA_exit ?_
              refine inBlockA_hit ?_
              refine thenA_normal ?_
              refine AW.region ?_
              refine AWo.pure (PureOp.move rfl) rfl rfl ?_
              refine AWo.pure (PureOp.move rfl) rfl rfl ?_
              refine AWo.callX (raddT_ctr (xs := (Po.tr (sQ Ts ((Ts.getD 0 []).length / 2) i))) (ys := (Po.tr (qN Ts ((Ts.getD 0 []).length / 2) i Ts.length))) (zs := (Po.tr (sQ Ts ((Ts.getD 0 []).length / 2) (i + 1)))) (n := (Po.tr (sQ Ts ((Ts.getD 0 []).length / 2) i)).length) (k := (Po.tr (qN Ts ((Ts.getD 0 []).length / 2) i Ts.length)).length) rfl rfl (by omega) (by omega) (out_step Ts ((Ts.getD 0 []).length / 2) i)) bd30 [(88000, 0), (89000, 0)] [70000] rfl (.cons rfl (.cons rfl .nil)) rfl (.cons rfl rfl (.cons rfl rfl .nil)) (.clo rfl (cloM fun _ => rfl) (by intro h; first | exact h | rfl) (.clo rfl (cloM fun _ => rfl) (by intro h; first | exact h | rfl) .nil)) rfl (.keep rfl (.keep rfl (.new (clo_map_ren (cloM fun _ => rfl)) (OkL.clo (cloM fun _ => rfl)) .nil))) (frC rfl frN) (by decide) (.cons rfl rfl .nil) rfl rfl rfl rfl ?_
              refine AWo.pure (PureOp.assign rfl) rfl rfl ?_
              refine AWo.nil trivial ?_
              refine inBlockA_normal ?_
              refine thenA_normal ?_
              refine AW.region ?_
              refine AWo.pure (PureOp.move rfl) rfl rfl ?_
              first | refine AWo.pure (PureOp.addI (b := 1) rfl rfl (by first | decide | omega)) rfl rfl ?_ | refine AWo.pure (PureOp.bin rfl rfl rfl) rfl rfl ?_
              refine AWo.pure (PureOp.assign rfl) rfl rfl ?_
              refine AWo.nil trivial ?_
              refine thenA_normal ?_
              refine ⟨((Ts.getD 0 []).length / 2) - (i + 1), [(88000, 70000)], _, by omega, ?_, i + 1, by omega, rfl, rfl⟩
              refine Wk.of [0, 88000] ?_ ?_ ?_ (by decide) rfl
              ·
                refine WkE.upd rfl (by first | exact VR.flat _ rfl | exact VR.eqv (vp_succ _) rfl | exact VR.eqv (vp_succ _).symm rfl | exact VR.eqv (by first | rfl | (congr 1; omega) | (simp; done) | (simp; omega)) rfl) ?_
                refine WkE.upd rfl (.slice (88000) 0 _ 0 ⟨_, rfl⟩ (by simp) (by simp)) ?_
                refine WkE.upd rfl (by first | exact VR.flat _ rfl | exact VR.eqv (vp_succ _) rfl | exact VR.eqv (vp_succ _).symm rfl | exact VR.eqv (by first | rfl | (congr 1; omega) | (simp; done) | (simp; omega)) rfl) ?_
                refine WkE.upd rfl (.slice (0) 0 _ 0 ⟨_, rfl⟩ (by simp) (by simp)) ?_
                exact WkE.emp
              ·
                refine WkM.cloM rfl rfl (fun _ => rfl) (fun h => h) ?_
                refine WkM.cloM rfl rfl (fun _ => rfl) (fun h => h) ?_
                exact WkM.emp
              ·
                repeat (refine dom_upd_mem (by decide) ?_)
                exact dom_emp
        ·
          obtain rfl : i = ((Ts.getD 0 []).length / 2) := by have := of_decide_eq_false hb2; omega
          have hql := trs_le Ts ((Ts.getD 0 []).length / 2) ((Ts.getD 0 []).length / 2)
          rw [show (Po.tr (sQ Ts ((Ts.getD 0 []).length / 2) ((Ts.getD 0 []).length / 2))).map dv = (Po.tr (sQ Ts ((Ts.getD 0 []).length / 2) ((Ts.getD 0 []).length / 2))).map dv ++ List.replicate ((Po.tr (sQ Ts ((Ts.getD 0 []).length / 2) ((Ts.getD 0 []).length / 2))).length - (Po.tr (sQ Ts ((Ts.getD 0 []).length / 2) ((Ts.getD 0 []).length / 2))).length) (Value.slice none 0 0) by rw [Nat.sub_self]; simp]
          refine AW.exit ?_
          refine thenA_exit ?_
          refine thenA_exit ?_
          refine inBlockA_hit ?_
          refine thenA_normal ?_
          refine AW.seq ?_
          refine AW.block ?_
          refine AW.loopw (fun mm σ => ∃ n, ((Po.tr (sQ Ts ((Ts.getD 0 []).length / 2) ((Ts.getD 0 []).length / 2))).length ≤ n ∧ n ≤ (Ts.length + 1)) ∧ mm = (Ts.length + 1) - n ∧ σ = ⟨(upd (upd emp 0 (.slice (some ⟨0, 0, none⟩) Ts.length 0)) 7 (.slice (some ⟨88000, 0, none⟩) n 0)), (upd (upd emp 0 ⟨Ts.map (dr), false, 1⟩) 88000 ⟨((Po.tr (sQ Ts ((Ts.getD 0 []).length / 2) ((Ts.getD 0 []).length / 2))).map dv ++ List.replicate (n - (Po.tr (sQ Ts ((Ts.getD 0 []).length / 2) ((Ts.getD 0 []).length / 2))).length) (Value.slice none 0 0)), true, 1⟩)⟩) (fm := []) ?_ ⟨(Po.tr (sQ Ts ((Ts.getD 0 []).length / 2) ((Ts.getD 0 []).length / 2))).length, ⟨Nat.le_refl _, hql⟩, rfl, rfl⟩ ?_
          ·
            refine Wk.of [0, 88000] ?_ ?_ ?_ (by decide) rfl
            ·
              refine WkE.upd rfl (.slice (88000) 0 _ 0 ⟨_, rfl⟩ (by simp) (by simp)) ?_
              refine WkE.upd rfl (.slice (0) 0 _ 0 ⟨_, rfl⟩ (by simp) (by simp)) ?_
              exact WkE.emp
            ·
              refine WkM.clo rfl (nil_clo _ _) (fun h => h) ?_
              refine WkM.cloM rfl rfl (fun _ => rfl) (fun h => h) ?_
              exact WkM.emp
            ·
              repeat (refine dom_upd_mem (by decide) ?_)
              exact dom_emp
          ·
            rintro mm σ ⟨n, ⟨hn0, hn1⟩, rfl, rfl⟩
            refine AW.seq ?_
            refine AW.seqR ?_
            refine AWo.pure (PureOp.move rfl) rfl rfl ?_
            first | refine AWo.pure (PureOp.lenS tbok rfl rfl) rfl rfl ?_ | refine AWo.pure (PureOp.lenD tbok rfl rfl) rfl rfl ?_
            refine AWo.pure (PureOp.move rfl) rfl rfl ?_
            first | refine AWo.pure (PureOp.lenS tbok rfl rfl) rfl rfl ?_ | refine AWo.pure (PureOp.lenD tbok rfl rfl) rfl rfl ?_
            first | refine AWo.pure (PureOp.addI (b := 1) rfl rfl (by first | decide | omega)) rfl rfl ?_ | refine AWo.pure (PureOp.bin rfl rfl rfl) rfl rfl ?_
            first | refine AWo.pure (PureOp.ltN rfl rfl) rfl rfl ?_ | refine AWo.pure (PureOp.bin rfl rfl rfl) rfl rfl ?_
            refine AWo.nil trivial ?_
            refine AW.cond rfl (fun hb4 => ?_) (fun hb4 => ?_)
            ·
              have hn : n < (Ts.length + 1) := of_decide_eq_true hb4
              refine AW.skip ?_
              refine thenA_normal ?_
              refine AW.block ?_
              refine AW.region ?_
              refine AWo.pure (PureOp.move rfl) rfl rfl ?_
              refine AWo.buildSlice tbok 78000 [(0, .slice none 0 0)] (out := [.slice none 0 0]) rfl rfl (by decide) rfl rfl rfl (by decide) rfl rfl rfl rfl rfl ?_
              refine AWo.append tbok (all := ((Po.tr (sQ Ts ((Ts.getD 0 []).length / 2) ((Ts.getD 0 []).length / 2))).map dv ++ List.replicate (n + 1 - (Po.tr (sQ Ts ((Ts.getD 0 []).length / 2) ((Ts.getD 0 []).length / 2))).length) (Value.slice none 0 0))) (news := [.slice none 0 0]) 79000 rfl rfl rfl rfl (by rw [List.length_append, List.length_map, List.length_replicate]; omega) (by show List.take _ (List.drop 0 _) = _; rw [List.drop_zero]; exact List.take_of_length_le (by simp)) (by first | decide | (simp; done) | (simp; omega)) (by decide) rfl rfl rfl (by first | decide | exact Nat.one_ne_zero) rfl rfl rfl (by first | decide | omega) (by first | decide | omega) (by rfl) (by rw [List.append_assoc, show n + 1 - (Po.tr (sQ Ts ((Ts.getD 0 []).length / 2) ((Ts.getD 0 []).length / 2))).length = (n - (Po.tr (sQ Ts ((Ts.getD 0 []).length / 2) ((Ts.getD 0 []).length / 2))).length) + 1 by omega, List.replicate_succ']) rfl rfl ?_
              refine AWo.pure (PureOp.assign rfl) rfl rfl ?_
              refine AWo.nil trivial ?_
              refine inBlockA_normal ?_
              refine thenA_normal ?_
              refine ⟨(Ts.length + 1) - (n + 1), [(88000, 79000)], _, by omega, ?_, n + 1, ⟨by omega, by omega⟩, rfl, rfl⟩
              refine Wk.of [0, 88000] ?_ ?_ ?_ (by decide) rfl
              ·
                refine WkE.upd rfl (.slice (88000) 0 _ 0 ⟨_, rfl⟩ (by simp) (by simp)) ?_
                refine WkE.upd rfl (.slice (0) 0 _ 0 ⟨_, rfl⟩ (by simp) (by simp)) ?_
                exact WkE.emp
              ·
                refine WkM.clo rfl (nil_clo _ _) (fun h => h) ?_
                refine WkM.cloM rfl rfl (fun _ => rfl) (fun h => h) ?_
                exact WkM.emp
              ·
                repeat (refine dom_upd_mem (by decide) ?_)
                exact dom_emp
            ·
              obtain rfl : n = (Ts.length + 1) := by have := of_decide_eq_false hb4; omega
              refine AW.recell 88000 ((pad (Po.tr (sQ Ts ((Ts.getD 0 []).length / 2) ((Ts.getD 0 []).length / 2))) (Ts.length + 1)).map dv) rfl (by simp [pad]) (nil_pad _ _) ?_
              refine AW.exit ?_
              refine thenA_exit ?_
              refine thenA_exit ?_
              refine inBlockA_hit ?_
              refine thenA_normal ?_
              refine AW.seqR ?_
              refine AWo.pure (PureOp.move rfl) rfl rfl ?_
              refine AWo.pure (PureOp.assign rfl) rfl rfl ?_
              refine AWo.pure (PureOp.assign rfl) rfl rfl ?_
              refine AWo.nil trivial ?_
              refine AW.ret ?_
              rw [rt_sQ hc hv (by omega), show roC Ts = 0 by rw [roC, if_pos hc, if_neg hv], pad_len hql]
              refine RetQ.gc [_, _] [88000] [.tmp 2, .tmp 3] (.inl rfl) rfl (.tmp rfl (.tmp rfl .nil)) rfl (.cons rfl rfl (.pure rfl .nil)) (OutL.clo rfl (cloM fun _ => rfl) (by intro h; exact h.elim id fun h => absurd h.1 (by simp)) (OutL.clo rfl (cloM fun _ => rfl) (fun _ => rfl) trivial)) (by decide) rfl
end Go.Proofs.YteeifahhejangaaGreatDoor
