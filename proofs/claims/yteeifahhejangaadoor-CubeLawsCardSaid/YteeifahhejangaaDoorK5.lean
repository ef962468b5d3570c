/- What the proof stands on, part 5: the walk of each function, and plain laws of numbers. -/
import Derived.Test.YteeifahhejangaaDoorK4
import Derived.Test.YteeifahhejangaaDoorRows
import Derived.ProofKit
namespace Go.Proofs.YteeifahhejangaaDoor
open Go Sim
def dt (xs : List Fp) : Value := deep xs.length 4 (((xs.map fe).flatten).map (vi .u64))
theorem getT_mem {Ts : List (List Fp)} {j : Nat} (h : j < Ts.length) : Ts.getD j [] ∈ Ts := by
  rw [List.getD_eq_getElem?_getD, List.getElem?_eq_getElem h]; exact List.getElem_mem h
theorem of_getD {Ts : List (List Fp)} {Q : List Fp → Prop} (h : ∀ j, j < Ts.length → Q (Ts.getD j [])) : ∀ t ∈ Ts, Q t := by
  intro t ht
  obtain ⟨j, hj⟩ := List.mem_iff_getElem?.1 ht
  have hl := (List.getElem?_eq_some_iff.1 hj).1
  have := h j hl
  rwa [List.getD_eq_getElem?_getD, hj] at this
def chC (Ts : List (List Fp)) : Int := if Ts.length = 0 then 1 else if ∀ t ∈ Ts, isV t.length = true then (if ∀ t ∈ Ts, vN t.length = vN (Ts.getD 0 []).length then 0 else 1) else 7
def chV (Ts : List (List Fp)) : Nat := if chC Ts = 0 then vN (Ts.getD 0 []).length else 0
theorem ch_0 {Ts : List (List Fp)} (h : Ts.length = 0) : chC Ts = 1 ∧ chV Ts = 0 := by
  have e : chC Ts = 1 := if_pos h
  exact ⟨e, if_neg (by rw [e]; decide)⟩
theorem ch_bad {Ts : List (List Fp)} {i : Nat} (hi : i < Ts.length) (hb : isV (Ts.getD i []).length = false) : chC Ts = 7 ∧ chV Ts = 0 := by
  have e : chC Ts = 7 := by
    rw [chC, if_neg (by omega), if_neg (fun h => ?_)]
    have := h _ (getT_mem hi)
    rw [hb] at this; cases this
  exact ⟨e, if_neg (by rw [e]; decide)⟩
theorem ch_mis {Ts : List (List Fp)} {i : Nat} (hi : i < Ts.length) (ha : ∀ j, j < Ts.length → isV (Ts.getD j []).length = true) (hm : ¬ vN (Ts.getD i []).length = vN (Ts.getD 0 []).length) : chC Ts = 1 ∧ chV Ts = 0 := by
  have e : chC Ts = 1 := by
    rw [chC, if_neg (by omega), if_pos (of_getD (Q := fun t => isV t.length = true) ha), if_neg (fun h => hm (h _ (getT_mem hi)))]
  exact ⟨e, if_neg (by rw [e]; decide)⟩
theorem ch_ok {Ts : List (List Fp)} (h0 : ¬ Ts.length = 0) (ha : ∀ j, j < Ts.length → isV (Ts.getD j []).length = true) (hm : ∀ j, j < Ts.length → vN (Ts.getD j []).length = vN (Ts.getD 0 []).length) : chC Ts = 0 ∧ chV Ts = vN (Ts.getD 0 []).length := by
  have e : chC Ts = 0 := by
    rw [chC, if_neg h0, if_pos (of_getD (Q := fun t => isV t.length = true) ha), if_pos (of_getD (Q := fun t => vN t.length = vN (Ts.getD 0 []).length) hm)]
  exact ⟨e, if_pos e⟩
theorem ch_zero {Ts : List (List Fp)} (h : chC Ts = 0) : 0 < Ts.length ∧ ∀ t ∈ Ts, t.length = (Ts.getD 0 []).length := by
  unfold chC at h
  split at h
  · cases h
  · split at h
    · split at h
      · rename_i h0 h1 h2
        have hp : 0 < Ts.length := by omega
        refine ⟨hp, fun t ht => ?_⟩
        rw [(isV_pow (h1 t ht)).1, (isV_pow (h1 _ (getT_mem hp))).1, h2 t ht]
      · cases h
    · cases h
def cv (Ts : List (List Fp)) (i : Nat) : List Nat := (List.range Ts.length).map fun j => if j < i then vN (Ts.getD j []).length else 0
theorem cv_len (Ts : List (List Fp)) (i : Nat) : (cv Ts i).length = Ts.length := by simp [cv]
theorem cv_zero (Ts : List (List Fp)) : List.replicate Ts.length (0 : Nat) = cv Ts 0 := by
  refine List.ext_getElem (by simp [cv]) fun i h1 h2 => ?_
  simp [cv]
theorem cv_set {Ts : List (List Fp)} {i : Nat} (_hi : i < Ts.length) : (cv Ts i).set i (vN (Ts.getD i []).length) = cv Ts (i + 1) := by
  refine List.ext_getElem (by simp [cv]) fun j h1 h2 => ?_
  simp only [cv, List.getElem_set, List.getElem_map, List.getElem_range]
  by_cases h : i = j
  · subst h; rw [if_pos rfl, if_pos (Nat.lt_succ_self i)]
  · rw [if_neg h]
    by_cases hj : j < i
    · rw [if_pos hj, if_pos (by omega)]
    · rw [if_neg hj, if_neg (by omega)]
theorem cv_at {Ts : List (List Fp)} {i j : Nat} (hj : j < Ts.length) (h : j < i) : (cv Ts i).getD j 0 = vN (Ts.getD j []).length := by
  rw [cv, List.getD_eq_getElem?_getD, List.getElem?_map, List.getElem?_range hj, Option.map_some, if_pos h]; rfl
def prN (Ts : List (List Fp)) (i : Nat) : Nat → Fp
  | 0 => fp 1
  | j + 1 => prN Ts i j * (Ts.getD j []).getD i 0
def prT (Ts : List (List Fp)) (i : Nat) : Fp := prN Ts i Ts.length
def toT (Ts : List (List Fp)) : Fp := if chC Ts = 0 then smN (prT Ts) (Ts.getD 0 []).length else 0
theorem check_ctr {Ts : List (List Fp)} {k : Nat} (hk : Ts.length = k) (hk6 : k < 1000000) (hs : ∀ t ∈ Ts, t.length < 1000000) : GC Tryd.prog 55 [.slice (some ⟨0, 0, none⟩) k 0] [⟨Ts.map (dt), false, 1⟩] [vi .i64 (chV Ts), .int .i64 (chC Ts)] [⟨Ts.map (dt), false, 1⟩] := by
  refine GC.intro Tryd.func55 rfl (by show 1 ≤ 52; decide) (by first | exact Nat.le_refl _ | decide | simp) ?_
  subst hk
  refine AW.seqR ?_
  refine AWo.pure (PureOp.assign rfl) rfl rfl ?_
  refine AWo.pure (PureOp.assign rfl) rfl rfl ?_
  refine AWo.nil trivial ?_
  refine AW.seq ?_
  refine AW.seqR ?_
  refine AWo.pure (PureOp.move rfl) rfl rfl ?_
  first | refine AWo.pure (PureOp.lenS tbok rfl rfl) rfl rfl ?_ | refine AWo.pure (PureOp.lenD tbok rfl rfl) rfl rfl ?_
  first | refine AWo.pure (PureOp.eqN (b := 0) rfl rfl) rfl rfl ?_ | refine AWo.pure (PureOp.bin rfl rfl rfl) rfl rfl ?_
  refine AWo.nil trivial ?_
  refine AW.cond rfl (fun hb0 => ?_) (fun hb0 => ?_)
  ·
    have h0 : Ts.length = 0 := by simpa using hb0
    refine AW.seqR ?_
    refine AWo.pure (PureOp.assign rfl) rfl rfl ?_
    refine AWo.pure (PureOp.assign rfl) rfl rfl ?_
    refine AWo.nil trivial ?_
    refine AW.ret ?_
    refine thenA_ret ?_
    rw [(ch_0 h0).1, (ch_0 h0).2]
    refine RetQ.gc [_, _] [] [.tmp 2, .tmp 3] (.inl rfl) rfl (.tmp rfl (.tmp rfl .nil)) rfl (.pure rfl (.pure rfl .nil)) (OutL.clo rfl (cloM fun _ => rfl) (by intro h; exact h.elim id fun h => absurd h.1 (by simp)) trivial) (by decide) rfl
  ·
    have h0 : ¬ Ts.length = 0 := by simpa using hb0
    refine AW.skip ?_
    refine thenA_normal ?_
    refine AW.seqR ?_
    refine AWo.pure (PureOp.move rfl) rfl rfl ?_
    first | refine AWo.pure (PureOp.lenS tbok rfl rfl) rfl rfl ?_ | refine AWo.pure (PureOp.lenD tbok rfl rfl) rfl rfl ?_
    refine AWo.makeI tbok 17000 rfl rfl rfl rfl rfl rfl (by omega) (by omega) rfl rfl rfl ?_
    rw [show List.replicate Ts.length (0 : Nat) = cv Ts 0 from cv_zero Ts]
    refine AWo.pure (PureOp.assign rfl) rfl rfl ?_
    refine AWo.nil trivial ?_
    refine AW.seq ?_
    refine AW.seqR ?_
    refine AWo.pure (PureOp.move rfl) rfl rfl ?_
    first | refine AWo.pure (PureOp.lenS tbok rfl rfl) rfl rfl ?_ | refine AWo.pure (PureOp.lenD tbok rfl rfl) rfl rfl ?_
    refine AWo.pure (PureOp.move rfl) rfl rfl ?_
    refine AWo.nil trivial ?_
    refine AW.block ?_
    refine AW.loopw (fun mm σ => ∃ i, (i ≤ Ts.length ∧ ∀ j, j < i → isV (Ts.getD j []).length = true) ∧ mm = Ts.length - i ∧ σ = ⟨(upd (upd (upd (upd (upd emp 0 (.slice (some ⟨0, 0, none⟩) Ts.length 0)) 4 (.slice (some ⟨17000, 0, none⟩) Ts.length 0)) 17 (.slice (some ⟨0, 0, none⟩) Ts.length 0)) 18 (vi .i64 Ts.length)) 19 (vi .i64 i)), (upd (upd emp 0 ⟨Ts.map (dt), false, 1⟩) 17000 ⟨(cv Ts i).map (vi .i64), true, 1⟩)⟩) (fm := []) ?_ ⟨0, ⟨Nat.zero_le _, fun j hj => absurd hj (Nat.not_lt_zero j)⟩, rfl, rfl⟩ ?_
    ·
      refine Wk.of [0, 17000] ?_ ?_ ?_ (by decide) rfl
      ·
        refine WkE.upd rfl (by first | exact VR.flat _ rfl | exact VR.eqv (vp_succ _) rfl | exact VR.eqv (vp_succ _).symm rfl | exact VR.eqv (by first | rfl | (congr 1; omega) | (simp; done) | (simp; omega)) rfl) ?_
        refine WkE.upd rfl (by first | exact VR.flat _ rfl | exact VR.eqv (vp_succ _) rfl | exact VR.eqv (vp_succ _).symm rfl | exact VR.eqv (by first | rfl | (congr 1; omega) | (simp; done) | (simp; omega)) rfl) ?_
        refine WkE.upd rfl (.slice (0) 0 _ 0 ⟨_, rfl⟩ (by simp) (by simp)) ?_
        refine WkE.upd rfl (.slice (17000) 0 _ 0 ⟨_, rfl⟩ (by simp) (by simp)) ?_
        refine WkE.upd rfl (.slice (0) 0 _ 0 ⟨_, rfl⟩ (by simp) (by simp)) ?_
        exact WkE.emp
      ·
        refine WkM.flat rfl (flatM flat_vi) (fun h => h) ?_
        refine WkM.cloM rfl rfl (fun _ => rfl) (fun h => h) ?_
        exact WkM.emp
      ·
        repeat (refine dom_upd_mem (by decide) ?_)
        exact dom_emp
    ·
      rintro mm σ ⟨i, ⟨hinv, hall⟩, rfl, rfl⟩
      have hcl := cv_len Ts i
      refine AW.seqR ?_
      first | refine AWo.pure (PureOp.ltN rfl rfl) rfl rfl ?_ | refine AWo.pure (PureOp.bin rfl rfl rfl) rfl rfl ?_
      refine AWo.nil trivial ?_
      refine AW.seq ?_
      refine AW.cond rfl (fun hb1 => ?_) (fun hb1 => ?_)
      ·
        have hi : i < Ts.length := of_decide_eq_true hb1
        have hsi : (Ts.getD i []).length < 1000000 := hs _ (getT_mem hi)
        refine AW.skip ?_
        refine thenA_normal ?_
        refine AW.seq ?_
        refine AW.block ?_
        refine AW.seqR ?_
        refine AWo.pure (PureOp.move rfl) rfl rfl ?_
        first | refine AWo.pure (PureOp.idx1 tbok rfl rfl rfl rfl (by first | decide | omega)) rfl rfl ?_ | refine AWo.pure (PureOp.idx tbok rfl rfl rfl rfl (by first | decide | omega)) rfl rfl ?_
        refine AWo.loadM tbok (f := dt) [] rfl rfl rfl (by omega) rfl rfl ?_
        refine AWo.pure (PureOp.assign rfl) rfl rfl ?_
        refine AWo.pure (PureOp.assign rfl) rfl rfl ?_
        refine AWo.nil trivial ?_
        refine AW.seqR ?_
        refine AWo.pureX 26000 (n := (Ts.getD i []).length) (es := 4) (cells := (((Ts.getD i []).map fe).flatten).map (vi .u64)) (PureOp.move rfl) rfl rfl rfl ?_
        refine AWo.callX (vars_ctr (xs := (Ts.getD i [])) (n := (Ts.getD i []).length) rfl hsi) bd11 [(26000, 0)] [] rfl (.cons rfl .nil) rfl (.cons rfl rfl .nil) (.flat rfl (flatM flat_vi) (by intro h; first | exact h | rfl) .nil) rfl (.keep rfl .nil) frN (by decide) (.cons rfl rfl (.cons rfl rfl .nil)) rfl rfl rfl rfl ?_
        refine AWo.pure (PureOp.move rfl) rfl rfl ?_
        refine AWo.pure (PureOp.extract rfl rfl) rfl rfl ?_
        refine AWo.pure (PureOp.extract rfl rfl) rfl rfl ?_
        refine AWo.pure (PureOp.assign rfl) rfl rfl ?_
        refine AWo.pure (PureOp.assign rfl) rfl rfl ?_
        refine AWo.nil trivial ?_
        refine AW.seq ?_
        refine AW.seqR ?_
        refine AWo.pure (PureOp.move rfl) rfl rfl ?_
        first | refine AWo.pure (PureOp.neN (b := 0) rfl rfl) rfl rfl ?_ | refine AWo.pure (PureOp.bin rfl rfl rfl) rfl rfl ?_
        refine AWo.nil trivial ?_
        refine AW.cond rfl (fun hb2 => ?_) (fun hb2 => ?_)
        ·
          have hbad : isV (Ts.getD i []).length = false := Bool.eq_false_iff.2 fun h => (show ¬ vC (Ts.getD i []).length = 0 by simpa using hb2) (vC_iff.2 h)
          refine AW.seqR ?_
          refine AWo.pure (PureOp.move rfl) rfl rfl ?_
          refine AWo.pure (PureOp.assign rfl) rfl rfl ?_
          refine AWo.pure (PureOp.assign rfl) rfl rfl ?_
          refine AWo.nil trivial ?_
          refine AW.ret ?_
          refine thenA_ret ?_
          refine inBlockA_ret ?_
          refine thenA_ret ?_
          refine thenA_ret ?_
          refine inBlockA_ret ?_
          refine thenA_ret ?_
          rw [(ch_bad hi hbad).1, (ch_bad hi hbad).2, vC_no hbad]
          refine RetQ.gc [_, _] [] [.tmp 2, .tmp 3] (.inl rfl) rfl (.tmp rfl (.tmp rfl .nil)) rfl (.pure rfl (.pure rfl .nil)) (OutL.clo rfl (cloM fun _ => rfl) (by intro h; exact h.elim id fun h => absurd h.1 (by simp)) trivial) (by decide) rfl
        ·
          have hgood : isV (Ts.getD i []).length = true := vC_iff.1 (by simpa using hb2)
          refine AW.skip ?_
          refine thenA_normal ?_
          refine AW.region ?_
          refine AWo.pure (PureOp.move rfl) rfl rfl ?_
          refine AWo.pure (PureOp.move rfl) rfl rfl ?_
          refine AWo.pure (PureOp.move rfl) rfl rfl ?_
          first | refine AWo.pure (PureOp.idx1 tbok rfl rfl rfl rfl (by first | decide | omega)) rfl rfl ?_ | refine AWo.pure (PureOp.idx tbok rfl rfl rfl rfl (by first | decide | omega)) rfl rfl ?_
          refine AWo.storeM (f := (vi .i64)) tbok rfl rfl rfl rfl (by rw [cv_len]; omega) rfl rfl ?_
          rw [cv_set hi]
          refine AWo.nil trivial ?_
          refine inBlockA_normal ?_
          refine thenA_normal ?_
          refine AW.region ?_
          first | refine AWo.pure (PureOp.addI (b := 1) rfl rfl (by first | decide | omega)) rfl rfl ?_ | refine AWo.pure (PureOp.bin rfl rfl rfl) rfl rfl ?_
          refine AWo.pure (PureOp.move rfl) rfl rfl ?_
          refine AWo.nil trivial ?_
          refine thenA_normal ?_
          refine ⟨Ts.length - (i + 1), [], _, by omega, ?_, i + 1, ⟨by omega, fun j hj => (Nat.lt_succ_iff_lt_or_eq.1 hj).elim (hall j) (fun e => e ▸ hgood)⟩, rfl, rfl⟩
          refine Wk.of [0, 17000] ?_ ?_ ?_ (by decide) rfl
          ·
            refine WkE.upd rfl (by first | exact VR.flat _ rfl | exact VR.eqv (vp_succ _) rfl | exact VR.eqv (vp_succ _).symm rfl | exact VR.eqv (by first | rfl | (congr 1; omega) | (simp; done) | (simp; omega)) rfl) ?_
            refine WkE.upd rfl (by first | exact VR.flat _ rfl | exact VR.eqv (vp_succ _) rfl | exact VR.eqv (vp_succ _).symm rfl | exact VR.eqv (by first | rfl | (congr 1; omega) | (simp; done) | (simp; omega)) rfl) ?_
            refine WkE.upd rfl (.slice (0) 0 _ 0 ⟨_, rfl⟩ (by simp) (by simp)) ?_
            refine WkE.upd rfl (.slice (17000) 0 _ 0 ⟨_, rfl⟩ (by simp) (by simp)) ?_
            refine WkE.upd rfl (.slice (0) 0 _ 0 ⟨_, rfl⟩ (by simp) (by simp)) ?_
            exact WkE.emp
          ·
            refine WkM.flat rfl (flatM flat_vi) (fun h => h) ?_
            refine WkM.cloM rfl rfl (fun _ => rfl) (fun h => h) ?_
            exact WkM.emp
          ·
            repeat (refine dom_upd_mem (by decide) ?_)
            exact dom_emp
      ·
        obtain rfl : i = Ts.length := by have := of_decide_eq_false hb1; omega
        refine AW.exit ?_
        refine thenA_exit ?_
        refine thenA_exit ?_
        refine inBlockA_hit ?_
        refine thenA_normal ?_
        refine AW.seq ?_
        refine AW.seqR ?_
        refine AWo.pure (PureOp.move rfl) rfl rfl ?_
        first | refine AWo.pure (PureOp.lenS tbok rfl rfl) rfl rfl ?_ | refine AWo.pure (PureOp.lenD tbok rfl rfl) rfl rfl ?_
        refine AWo.pure (PureOp.move rfl) rfl rfl ?_
        refine AWo.nil trivial ?_
        refine AW.block ?_
        refine AW.loopw (fun mm σ => ∃ i, (i ≤ Ts.length ∧ ∀ j, j < i → vN (Ts.getD j []).length = vN (Ts.getD 0 []).length) ∧ mm = Ts.length - i ∧ σ = ⟨(upd (upd (upd (upd (upd emp 0 (.slice (some ⟨0, 0, none⟩) Ts.length 0)) 4 (.slice (some ⟨17000, 0, none⟩) Ts.length 0)) 37 (.slice (some ⟨17000, 0, none⟩) Ts.length 0)) 38 (vi .i64 Ts.length)) 39 (vi .i64 i)), (upd (upd emp 0 ⟨Ts.map (dt), false, 1⟩) 17000 ⟨(cv Ts Ts.length).map (vi .i64), true, 1⟩)⟩) (fm := []) ?_ ⟨0, ⟨Nat.zero_le _, fun j hj => absurd hj (Nat.not_lt_zero j)⟩, rfl, rfl⟩ ?_
        ·
          refine Wk.of [0, 17000] ?_ ?_ ?_ (by decide) rfl
          ·
            refine WkE.upd rfl (by first | exact VR.flat _ rfl | exact VR.eqv (vp_succ _) rfl | exact VR.eqv (vp_succ _).symm rfl | exact VR.eqv (by first | rfl | (congr 1; omega) | (simp; done) | (simp; omega)) rfl) ?_
            refine WkE.upd rfl (by first | exact VR.flat _ rfl | exact VR.eqv (vp_succ _) rfl | exact VR.eqv (vp_succ _).symm rfl | exact VR.eqv (by first | rfl | (congr 1; omega) | (simp; done) | (simp; omega)) rfl) ?_
            refine WkE.upd rfl (.slice (17000) 0 _ 0 ⟨_, rfl⟩ (by simp) (by simp)) ?_
            refine WkE.upd rfl (.slice (17000) 0 _ 0 ⟨_, rfl⟩ (by simp) (by simp)) ?_
            refine WkE.upd rfl (.slice (0) 0 _ 0 ⟨_, rfl⟩ (by simp) (by simp)) ?_
            exact WkE.emp
          ·
            refine WkM.flat rfl (flatM flat_vi) (fun h => h) ?_
            refine WkM.cloM rfl rfl (fun _ => rfl) (fun h => h) ?_
            exact WkM.emp
          ·
            repeat (refine dom_upd_mem (by decide) ?_)
            exact dom_emp
        ·
          rintro mm σ ⟨i, ⟨hinv, hsam⟩, rfl, rfl⟩
          have hcl := cv_len Ts Ts.length
          refine AW.seqR ?_
          first | refine AWo.pure (PureOp.ltN rfl rfl) rfl rfl ?_ | refine AWo.pure (PureOp.bin rfl rfl rfl) rfl rfl ?_
          refine AWo.nil trivial ?_
          refine AW.seq ?_
          refine AW.cond rfl (fun hb3 => ?_) (fun hb3 => ?_)
          ·
            have hi : i < Ts.length := of_decide_eq_true hb3
            refine AW.skip ?_
            refine thenA_normal ?_
            refine AW.seq ?_
            refine AW.block ?_
            refine AW.seqR ?_
            first | refine AWo.pure (PureOp.idx1 tbok rfl rfl rfl rfl (by first | decide | omega)) rfl rfl ?_ | refine AWo.pure (PureOp.idx tbok rfl rfl rfl rfl (by first | decide | omega)) rfl rfl ?_
            refine AWo.loadM tbok (f := vi .i64) 0 rfl rfl rfl (by rw [cv_len]; omega) rfl rfl ?_
            refine AWo.pure (PureOp.assign rfl) rfl rfl ?_
            refine AWo.nil trivial ?_
            refine AW.seqR ?_
            refine AWo.pure (PureOp.move rfl) rfl rfl ?_
            refine AWo.pure (PureOp.move rfl) rfl rfl ?_
            first | refine AWo.pure (PureOp.idx1 (j := 0) tbok rfl rfl rfl rfl (by first | decide | omega)) rfl rfl ?_ | refine AWo.pure (PureOp.idx (j := 0) tbok rfl rfl rfl rfl (by first | decide | omega)) rfl rfl ?_
            refine AWo.loadM tbok (f := vi .i64) 0 rfl rfl rfl (by rw [cv_len]; omega) rfl rfl ?_
            first | refine AWo.pure (PureOp.neN rfl rfl) rfl rfl ?_ | refine AWo.pure (PureOp.bin rfl rfl rfl) rfl rfl ?_
            refine AWo.nil trivial ?_
            refine AW.cond rfl (fun hb4 => ?_) (fun hb4 => ?_)
            ·
              have hmis : ¬ vN (Ts.getD i []).length = vN (Ts.getD 0 []).length := by rw [cv_at hi (by omega), cv_at (by omega) (by omega)] at hb4; simpa using hb4
              refine AW.seqR ?_
              refine AWo.pure (PureOp.assign rfl) rfl rfl ?_
              refine AWo.pure (PureOp.assign rfl) rfl rfl ?_
              refine AWo.nil trivial ?_
              refine AW.ret ?_
              refine inBlockA_ret ?_
              refine thenA_ret ?_
              refine thenA_ret ?_
              refine inBlockA_ret ?_
              refine thenA_ret ?_
              rw [(ch_mis hi hall hmis).1, (ch_mis hi hall hmis).2]
              refine RetQ.gc [_, _] [] [.tmp 2, .tmp 3] (.inl rfl) rfl (.tmp rfl (.tmp rfl .nil)) rfl (.pure rfl (.pure rfl .nil)) (OutL.clo rfl (cloM fun _ => rfl) (by intro h; exact h.elim id fun h => absurd h.1 (by simp)) trivial) (by decide) rfl
            ·
              have hsm : vN (Ts.getD i []).length = vN (Ts.getD 0 []).length := by rw [cv_at hi (by omega), cv_at (by omega) (by omega)] at hb4; simpa using hb4
              refine AW.skip ?_
              refine inBlockA_normal ?_
              refine thenA_normal ?_
              refine AW.region ?_
              first | refine AWo.pure (PureOp.addI (b := 1) rfl rfl (by first | decide | omega)) rfl rfl ?_ | refine AWo.pure (PureOp.bin rfl rfl rfl) rfl rfl ?_
              refine AWo.pure (PureOp.move rfl) rfl rfl ?_
              refine AWo.nil trivial ?_
              refine thenA_normal ?_
              refine ⟨Ts.length - (i + 1), [], _, by omega, ?_, i + 1, ⟨by omega, fun j hj => (Nat.lt_succ_iff_lt_or_eq.1 hj).elim (hsam j) (fun e => e ▸ hsm)⟩, rfl, rfl⟩
              refine Wk.of [0, 17000] ?_ ?_ ?_ (by decide) rfl
              ·
                refine WkE.upd rfl (by first | exact VR.flat _ rfl | exact VR.eqv (vp_succ _) rfl | exact VR.eqv (vp_succ _).symm rfl | exact VR.eqv (by first | rfl | (congr 1; omega) | (simp; done) | (simp; omega)) rfl) ?_
                refine WkE.upd rfl (by first | exact VR.flat _ rfl | exact VR.eqv (vp_succ _) rfl | exact VR.eqv (vp_succ _).symm rfl | exact VR.eqv (by first | rfl | (congr 1; omega) | (simp; done) | (simp; omega)) rfl) ?_
                refine WkE.upd rfl (.slice (17000) 0 _ 0 ⟨_, rfl⟩ (by simp) (by simp)) ?_
                refine WkE.upd rfl (.slice (17000) 0 _ 0 ⟨_, rfl⟩ (by simp) (by simp)) ?_
                refine WkE.upd rfl (.slice (0) 0 _ 0 ⟨_, rfl⟩ (by simp) (by simp)) ?_
                exact WkE.emp
              ·
                refine WkM.flat rfl (flatM flat_vi) (fun h => h) ?_
                refine WkM.cloM rfl rfl (fun _ => rfl) (fun h => h) ?_
                exact WkM.emp
              ·
                repeat (refine dom_upd_mem (by decide) ?_)
                exact dom_emp
          ·
            obtain rfl : i = Ts.length := by have := of_decide_eq_false hb3; omega
            refine AW.exit ?_
            refine thenA_exit ?_
            refine thenA_exit ?_
            refine inBlockA_hit ?_
            refine thenA_normal ?_
            refine AW.seqR ?_
            refine AWo.pure (PureOp.move rfl) rfl rfl ?_
            first | refine AWo.pure (PureOp.idx1 (j := 0) tbok rfl rfl rfl rfl (by first | decide | omega)) rfl rfl ?_ | refine AWo.pure (PureOp.idx (j := 0) tbok rfl rfl rfl rfl (by first | decide | omega)) rfl rfl ?_
            refine AWo.loadM tbok (f := vi .i64) 0 rfl rfl rfl (by rw [cv_len]; omega) rfl rfl ?_
            refine AWo.pure (PureOp.assign rfl) rfl rfl ?_
            refine AWo.pure (PureOp.assign rfl) rfl rfl ?_
            refine AWo.nil trivial ?_
            refine AW.ret ?_
            rw [(ch_ok h0 hall hsam).1, (ch_ok h0 hall hsam).2, cv_at (by omega) (by omega)]
            refine RetQ.gc [_, _] [] [.tmp 2, .tmp 3] (.inl rfl) rfl (.tmp rfl (.tmp rfl .nil)) rfl (.pure rfl (.pure rfl .nil)) (OutL.clo rfl (cloM fun _ => rfl) (by intro h; exact h.elim id fun h => absurd h.1 (by simp)) trivial) (by decide) rfl
theorem total_ctr {Ts : List (List Fp)} {k m : Nat} (hk : Ts.length = k) (h0 : 0 < k) (hm : ∀ t ∈ Ts, t.length = m) (hk6 : k < 1000000) (hmb : m < 1000000) : GC Tryd.prog 56 [.slice (some ⟨0, 0, none⟩) k 0] [⟨Ts.map (dt), false, 1⟩] [.agg ((fe ((smN (prT Ts) m))).map (vi .u64)).toArray] [⟨Ts.map (dt), false, 1⟩] := by
  refine GC.intro Tryd.func56 rfl (by show 1 ≤ 34; decide) (by first | exact Nat.le_refl _ | decide | simp) ?_
  subst hk
  have hm0 : (Ts.getD 0 []).length = m := hm _ (getT_mem h0)
  refine AW.seqR ?_
  refine yN 3000 1 ((fe 0).map (vi .u64)) ?_ (hc := by rw [fe_zero]; rfl)
  refine AWo.nil trivial ?_
  refine AW.seqR ?_
  refine yN 4000 1 ((fe 0).map (vi .u64)) ?_ (hc := by rw [fe_zero]; rfl)
  refine AWo.nil trivial ?_
  refine AW.seq ?_
  refine AW.seqR ?_
  refine AWo.pure (PureOp.move rfl) rfl rfl ?_
  first | refine AWo.pure (PureOp.idx1 (j := 0) tbok rfl rfl rfl rfl (by first | decide | omega)) rfl rfl ?_ | refine AWo.pure (PureOp.idx (j := 0) tbok rfl rfl rfl rfl (by first | decide | omega)) rfl rfl ?_
  refine AWo.loadM tbok (f := dt) [] rfl rfl rfl (by omega) rfl rfl ?_
  first | refine AWo.pure ((PureOp.lenS tbok rfl rfl).mono (v' := vi .i64 m) (congrArg (vi .i64) hm0)) rfl rfl ?_ | refine AWo.pure ((PureOp.lenD tbok rfl rfl).mono (v' := vi .i64 m) (congrArg (vi .i64) hm0)) rfl rfl ?_
  refine AWo.pure (PureOp.move rfl) rfl rfl ?_
  refine AWo.nil trivial ?_
  refine AW.block ?_
  refine AW.loopw (fun mm σ => ∃ i, (i ≤ m) ∧ mm = m - i ∧ σ = ⟨(upd (upd (upd (upd (upd emp 0 (.slice (some ⟨0, 0, none⟩) Ts.length 0)) 2 (.pointer (some ⟨3000, 0, none⟩))) 3 (.pointer (some ⟨4000, 0, none⟩))) 11 (vi .i64 m)) 12 (vi .i64 i)), (upd (upd (upd emp 0 ⟨Ts.map (dt), false, 1⟩) 3000 ⟨(fe 0).map (vi .u64), true, 1⟩) 4000 ⟨(fe (smN (prT Ts) i)).map (vi .u64), true, 1⟩)⟩) (fm := []) ?_ ⟨0, Nat.zero_le _, rfl, rfl⟩ ?_
  ·
    refine Wk.of [0, 3000, 4000] ?_ ?_ ?_ (by decide) rfl
    ·
      refine WkE.upd rfl (by first | exact VR.flat _ rfl | exact VR.eqv (vp_succ _) rfl | exact VR.eqv (vp_succ _).symm rfl | exact VR.eqv (by first | rfl | (congr 1; omega) | (simp; done) | (simp; omega)) rfl) ?_
      refine WkE.upd rfl (by first | exact VR.flat _ rfl | exact VR.eqv (vp_succ _) rfl | exact VR.eqv (vp_succ _).symm rfl | exact VR.eqv (by first | rfl | (congr 1; omega) | (simp; done) | (simp; omega)) rfl) ?_
      refine WkE.upd rfl (.ptr (4000) 0 ⟨_, rfl⟩) ?_
      refine WkE.upd rfl (.ptr (3000) 0 ⟨_, rfl⟩) ?_
      refine WkE.upd rfl (.slice (0) 0 _ 0 ⟨_, rfl⟩ (by simp) (by simp)) ?_
      exact WkE.emp
    ·
      refine WkM.flat rfl (flatM flat_vi) (fun h => h) ?_
      refine WkM.flat rfl (flatM flat_vi) (fun h => h) ?_
      refine WkM.cloM rfl rfl (fun _ => rfl) (fun h => h) ?_
      exact WkM.emp
    ·
      repeat (refine dom_upd_mem (by decide) ?_)
      exact dom_emp
  ·
    rintro mm σ ⟨i, hinv, rfl, rfl⟩
    refine AW.seqR ?_
    first | refine AWo.pure (PureOp.ltN rfl rfl) rfl rfl ?_ | refine AWo.pure (PureOp.bin rfl rfl rfl) rfl rfl ?_
    refine AWo.nil trivial ?_
    refine AW.seq ?_
    refine AW.cond rfl (fun hb0 => ?_) (fun hb0 => ?_)
    ·
      have hi : i < m := of_decide_eq_true hb0
      refine AW.skip ?_
      refine thenA_normal ?_
      refine AW.seq ?_
      refine AW.block ?_
      refine AW.seqR ?_
      refine AWo.pure (PureOp.move rfl) rfl rfl ?_
      refine AWo.pure (PureOp.assign rfl) rfl rfl ?_
      refine AWo.nil trivial ?_
      refine AW.seqR ?_
      refine AWo.callX (fromuF_ctr (v := 1) (by decide)) bd22 [] [] rfl (.cons rfl .nil) rfl (.cons rfl rfl .nil) .nil rfl .nil frN (by decide) (.pure (by first | rfl | exact pure_aggM flat_vi | exact pure_aggM flat_bool) .nil) rfl rfl rfl rfl ?_
      refine AWo.alloc tbok 6000 1 _ rfl rfl rfl rfl rfl rfl ?_
      refine AWo.storeAllN tbok rfl rfl rfl rfl (by first | (simp [*]; done) | rfl) (by first | (simp [*]; done) | rfl) (by first | exact oneM (fun _ => rfl) _ | rfl | (simp; done)) rfl ?_
      refine AWo.nil trivial ?_
      refine AW.seq ?_
      refine AW.seqR ?_
      refine AWo.pure (PureOp.move rfl) rfl rfl ?_
      first | refine AWo.pure (PureOp.lenS tbok rfl rfl) rfl rfl ?_ | refine AWo.pure (PureOp.lenD tbok rfl rfl) rfl rfl ?_
      refine AWo.pure (PureOp.move rfl) rfl rfl ?_
      refine AWo.nil trivial ?_
      refine AW.block ?_
      refine AW.loopw (fun mm σ => ∃ j, (j ≤ Ts.length) ∧ mm = Ts.length - j ∧ σ = ⟨(upd (upd (upd (upd (upd (upd (upd (upd (upd (upd emp 0 (.slice (some ⟨0, 0, none⟩) Ts.length 0)) 2 (.pointer (some ⟨3000, 0, none⟩))) 3 (.pointer (some ⟨4000, 0, none⟩))) 4 (vi .i64 i)) 5 (.pointer (some ⟨6000, 0, none⟩))) 11 (vi .i64 m)) 12 (vi .i64 i)) 16 (.slice (some ⟨0, 0, none⟩) Ts.length 0)) 17 (vi .i64 Ts.length)) 18 (vi .i64 j)), (upd (upd (upd (upd emp 0 ⟨Ts.map (dt), false, 1⟩) 3000 ⟨(fe 0).map (vi .u64), true, 1⟩) 4000 ⟨(fe (smN (prT Ts) i)).map (vi .u64), true, 1⟩) 6000 ⟨(fe (prN Ts i j)).map (vi .u64), true, 1⟩)⟩) (fm := []) ?_ ⟨0, Nat.zero_le _, rfl, rfl⟩ ?_
      ·
        refine Wk.of [0, 3000, 4000, 6000] ?_ ?_ ?_ (by decide) rfl
        ·
          refine WkE.upd rfl (by first | exact VR.flat _ rfl | exact VR.eqv (vp_succ _) rfl | exact VR.eqv (vp_succ _).symm rfl | exact VR.eqv (by first | rfl | (congr 1; omega) | (simp; done) | (simp; omega)) rfl) ?_
          refine WkE.upd rfl (by first | exact VR.flat _ rfl | exact VR.eqv (vp_succ _) rfl | exact VR.eqv (vp_succ _).symm rfl | exact VR.eqv (by first | rfl | (congr 1; omega) | (simp; done) | (simp; omega)) rfl) ?_
          refine WkE.upd rfl (.slice (0) 0 _ 0 ⟨_, rfl⟩ (by simp) (by simp)) ?_
          refine WkE.upd rfl (by first | exact VR.flat _ rfl | exact VR.eqv (vp_succ _) rfl | exact VR.eqv (vp_succ _).symm rfl | exact VR.eqv (by first | rfl | (congr 1; omega) | (simp; done) | (simp; omega)) rfl) ?_
          refine WkE.upd rfl (by first | exact VR.flat _ rfl | exact VR.eqv (vp_succ _) rfl | exact VR.eqv (vp_succ _).symm rfl | exact VR.eqv (by first | rfl | (congr 1; omega) | (simp; done) | (simp; omega)) rfl) ?_
          refine WkE.upd rfl (.ptr (6000) 0 ⟨_, rfl⟩) ?_
          refine WkE.upd rfl (by first | exact VR.flat _ rfl | exact VR.eqv (vp_succ _) rfl | exact VR.eqv (vp_succ _).symm rfl | exact VR.eqv (by first | rfl | (congr 1; omega) | (simp; done) | (simp; omega)) rfl) ?_
          refine WkE.upd rfl (.ptr (4000) 0 ⟨_, rfl⟩) ?_
          refine WkE.upd rfl (.ptr (3000) 0 ⟨_, rfl⟩) ?_
          refine WkE.upd rfl (.slice (0) 0 _ 0 ⟨_, rfl⟩ (by simp) (by simp)) ?_
          exact WkE.emp
        ·
          refine WkM.flat rfl (flatM flat_vi) (fun h => h) ?_
          refine WkM.flat rfl (flatM flat_vi) (fun h => h) ?_
          refine WkM.flat rfl (flatM flat_vi) (fun h => h) ?_
          refine WkM.cloM rfl rfl (fun _ => rfl) (fun h => h) ?_
          exact WkM.emp
        ·
          repeat (refine dom_upd_mem (by decide) ?_)
          exact dom_emp
      ·
        rintro mm σ ⟨j, hinv, rfl, rfl⟩
        refine AW.seqR ?_
        first | refine AWo.pure (PureOp.ltN rfl rfl) rfl rfl ?_ | refine AWo.pure (PureOp.bin rfl rfl rfl) rfl rfl ?_
        refine AWo.nil trivial ?_
        refine AW.seq ?_
        refine AW.cond rfl (fun hb1 => ?_) (fun hb1 => ?_)
        ·
          have hj : j < Ts.length := of_decide_eq_true hb1
          have hjm : (Ts.getD j []).length = m := hm _ (getT_mem hj)
          refine AW.skip ?_
          refine thenA_normal ?_
          refine AW.seq ?_
          refine AW.block ?_
          refine AW.seqR ?_
          first | refine AWo.pure (PureOp.idx1 tbok rfl rfl rfl rfl (by first | decide | omega)) rfl rfl ?_ | refine AWo.pure (PureOp.idx tbok rfl rfl rfl rfl (by first | decide | omega)) rfl rfl ?_
          refine AWo.loadM tbok (f := dt) [] rfl rfl rfl (by omega) rfl rfl ?_
          refine AWo.pure (PureOp.assign rfl) rfl rfl ?_
          refine AWo.nil trivial ?_
          refine AW.draw mixed ?_
          first | refine yLE ?_ | refine yLEi ?_
          refine AWo.pureX 24000 (n := (Ts.getD j []).length) (es := 4) (cells := (((Ts.getD j []).map fe).flatten).map (vi .u64)) (PureOp.move rfl) rfl rfl rfl ?_
          refine AWo.pure (PureOp.move rfl) rfl rfl ?_
          first | refine AWo.pure (PureOp.idx1 tbok rfl rfl rfl rfl (by first | decide | omega)) rfl rfl ?_ | refine AWo.pure (PureOp.idx tbok rfl rfl rfl rfl (by first | decide | omega)) rfl rfl ?_
          refine yLJ (xs := (Ts.getD j [])) i ?_
          refine AWo.callX (v := .agg ((fe (prN Ts i (j + 1))).map (vi .u64)).toArray) (mulF_ctr (x := prN Ts i j) (y := (Ts.getD j []).getD i 0)) bd25 [] [] rfl (.cons rfl (.cons rfl .nil)) rfl (.pure (by first | rfl | exact pure_aggM flat_vi | exact pure_aggM flat_bool) (.pure (by first | rfl | exact pure_aggM flat_vi | exact pure_aggM flat_bool) .nil)) .nil rfl .nil frN (by decide) (.pure (by first | rfl | exact pure_aggM flat_vi | exact pure_aggM flat_bool) .nil) rfl rfl rfl rfl ?_
          refine AWo.storeAllN tbok rfl rfl rfl rfl (by first | (simp [*]; done) | rfl) (by first | (simp [*]; done) | rfl) (by first | exact oneM (fun _ => rfl) _ | rfl | (simp; done)) rfl ?_
          refine AWo.nil (by kernel_rfl) ?_
          refine inBlockA_normal ?_
          refine thenA_normal ?_
          refine AW.region ?_
          first | refine AWo.pure (PureOp.addI (b := 1) rfl rfl (by first | decide | omega)) rfl rfl ?_ | refine AWo.pure (PureOp.bin rfl rfl rfl) rfl rfl ?_
          refine AWo.pure (PureOp.move rfl) rfl rfl ?_
          refine AWo.nil trivial ?_
          refine thenA_normal ?_
          refine ⟨Ts.length - (j + 1), [], _, by omega, ?_, j + 1, by omega, rfl, rfl⟩
          refine Wk.of [0, 3000, 4000, 6000] ?_ ?_ ?_ (by decide) rfl
          ·
            refine WkE.upd rfl (by first | exact VR.flat _ rfl | exact VR.eqv (vp_succ _) rfl | exact VR.eqv (vp_succ _).symm rfl | exact VR.eqv (by first | rfl | (congr 1; omega) | (simp; done) | (simp; omega)) rfl) ?_
            refine WkE.upd rfl (by first | exact VR.flat _ rfl | exact VR.eqv (vp_succ _) rfl | exact VR.eqv (vp_succ _).symm rfl | exact VR.eqv (by first | rfl | (congr 1; omega) | (simp; done) | (simp; omega)) rfl) ?_
            refine WkE.upd rfl (.slice (0) 0 _ 0 ⟨_, rfl⟩ (by simp) (by simp)) ?_
            refine WkE.upd rfl (by first | exact VR.flat _ rfl | exact VR.eqv (vp_succ _) rfl | exact VR.eqv (vp_succ _).symm rfl | exact VR.eqv (by first | rfl | (congr 1; omega) | (simp; done) | (simp; omega)) rfl) ?_
            refine WkE.upd rfl (by first | exact VR.flat _ rfl | exact VR.eqv (vp_succ _) rfl | exact VR.eqv (vp_succ _).symm rfl | exact VR.eqv (by first | rfl | (congr 1; omega) | (simp; done) | (simp; omega)) rfl) ?_
            refine WkE.upd rfl (.ptr (6000) 0 ⟨_, rfl⟩) ?_
            refine WkE.upd rfl (by first | exact VR.flat _ rfl | exact VR.eqv (vp_succ _) rfl | exact VR.eqv (vp_succ _).symm rfl | exact VR.eqv (by first | rfl | (congr 1; omega) | (simp; done) | (simp; omega)) rfl) ?_
            refine WkE.upd rfl (.ptr (4000) 0 ⟨_, rfl⟩) ?_
            refine WkE.upd rfl (.ptr (3000) 0 ⟨_, rfl⟩) ?_
            refine WkE.upd rfl (.slice (0) 0 _ 0 ⟨_, rfl⟩ (by simp) (by simp)) ?_
            exact WkE.emp
          ·
            refine WkM.flat rfl (flatM flat_vi) (fun h => h) ?_
            refine WkM.flat rfl (flatM flat_vi) (fun h => h) ?_
            refine WkM.flat rfl (flatM flat_vi) (fun h => h) ?_
            refine WkM.cloM rfl rfl (fun _ => rfl) (fun h => h) ?_
            exact WkM.emp
          ·
            repeat (refine dom_upd_mem (by decide) ?_)
            exact dom_emp
        ·
          obtain rfl : j = Ts.length := by have := of_decide_eq_false hb1; omega
          refine AW.exit ?_
          refine thenA_exit ?_
          refine thenA_exit ?_
          refine inBlockA_hit ?_
          refine thenA_normal ?_
          refine AW.region ?_
          first | refine yLE ?_ | refine yLEi ?_
          first | refine yLE ?_ | refine yLEi ?_
          refine AWo.callX (v := .agg ((fe (smN (prT Ts) (i + 1))).map (vi .u64)).toArray) (addF_ctr (x := (smN (prT Ts) i)) (y := prN Ts i Ts.length)) bd23 [] [] rfl (.cons rfl (.cons rfl .nil)) rfl (.pure (by first | rfl | exact pure_aggM flat_vi | exact pure_aggM flat_bool) (.pure (by first | rfl | exact pure_aggM flat_vi | exact pure_aggM flat_bool) .nil)) .nil rfl .nil frN (by decide) (.pure (by first | rfl | exact pure_aggM flat_vi | exact pure_aggM flat_bool) .nil) rfl rfl rfl rfl ?_
          refine AWo.storeAllN tbok rfl rfl rfl rfl (by first | (simp [*]; done) | rfl) (by first | (simp [*]; done) | rfl) (by first | exact oneM (fun _ => rfl) _ | rfl | (simp; done)) rfl ?_
          refine AWo.nil trivial ?_
          refine inBlockA_normal ?_
          refine thenA_normal ?_
          refine AW.region ?_
          first | refine AWo.pure (PureOp.addI (b := 1) rfl rfl (by first | decide | omega)) rfl rfl ?_ | refine AWo.pure (PureOp.bin rfl rfl rfl) rfl rfl ?_
          refine AWo.pure (PureOp.move rfl) rfl rfl ?_
          refine AWo.nil trivial ?_
          refine thenA_normal ?_
          refine ⟨m - (i + 1), [], _, by omega, ?_, i + 1, by omega, rfl, rfl⟩
          refine Wk.of [0, 3000, 4000] ?_ ?_ ?_ (by decide) rfl
          ·
            refine WkE.upd rfl (by first | exact VR.flat _ rfl | exact VR.eqv (vp_succ _) rfl | exact VR.eqv (vp_succ _).symm rfl | exact VR.eqv (by first | rfl | (congr 1; omega) | (simp; done) | (simp; omega)) rfl) ?_
            refine WkE.upd rfl (by first | exact VR.flat _ rfl | exact VR.eqv (vp_succ _) rfl | exact VR.eqv (vp_succ _).symm rfl | exact VR.eqv (by first | rfl | (congr 1; omega) | (simp; done) | (simp; omega)) rfl) ?_
            refine WkE.upd rfl (.ptr (4000) 0 ⟨_, rfl⟩) ?_
            refine WkE.upd rfl (.ptr (3000) 0 ⟨_, rfl⟩) ?_
            refine WkE.upd rfl (.slice (0) 0 _ 0 ⟨_, rfl⟩ (by simp) (by simp)) ?_
            exact WkE.emp
          ·
            refine WkM.flat rfl (flatM flat_vi) (fun h => h) ?_
            refine WkM.flat rfl (flatM flat_vi) (fun h => h) ?_
            refine WkM.cloM rfl rfl (fun _ => rfl) (fun h => h) ?_
            exact WkM.emp
          ·
            repeat (refine dom_upd_mem (by decide) ?_)
            exact dom_emp
    ·
      obtain rfl : i = m := by have := of_decide_eq_false hb0; omega
      refine AW.exit ?_
      refine thenA_exit ?_
      refine thenA_exit ?_
      refine inBlockA_hit ?_
      refine thenA_normal ?_
      refine AW.seqR ?_
      first | refine yLE ?_ | refine yLEi ?_
      refine AWo.storeAllN tbok rfl rfl rfl rfl (by first | (simp [*]; done) | rfl) (by first | (simp [*]; done) | rfl) (by first | exact oneM (fun _ => rfl) _ | rfl | (simp; done)) rfl ?_
      refine AWo.nil trivial ?_
      refine AW.ret ?_
      refine RetQ.gc [_] [] [.cell 2 43] (.inl rfl) rfl (.val (RVal.cellAll tbok rfl rfl rfl rfl (by first | (simp [*]; done) | rfl)) .nil) rfl (.pure (by first | rfl | exact pure_aggM flat_vi | exact pure_aggM flat_bool) .nil) (OutL.clo rfl (cloM fun _ => rfl) (by intro h; first | rfl | exact h.elim id fun h => absurd h.1 (by simp)) trivial) (by decide) rfl
theorem Total_ctr {Ts : List (List Fp)} {k : Nat} (hk : Ts.length = k) (hk6 : k < 1000000) (hs : ∀ t ∈ Ts, t.length < 1000000) : GC Tryd.prog 29 [.slice (some ⟨0, 0, none⟩) k 0] [⟨Ts.map (dt), false, 1⟩] [.agg ((fe ((toT Ts))).map (vi .u64)).toArray, .int .i64 (chC Ts)] [⟨Ts.map (dt), false, 1⟩] := by
  refine GC.intro Tryd.func29 rfl (by show 1 ≤ 17; decide) (by first | exact Nat.le_refl _ | decide | simp) ?_
  subst hk
  refine AW.seqR ?_
  refine yN 3000 1 ((fe 0).map (vi .u64)) ?_ (hc := by rw [fe_zero]; rfl)
  refine AWo.pure (PureOp.assign rfl) rfl rfl ?_
  refine AWo.nil trivial ?_
  refine AW.seq ?_
  refine AW.seqR ?_
  refine AWo.pure (PureOp.move rfl) rfl rfl ?_
  refine AWo.callX (check_ctr (Ts := Ts) (k := Ts.length) rfl hk6 hs) bd55 [(0, 0)] [] rfl (.cons rfl .nil) rfl (.cons rfl rfl .nil) (.clo rfl (cloM fun _ => rfl) (by intro h; first | exact h | rfl) .nil) rfl (.keep rfl .nil) frN (by decide) (.cons rfl rfl (.cons rfl rfl .nil)) rfl rfl rfl rfl ?_
  refine AWo.pure (PureOp.move rfl) rfl rfl ?_
  refine AWo.pure (PureOp.extract rfl rfl) rfl rfl ?_
  refine AWo.pure (PureOp.extract rfl rfl) rfl rfl ?_
  refine AWo.pure (PureOp.assign rfl) rfl rfl ?_
  refine AWo.pure (PureOp.assign rfl) rfl rfl ?_
  refine AWo.nil trivial ?_
  refine AW.seqR ?_
  refine AWo.pure (PureOp.move rfl) rfl rfl ?_
  first | refine AWo.pure (PureOp.neN (b := 0) rfl rfl) rfl rfl ?_ | refine AWo.pure (PureOp.bin rfl rfl rfl) rfl rfl ?_
  refine AWo.nil trivial ?_
  refine AW.cond rfl (fun hb0 => ?_) (fun hb0 => ?_)
  ·
    have hc : ¬ chC Ts = 0 := by simpa using hb0
    refine AW.seqR ?_
    refine AWo.pure ((PureOp.buildStruct [] pl43.choose_spec.1 zr43 (by decide) pl43.choose_spec.2 rfl rfl).mono (v' := .agg ((fe 0).map (vi .u64)).toArray) (by kernel_rfl)) rfl rfl ?_
    refine AWo.pure (PureOp.move rfl) rfl rfl ?_
    refine AWo.storeAllN tbok rfl rfl rfl rfl (by first | (simp [*]; done) | rfl) (by first | (simp [*]; done) | rfl) (by first | exact oneM (fun _ => rfl) _ | rfl | (simp; done)) rfl ?_
    refine AWo.pure (PureOp.assign rfl) rfl rfl ?_
    refine AWo.nil trivial ?_
    refine AW.ret ?_
    refine thenA_ret ?_
    rw [show toT Ts = 0 from if_neg hc]
    refine RetQ.gc [_, _] [] [.cell 2 43, .tmp 3] (.inl rfl) rfl (.val (RVal.cellAll tbok rfl rfl rfl rfl (by first | (simp [*]; done) | rfl)) (.tmp rfl .nil)) rfl (.pure (pure_aggM flat_vi) (.cons rfl rfl .nil)) (OutL.clo rfl (cloM fun _ => rfl) (by intro h; exact h.elim id fun h => absurd h.1 (by simp)) trivial) (by decide) rfl
  ·
    have hc : chC Ts = 0 := by simpa using hb0
    obtain ⟨hq0, hqm⟩ := ch_zero hc
    refine AW.skip ?_
    refine thenA_normal ?_
    refine AW.seqR ?_
    refine AWo.pure (PureOp.move rfl) rfl rfl ?_
    refine AWo.callX (total_ctr (Ts := Ts) (k := Ts.length) (m := (Ts.getD 0 []).length) rfl hq0 hqm hk6 (hs _ (getT_mem hq0))) bd56 [(0, 0)] [] rfl (.cons rfl .nil) rfl (.cons rfl rfl .nil) (.clo rfl (cloM fun _ => rfl) (by intro h; first | exact h | rfl) .nil) rfl (.keep rfl .nil) frN (by decide) (.pure (by first | rfl | exact pure_aggM flat_vi | exact pure_aggM flat_bool) .nil) rfl rfl rfl rfl ?_
    refine AWo.storeAllN tbok rfl rfl rfl rfl (by first | (simp [*]; done) | rfl) (by first | (simp [*]; done) | rfl) (by first | exact oneM (fun _ => rfl) _ | rfl | (simp; done)) rfl ?_
    refine AWo.pure (PureOp.assign rfl) rfl rfl ?_
    refine AWo.nil trivial ?_
    refine AW.ret ?_
    rw [hc, show toT Ts = smN (prT Ts) (Ts.getD 0 []).length from if_pos hc]
    refine RetQ.gc [_, _] [] [.cell 2 43, .tmp 3] (.inl rfl) rfl (.val (RVal.cellAll tbok rfl rfl rfl rfl (by first | (simp [*]; done) | rfl)) (.tmp rfl .nil)) rfl (.pure (pure_aggM flat_vi) (.pure rfl .nil)) (OutL.clo rfl (cloM fun _ => rfl) (by intro h; exact h.elim id fun h => absurd h.1 (by simp)) trivial) (by decide) rfl
end Go.Proofs.YteeifahhejangaaDoor
namespace Go.Proofs.YteeifahhejangaaDoor
open Go Sim
def dlb (L : List (List Nat)) : Value := deep L.length 1 (L.map db)
def dr (xs : List Fp) : Value := deep xs.length 1 (xs.map dv)
def tb (L : List (List Nat)) : List Fp := L.map nb
theorem tb_len (L : List (List Nat)) : (tb L).length = L.length := List.length_map ..
theorem getD3 {L3 : List (List (List Nat))} {j : Nat} (h : j < L3.length) : L3.getD j [] ∈ L3 := by
  rw [List.getD_eq_getElem?_getD, List.getElem?_eq_getElem h]; exact List.getElem_mem h
theorem takeL3 {L3 : List (List (List Nat))} {i : Nat} (h : i < L3.length) : L3.take i ++ [L3.getD i []] = L3.take (i + 1) := by
  rw [List.take_succ_eq_append_getElem h, List.getD_eq_getElem?_getD, List.getElem?_eq_getElem h]; rfl
def few3 (L3 : List (List (List Nat))) : Bool := (L3.all fun L => fewB L 40) && decide (L3.length ≤ 5)
theorem few3_bad {L3 : List (List (List Nat))} {i : Nat} (hi : i < L3.length) (h : fewB (L3.getD i []) 40 = false) : few3 L3 = false := by
  rw [few3, Bool.and_eq_false_iff]
  left
  rw [List.all_eq_false]
  exact ⟨_, getD3 hi, by rw [h]; decide⟩
theorem few3_ok {L3 : List (List (List Nat))} (h : ∀ j, j < L3.length → fewB (L3.getD j []) 40 = true) : few3 L3 = decide (L3.length ≤ 5) := by
  rw [few3, List.all_eq_true.2 (fun L hL => ?_), Bool.true_and]
  obtain ⟨j, hj⟩ := List.mem_iff_getElem?.1 hL
  have := h j (List.getElem?_eq_some_iff.1 hj).1
  rwa [List.getD_eq_getElem?_getD, hj] at this
theorem few3_get {L3 : List (List (List Nat))} (h : few3 L3 = true) : (∀ L ∈ L3, fewB L 40 = true) ∧ L3.length ≤ 5 := by
  rw [few3, Bool.and_eq_true] at h
  exact ⟨List.all_eq_true.1 h.1, of_decide_eq_true h.2⟩
theorem few3_ctr {L3 : List (List (List Nat))} {k : Nat} (hk : L3.length = k) (hk6 : k ≤ 9223372036854775807) (hm3 : ∀ L ∈ L3, L.length ≤ 9223372036854775807) : GC Tryd.prog 30 [.slice (some ⟨0, 0, none⟩) k 0] [⟨L3.map (dlb), false, 1⟩] [.bool (few3 L3)] [⟨L3.map (dlb), false, 1⟩] := by
  refine GC.intro Tryd.func30 rfl (by show 1 ≤ 18; decide) (by first | exact Nat.le_refl _ | decide | simp) ?_
  subst hk
  refine AW.seqR ?_
  refine AWo.pure (PureOp.assign rfl) rfl rfl ?_
  refine AWo.nil trivial ?_
  refine AW.seq ?_
  refine AW.seqR ?_
  refine AWo.pure (PureOp.move rfl) rfl rfl ?_
  first | refine AWo.pure (PureOp.lenS tbok rfl rfl) rfl rfl ?_ | refine AWo.pure (PureOp.lenD tbok rfl rfl) rfl rfl ?_
  refine AWo.pure (PureOp.move rfl) rfl rfl ?_
  refine AWo.nil trivial ?_
  refine AW.block ?_
  refine AW.loopw (fun mm σ => ∃ i, (i ≤ L3.length ∧ ∀ j, j < i → fewB (L3.getD j []) 40 = true) ∧ mm = L3.length - i ∧ σ = ⟨(upd (upd (upd (upd emp 0 (.slice (some ⟨0, 0, none⟩) L3.length 0)) 5 (.slice (some ⟨0, 0, none⟩) L3.length 0)) 6 (vi .i64 L3.length)) 7 (vi .i64 i)), (upd emp 0 ⟨L3.map (dlb), false, 1⟩)⟩) (fm := []) ?_ ⟨0, ⟨Nat.zero_le _, fun j hj => absurd hj (Nat.not_lt_zero j)⟩, rfl, rfl⟩ ?_
  ·
    refine Wk.of [0] ?_ ?_ ?_ (by decide) rfl
    ·
      refine WkE.upd rfl (by first | exact VR.flat _ rfl | exact VR.eqv (vp_succ _) rfl | exact VR.eqv (vp_succ _).symm rfl | exact VR.eqv (by first | rfl | (congr 1; omega) | (simp; done) | (simp; omega)) rfl) ?_
      refine WkE.upd rfl (by first | exact VR.flat _ rfl | exact VR.eqv (vp_succ _) rfl | exact VR.eqv (vp_succ _).symm rfl | exact VR.eqv (by first | rfl | (congr 1; omega) | (simp; done) | (simp; omega)) rfl) ?_
      refine WkE.upd rfl (.slice (0) 0 _ 0 ⟨_, rfl⟩ (by simp) (by simp)) ?_
      refine WkE.upd rfl (.slice (0) 0 _ 0 ⟨_, rfl⟩ (by simp) (by simp)) ?_
      exact WkE.emp
    ·
      refine WkM.cloM rfl rfl (fun _ => rfl) (fun h => h) ?_
      exact WkM.emp
    ·
      repeat (refine dom_upd_mem (by decide) ?_)
      exact dom_emp
  ·
    rintro mm σ ⟨i, ⟨hinv, hall⟩, rfl, rfl⟩
    refine AW.seqR ?_
    first | refine AWo.pure (PureOp.ltN rfl rfl) rfl rfl ?_ | refine AWo.pure (PureOp.bin rfl rfl rfl) rfl rfl ?_
    refine AWo.nil trivial ?_
    refine AW.seq ?_
    refine AW.cond rfl (fun hb0 => ?_) (fun hb0 => ?_)
    ·
      have hi : i < L3.length := of_decide_eq_true hb0
      refine AW.skip ?_
      refine thenA_normal ?_
      refine AW.seq ?_
      refine AW.block ?_
      refine AW.seqR ?_
      first | refine AWo.pure (PureOp.idx1 tbok rfl rfl rfl rfl (by first | decide | omega)) rfl rfl ?_ | refine AWo.pure (PureOp.idx tbok rfl rfl rfl rfl (by first | decide | omega)) rfl rfl ?_
      refine AWo.loadM tbok (f := dlb) [] rfl rfl rfl (by omega) rfl rfl ?_
      refine AWo.pure (PureOp.assign rfl) rfl rfl ?_
      refine AWo.nil trivial ?_
      refine AW.seqR ?_
      refine AWo.pureX 12000 (n := (L3.getD i []).length) (es := 1) (cells := (L3.getD i []).map db) (PureOp.move rfl) rfl rfl rfl ?_
      refine AWo.callX (few22_ctr (Ls := (L3.getD i [])) (most := 40) (hm3 _ (getD3 hi)) (by decide)) bd8 [(12000, 0)] [] rfl (.cons rfl (.cons rfl .nil)) rfl (.cons rfl rfl (.cons rfl rfl .nil)) (.clo rfl (cloM fun _ => rfl) (by intro h; first | exact h | rfl) .nil) rfl (.keep rfl .nil) frN (by decide) (.cons rfl rfl .nil) rfl rfl rfl rfl ?_
      refine AWo.pure (PureOp.not rfl) rfl rfl ?_
      refine AWo.nil trivial ?_
      refine AW.cond rfl (fun hb1 => ?_) (fun hb1 => ?_)
      ·
        have hbd := hb1
        refine AW.seqR ?_
        refine AWo.pure (PureOp.assign rfl) rfl rfl ?_
        refine AWo.nil trivial ?_
        refine AW.ret ?_
        refine inBlockA_ret ?_
        refine thenA_ret ?_
        refine thenA_ret ?_
        refine inBlockA_ret ?_
        refine thenA_ret ?_
        rw [few3_bad hi (by simpa using hbd)]
        refine RetQ.gc [_] [] [.tmp 2] (.inl rfl) rfl (.tmp rfl .nil) rfl (.pure rfl .nil) (OutL.clo rfl (cloM fun _ => rfl) (by intro h; exact h.elim id fun h => absurd h.1 (by simp)) trivial) (by decide) rfl
      ·
        have hgd : fewB (L3.getD i []) 40 = true := by simpa using hb1
        refine AW.skip ?_
        refine inBlockA_normal ?_
        refine thenA_normal ?_
        refine AW.region ?_
        first | refine AWo.pure (PureOp.addI (b := 1) rfl rfl (by first | decide | omega)) rfl rfl ?_ | refine AWo.pure (PureOp.bin rfl rfl rfl) rfl rfl ?_
        refine AWo.pure (PureOp.move rfl) rfl rfl ?_
        refine AWo.nil trivial ?_
        refine thenA_normal ?_
        refine ⟨L3.length - (i + 1), [], _, by omega, ?_, i + 1, ⟨by omega, fun j hj => (Nat.lt_succ_iff_lt_or_eq.1 hj).elim (hall j) (fun e => e ▸ hgd)⟩, rfl, rfl⟩
        refine Wk.of [0] ?_ ?_ ?_ (by decide) rfl
        ·
          refine WkE.upd rfl (by first | exact VR.flat _ rfl | exact VR.eqv (vp_succ _) rfl | exact VR.eqv (vp_succ _).symm rfl | exact VR.eqv (by first | rfl | (congr 1; omega) | (simp; done) | (simp; omega)) rfl) ?_
          refine WkE.upd rfl (by first | exact VR.flat _ rfl | exact VR.eqv (vp_succ _) rfl | exact VR.eqv (vp_succ _).symm rfl | exact VR.eqv (by first | rfl | (congr 1; omega) | (simp; done) | (simp; omega)) rfl) ?_
          refine WkE.upd rfl (.slice (0) 0 _ 0 ⟨_, rfl⟩ (by simp) (by simp)) ?_
          refine WkE.upd rfl (.slice (0) 0 _ 0 ⟨_, rfl⟩ (by simp) (by simp)) ?_
          exact WkE.emp
        ·
          refine WkM.cloM rfl rfl (fun _ => rfl) (fun h => h) ?_
          exact WkM.emp
        ·
          repeat (refine dom_upd_mem (by decide) ?_)
          exact dom_emp
    ·
      obtain rfl : i = L3.length := by have := of_decide_eq_false hb0; omega
      refine AW.exit ?_
      refine thenA_exit ?_
      refine thenA_exit ?_
      refine inBlockA_hit ?_
      refine thenA_normal ?_
      refine AW.seqR ?_
      refine AWo.pure (PureOp.move rfl) rfl rfl ?_
      first | refine AWo.pure (PureOp.lenS tbok rfl rfl) rfl rfl ?_ | refine AWo.pure (PureOp.lenD tbok rfl rfl) rfl rfl ?_
      first | refine AWo.pure (PureOp.leN (b := 5) rfl rfl) rfl rfl ?_ | refine AWo.pure (PureOp.bin rfl rfl rfl) rfl rfl ?_
      refine AWo.pure (PureOp.assign rfl) rfl rfl ?_
      refine AWo.nil trivial ?_
      refine AW.ret ?_
      rw [few3_ok hall]
      refine RetQ.gc [_] [] [.tmp 2] (.inl rfl) rfl (.tmp rfl .nil) rfl (.cons rfl rfl .nil) (OutL.clo rfl (cloM fun _ => rfl) (by intro h; exact h.elim id fun h => absurd h.1 (by simp)) trivial) (by decide) rfl
theorem ofs_ctr {L3 : List (List (List Nat))} {k : Nat} (hk : L3.length = k) (hk6 : k < 1000000) (hB3 : ∀ L ∈ L3, ∀ b ∈ L, bd 256 b) (hS3 : ∀ L ∈ L3, ∀ b ∈ L, b.length ≤ 40) (hn3 : ∀ L ∈ L3, L.length < 1000000) : GC Tryd.prog 31 [.slice (some ⟨0, 0, none⟩) k 0] [⟨L3.map (dlb), false, 1⟩] [.slice (some ⟨1, 0, none⟩) k 0, .slice (some ⟨2, 0, none⟩) k 0] [⟨L3.map (dlb), false, 1⟩, ⟨(L3.map tb).map dt, true, 1⟩, ⟨(L3.map tb).map dr, true, 1⟩] := by
  refine GC.intro Tryd.func31 rfl (by show 1 ≤ 33; decide) (by first | exact Nat.le_refl _ | decide | simp) ?_
  subst hk
  refine AW.ghost 77000 1 rfl ?_
  refine AW.seqR ?_
  refine AWo.pure (PureOp.assign rfl) rfl rfl ?_
  refine AWo.pure (PureOp.assign rfl) rfl rfl ?_
  refine AWo.nil trivial ?_
  refine AW.seqR ?_
  refine AWo.pure (PureOp.assign rfl) rfl rfl ?_
  refine AWo.nil trivial ?_
  refine AW.seqR ?_
  refine AWo.buildSlice tbok 11000 [] (out := []) rfl rfl (by decide) rfl rfl rfl (by decide) rfl rfl rfl rfl rfl ?_
  refine AWo.pure (PureOp.assign rfl) rfl rfl ?_
  refine AWo.nil trivial ?_
  refine AW.seq ?_
  refine AW.seqR ?_
  refine AWo.pure (PureOp.move rfl) rfl rfl ?_
  first | refine AWo.pure (PureOp.lenS tbok rfl rfl) rfl rfl ?_ | refine AWo.pure (PureOp.lenD tbok rfl rfl) rfl rfl ?_
  refine AWo.pure (PureOp.move rfl) rfl rfl ?_
  refine AWo.nil trivial ?_
  refine AW.block ?_
  refine AW.loopw (fun mm σ => ∃ i, (i ≤ L3.length) ∧ mm = L3.length - i ∧ σ = ⟨(upd (upd (upd (upd (upd (upd emp 0 (.slice (some ⟨0, 0, none⟩) L3.length 0)) 4 (.slice (some ⟨77000, 0, none⟩) i 0)) 5 (.slice (some ⟨78000, 0, none⟩) i 0)) 11 (.slice (some ⟨0, 0, none⟩) L3.length 0)) 12 (vi .i64 L3.length)) 13 (vi .i64 i)), (upd (upd (upd emp 0 ⟨L3.map (dlb), false, 1⟩) 77000 ⟨((L3.take i).map tb).map dt, true, 1⟩) 78000 ⟨((L3.take i).map tb).map dr, true, 1⟩)⟩) (fm := [(78000, 11000)]) ?_ ⟨0, Nat.zero_le _, rfl, rfl⟩ ?_
  ·
    refine Wk.of [0, 77000, 78000] ?_ ?_ ?_ (by decide) rfl
    ·
      refine WkE.upd rfl (by first | exact VR.flat _ rfl | exact VR.eqv (vp_succ _) rfl | exact VR.eqv (vp_succ _).symm rfl | exact VR.eqv (by first | rfl | (congr 1; omega) | (simp; done) | (simp; omega)) rfl) ?_
      refine WkE.upd rfl (by first | exact VR.flat _ rfl | exact VR.eqv (vp_succ _) rfl | exact VR.eqv (vp_succ _).symm rfl | exact VR.eqv (by first | rfl | (congr 1; omega) | (simp; done) | (simp; omega)) rfl) ?_
      refine WkE.upd rfl (.slice (0) 0 _ 0 ⟨_, rfl⟩ (by simp) (by simp)) ?_
      refine WkE.upd rfl (by first | exact .nilS _ (by simp) | exact .slice (78000) 0 _ 0 ⟨_, rfl⟩ (by simp) (by simp)) ?_
      refine WkE.upd rfl (by first | exact .nilS _ (by simp) | exact .slice (77000) 0 _ 0 ⟨_, rfl⟩ (by simp) (by simp)) ?_
      refine WkE.upd rfl (.slice (0) 0 _ 0 ⟨_, rfl⟩ (by simp) (by simp)) ?_
      exact WkE.emp
    ·
      refine WkM.cloM rfl rfl (fun _ => rfl) (fun h => h) ?_
      refine WkM.cloM rfl rfl (fun _ => rfl) (fun h => h) ?_
      refine WkM.cloM rfl rfl (fun _ => rfl) (fun h => h) ?_
      exact WkM.emp
    ·
      repeat (refine dom_upd_mem (by decide) ?_)
      exact dom_emp
  ·
    rintro mm σ ⟨i, hinv, rfl, rfl⟩
    refine AW.seqR ?_
    first | refine AWo.pure (PureOp.ltN rfl rfl) rfl rfl ?_ | refine AWo.pure (PureOp.bin rfl rfl rfl) rfl rfl ?_
    refine AWo.nil trivial ?_
    refine AW.seq ?_
    refine AW.cond rfl (fun hb0 => ?_) (fun hb0 => ?_)
    ·
      have hi : i < L3.length := of_decide_eq_true hb0
      refine AW.skip ?_
      refine thenA_normal ?_
      refine AW.seq ?_
      refine AW.block ?_
      refine AW.seqR ?_
      first | refine AWo.pure (PureOp.idx1 tbok rfl rfl rfl rfl (by first | decide | omega)) rfl rfl ?_ | refine AWo.pure (PureOp.idx tbok rfl rfl rfl rfl (by first | decide | omega)) rfl rfl ?_
      refine AWo.loadM tbok (f := dlb) [] rfl rfl rfl (by omega) rfl rfl ?_
      refine AWo.pure (PureOp.assign rfl) rfl rfl ?_
      refine AWo.nil trivial ?_
      refine AW.seqR ?_
      refine AWo.pureX 19000 (n := (L3.getD i []).length) (es := 1) (cells := (L3.getD i []).map db) (PureOp.move rfl) rfl rfl rfl ?_
      refine AWo.callX (of23_ctr (Ls := (L3.getD i [])) (hB3 _ (getD3 hi)) (hS3 _ (getD3 hi)) (hn3 _ (getD3 hi))) bd9 [(19000, 0)] [20000, 20001] rfl (.cons rfl .nil) rfl (.cons rfl rfl .nil) (.clo rfl (cloM fun _ => rfl) (by intro h; first | exact h | rfl) .nil) rfl (.keep rfl (.new (flat_map_ren (flatM flat_vi)) (OkL.flat (flatM flat_vi)) (.new (clo_map_ren (cloM fun _ => rfl)) (OkL.clo (cloM fun _ => rfl)) .nil))) (frC rfl (frC rfl frN)) (by decide) (.cons rfl rfl (.cons rfl rfl .nil)) rfl rfl rfl rfl ?_
      refine AWo.pure (PureOp.move rfl) rfl rfl ?_
      refine AWo.pure (PureOp.extract rfl rfl) rfl rfl ?_
      refine AWo.pure (PureOp.extract rfl rfl) rfl rfl ?_
      refine AWo.pure (PureOp.assign rfl) rfl rfl ?_
      refine AWo.pure (PureOp.assign rfl) rfl rfl ?_
      refine AWo.nil trivial ?_
      refine AW.freeze 8 20000 (((((L3.getD i []).map nb).map fe).flatten).map (vi .u64)) ?_ rfl rfl (cloM fun _ => rfl) (by show 0 + (L3.getD i []).length * 4 ≤ _; rw [FF_len4, List.length_map]; omega) (by show List.take ((L3.getD i []).length * 4) (List.drop 0 _) = _; rw [List.drop_zero]; exact List.take_of_length_le (by rw [FF_len4, List.length_map]; omega))
      rw [show deep (L3.getD i []).length 4 (((((L3.getD i []).map nb).map fe).flatten).map (vi .u64)) = dt (tb (L3.getD i [])) by rw [dt, tb_len]; rfl]
      refine AW.freeze 9 20001 (((L3.getD i []).map nb).map dv) ?_ rfl rfl (cloM fun _ => rfl) (by show 0 + (L3.getD i []).length * 1 ≤ _; rw [List.length_map, List.length_map]; omega) (by show List.take ((L3.getD i []).length * 1) (List.drop 0 _) = _; rw [List.drop_zero]; exact List.take_of_length_le (by rw [List.length_map, List.length_map]; omega))
      rw [show deep (L3.getD i []).length 1 (((L3.getD i []).map nb).map dv) = dr (tb (L3.getD i [])) by rw [dr, tb_len]; rfl]
      refine AW.seqR ?_
      refine AWo.pure (PureOp.move rfl) rfl rfl ?_
      refine AWo.pure (PureOp.move rfl) rfl rfl ?_
      refine AWo.buildSlice tbok 25000 [(0, dt (tb (L3.getD i [])))] (out := [dt (tb (L3.getD i []))]) rfl rfl (by decide) rfl rfl rfl (by decide) rfl rfl rfl rfl rfl ?_
      refine AWo.append tbok (all := ((L3.take (i + 1)).map tb).map dt) (news := [dt (tb (L3.getD i []))]) 26000 rfl rfl rfl rfl (by simp; omega) (by show List.take _ (List.drop 0 _) = _; rw [List.drop_zero]; exact List.take_of_length_le (by simp)) (by first | decide | (simp; done) | (simp; omega)) (by decide) rfl rfl rfl (by first | decide | exact Nat.one_ne_zero) rfl rfl rfl (by first | decide | omega) (by first | decide | omega) (by rfl) (by rw [← takeL3 hi, List.map_append, List.map_append]; rfl) rfl rfl ?_
      refine AWo.pure (PureOp.assign rfl) rfl rfl ?_
      refine AWo.nil trivial ?_
      refine AW.region ?_
      refine AWo.pure (PureOp.move rfl) rfl rfl ?_
      refine AWo.pure (PureOp.move rfl) rfl rfl ?_
      refine AWo.buildSlice tbok 29000 [(0, dr (tb (L3.getD i [])))] (out := [dr (tb (L3.getD i []))]) rfl rfl (by decide) rfl rfl rfl (by decide) rfl rfl rfl rfl rfl ?_
      refine AWo.append tbok (all := ((L3.take (i + 1)).map tb).map dr) (news := [dr (tb (L3.getD i []))]) 30000 rfl rfl rfl rfl (by simp; omega) (by show List.take _ (List.drop 0 _) = _; rw [List.drop_zero]; exact List.take_of_length_le (by simp)) (by first | decide | (simp; done) | (simp; omega)) (by decide) rfl rfl rfl (by first | decide | exact Nat.one_ne_zero) rfl rfl rfl (by first | decide | omega) (by first | decide | omega) (by rfl) (by rw [← takeL3 hi, List.map_append, List.map_append]; rfl) rfl rfl ?_
      refine AWo.pure (PureOp.assign rfl) rfl rfl ?_
      refine AWo.nil trivial ?_
      refine inBlockA_normal ?_
      refine thenA_normal ?_
      refine AW.region ?_
      first | refine AWo.pure (PureOp.addI (b := 1) rfl rfl (by first | decide | omega)) rfl rfl ?_ | refine AWo.pure (PureOp.bin rfl rfl rfl) rfl rfl ?_
      refine AWo.pure (PureOp.move rfl) rfl rfl ?_
      refine AWo.nil trivial ?_
      refine thenA_normal ?_
      refine ⟨L3.length - (i + 1), [(77000, 26000), (78000, 30000)], _, by omega, ?_, i + 1, by omega, rfl, rfl⟩
      refine Wk.of [0, 77000, 78000] ?_ ?_ ?_ (by decide) rfl
      ·
        refine WkE.upd rfl (by first | exact VR.flat _ rfl | exact VR.eqv (vp_succ _) rfl | exact VR.eqv (vp_succ _).symm rfl | exact VR.eqv (by first | rfl | (congr 1; omega) | (simp; done) | (simp; omega)) rfl) ?_
        refine WkE.upd rfl (by first | exact VR.flat _ rfl | exact VR.eqv (vp_succ _) rfl | exact VR.eqv (vp_succ _).symm rfl | exact VR.eqv (by first | rfl | (congr 1; omega) | (simp; done) | (simp; omega)) rfl) ?_
        refine WkE.upd rfl (.slice (0) 0 _ 0 ⟨_, rfl⟩ (by simp) (by simp)) ?_
        refine WkE.upd rfl (by first | exact .nilS _ (by simp) | exact .slice (78000) 0 _ 0 ⟨_, rfl⟩ (by simp) (by simp)) ?_
        refine WkE.upd rfl (by first | exact .nilS _ (by simp) | exact .slice (77000) 0 _ 0 ⟨_, rfl⟩ (by simp) (by simp)) ?_
        refine WkE.upd rfl (.slice (0) 0 _ 0 ⟨_, rfl⟩ (by simp) (by simp)) ?_
        exact WkE.emp
      ·
        refine WkM.cloM rfl rfl (fun _ => rfl) (fun h => h) ?_
        refine WkM.cloM rfl rfl (fun _ => rfl) (fun h => h) ?_
        refine WkM.cloM rfl rfl (fun _ => rfl) (fun h => h) ?_
        exact WkM.emp
      ·
        repeat (refine dom_upd_mem (by decide) ?_)
        exact dom_emp
    ·
      obtain rfl : i = L3.length := by have := of_decide_eq_false hb0; omega
      rw [List.take_length]
      refine AW.exit ?_
      refine thenA_exit ?_
      refine thenA_exit ?_
      refine inBlockA_hit ?_
      refine thenA_normal ?_
      refine AW.seqR ?_
      refine AWo.pure (PureOp.move rfl) rfl rfl ?_
      refine AWo.pure (PureOp.move rfl) rfl rfl ?_
      refine AWo.pure (PureOp.assign rfl) rfl rfl ?_
      refine AWo.pure (PureOp.assign rfl) rfl rfl ?_
      refine AWo.nil trivial ?_
      refine AW.ret ?_
      refine RetQ.gc [_, _] [77000, 78000] [.tmp 2, .tmp 3] (.inl rfl) rfl (.tmp rfl (.tmp rfl .nil)) rfl (.cons rfl rfl (.cons rfl rfl .nil)) (OutL.clo rfl (cloM fun _ => rfl) (by intro h; first | rfl | exact h.elim id fun h => absurd h.1 (by simp)) (OutL.clo rfl (cloM fun _ => rfl) (by intro h; first | rfl | exact h.elim id fun h => absurd h.1 (by simp)) (OutL.clo rfl (cloM fun _ => rfl) (by intro h; first | rfl | exact h.elim id fun h => absurd h.1 (by simp)) trivial))) (by decide) rfl
theorem fix_d {xs : List Fp} {x : Fp} (hx : xs.length < 1000000) : GC Tryd.prog 17 [dt xs, .agg ((fe (x)).map (vi .u64)).toArray] [] [dt (fixT xs x)] [] :=
  GC.deepen (fix_ctr (xs := xs) (x := x) rfl hx) (.deep (.pure (cloA flat_vi) .nil)) (.new (Nat.le_refl _) rfl (by rw [FF_len4]) (cloM fun _ => rfl) .nil)
end Go.Proofs.YteeifahhejangaaDoor
namespace Go.Proofs.YteeifahhejangaaDoor
open Go Sim
def rTs (Ts : List (List Fp)) (c : Nat) : List (List Fp) := Ts.map fun t => fixT t (fp c)
def rV (Ts : List (List Fp)) (c : Nat) : Fp := smN (prT (rTs Ts c)) ((Ts.getD 0 []).length / 2)
def pad (p : List Fp) (n : Nat) : List Fp := p ++ List.replicate (n - p.length) 0
def roT (Ts : List (List Fp)) : List Fp := if chC Ts = 0 ∧ ¬ chV Ts = 0 then pad (thr ((List.range (Ts.length + 1)).map (rV Ts))) (Ts.length + 1) else []
def roC (Ts : List (List Fp)) : Int := if chC Ts = 0 then (if chV Ts = 0 then 13 else 0) else chC Ts
theorem rTs_len (Ts : List (List Fp)) (c : Nat) : (rTs Ts c).length = Ts.length := List.length_map ..
theorem pad_len {p : List Fp} {n : Nat} (h : p.length ≤ n) : (pad p n).length = n := by simp [pad]; omega
theorem pad_FF {p : List Fp} {n : Nat} (h : p.length ≤ n) : setL ((((List.replicate n (0 : Fp)).map fe).flatten).map (vi .u64)) 0 (((p.map fe).flatten).map (vi .u64)) = (((pad p n).map fe).flatten).map (vi .u64) := by
  have e : List.replicate n (0 : Fp) = List.replicate p.length 0 ++ List.replicate (n - p.length) 0 := by
    rw [List.replicate_append_replicate]; congr 1; omega
  rw [e, pad, List.map_append, List.flatten_append, List.map_append, List.map_append, List.flatten_append, List.map_append, setL_head]
  rw [FF_len4, FF_len4, List.length_replicate]
def rp (Ts : List (List Fp)) (c j : Nat) : List (List Fp) := (List.range Ts.length).map fun i => if i < j then fixT (Ts.getD i []) (fp c) else []
theorem rp_len (Ts : List (List Fp)) (c j : Nat) : (rp Ts c j).length = Ts.length := by simp [rp]
theorem rp_zero {Ts : List (List Fp)} {c k : Nat} {v : Value} (h : ((rp Ts c 0).map dt)[k]? = some v) : v = dt [] := by
  have hk := (List.getElem?_eq_some_iff.1 h).1
  simp only [List.length_map, rp_len] at hk
  rw [rp, List.getElem?_map, List.getElem?_map, List.getElem?_range hk] at h
  simpa using h.symm
theorem rp_set {Ts : List (List Fp)} {c j : Nat} (_hj : j < Ts.length) : (rp Ts c j).set j (fixT (Ts.getD j []) (fp c)) = rp Ts c (j + 1) := by
  refine List.ext_getElem (by simp [rp]) fun i h1 h2 => ?_
  simp only [rp, List.getElem_set, List.getElem_map, List.getElem_range]
  by_cases h : j = i
  · subst h; rw [if_pos rfl, if_pos (Nat.lt_succ_self j)]
  · rw [if_neg h]
    by_cases hj : i < j
    · rw [if_pos hj, if_pos (by omega)]
    · rw [if_neg hj, if_neg (by omega)]
theorem rp_all (Ts : List (List Fp)) (c : Nat) : rp Ts c Ts.length = rTs Ts c := by
  refine List.ext_getElem (by simp [rp, rTs]) fun i h1 h2 => ?_
  rw [rp_len] at h1
  simp only [rp, rTs, List.getElem_map, List.getElem_range, if_pos h1, List.getD_eq_getElem?_getD, List.getElem?_eq_getElem h1, Option.getD_some]
theorem ch_fix {Ts : List (List Fp)} (hc : chC Ts = 0) (hv : ¬ chV Ts = 0) : ∀ t ∈ Ts, t.length = (Ts.getD 0 []).length ∧ isV t.length = true ∧ ¬ vN t.length = 0 := by
  have e : chV Ts = vN (Ts.getD 0 []).length := if_pos hc
  rw [e] at hv
  have h1 := ch_zero hc
  have h2 : isV (Ts.getD 0 []).length = true := by
    cases h : isV (Ts.getD 0 []).length with
    | true => rfl
    | false => exact absurd (vN_no h) hv
  intro t ht
  have := h1.2 t ht
  exact ⟨this, by rw [this]; exact h2, by rw [this]; exact hv⟩
theorem rTs_m {Ts : List (List Fp)} {c : Nat} (hc : chC Ts = 0) (hv : ¬ chV Ts = 0) : ∀ t ∈ rTs Ts c, t.length = (Ts.getD 0 []).length / 2 := by
  intro t ht
  obtain ⟨s, hs, rfl⟩ := List.mem_map.1 ht
  obtain ⟨h1, h2, h3⟩ := ch_fix hc hv s hs
  rw [fix_L h2 h3, fixL_len, h1]
theorem thr_le3 {vs : List Fp} {n : Nat} (h : vs.length = n) : (thr vs).length ≤ n := by
  rw [thr]
  exact Nat.le_trans (tr_le _) (h ▸ nwL_len2 _ _ _)
where
  tr_le (p : List Fp) : (Po.tr p).length ≤ p.length := by rw [Po.tr_len]; exact Po.dg_le p
theorem round_ctr {Ts : List (List Fp)} {k : Nat} (hk : Ts.length = k) (hk6 : k < 1000) (hs : ∀ t ∈ Ts, t.length < 1000000) : GC Tryd.prog 32 [.slice (some ⟨0, 0, none⟩) k 0] [⟨Ts.map (dt), false, 1⟩] [.slice (some ⟨1, 0, none⟩) (roT Ts).length 0, .int .i64 (roC Ts)] [⟨Ts.map (dt), false, 1⟩, ⟨(((roT Ts).map fe).flatten).map (vi .u64), true, 4⟩] := by
  refine GC.intro Tryd.func32 rfl (by show 1 ≤ 64; decide) (by first | exact Nat.le_refl _ | decide | simp) ?_
  subst hk
  refine AW.ghost 77000 4 rfl ?_
  refine AW.seqR ?_
  refine AWo.pure (PureOp.assign rfl) rfl rfl ?_
  refine AWo.pure (PureOp.assign rfl) rfl rfl ?_
  refine AWo.nil trivial ?_
  refine AW.seqR ?_
  refine AWo.pure (PureOp.move rfl) rfl rfl ?_
  refine AWo.callX (check_ctr (Ts := Ts) (k := Ts.length) rfl (by omega) hs) bd55 [(0, 0)] [] rfl (.cons rfl .nil) rfl (.cons rfl rfl .nil) (.clo rfl (cloM fun _ => rfl) (by intro h; first | exact h | rfl) .nil) rfl (.keep rfl .nil) frN (by decide) (.cons rfl rfl (.cons rfl rfl .nil)) rfl rfl rfl rfl ?_
  refine AWo.pure (PureOp.move rfl) rfl rfl ?_
  refine AWo.pure (PureOp.extract rfl rfl) rfl rfl ?_
  refine AWo.pure (PureOp.extract rfl rfl) rfl rfl ?_
  refine AWo.pure (PureOp.assign rfl) rfl rfl ?_
  refine AWo.pure (PureOp.assign rfl) rfl rfl ?_
  refine AWo.nil trivial ?_
  refine AW.seq ?_
  refine AW.block ?_
  refine AW.seqR ?_
  refine AWo.pure (PureOp.move rfl) rfl rfl ?_
  first | refine AWo.pure (PureOp.neN (b := 0) rfl rfl) rfl rfl ?_ | refine AWo.pure (PureOp.bin rfl rfl rfl) rfl rfl ?_
  refine AWo.pure (PureOp.assign rfl) rfl rfl ?_
  refine AWo.nil trivial ?_
  refine AW.cond rfl (fun hb0 => ?_) (fun hb0 => ?_)
  ·
    have hc : ¬ chC Ts = 0 := by simpa using hb0
    refine AW.seqR ?_
    refine AWo.pure (PureOp.move rfl) rfl rfl ?_
    refine AWo.pure (PureOp.assign rfl) rfl rfl ?_
    refine AWo.pure (PureOp.assign rfl) rfl rfl ?_
    refine AWo.nil trivial ?_
    refine AW.ret ?_
    refine inBlockA_ret ?_
    refine thenA_ret ?_
    rw [show roT Ts = [] from if_neg fun h => hc h.1, show roC Ts = chC Ts from if_neg hc]
    refine RetQ.gc [_, _] [77000] [.tmp 2, .tmp 3] (.inl rfl) rfl (.tmp rfl (.tmp rfl .nil)) rfl (.nilS (.cons rfl rfl .nil)) (OutL.clo rfl (cloM fun _ => rfl) (by intro h; exact h.elim id fun h => absurd h.1 (by simp)) (OutL.flat rfl (flatM flat_vi) (fun _ => rfl) trivial)) (by decide) rfl
  ·
    have hc : chC Ts = 0 := by simpa using hb0
    obtain ⟨hq0, hqm⟩ := ch_zero hc
    refine AW.seqR ?_
    refine AWo.pure (PureOp.move rfl) rfl rfl ?_
    first | refine AWo.pure (PureOp.eqN (b := 0) rfl rfl) rfl rfl ?_ | refine AWo.pure (PureOp.bin rfl rfl rfl) rfl rfl ?_
    refine AWo.pure (PureOp.assign rfl) rfl rfl ?_
    refine AWo.nil trivial ?_
    refine AW.cond rfl (fun hb1 => ?_) (fun hb1 => ?_)
    ·
      have hv : chV Ts = 0 := by simpa using hb1
      refine AW.seqR ?_
      refine AWo.pure (PureOp.assign rfl) rfl rfl ?_
      refine AWo.pure (PureOp.assign rfl) rfl rfl ?_
      refine AWo.nil trivial ?_
      refine AW.ret ?_
      refine inBlockA_ret ?_
      refine thenA_ret ?_
      rw [show roT Ts = [] from if_neg fun h => h.2 hv, show roC Ts = 13 by rw [roC, if_pos hc, if_pos hv]]
      refine RetQ.gc [_, _] [77000] [.tmp 2, .tmp 3] (.inl rfl) rfl (.tmp rfl (.tmp rfl .nil)) rfl (.nilS (.pure rfl .nil)) (OutL.clo rfl (cloM fun _ => rfl) (by intro h; exact h.elim id fun h => absurd h.1 (by simp)) (OutL.flat rfl (flatM flat_vi) (fun _ => rfl) trivial)) (by decide) rfl
    ·
      have hv : ¬ chV Ts = 0 := by simpa using hb1
      refine AW.skip ?_
      refine inBlockA_normal ?_
      refine thenA_normal ?_
      refine AW.seqR ?_
      refine AWo.pure (PureOp.assign rfl) rfl rfl ?_
      refine AWo.nil trivial ?_
      refine AW.seq ?_
      refine AW.seqR ?_
      refine AWo.pure (PureOp.move rfl) rfl rfl ?_
      first | refine AWo.pure (PureOp.lenS tbok rfl rfl) rfl rfl ?_ | refine AWo.pure (PureOp.lenD tbok rfl rfl) rfl rfl ?_
      first | refine AWo.pure (PureOp.addI (b := 1) rfl rfl (by first | decide | omega)) rfl rfl ?_ | refine AWo.pure (PureOp.bin rfl rfl rfl) rfl rfl ?_
      refine AWo.pure (PureOp.move rfl) rfl rfl ?_
      refine AWo.nil trivial ?_
      refine AW.block ?_
      refine AW.loopw (fun mm σ => ∃ c, (c ≤ (Ts.length + 1)) ∧ mm = (Ts.length + 1) - c ∧ σ = ⟨(upd (upd (upd (upd emp 0 (.slice (some ⟨0, 0, none⟩) Ts.length 0)) 6 (.slice (some ⟨77000, 0, none⟩) c 0)) 26 (vi .i64 (Ts.length + 1))) 27 (vi .i64 c)), (upd (upd emp 0 ⟨Ts.map (dt), false, 1⟩) 77000 ⟨((((List.range c).map (rV Ts)).map fe).flatten).map (vi .u64), true, 4⟩)⟩) (fm := []) ?_ ⟨0, Nat.zero_le _, rfl, rfl⟩ ?_
      ·
        refine Wk.of [0, 77000] ?_ ?_ ?_ (by decide) rfl
        ·
          refine WkE.upd rfl (by first | exact VR.flat _ rfl | exact VR.eqv (vp_succ _) rfl | exact VR.eqv (vp_succ _).symm rfl | exact VR.eqv (by first | rfl | (congr 1; omega) | (simp; done) | (simp; omega)) rfl) ?_
          refine WkE.upd rfl (by first | exact VR.flat _ rfl | exact VR.eqv (vp_succ _) rfl | exact VR.eqv (vp_succ _).symm rfl | exact VR.eqv (by first | rfl | (congr 1; omega) | (simp; done) | (simp; omega)) rfl) ?_
          refine WkE.upd rfl (by first | exact .nilS _ (by simp) | exact .slice (77000) 0 _ 0 ⟨_, rfl⟩ (by simp) (by simp)) ?_
          refine WkE.upd rfl (.slice (0) 0 _ 0 ⟨_, rfl⟩ (by simp) (by simp)) ?_
          exact WkE.emp
        ·
          refine WkM.flat rfl (flatM flat_vi) (fun h => h) ?_
          refine WkM.cloM rfl rfl (fun _ => rfl) (fun h => h) ?_
          exact WkM.emp
        ·
          repeat (refine dom_upd_mem (by decide) ?_)
          exact dom_emp
      ·
        rintro mm σ ⟨c, hinv, rfl, rfl⟩
        refine AW.seqR ?_
        first | refine AWo.pure (PureOp.ltN rfl rfl) rfl rfl ?_ | refine AWo.pure (PureOp.bin rfl rfl rfl) rfl rfl ?_
        refine AWo.nil trivial ?_
        refine AW.seq ?_
        refine AW.cond rfl (fun hb2 => ?_) (fun hb2 => ?_)
        ·
          have hcl : c < (Ts.length + 1) := of_decide_eq_true hb2
          refine AW.skip ?_
          refine thenA_normal ?_
          refine AW.seq ?_
          refine AW.block ?_
          refine AW.seqR ?_
          refine AWo.pure (PureOp.move rfl) rfl rfl ?_
          refine AWo.pure (PureOp.assign rfl) rfl rfl ?_
          refine AWo.nil trivial ?_
          refine AW.seqR ?_
          refine AWo.pure (PureOp.move rfl) rfl rfl ?_
          first | refine AWo.pure (PureOp.lenS tbok rfl rfl) rfl rfl ?_ | refine AWo.pure (PureOp.lenD tbok rfl rfl) rfl rfl ?_
          refine AWo.makeSliceC tbok 33000 (List.replicate Ts.length (.slice none 0 0)) rfl rfl (Nat.le_refl _) rfl rfl (by decide) rfl rfl rfl rfl (by omega) (by omega) (by rw [Nat.mul_one]) rfl rfl rfl ?_
          refine AWo.pure (PureOp.assign rfl) rfl rfl ?_
          refine AWo.nil trivial ?_
          refine AW.seq ?_
          refine AW.recell 33000 ((rp Ts c 0).map dt) rfl (by simp [rp]) (fun k v hv => ⟨.slice none 0 0, by have := (List.getElem?_eq_some_iff.1 hv).1; rw [List.getElem?_replicate, if_pos (by simpa [rp] using this)], fun D ρ u hu => ?_⟩) ?_
          · obtain rfl : v = dt [] := rp_zero hv
            rw [flat_inv hu rfl]
            exact .deepN 4 (by simp)
          refine AW.seqR ?_
          refine AWo.pure (PureOp.move rfl) rfl rfl ?_
          first | refine AWo.pure (PureOp.lenS tbok rfl rfl) rfl rfl ?_ | refine AWo.pure (PureOp.lenD tbok rfl rfl) rfl rfl ?_
          refine AWo.pure (PureOp.move rfl) rfl rfl ?_
          refine AWo.nil trivial ?_
          refine AW.block ?_
          refine AW.loopw (fun mm σ => ∃ j, (j ≤ Ts.length) ∧ mm = Ts.length - j ∧ σ = ⟨(upd (upd (upd (upd (upd (upd (upd (upd (upd emp 0 (.slice (some ⟨0, 0, none⟩) Ts.length 0)) 6 (.slice (some ⟨77000, 0, none⟩) c 0)) 7 (vi .i64 c)) 8 (.slice (some ⟨33000, 0, none⟩) Ts.length 0)) 26 (vi .i64 (Ts.length + 1))) 27 (vi .i64 c)) 33 (.slice (some ⟨0, 0, none⟩) Ts.length 0)) 34 (vi .i64 Ts.length)) 35 (vi .i64 j)), (upd (upd (upd emp 0 ⟨Ts.map (dt), false, 1⟩) 77000 ⟨((((List.range c).map (rV Ts)).map fe).flatten).map (vi .u64), true, 4⟩) 33000 ⟨(rp Ts c j).map dt, true, 1⟩)⟩) (fm := []) ?_ ⟨0, Nat.zero_le _, rfl, rfl⟩ ?_
          ·
            refine Wk.of [0, 77000, 33000] ?_ ?_ ?_ (by decide) rfl
            ·
              refine WkE.upd rfl (by first | exact VR.flat _ rfl | exact VR.eqv (vp_succ _) rfl | exact VR.eqv (vp_succ _).symm rfl | exact VR.eqv (by first | rfl | (congr 1; omega) | (simp; done) | (simp; omega)) rfl) ?_
              refine WkE.upd rfl (by first | exact VR.flat _ rfl | exact VR.eqv (vp_succ _) rfl | exact VR.eqv (vp_succ _).symm rfl | exact VR.eqv (by first | rfl | (congr 1; omega) | (simp; done) | (simp; omega)) rfl) ?_
              refine WkE.upd rfl (.slice (0) 0 _ 0 ⟨_, rfl⟩ (by simp) (by simp)) ?_
              refine WkE.upd rfl (by first | exact VR.flat _ rfl | exact VR.eqv (vp_succ _) rfl | exact VR.eqv (vp_succ _).symm rfl | exact VR.eqv (by first | rfl | (congr 1; omega) | (simp; done) | (simp; omega)) rfl) ?_
              refine WkE.upd rfl (by first | exact VR.flat _ rfl | exact VR.eqv (vp_succ _) rfl | exact VR.eqv (vp_succ _).symm rfl | exact VR.eqv (by first | rfl | (congr 1; omega) | (simp; done) | (simp; omega)) rfl) ?_
              refine WkE.upd rfl (.slice (33000) 0 _ 0 ⟨_, rfl⟩ (by simp) (by simp)) ?_
              refine WkE.upd rfl (by first | exact VR.flat _ rfl | exact VR.eqv (vp_succ _) rfl | exact VR.eqv (vp_succ _).symm rfl | exact VR.eqv (by first | rfl | (congr 1; omega) | (simp; done) | (simp; omega)) rfl) ?_
              refine WkE.upd rfl (by first | exact .nilS _ (by simp) | exact .slice (77000) 0 _ 0 ⟨_, rfl⟩ (by simp) (by simp)) ?_
              refine WkE.upd rfl (.slice (0) 0 _ 0 ⟨_, rfl⟩ (by simp) (by simp)) ?_
              exact WkE.emp
            ·
              refine WkM.cloM rfl rfl (fun _ => rfl) (fun h => h) ?_
              refine WkM.flat rfl (flatM flat_vi) (fun h => h) ?_
              refine WkM.cloM rfl rfl (fun _ => rfl) (fun h => h) ?_
              exact WkM.emp
            ·
              repeat (refine dom_upd_mem (by decide) ?_)
              exact dom_emp
          ·
            rintro mm σ ⟨j, hinv, rfl, rfl⟩
            refine AW.seqR ?_
            first | refine AWo.pure (PureOp.ltN rfl rfl) rfl rfl ?_ | refine AWo.pure (PureOp.bin rfl rfl rfl) rfl rfl ?_
            refine AWo.nil trivial ?_
            refine AW.seq ?_
            refine AW.cond rfl (fun hb3 => ?_) (fun hb3 => ?_)
            ·
              have hj : j < Ts.length := of_decide_eq_true hb3
              refine AW.skip ?_
              refine thenA_normal ?_
              refine AW.seq ?_
              refine AW.block ?_
              refine AW.seqR ?_
              refine AWo.pure (PureOp.move rfl) rfl rfl ?_
              first | refine AWo.pure (PureOp.idx1 tbok rfl rfl rfl rfl (by first | decide | omega)) rfl rfl ?_ | refine AWo.pure (PureOp.idx tbok rfl rfl rfl rfl (by first | decide | omega)) rfl rfl ?_
              refine AWo.loadM tbok (f := dt) [] rfl rfl rfl (by omega) rfl rfl ?_
              refine AWo.pure (PureOp.assign rfl) rfl rfl ?_
              refine AWo.pure (PureOp.assign rfl) rfl rfl ?_
              refine AWo.nil trivial ?_
              refine AW.region ?_
              refine AWo.pure (PureOp.move rfl) rfl rfl ?_
              refine AWo.pure (PureOp.move rfl) rfl rfl ?_
              refine AWo.pure (PureOp.move rfl) rfl rfl ?_
              refine AWo.pure (PureOp.move rfl) rfl rfl ?_
              first | refine AWo.pure (PureOp.cvtN tbok 18446744073709551616 rfl rfl rfl (by decide) (by decide) (by first | decide | omega)) rfl rfl ?_ | refine AWo.pure (PureOp.cvtU tbok 18446744073709551616 rfl rfl rfl rfl rfl) rfl rfl ?_ | refine AWo.pure (PureOp.cvt tbok rfl rfl rfl) rfl rfl ?_
              refine AWo.callX (fromuF_ctr (v := c) (by omega)) bd22 [] [] rfl (.cons rfl .nil) rfl (.cons rfl rfl .nil) .nil rfl .nil frN (by decide) (.pure (by first | rfl | exact pure_aggM flat_vi | exact pure_aggM flat_bool) .nil) rfl rfl rfl rfl ?_
              refine AWo.callX (fix_d (xs := Ts.getD j []) (x := fp c) (hs _ (getT_mem hj))) bd17 [] [] rfl (.cons rfl (.cons rfl .nil)) rfl (.cons rfl rfl (.pure (by first | rfl | exact pure_aggM flat_vi | exact pure_aggM flat_bool) .nil)) .nil rfl .nil frN (by decide) (.cons rfl rfl .nil) rfl rfl rfl rfl ?_
              first | refine AWo.pure (PureOp.idx1 tbok rfl rfl rfl rfl (by first | decide | omega)) rfl rfl ?_ | refine AWo.pure (PureOp.idx tbok rfl rfl rfl rfl (by first | decide | omega)) rfl rfl ?_
              refine AWo.storeM (f := dt) tbok rfl rfl rfl rfl (by rw [rp_len]; omega) rfl rfl ?_
              rw [rp_set hj]
              refine AWo.nil trivial ?_
              refine inBlockA_normal ?_
              refine thenA_normal ?_
              refine AW.region ?_
              first | refine AWo.pure (PureOp.addI (b := 1) rfl rfl (by first | decide | omega)) rfl rfl ?_ | refine AWo.pure (PureOp.bin rfl rfl rfl) rfl rfl ?_
              refine AWo.pure (PureOp.move rfl) rfl rfl ?_
              refine AWo.nil trivial ?_
              refine thenA_normal ?_
              refine ⟨Ts.length - (j + 1), [], _, by omega, ?_, j + 1, by omega, rfl, rfl⟩
              refine Wk.of [0, 77000, 33000] ?_ ?_ ?_ (by decide) rfl
              ·
                refine WkE.upd rfl (by first | exact VR.flat _ rfl | exact VR.eqv (vp_succ _) rfl | exact VR.eqv (vp_succ _).symm rfl | exact VR.eqv (by first | rfl | (congr 1; omega) | (simp; done) | (simp; omega)) rfl) ?_
                refine WkE.upd rfl (by first | exact VR.flat _ rfl | exact VR.eqv (vp_succ _) rfl | exact VR.eqv (vp_succ _).symm rfl | exact VR.eqv (by first | rfl | (congr 1; omega) | (simp; done) | (simp; omega)) rfl) ?_
                refine WkE.upd rfl (.slice (0) 0 _ 0 ⟨_, rfl⟩ (by simp) (by simp)) ?_
                refine WkE.upd rfl (by first | exact VR.flat _ rfl | exact VR.eqv (vp_succ _) rfl | exact VR.eqv (vp_succ _).symm rfl | exact VR.eqv (by first | rfl | (congr 1; omega) | (simp; done) | (simp; omega)) rfl) ?_
                refine WkE.upd rfl (by first | exact VR.flat _ rfl | exact VR.eqv (vp_succ _) rfl | exact VR.eqv (vp_succ _).symm rfl | exact VR.eqv (by first | rfl | (congr 1; omega) | (simp; done) | (simp; omega)) rfl) ?_
                refine WkE.upd rfl (.slice (33000) 0 _ 0 ⟨_, rfl⟩ (by simp) (by simp)) ?_
                refine WkE.upd rfl (by first | exact VR.flat _ rfl | exact VR.eqv (vp_succ _) rfl | exact VR.eqv (vp_succ _).symm rfl | exact VR.eqv (by first | rfl | (congr 1; omega) | (simp; done) | (simp; omega)) rfl) ?_
                refine WkE.upd rfl (by first | exact .nilS _ (by simp) | exact .slice (77000) 0 _ 0 ⟨_, rfl⟩ (by simp) (by simp)) ?_
                refine WkE.upd rfl (.slice (0) 0 _ 0 ⟨_, rfl⟩ (by simp) (by simp)) ?_
                exact WkE.emp
              ·
                refine WkM.cloM rfl rfl (fun _ => rfl) (fun h => h) ?_
                refine WkM.flat rfl (flatM flat_vi) (fun h => h) ?_
                refine WkM.cloM rfl rfl (fun _ => rfl) (fun h => h) ?_
                exact WkM.emp
              ·
                repeat (refine dom_upd_mem (by decide) ?_)
                exact dom_emp
            ·
              obtain rfl : j = Ts.length := by have := of_decide_eq_false hb3; omega
              rw [rp_all]
              refine AW.exit ?_
              refine thenA_exit ?_
              refine thenA_exit ?_
              refine inBlockA_hit ?_
              refine thenA_normal ?_
              refine AW.region ?_
              refine AWo.pure (PureOp.move rfl) rfl rfl ?_
              refine AWo.pure (PureOp.move rfl) rfl rfl ?_
              refine AWo.callX (v := .agg ((fe (rV Ts c)).map (vi .u64)).toArray) (total_ctr (Ts := rTs Ts c) (k := Ts.length) (m := (Ts.getD 0 []).length / 2) (rTs_len _ _) hq0 (rTs_m hc hv) (by omega) (by have := hs _ (getT_mem hq0); omega)) bd56 [(33000, 0)] [] rfl (.cons rfl .nil) rfl (.cons rfl rfl .nil) (.clo rfl (cloM fun _ => rfl) (by intro h; first | exact h | rfl) .nil) rfl (.keep rfl .nil) frN (by decide) (.pure (by first | rfl | exact pure_aggM flat_vi | exact pure_aggM flat_bool) .nil) rfl rfl rfl rfl ?_
              refine AWo.buildSlice tbok 53000 [(0, .agg ((fe (rV Ts c)).map (vi .u64)).toArray)] (out := [fe (rV Ts c)].flatten.map (vi .u64)) rfl rfl (by decide) rfl rfl rfl (by decide) rfl (fillB1 (fe_len _)) rfl rfl rfl ?_
              refine AWo.append tbok (all := ((((List.range (c + 1)).map (rV Ts)).map fe).flatten).map (vi .u64)) (news := [fe (rV Ts c)].flatten.map (vi .u64)) 54000 rfl rfl rfl rfl (by rw [FF_len4]; simp) (by show List.take _ (List.drop 0 _) = _; rw [List.drop_zero]; exact List.take_of_length_le (by simp)) (by simp; done) (by decide) rfl rfl rfl (by first | decide | exact Nat.one_ne_zero) rfl rfl rfl (by first | decide | omega) (by first | decide | omega) (oneM (fun _ => rfl) _) (by rw [List.range_succ, List.map_append, List.map_append, List.flatten_append, List.map_append]; rfl) rfl rfl ?_
              refine AWo.pure (PureOp.assign rfl) rfl rfl ?_
              refine AWo.nil trivial ?_
              refine inBlockA_normal ?_
              refine thenA_normal ?_
              refine AW.region ?_
              first | refine AWo.pure (PureOp.addI (b := 1) rfl rfl (by first | decide | omega)) rfl rfl ?_ | refine AWo.pure (PureOp.bin rfl rfl rfl) rfl rfl ?_
              refine AWo.pure (PureOp.move rfl) rfl rfl ?_
              refine AWo.nil trivial ?_
              refine thenA_normal ?_
              refine ⟨(Ts.length + 1) - (c + 1), [(77000, 54000)], _, by omega, ?_, c + 1, by omega, rfl, rfl⟩
              refine Wk.of [0, 77000] ?_ ?_ ?_ (by decide) rfl
              ·
                refine WkE.upd rfl (by first | exact VR.flat _ rfl | exact VR.eqv (vp_succ _) rfl | exact VR.eqv (vp_succ _).symm rfl | exact VR.eqv (by first | rfl | (congr 1; omega) | (simp; done) | (simp; omega)) rfl) ?_
                refine WkE.upd rfl (by first | exact VR.flat _ rfl | exact VR.eqv (vp_succ _) rfl | exact VR.eqv (vp_succ _).symm rfl | exact VR.eqv (by first | rfl | (congr 1; omega) | (simp; done) | (simp; omega)) rfl) ?_
                refine WkE.upd rfl (by first | exact .nilS _ (by simp) | exact .slice (77000) 0 _ 0 ⟨_, rfl⟩ (by simp) (by simp)) ?_
                refine WkE.upd rfl (.slice (0) 0 _ 0 ⟨_, rfl⟩ (by simp) (by simp)) ?_
                exact WkE.emp
              ·
                refine WkM.flat rfl (flatM flat_vi) (fun h => h) ?_
                refine WkM.cloM rfl rfl (fun _ => rfl) (fun h => h) ?_
                exact WkM.emp
              ·
                repeat (refine dom_upd_mem (by decide) ?_)
                exact dom_emp
        ·
          obtain rfl : c = (Ts.length + 1) := by have := of_decide_eq_false hb2; omega
          refine AW.exit ?_
          refine thenA_exit ?_
          refine thenA_exit ?_
          refine inBlockA_hit ?_
          refine thenA_normal ?_
          refine AW.seqR ?_
          refine AWo.pure (PureOp.move rfl) rfl rfl ?_
          first | refine AWo.pure (PureOp.lenS tbok rfl rfl) rfl rfl ?_ | refine AWo.pure (PureOp.lenD tbok rfl rfl) rfl rfl ?_
          first | refine AWo.pure (PureOp.addI (b := 1) rfl rfl (by first | decide | omega)) rfl rfl ?_ | refine AWo.pure (PureOp.bin rfl rfl rfl) rfl rfl ?_
          refine AWo.makeSliceC tbok 59000 ((((List.replicate (Ts.length + 1) (0 : Fp)).map fe).flatten).map (vi .u64)) rfl rfl (Nat.le_refl _) rfl rfl (by decide) rfl rfl rfl rfl (by omega) (by omega) (zeroFF _).symm rfl rfl rfl ?_
          refine AWo.pure (PureOp.assign rfl) rfl rfl ?_
          refine AWo.nil trivial ?_
          refine AW.seqR ?_
          refine AWo.pure (PureOp.move rfl) rfl rfl ?_
          refine AWo.pure (PureOp.move rfl) rfl rfl ?_
          refine AWo.callX (thrp_ctr (vs := ((List.range (Ts.length + 1)).map (rV Ts))) (n := (Ts.length + 1)) (by simp) (by omega)) bd57 [(77000, 0)] [62000] rfl (.cons rfl .nil) rfl (.cons rfl rfl .nil) (.flat rfl (flatM flat_vi) (by intro h; first | exact h | rfl) .nil) rfl (.keep rfl (.new (flat_map_ren (flatM flat_vi)) (OkL.flat (flatM flat_vi)) .nil)) (frC rfl frN) (by decide) (.cons rfl rfl .nil) rfl rfl rfl rfl ?_
          have htl : (thr ((List.range (Ts.length + 1)).map (rV Ts))).length ≤ (Ts.length + 1) := thr_le3 (by simp)
          refine AWo.copy tbok ((((pad (thr ((List.range (Ts.length + 1)).map (rV Ts))) (Ts.length + 1)).map fe).flatten).map (vi .u64)) rfl rfl rfl rfl htl (by rw [FF_len4, List.length_replicate]; omega) (by show List.take _ (List.drop 0 _) = _; rw [List.drop_zero]; exact List.take_of_length_le (by rw [FF_len4]; exact Nat.le_refl _)) (by show 0 + _ * 4 ≤ _; rw [FF_len4]; omega) rfl rfl (oneM (fun _ => rfl) _) (pad_FF htl) rfl rfl ?_
          refine AWo.nil trivial ?_
          refine AW.seqR ?_
          refine AWo.pure (PureOp.move rfl) rfl rfl ?_
          refine AWo.pure (PureOp.assign rfl) rfl rfl ?_
          refine AWo.pure (PureOp.assign rfl) rfl rfl ?_
          refine AWo.nil trivial ?_
          refine AW.ret ?_
          rw [show roT Ts = pad (thr ((List.range (Ts.length + 1)).map (rV Ts))) (Ts.length + 1) from if_pos ⟨hc, hv⟩, show roC Ts = 0 by rw [roC, if_pos hc, if_neg hv], pad_len htl]
          refine RetQ.gc [_, _] [59000] [.tmp 2, .tmp 3] (.inl rfl) rfl (.tmp rfl (.tmp rfl .nil)) rfl (.cons rfl rfl (.pure rfl .nil)) (OutL.clo rfl (cloM fun _ => rfl) (by intro h; exact h.elim id fun h => absurd h.1 (by simp)) (OutL.flat rfl (flatM flat_vi) (fun _ => rfl) trivial)) (by decide) rfl
end Go.Proofs.YteeifahhejangaaDoor
namespace Go.Proofs.YteeifahhejangaaDoor
open Go Sim
def fxs (Ts : List (List Fp)) (x : Fp) : List (List Fp) := Ts.map fun t => fixT t x
theorem fxs_len (Ts : List (List Fp)) (x : Fp) : (fxs Ts x).length = Ts.length := List.length_map ..
theorem fxs_at {Ts : List (List Fp)} {x : Fp} {j : Nat} (hj : j < Ts.length) : (fxs Ts x).getD j [] = fixT (Ts.getD j []) x := by
  rw [fxs, List.getD_eq_getElem?_getD, List.getElem?_map, List.getD_eq_getElem?_getD, List.getElem?_eq_getElem hj]; rfl
def mlin (a d : Fp) (q : List Fp) : List Fp := Po.pa (Po.ps a q) (0 :: Po.ps d q)
theorem mlin_len (a d : Fp) (q : List Fp) : (mlin a d q).length = q.length + 1 := by
  rw [mlin, Po.pa_len, List.length_cons, Po.ps, Po.ps, List.length_map, List.length_map]; omega
theorem mlin_ring (e a d x : Fp) : e * a + (e * d * x + 0) = e * (a + x * d) := by grind
theorem ev_mlin (a d x : Fp) (q : List Fp) : Po.ev x (mlin a d q) = Po.ev x q * (a + x * d) := by
  rw [mlin, Po.ev_pa, Po.ev_ps, show Po.ev x (0 :: Po.ps d q) = Po.ev x (Po.ps d q) * x + 0 from rfl, Po.ev_ps, mlin_ring]
def qN (Ts : List (List Fp)) (h i : Nat) : Nat → List Fp
  | 0 => [fp 1]
  | j + 1 => mlin ((Ts.getD j []).getD i 0) ((Ts.getD j []).getD (h + i) 0 - (Ts.getD j []).getD i 0) (qN Ts h i j)
def sQ (Ts : List (List Fp)) (h : Nat) : Nat → List Fp
  | 0 => []
  | n + 1 => Po.pa (sQ Ts h n) (qN Ts h n Ts.length)
theorem qN_len (Ts : List (List Fp)) (h i : Nat) : ∀ j, (qN Ts h i j).length = j + 1
  | 0 => rfl
  | j + 1 => by rw [qN, mlin_len, qN_len Ts h i j]
theorem sQ_len (Ts : List (List Fp)) (h : Nat) : ∀ n, (sQ Ts h n).length ≤ Ts.length + 1
  | 0 => Nat.zero_le _
  | n + 1 => by
    rw [sQ, Po.pa_len, qN_len]
    have := sQ_len Ts h n
    omega
theorem one_ev (x : Fp) : (0 : Fp) * x + fp 1 = fp 1 := by grind
section
variable {Ts : List (List Fp)} (hc : chC Ts = 0) (hv : ¬ chV Ts = 0)
include hc hv
theorem fx_at {x : Fp} {i j : Nat} (hj : j < Ts.length) (hi : i < (Ts.getD 0 []).length / 2) :
    ((fxs Ts x).getD j []).getD i 0 = (Ts.getD j []).getD i 0 + x * ((Ts.getD j []).getD ((Ts.getD 0 []).length / 2 + i) 0 - (Ts.getD j []).getD i 0) := by
  obtain ⟨h1, h2, h3⟩ := ch_fix hc hv _ (getT_mem hj)
  rw [fxs_at hj, fix_L h2 h3, fixL_at (by rw [h1]; exact hi), h1]
theorem ev_qN (x : Fp) {i : Nat} (hi : i < (Ts.getD 0 []).length / 2) : ∀ j, j ≤ Ts.length → prN (fxs Ts x) i j = Po.ev x (qN Ts ((Ts.getD 0 []).length / 2) i j)
  | 0, _ => (one_ev x).symm
  | j + 1, h => by rw [prN, ev_qN x hi j (by omega), fx_at hc hv (by omega) hi, qN, ev_mlin]
theorem ev_sQ (x : Fp) : ∀ n, n ≤ (Ts.getD 0 []).length / 2 → smN (prT (fxs Ts x)) n = Po.ev x (sQ Ts ((Ts.getD 0 []).length / 2) n)
  | 0, _ => rfl
  | n + 1, h => by rw [smN, ev_sQ x n (by omega), sQ, Po.ev_pa, prT, fxs_len, ev_qN hc hv x (by omega) _ (Nat.le_refl _)]
theorem rt_eq : roT Ts = pad (thr ((List.range (Ts.length + 1)).map (rV Ts))) (Ts.length + 1) := if_pos ⟨hc, hv⟩
theorem rt_len : (roT Ts).length = Ts.length + 1 := by rw [rt_eq hc hv, pad_len (thr_le3 (by simp))]
theorem rt_ev (hk : Ts.length < 1000) (x : Fp) : Po.ev x (roT Ts) = smN (prT (fxs Ts x)) ((Ts.getD 0 []).length / 2) := by
  have hpad : ∀ (p : List Fp) (n i : Nat), Po.co (pad p n) i = Po.co p i := fun p n i => by
    rw [Po.co, Po.co, pad, List.getD_eq_getElem?_getD, List.getD_eq_getElem?_getD]
    by_cases h : i < p.length
    · rw [List.getElem?_append_left h]
    · rw [List.getElem?_append_right (by omega), List.getElem?_replicate, List.getElem?_eq_none (by omega)]
      split <;> rfl
  rw [rt_eq hc hv, Po.ev_congr x (hpad _ _)]
  have hvl : ((List.range (Ts.length + 1)).map (rV Ts)).length = Ts.length + 1 := by simp
  rw [thr_uniq (q := sQ Ts ((Ts.getD 0 []).length / 2) ((Ts.getD 0 []).length / 2)) (by omega) (by rw [hvl]; exact sQ_len _ _ _) (fun m hm => ?_), Po.ev_tr, ← ev_sQ hc hv x _ (Nat.le_refl _)]
  rw [← ev_sQ hc hv _ _ (Nat.le_refl _)]
  rw [hvl] at hm
  have e : ((List.range (Ts.length + 1)).map (rV Ts)).getD m 0 = rV Ts m := by
    rw [List.getD_eq_getElem?_getD, List.getElem?_map, List.getElem?_range hm]; rfl
  rw [Po.co, e]
  rfl
theorem half_m : (Ts.getD 0 []).length = (Ts.getD 0 []).length / 2 + (Ts.getD 0 []).length / 2 := by
  obtain ⟨h1, h2, h3⟩ := ch_fix hc hv _ (getT_mem (ch_zero hc).1)
  obtain ⟨k, hk, _, _⟩ := isV_half h2 h3
  rw [hk, pow_half, Nat.pow_succ]; omega
theorem pr_0 {i : Nat} (hi : i < (Ts.getD 0 []).length / 2) : ∀ j, j ≤ Ts.length → prN (fxs Ts 0) i j = prN Ts i j
  | 0, _ => rfl
  | j + 1, h => by rw [prN, prN, pr_0 hi j (by omega), fx_at hc hv (by omega) hi, half_ring0]
theorem pr_1 {i : Nat} (hi : i < (Ts.getD 0 []).length / 2) : ∀ j, j ≤ Ts.length → prN (fxs Ts (fp 1)) i j = prN Ts ((Ts.getD 0 []).length / 2 + i) j
  | 0, _ => rfl
  | j + 1, h => by rw [prN, prN, pr_1 hi j (by omega), fx_at hc hv (by omega) hi, fp_one, half_ring1]
theorem ends_tot (hk : Ts.length < 1000) : Po.co (roT Ts) 0 + fsumL (roT Ts) = toT Ts := by
  rw [← ev_at0, ← ev_at1, rt_ev hc hv hk, rt_ev hc hv hk, toT, if_pos hc, half_m hc hv, smN_add, ← half_m hc hv]
  congr 1
  · exact smN_congr fun i hi => by rw [prT, fxs_len, pr_0 hc hv hi _ (Nat.le_refl _)]; rfl
  · exact smN_congr fun i hi => by rw [prT, fxs_len, pr_1 hc hv hi _ (Nat.le_refl _)]; rfl
theorem fxs_m {x : Fp} : ∀ t ∈ fxs Ts x, t.length = (Ts.getD 0 []).length / 2 := by
  intro t ht
  obtain ⟨s, hs, rfl⟩ := List.mem_map.1 ht
  obtain ⟨h1, h2, h3⟩ := ch_fix hc hv s hs
  rw [fix_L h2 h3, fixL_len, h1]
theorem ch_left (x : Fp) : chC (fxs Ts x) = 0 := by
  have h0 := (ch_zero hc).1
  have hm := fxs_m hc hv (x := x)
  obtain ⟨h1, h2, h3⟩ := ch_fix hc hv _ (getT_mem h0)
  obtain ⟨k, hk, hk12, _⟩ := isV_half h2 h3
  rw [hk, pow_half] at hm
  have hp := pow_isV (show k ≤ 12 by omega)
  have h0' : 0 < (fxs Ts x).length := by rw [fxs_len]; exact h0
  rw [chC, if_neg (by omega), if_pos (fun t ht => by rw [hm t ht]; exact hp.1), if_pos (fun t ht => by rw [hm t ht, hm _ (getT_mem h0')])]
theorem ev_tot (hk : Ts.length < 1000) (x : Fp) : Po.ev x (roT Ts) = toT (fxs Ts x) := by
  rw [rt_ev hc hv hk, toT, if_pos (ch_left hc hv x), fxs_m hc hv _ (getT_mem (by rw [fxs_len]; exact (ch_zero hc).1))]
end
theorem ro_zero {Ts : List (List Fp)} (h : roC Ts = 0) : chC Ts = 0 ∧ ¬ chV Ts = 0 := by
  unfold roC at h
  split at h
  · rename_i hc
    refine ⟨hc, fun hv => ?_⟩
    rw [if_pos hv] at h; cases h
  · rename_i hc
    exact absurd h hc
theorem ro_no {Ts : List (List Fp)} (h : ¬ roC Ts = 0) : roT Ts = [] := if_neg fun ⟨hc, hv⟩ => h (by rw [roC, if_pos hc, if_neg hv])
end Go.Proofs.YteeifahhejangaaDoor
namespace Go.Proofs.YteeifahhejangaaDoor
open Go Sim
theorem fxs_step {Ts : List (List Fp)} {x : Fp} {i : Nat} (h : i < Ts.length) : fxs (Ts.take i) x ++ [fixT (Ts.getD i []) x] = fxs (Ts.take (i + 1)) x := by
  rw [List.take_succ_eq_append_getElem h, fxs, fxs, List.map_append, List.getD_eq_getElem?_getD, List.getElem?_eq_getElem h]; rfl
theorem claws_ctr {L3 : List (List (List Nat))} {b : List Nat} (hB3 : ∀ L ∈ L3, ∀ b ∈ L, bd 256 b) (hm3 : ∀ L ∈ L3, L.length ≤ 9223372036854775807) (hk : L3.length ≤ 9223372036854775807) (hb : bd 256 b) : GC Tryd.prog 6 [.slice (some ⟨0, 0, none⟩) L3.length 0, .slice (some ⟨1, 0, none⟩) b.length 0] [⟨L3.map (dlb), false, 1⟩, ⟨b.map (vi .u8), false, 1⟩] [.bool true] [⟨L3.map (dlb), false, 1⟩, ⟨b.map (vi .u8), false, 1⟩] := by
  refine GC.intro Tryd.func6 rfl (by show 2 ≤ 95; decide) (by first | exact Nat.le_refl _ | decide | simp) ?_
  refine AW.seqR ?_
  refine AWo.pure (PureOp.assign rfl) rfl rfl ?_
  refine AWo.nil trivial ?_
  refine AW.seq ?_
  refine AW.seqR ?_
  refine AWo.callX (speaks23_ctr) bd7 [] [] rfl .nil rfl .nil .nil rfl .nil frN (by decide) (.cons rfl rfl .nil) rfl rfl rfl rfl ?_
  refine AWo.pure (PureOp.not rfl) rfl rfl ?_
  refine AWo.pure (PureOp.move rfl) rfl rfl ?_
  refine AWo.pure (PureOp.move rfl) rfl rfl ?_
  refine AWo.callX (few3_ctr (L3 := L3) (k := L3.length) rfl hk hm3) bd30 [(0, 0)] [] rfl (.cons rfl .nil) rfl (.cons rfl rfl .nil) (.clo rfl (cloM fun _ => rfl) (by intro h; first | exact h | rfl) .nil) rfl (.keep rfl .nil) frN (by decide) (.cons rfl rfl .nil) rfl rfl rfl rfl ?_
  first | refine AWo.pureB (PureOp.not rfl) rfl rfl (fun hb0 => ?_) (fun hb0 => ?_)
  ·
    refine AWo.pure (PureOp.pickF rfl rfl) rfl rfl ?_
    refine AWo.pure (PureOp.move rfl) rfl rfl ?_
    refine AWo.skipped rfl rfl ?_
    refine AWo.skipped rfl rfl ?_
    refine AWo.skipped rfl rfl ?_
    refine AWo.pure (PureOp.pickT rfl rfl) rfl rfl ?_
    refine AWo.nil trivial ?_
    refine AW.condT rfl ?_
    refine AW.seqR ?_
    refine AWo.callX (speaks23_ctr) bd7 [] [] rfl .nil rfl .nil .nil rfl .nil frN (by decide) (.cons rfl rfl .nil) rfl rfl rfl rfl ?_
    refine AWo.pure (PureOp.assign rfl) rfl rfl ?_
    refine AWo.nil trivial ?_
    refine AW.ret ?_
    refine thenA_ret ?_
    refine RetQ.gc [_] [] [.tmp 4] (.inl rfl) rfl (.tmp rfl .nil) rfl (.cons rfl rfl .nil) (OutL.clo rfl (cloM fun _ => rfl) (by intro h; exact h.elim id fun h => absurd h.1 (by simp)) (OutL.flat rfl (flatM flat_vi) (by intro h; exact h.elim id fun h => absurd h.1 (by simp)) trivial)) (by decide) rfl
  ·
    obtain ⟨hf3, h5⟩ := few3_get (by simpa using hb0)
    have hS3 : ∀ L ∈ L3, (∀ b ∈ L, b.length ≤ 40) ∧ L.length ≤ 40 := fun L hL => fewB_get (hf3 L hL)
    refine AWo.pure (PureOp.pickF rfl rfl) rfl rfl ?_
    refine AWo.pure (PureOp.move rfl) rfl rfl ?_
    refine AWo.pure (PureOp.move rfl) rfl rfl ?_
    first | refine AWo.pure (PureOp.lenS tbok rfl rfl) rfl rfl ?_ | refine AWo.pure (PureOp.lenD tbok rfl rfl) rfl rfl ?_
    first | refine AWo.pureB (PureOp.gtN (b := 40) rfl rfl) rfl rfl (fun hb1 => ?_) (fun hb1 => ?_) | refine AWo.pureB (PureOp.bin rfl rfl rfl) rfl rfl (fun hb1 => ?_) (fun hb1 => ?_)
    ·
      refine AWo.pure (PureOp.pickF rfl rfl) rfl rfl ?_
      refine AWo.nil trivial ?_
      refine AW.condT rfl ?_
      refine AW.seqR ?_
      refine AWo.callX (speaks23_ctr) bd7 [] [] rfl .nil rfl .nil .nil rfl .nil frN (by decide) (.cons rfl rfl .nil) rfl rfl rfl rfl ?_
      refine AWo.pure (PureOp.assign rfl) rfl rfl ?_
      refine AWo.nil trivial ?_
      refine AW.ret ?_
      refine thenA_ret ?_
      refine RetQ.gc [_] [] [.tmp 4] (.inl rfl) rfl (.tmp rfl .nil) rfl (.cons rfl rfl .nil) (OutL.clo rfl (cloM fun _ => rfl) (by intro h; exact h.elim id fun h => absurd h.1 (by simp)) (OutL.flat rfl (flatM flat_vi) (by intro h; exact h.elim id fun h => absurd h.1 (by simp)) trivial)) (by decide) rfl
    ·
      have hb40 : b.length ≤ 40 := by have := of_decide_eq_false hb1; omega
      refine AWo.pure (PureOp.pickF rfl rfl) rfl rfl ?_
      refine AWo.nil trivial ?_
      refine AW.condF rfl ?_
      refine AW.skip ?_
      refine thenA_normal ?_
      refine AW.seqR ?_
      refine AWo.pure (PureOp.move rfl) rfl rfl ?_
      refine AWo.callX (ofs_ctr (L3 := L3) (k := L3.length) rfl (by omega) hB3 (fun L hL => (hS3 L hL).1) (fun L hL => by have := (hS3 L hL).2; omega)) bd31 [(0, 0)] [32000, 32001] rfl (.cons rfl .nil) rfl (.cons rfl rfl .nil) (.clo rfl (cloM fun _ => rfl) (by intro h; first | exact h | rfl) .nil) rfl (.keep rfl (.new (clo_map_ren (cloM fun _ => rfl)) (OkL.clo (cloM fun _ => rfl)) (.new (clo_map_ren (cloM fun _ => rfl)) (OkL.clo (cloM fun _ => rfl)) .nil))) (frC rfl (frC rfl frN)) (by decide) (.cons rfl rfl (.cons rfl rfl .nil)) rfl rfl rfl rfl ?_
      refine AWo.pure (PureOp.move rfl) rfl rfl ?_
      refine AWo.pure (PureOp.extract rfl rfl) rfl rfl ?_
      refine AWo.pure (PureOp.extract rfl rfl) rfl rfl ?_
      refine AWo.pure (PureOp.assign rfl) rfl rfl ?_
      refine AWo.pure (PureOp.assign rfl) rfl rfl ?_
      refine AWo.nil trivial ?_
      have htl : (L3.map tb).length = L3.length := List.length_map ..
      have hs6 : ∀ t ∈ L3.map tb, t.length < 1000000 := by intro t ht; obtain ⟨L, hL, rfl⟩ := List.mem_map.1 ht; rw [tb_len]; have := (hS3 L hL).2; omega
      generalize L3.map tb = Ts at htl hs6 ⊢
      refine AW.seqR ?_
      refine AWo.pure (PureOp.move rfl) rfl rfl ?_
      refine AWo.callX (round_ctr (Ts := Ts) (k := L3.length) htl (by omega) hs6) bd32 [(32000, 0)] [37000] rfl (.cons rfl .nil) rfl (.cons rfl rfl .nil) (.clo rfl (cloM fun _ => rfl) (by intro h; first | exact h | rfl) .nil) rfl (.keep rfl (.new (flat_map_ren (flatM flat_vi)) (OkL.flat (flatM flat_vi)) .nil)) (frC rfl frN) (by decide) (.cons rfl rfl (.cons rfl rfl .nil)) rfl rfl rfl rfl ?_
      refine AWo.pure (PureOp.move rfl) rfl rfl ?_
      refine AWo.pure (PureOp.extract rfl rfl) rfl rfl ?_
      refine AWo.pure (PureOp.extract rfl rfl) rfl rfl ?_
      refine AWo.pure (PureOp.assign rfl) rfl rfl ?_
      refine AWo.pure (PureOp.assign rfl) rfl rfl ?_
      refine AWo.nil trivial ?_
      refine AW.seq ?_
      refine AW.seqR ?_
      refine AWo.pure (PureOp.move rfl) rfl rfl ?_
      first | refine AWo.pure (PureOp.neN (b := 0) rfl rfl) rfl rfl ?_ | refine AWo.pure (PureOp.bin rfl rfl rfl) rfl rfl ?_
      refine AWo.nil trivial ?_
      refine AW.cond rfl (fun hb2 => ?_) (fun hb2 => ?_)
      ·
        have hre : roT Ts = [] := ro_no (by simpa using hb2)
        refine AW.seqR ?_
        refine AWo.pure (PureOp.move rfl) rfl rfl ?_
        first | refine AWo.pure (PureOp.lenS tbok rfl rfl) rfl rfl ?_ | refine AWo.pure (PureOp.lenD tbok rfl rfl) rfl rfl ?_
        first | refine AWo.pure ((PureOp.eqN (b := 0) rfl rfl).mono (v' := .bool true) (congrArg Value.bool (by rw [hre]; rfl))) rfl rfl ?_ | refine AWo.pure ((PureOp.bin rfl rfl rfl).mono (v' := .bool true) (congrArg Value.bool (by rw [hre]; rfl))) rfl rfl ?_
        refine AWo.pure (PureOp.assign rfl) rfl rfl ?_
        refine AWo.nil trivial ?_
        refine AW.ret ?_
        refine thenA_ret ?_
        refine RetQ.gc [_] [] [.tmp 4] (.inl rfl) rfl (.tmp rfl .nil) rfl (.cons rfl rfl .nil) (OutL.clo rfl (cloM fun _ => rfl) (by intro h; exact h.elim id fun h => absurd h.1 (by simp)) (OutL.flat rfl (flatM flat_vi) (by intro h; exact h.elim id fun h => absurd h.1 (by simp)) trivial)) (by decide) rfl
      ·
        obtain ⟨hc, hv⟩ := ro_zero (by simpa using hb2)
        have hrl := rt_len hc hv
        refine AW.skip ?_
        refine thenA_normal ?_
        refine AW.seqR ?_
        refine AWo.pure (PureOp.move rfl) rfl rfl ?_
        refine AWo.callX (Total_ctr (Ts := Ts) (k := L3.length) htl (by omega) hs6) bd29 [(32000, 0)] [] rfl (.cons rfl .nil) rfl (.cons rfl rfl .nil) (.clo rfl (cloM fun _ => rfl) (by intro h; first | exact h | rfl) .nil) rfl (.keep rfl .nil) frN (by decide) (.pure (by first | rfl | exact pure_aggM flat_vi | exact pure_aggM flat_bool) (.cons rfl rfl .nil)) rfl rfl rfl rfl ?_
        refine AWo.pure (PureOp.move rfl) rfl rfl ?_
        refine AWo.pure (PureOp.extract rfl rfl) rfl rfl ?_
        refine AWo.pure (PureOp.extract rfl rfl) rfl rfl ?_
        refine AWo.alloc tbok 10000 1 _ rfl rfl rfl rfl rfl rfl ?_
        refine AWo.storeAllN tbok rfl rfl rfl rfl (by first | (simp [*]; done) | rfl) (by first | (simp [*]; done) | rfl) (by first | exact oneM (fun _ => rfl) _ | rfl | (simp; done)) rfl ?_
        refine AWo.pure (PureOp.assign rfl) rfl rfl ?_
        refine AWo.nil trivial ?_
        refine AW.seq ?_
        refine AW.seqD mixed ?_
        refine AWo.pure (PureOp.move rfl) rfl rfl ?_
        first | refine AWo.pure ((PureOp.neN (b := 0) rfl rfl).mono (v' := .bool false) (congrArg Value.bool (by rw [hc]; rfl))) rfl rfl ?_ | refine AWo.pure ((PureOp.bin rfl rfl rfl).mono (v' := .bool false) (congrArg Value.bool (by rw [hc]; rfl))) rfl rfl ?_
        refine AWo.pure (PureOp.move rfl) rfl rfl ?_
        refine AWo.pure (PureOp.move rfl) rfl rfl ?_
        refine AWo.callX (endsp_ctr (xs := roT Ts) (n := (roT Ts).length) rfl (by omega)) bd33 [(37000, 0)] [] rfl (.cons rfl .nil) rfl (.cons rfl rfl .nil) (.flat rfl (flatM flat_vi) (by intro h; first | exact h | rfl) .nil) rfl (.keep rfl .nil) frN (by decide) (.pure (by first | rfl | exact pure_aggM flat_vi | exact pure_aggM flat_bool) .nil) rfl rfl rfl rfl ?_
        first | refine yLE ?_ | refine yLEi ?_
        refine AWo.callX (v := .bool true) (equalF_ctr (x := (Po.co (roT Ts) 0 + fsumL (roT Ts))) (y := (toT Ts))) bd24 [] [] rfl (.cons rfl (.cons rfl .nil)) rfl (.pure (by first | rfl | exact pure_aggM flat_vi | exact pure_aggM flat_bool) (.pure (by first | rfl | exact pure_aggM flat_vi | exact pure_aggM flat_bool) .nil)) .nil rfl .nil frN (by decide) (.cons rfl rfl .nil) (congrArg Value.bool (decide_eq_true (ends_tot hc hv (by omega)))) rfl rfl rfl ?_
        refine AWo.pure (PureOp.not rfl) rfl rfl ?_
        refine AWo.pure (PureOp.pickF rfl rfl) rfl rfl ?_
        refine AWo.pure (PureOp.move rfl) rfl rfl ?_
        refine AWo.pure (PureOp.move rfl) rfl rfl ?_
        first | refine AWo.pure (PureOp.lenS tbok rfl rfl) rfl rfl ?_ | refine AWo.pure (PureOp.lenD tbok rfl rfl) rfl rfl ?_
        refine AWo.pure (PureOp.move rfl) rfl rfl ?_
        first | refine AWo.pure (PureOp.lenS tbok rfl rfl) rfl rfl ?_ | refine AWo.pure (PureOp.lenD tbok rfl rfl) rfl rfl ?_
        first | refine AWo.pure (PureOp.addI (b := 1) rfl rfl (by first | decide | omega)) rfl rfl ?_ | refine AWo.pure (PureOp.bin rfl rfl rfl) rfl rfl ?_
        first | refine AWo.pure ((PureOp.neN rfl rfl).mono (v' := .bool false) (congrArg Value.bool (by rw [hrl, htl]; simp))) rfl rfl ?_ | refine AWo.pure ((PureOp.bin rfl rfl rfl).mono (v' := .bool false) (congrArg Value.bool (by rw [hrl, htl]; simp))) rfl rfl ?_
        refine AWo.pure (PureOp.pickF rfl rfl) rfl rfl ?_
        refine AWo.nil (by kernel_rfl) ?_
        refine AW.condF rfl ?_
        refine AW.skip ?_
        refine thenA_normal ?_
        refine AW.seqR ?_
        refine AWo.pure (PureOp.move rfl) rfl rfl ?_
        refine AWo.callX (fromwideF_ctr (b := b) hb (by omega)) bd21 [(1, 0)] [] rfl (.cons rfl .nil) rfl (.cons rfl rfl .nil) (.flat rfl (by first | exact flatM flat_vi | exact flatM flat_bool | (simp [flatV, flat_vi]; done)) (by intro h; first | exact h | rfl) .nil) rfl (.keep rfl .nil) frN (by decide) (.pure (by first | rfl | exact pure_aggM flat_vi | exact pure_aggM flat_bool) .nil) rfl rfl rfl rfl ?_
        refine AWo.alloc tbok 12000 1 _ rfl rfl rfl rfl rfl rfl ?_
        refine AWo.storeAllN tbok rfl rfl rfl rfl (by first | (simp [*]; done) | rfl) (by first | (simp [*]; done) | rfl) (by first | exact oneM (fun _ => rfl) _ | rfl | (simp; done)) rfl ?_
        refine AWo.nil trivial ?_
        refine AW.seqR ?_
        refine AWo.pure (PureOp.assign rfl) rfl rfl ?_
        refine AWo.nil trivial ?_
        refine AW.seq ?_
        refine AW.ghost 77000 1 rfl ?_
        refine AW.seqR ?_
        refine AWo.pure (PureOp.move rfl) rfl rfl ?_
        first | refine AWo.pure (PureOp.lenS tbok rfl rfl) rfl rfl ?_ | refine AWo.pure (PureOp.lenD tbok rfl rfl) rfl rfl ?_
        refine AWo.pure (PureOp.move rfl) rfl rfl ?_
        refine AWo.nil trivial ?_
        refine AW.block ?_
        refine AW.loopw (fun mm σ => ∃ i, (i ≤ L3.length) ∧ mm = L3.length - i ∧ σ = ⟨(upd (upd (upd (upd (upd (upd (upd emp 5 (.slice (some ⟨32000, 0, none⟩) L3.length 0)) 7 (.slice (some ⟨37000, 0, none⟩) (roT Ts).length 0)) 11 (.pointer (some ⟨12000, 0, none⟩))) 12 (.slice (some ⟨77000, 0, none⟩) i 0)) 68 (.slice (some ⟨32000, 0, none⟩) L3.length 0)) 69 (vi .i64 L3.length)) 70 (vi .i64 i)), (upd (upd (upd (upd (upd (upd emp 0 ⟨L3.map (dlb), false, 1⟩) 1 ⟨b.map (vi .u8), false, 1⟩) 32000 ⟨Ts.map dt, true, 1⟩) 37000 ⟨(((roT Ts).map fe).flatten).map (vi .u64), true, 4⟩) 12000 ⟨(fe (fp (num 256 b))).map (vi .u64), true, 1⟩) 77000 ⟨(fxs (Ts.take i) (fp (num 256 b))).map dt, true, 1⟩)⟩) (fm := []) ?_ ⟨0, Nat.zero_le _, rfl, rfl⟩ ?_
        ·
          refine Wk.of [0, 1, 32000, 37000, 12000, 77000] ?_ ?_ ?_ (by decide) rfl
          ·
            refine WkE.upd rfl (by first | exact VR.flat _ rfl | exact VR.eqv (vp_succ _) rfl | exact VR.eqv (vp_succ _).symm rfl | exact VR.eqv (by first | rfl | (congr 1; omega) | (simp; done) | (simp; omega)) rfl) ?_
            refine WkE.upd rfl (by first | exact VR.flat _ rfl | exact VR.eqv (vp_succ _) rfl | exact VR.eqv (vp_succ _).symm rfl | exact VR.eqv (by first | rfl | (congr 1; omega) | (simp; done) | (simp; omega)) rfl) ?_
            refine WkE.upd rfl (.slice (32000) 0 _ 0 ⟨_, rfl⟩ (by simp) (by simp)) ?_
            refine WkE.upd rfl (by first | exact .nilS _ (by simp) | exact .slice (77000) 0 _ 0 ⟨_, rfl⟩ (by simp) (by simp)) ?_
            refine WkE.upd rfl (.ptr (12000) 0 ⟨_, rfl⟩) ?_
            refine WkE.upd rfl (.slice (37000) 0 _ 0 ⟨_, rfl⟩ (by simp) (by simp)) ?_
            refine WkE.upd rfl (.slice (32000) 0 _ 0 ⟨_, rfl⟩ (by simp) (by simp)) ?_
            exact WkE.emp
          ·
            refine WkM.cloM rfl rfl (fun _ => rfl) (fun h => h) ?_
            refine WkM.flat rfl (flatM flat_vi) (fun h => h) ?_
            refine WkM.flat rfl (flatM flat_vi) (fun h => h) ?_
            refine WkM.cloM rfl rfl (fun _ => rfl) (fun h => h) ?_
            refine WkM.flat rfl (flatM flat_vi) (fun h => h) ?_
            refine WkM.cloM rfl rfl (fun _ => rfl) (fun h => h) ?_
            exact WkM.emp
          ·
            repeat (refine dom_upd_mem (by decide) ?_)
            exact dom_emp
        ·
          rintro mm σ ⟨i, hinv, rfl, rfl⟩
          refine AW.seqR ?_
          first | refine AWo.pure (PureOp.ltN rfl rfl) rfl rfl ?_ | refine AWo.pure (PureOp.bin rfl rfl rfl) rfl rfl ?_
          refine AWo.nil trivial ?_
          refine AW.seq ?_
          refine AW.cond rfl (fun hb3 => ?_) (fun hb3 => ?_)
          ·
            have hi : i < L3.length := of_decide_eq_true hb3
            refine AW.skip ?_
            refine thenA_normal ?_
            refine AW.seq ?_
            refine AW.block ?_
            refine AW.seqR ?_
            first | refine AWo.pure (PureOp.idx1 tbok rfl rfl rfl rfl (by first | decide | omega)) rfl rfl ?_ | refine AWo.pure (PureOp.idx tbok rfl rfl rfl rfl (by first | decide | omega)) rfl rfl ?_
            refine AWo.loadM tbok (f := dt) [] rfl rfl rfl (by omega) rfl rfl ?_
            refine AWo.pure (PureOp.assign rfl) rfl rfl ?_
            refine AWo.nil trivial ?_
            refine AW.region ?_
            refine AWo.pure (PureOp.move rfl) rfl rfl ?_
            refine AWo.pure (PureOp.move rfl) rfl rfl ?_
            first | refine yLE ?_ | refine yLEi ?_
            refine AWo.callX (fix_d (xs := Ts.getD i []) (x := (fp (num 256 b))) (hs6 _ (getT_mem (by omega)))) bd17 [] [] rfl (.cons rfl (.cons rfl .nil)) rfl (.cons rfl rfl (.pure (by first | rfl | exact pure_aggM flat_vi | exact pure_aggM flat_bool) .nil)) .nil rfl .nil frN (by decide) (.cons rfl rfl .nil) rfl rfl rfl rfl ?_
            refine AWo.buildSlice tbok 79000 [(0, dt (fixT (Ts.getD i []) (fp (num 256 b))))] (out := [dt (fixT (Ts.getD i []) (fp (num 256 b)))]) rfl rfl (by decide) rfl rfl rfl (by decide) rfl rfl rfl rfl rfl ?_
            refine AWo.append tbok (all := (fxs (Ts.take (i + 1)) (fp (num 256 b))).map dt) (news := [dt (fixT (Ts.getD i []) (fp (num 256 b)))]) 80000 rfl rfl rfl rfl (by simp [fxs_len]; omega) (by show List.take _ (List.drop 0 _) = _; rw [List.drop_zero]; exact List.take_of_length_le (by simp)) (by first | decide | (simp; done) | (simp; omega)) (by decide) rfl rfl rfl (by first | decide | exact Nat.one_ne_zero) rfl rfl rfl (by first | decide | omega) (by first | decide | omega) (by rfl) (by rw [← fxs_step (by omega), List.map_append]; rfl) rfl rfl ?_
            refine AWo.pure (PureOp.assign rfl) rfl rfl ?_
            refine AWo.nil trivial ?_
            refine inBlockA_normal ?_
            refine thenA_normal ?_
            refine AW.region ?_
            first | refine AWo.pure (PureOp.addI (b := 1) rfl rfl (by first | decide | omega)) rfl rfl ?_ | refine AWo.pure (PureOp.bin rfl rfl rfl) rfl rfl ?_
            refine AWo.pure (PureOp.move rfl) rfl rfl ?_
            refine AWo.nil trivial ?_
            refine thenA_normal ?_
            refine ⟨L3.length - (i + 1), [(77000, 80000)], _, by omega, ?_, i + 1, by omega, rfl, rfl⟩
            refine Wk.of [0, 1, 32000, 37000, 12000, 77000] ?_ ?_ ?_ (by decide) rfl
            ·
              refine WkE.upd rfl (by first | exact VR.flat _ rfl | exact VR.eqv (vp_succ _) rfl | exact VR.eqv (vp_succ _).symm rfl | exact VR.eqv (by first | rfl | (congr 1; omega) | (simp; done) | (simp; omega)) rfl) ?_
              refine WkE.upd rfl (by first | exact VR.flat _ rfl | exact VR.eqv (vp_succ _) rfl | exact VR.eqv (vp_succ _).symm rfl | exact VR.eqv (by first | rfl | (congr 1; omega) | (simp; done) | (simp; omega)) rfl) ?_
              refine WkE.upd rfl (.slice (32000) 0 _ 0 ⟨_, rfl⟩ (by simp) (by simp)) ?_
              refine WkE.upd rfl (by first | exact .nilS _ (by simp) | exact .slice (77000) 0 _ 0 ⟨_, rfl⟩ (by simp) (by simp)) ?_
              refine WkE.upd rfl (.ptr (12000) 0 ⟨_, rfl⟩) ?_
              refine WkE.upd rfl (.slice (37000) 0 _ 0 ⟨_, rfl⟩ (by simp) (by simp)) ?_
              refine WkE.upd rfl (.slice (32000) 0 _ 0 ⟨_, rfl⟩ (by simp) (by simp)) ?_
              exact WkE.emp
            ·
              refine WkM.cloM rfl rfl (fun _ => rfl) (fun h => h) ?_
              refine WkM.flat rfl (flatM flat_vi) (fun h => h) ?_
              refine WkM.flat rfl (flatM flat_vi) (fun h => h) ?_
              refine WkM.cloM rfl rfl (fun _ => rfl) (fun h => h) ?_
              refine WkM.flat rfl (flatM flat_vi) (fun h => h) ?_
              refine WkM.cloM rfl rfl (fun _ => rfl) (fun h => h) ?_
              exact WkM.emp
            ·
              repeat (refine dom_upd_mem (by decide) ?_)
              exact dom_emp
          ·
            obtain rfl : i = L3.length := by have := of_decide_eq_false hb3; omega
            rw [List.take_of_length_le (Nat.le_of_eq htl)]
            have hcl := ch_left hc hv (fp (num 256 b))
            have hs7 : ∀ t ∈ (fxs Ts (fp (num 256 b))), t.length < 1000000 := by intro t ht; obtain ⟨s, hs, rfl⟩ := List.mem_map.1 ht; have h1 := fixT_len s (fp (num 256 b)); have h2 := hs6 s hs; omega
            refine AW.exit ?_
            refine thenA_exit ?_
            refine thenA_exit ?_
            refine inBlockA_hit ?_
            refine thenA_normal ?_
            refine AW.seqR ?_
            refine AWo.pure (PureOp.move rfl) rfl rfl ?_
            refine AWo.callX (Total_ctr (Ts := (fxs Ts (fp (num 256 b)))) (k := L3.length) ((fxs_len _ _).trans htl) (by omega) hs7) bd29 [(77000, 0)] [] rfl (.cons rfl .nil) rfl (.cons rfl rfl .nil) (.clo rfl (cloM fun _ => rfl) (by intro h; first | exact h | rfl) .nil) rfl (.keep rfl .nil) frN (by decide) (.pure (by first | rfl | exact pure_aggM flat_vi | exact pure_aggM flat_bool) (.cons rfl rfl .nil)) rfl rfl rfl rfl ?_
            refine AWo.pure (PureOp.move rfl) rfl rfl ?_
            refine AWo.pure (PureOp.extract rfl rfl) rfl rfl ?_
            refine AWo.pure (PureOp.extract rfl rfl) rfl rfl ?_
            refine AWo.alloc tbok 16000 1 _ rfl rfl rfl rfl rfl rfl ?_
            refine AWo.storeAllN tbok rfl rfl rfl rfl (by first | (simp [*]; done) | rfl) (by first | (simp [*]; done) | rfl) (by first | exact oneM (fun _ => rfl) _ | rfl | (simp; done)) rfl ?_
            refine AWo.pure (PureOp.assign rfl) rfl rfl ?_
            refine AWo.nil trivial ?_
            refine AW.seqD mixed ?_
            refine AWo.pure (PureOp.move rfl) rfl rfl ?_
            first | refine AWo.pure ((PureOp.eqN (b := 0) rfl rfl).mono (v' := .bool true) (congrArg Value.bool (by rw [hcl]; rfl))) rfl rfl ?_ | refine AWo.pure ((PureOp.bin rfl rfl rfl).mono (v' := .bool true) (congrArg Value.bool (by rw [hcl]; rfl))) rfl rfl ?_
            refine AWo.pure (PureOp.move rfl) rfl rfl ?_
            refine AWo.pure (PureOp.move rfl) rfl rfl ?_
            first | refine yLE ?_ | refine yLEi ?_
            refine AWo.callX (evalp_ctr (xs := roT Ts) (x := (fp (num 256 b))) (n := (roT Ts).length) rfl (by omega)) bd34 [(37000, 0)] [] rfl (.cons rfl (.cons rfl .nil)) rfl (.cons rfl rfl (.pure (by first | rfl | exact pure_aggM flat_vi | exact pure_aggM flat_bool) .nil)) (.flat rfl (flatM flat_vi) (by intro h; first | exact h | rfl) .nil) rfl (.keep rfl .nil) frN (by decide) (.pure (by first | rfl | exact pure_aggM flat_vi | exact pure_aggM flat_bool) .nil) rfl rfl rfl rfl ?_
            first | refine yLE ?_ | refine yLEi ?_
            refine AWo.callX (v := .bool true) (equalF_ctr (x := (Po.ev (fp (num 256 b)) (roT Ts))) (y := (toT (fxs Ts (fp (num 256 b)))))) bd24 [] [] rfl (.cons rfl (.cons rfl .nil)) rfl (.pure (by first | rfl | exact pure_aggM flat_vi | exact pure_aggM flat_bool) (.pure (by first | rfl | exact pure_aggM flat_vi | exact pure_aggM flat_bool) .nil)) .nil rfl .nil frN (by decide) (.cons rfl rfl .nil) (congrArg Value.bool (decide_eq_true (ev_tot hc hv (by omega) _))) rfl rfl rfl ?_
            refine AWo.pure (PureOp.pickT rfl rfl) rfl rfl ?_
            refine AWo.pure (PureOp.assign rfl) rfl rfl ?_
            refine AWo.nil (by kernel_rfl) ?_
            refine AW.ret ?_
            refine RetQ.gc [_] [] [.tmp 4] (.inl rfl) rfl (.tmp rfl .nil) rfl (.cons rfl rfl .nil) (OutL.clo rfl (cloM fun _ => rfl) (by intro h; exact h.elim id fun h => absurd h.1 (by simp)) (OutL.flat rfl (flatM flat_vi) (by intro h; exact h.elim id fun h => absurd h.1 (by simp)) trivial)) (by decide) rfl
end Go.Proofs.YteeifahhejangaaDoor
namespace Go.Proofs.YteeifahhejangaaDoor
open Go
namespace Head
set_option maxRecDepth 100000 in
theorem words : ∃ l, Tryd.prog.initOrder = String.ofList l ∧ (behindMainWord (wordsSigns l)).head? = some "cut".toList := ⟨_, rfl, by kernel_rfl⟩
theorem head_of {P : Program} (h : ∃ l, P.initOrder = String.ofList l ∧ (behindMainWord (wordsSigns l)).head? = some "cut".toList) :
    ∃ rest, behindMainWord (wordsSigns P.initOrder.toList) = "cut".toList :: rest := by
  obtain ⟨l, h, hh⟩ := h
  rw [h, String.toList_ofList]
  cases hb : behindMainWord (wordsSigns l) with
  | nil => rw [hb] at hh; cases hh
  | cons c r => rw [hb] at hh; simp only [List.head?_cons, Option.some.injEq] at hh; exact ⟨r, by rw [hh]⟩
theorem cut_words : (liftWords.all fun s => !("cut".toList == s.toList)) = true := by decide +kernel
theorem strip_cut (rest : List (List Char)) : stripLifts liftWords ("cut".toList :: rest) = ([], "cut".toList :: rest) := by
  have key : ∀ o : List String, (o.all fun s => !("cut".toList == s.toList)) = true → stripLifts o ("cut".toList :: rest) = ([], "cut".toList :: rest) := by
    intro o
    induction o with
    | nil => intro _; rfl
    | cons s o ih =>
      intro h
      simp only [List.all_cons, Bool.and_eq_true, Bool.not_eq_true'] at h
      rw [stripLifts, if_neg (by rw [h.1]; exact Bool.false_ne_true)]
      exact ih h.2
  exact key liftWords cut_words
theorem mayEnter_of {P : Program} {rest : List (List Char)} (hr : behindMainWord (wordsSigns P.initOrder.toList) = "cut".toList :: rest) (e1 : P.laysLater = false) (e2 : P.bearsReflect = false) (e3 : P.doorFits [] = true) : P.mayEnter = true := by
  unfold Program.mayEnter
  rw [hr]
  simp only [strip_cut, e1, e2, e3]
  simp
theorem headLifts_of {P : Program} {rest : List (List Char)} (hr : behindMainWord (wordsSigns P.initOrder.toList) = "cut".toList :: rest) : P.headLifts = [] := by
  unfold Program.headLifts
  rw [hr, strip_cut]
  simp
theorem cut_ne : ("cut".toList == "carried".toList) = false ∧ ("cut".toList == "gc".toList) = false ∧ ("cut".toList == "spec".toList) = false := by decide +kernel
theorem liftsFinal_of {P : Program} {rest : List (List Char)} (hr : behindMainWord (wordsSigns P.initOrder.toList) = "cut".toList :: rest) : P.liftsFinal = false := by
  unfold Program.liftsFinal
  rw [hr, headLifts_of hr]
  simp
theorem make_of {P : Program} {rest : List (List Char)} (hr : behindMainWord (wordsSigns P.initOrder.toList) = "cut".toList :: rest) : P.make = some .cut := by
  unfold Program.make
  rw [hr]
  simp only [cut_ne.2.1, cut_ne.2.2, beq_self_eq_true]
  simp
theorem laysLater : Tryd.prog.laysLater = false := by kernel_rfl
theorem bearsReflect : Tryd.prog.bearsReflect = false := by kernel_rfl
theorem doorFits : Tryd.prog.doorFits [] = true := by kernel_rfl
theorem mayEnter : Tryd.prog.mayEnter = true := let ⟨_, hr⟩ := head_of words; mayEnter_of hr laysLater bearsReflect doorFits
theorem liftsFinal : Tryd.prog.liftsFinal = false := let ⟨_, hr⟩ := head_of words; liftsFinal_of hr
theorem make_cut : Tryd.prog.make = some .cut := let ⟨_, hr⟩ := head_of words; make_of hr
theorem band {a b : Bool} (ha : a = true) (hb : b = true) : (a && b) = true := by rw [ha, hb]; rfl
end Head
end Go.Proofs.YteeifahhejangaaDoor
