/- What the proof stands on, part 5: the walk of each function, and plain laws of numbers. -/
import Derived.Test.YtpahdiljpnfkdaaK4
import Derived.Test.YtpahdiljpnfkdaaRows
import Derived.ProofKit
namespace Go.Proofs.Ytpahdiljpnfkdaa
open Go Sim
def hst (x k : Nat) : List Nat := (List.range (D 4294967296 x).length).map fun j => if j < k then x / 2 / 4294967296 ^ j % 4294967296 else 0
theorem hst_len (x k : Nat) : (hst x k).length = (D 4294967296 x).length := by simp [hst]
theorem hst_zero (x : Nat) : hst x 0 = List.replicate (D 4294967296 x).length 0 := by
  refine List.ext_getElem (by simp [hst]) fun i h1 h2 => ?_
  simp [hst]
theorem hst_set {x i v : Nat} (hi : i < (D 4294967296 x).length) (hv : v = x / 2 / 4294967296 ^ i % 4294967296) : (hst x i).set i v = hst x (i + 1) := by
  refine List.ext_getElem (by simp [hst]) fun j h1 h2 => ?_
  simp only [hst, List.getElem_set, List.getElem_map, List.getElem_range]
  by_cases h : i = j
  · subst h; rw [if_pos rfl, if_pos (Nat.lt_succ_self i)]; exact hv
  · rw [if_neg h]
    by_cases hj : j < i
    · rw [if_pos hj, if_pos (by omega)]
    · rw [if_neg hj, if_neg (by omega)]
theorem set_getD {l : List Nat} {i v : Nat} (h : i < l.length) : (l.set i v).getD i 0 = v := by
  rw [List.getD_eq_getElem?_getD, List.getElem?_set_self h]; rfl
theorem half_dig (x i : Nat) : x / 4294967296 ^ i % 4294967296 / 2 + x / 4294967296 ^ (i + 1) % 4294967296 % 2 * 2147483648 = x / 2 / 4294967296 ^ i % 4294967296 := by
  rw [Nat.pow_succ, ← Nat.div_div_eq_div_mul, Nat.div_div_eq_div_mul x 2, Nat.mul_comm 2, ← Nat.div_div_eq_div_mul]
  generalize x / 4294967296 ^ i = y
  omega
theorem half_last {x i : Nat} (h : ¬ i + 1 < (D 4294967296 x).length) : x / 4294967296 ^ i % 4294967296 / 2 = x / 2 / 4294967296 ^ i % 4294967296 := by
  have h1 : (D 4294967296 x).getD (i + 1) 0 = 0 := by rw [List.getD_eq_getElem?_getD, List.getElem?_eq_none (by omega)]; rfl
  rw [D_getD (by decide)] at h1
  rw [← half_dig, h1, Nat.zero_mod, Nat.zero_mul, Nat.add_zero]
theorem hst_fin (x : Nat) : hst x (D 4294967296 x).length = digs 4294967296 (D 4294967296 x).length (x / 2) := by
  rw [digs_rg, hst]; exact List.map_congr_left fun i hi => if_pos (List.mem_range.1 hi)
theorem hst_bd (x k : Nat) : bd 4294967296 (hst x k) := fun v hv => by
  obtain ⟨j, _, rfl⟩ := List.mem_map.1 hv
  split
  · exact Nat.mod_lt _ (by decide)
  · decide
theorem hst_num (x : Nat) : num 4294967296 (hst x (D 4294967296 x).length) = x / 2 := by
  rw [hst_fin, num_digs_lt]
  exact Nat.lt_of_le_of_lt (Nat.div_le_self _ _) ((D_len_le (B := 4294967296) (by decide) x _).1 (Nat.le_refl _))
structure SqI (A a m : Nat) (s : Bool) : Prop where
  odd : m % 2 = 1
  cop : Nat.Coprime m a
  eq : (Jac.ng a m + (cond s 0 1)) % 2 = Jac.ng A PG
  ab : a < B24
  mb : m < B24
theorem SqI.m0 {A a m : Nat} {s : Bool} (h : SqI A a m s) : 0 < m := by have := h.odd; omega
theorem cop_half {m a : Nat} (h : Nat.Coprime m a) (he : a % 2 = 0) : Nat.Coprime m (a / 2) :=
  Nat.Coprime.coprime_dvd_right ⟨2, by omega⟩ h
theorem cop_two {m : Nat} (h : m % 2 = 1) : Nat.Coprime m 2 := by
  rw [Nat.coprime_comm]
  rw [Nat.Coprime, Nat.gcd_rec, h, Nat.gcd_one_left]
theorem ng_half {a m : Nat} (ho : m % 2 = 1) (hc : Nat.Coprime m a) (he : a % 2 = 0) : Jac.ng a m = (Jac.ng 2 m + Jac.ng (a / 2) m) % 2 := by
  rw [← Jac.ng_mul ho (cop_half hc he) (cop_two ho), show 2 * (a / 2) = a by omega]
theorem SqI.half {A a m : Nat} {s : Bool} (h : SqI A a m s) (he : a % 2 = 0) (h8 : m % 8 = 3 ∨ m % 8 = 5) : SqI A (a / 2) m (!s) := by
  refine ⟨h.odd, cop_half h.cop he, ?_, by have := h.ab; omega, h.mb⟩
  have e := h.eq
  rw [ng_half h.odd h.cop he, Jac.ng_two h.odd, if_pos h8] at e
  rw [← e]
  cases s <;> simp only [cond, Bool.not_true, Bool.not_false] <;> omega
theorem SqI.half' {A a m : Nat} {s : Bool} (h : SqI A a m s) (he : a % 2 = 0) (h3 : ¬ m % 8 = 3) (h5 : ¬ m % 8 = 5) : SqI A (a / 2) m s := by
  refine ⟨h.odd, cop_half h.cop he, ?_, by have := h.ab; omega, h.mb⟩
  have e := h.eq
  rw [ng_half h.odd h.cop he, Jac.ng_two h.odd, if_neg (by omega)] at e
  rw [← e]
  cases s <;> simp only [cond] <;> omega
theorem cop_sub {m c : Nat} (h : Nat.Coprime m c) (hl : c ≤ m) : Nat.Coprime c (m - c) := by
  have h1 := h.symm
  rw [show m = m - c + c by omega] at h1
  rw [Nat.Coprime, Nat.gcd_add_self_right] at h1
  exact h1
theorem ng_sub {m c : Nat} (hl : c ≤ m) : Jac.ng (m - c) c = Jac.ng m c := Jac.ng_congr (by
  conv => rhs; rw [show m = m - c + c by omega]
  rw [Nat.add_mod_right])
theorem SqI.swap {A c m : Nat} {s : Bool} (h : SqI A c m s) (hl : c < m) (ho : c % 2 = 1) (h1 : c % 4 = 3) (h2 : m % 4 = 3) : SqI A (m - c) c (!s) := by
  refine ⟨ho, cop_sub h.cop (Nat.le_of_lt hl), ?_, by have := h.mb; omega, h.ab⟩
  have e := h.eq
  have r := Jac.recip h.odd ho h.cop
  rw [if_pos ⟨h2, h1⟩] at r
  rw [ng_sub (Nat.le_of_lt hl), ← e]
  cases s <;> simp only [cond, Bool.not_true, Bool.not_false] <;> omega
theorem SqI.swap' {A c m : Nat} {s : Bool} (h : SqI A c m s) (hl : c < m) (ho : c % 2 = 1) (h1 : ¬ (c % 4 = 3 ∧ m % 4 = 3)) : SqI A (m - c) c s := by
  refine ⟨ho, cop_sub h.cop (Nat.le_of_lt hl), ?_, by have := h.mb; omega, h.ab⟩
  have e := h.eq
  have r := Jac.recip h.odd ho h.cop
  rw [if_neg (fun h => h1 ⟨h.2, h.1⟩)] at r
  rw [ng_sub (Nat.le_of_lt hl), ← e]
  cases s <;> simp only [cond] <;> omega
theorem SqI.sub {A c m : Nat} {s : Bool} (h : SqI A c m s) (hl : m ≤ c) : SqI A (c - m) m s := by
  have hc : Nat.Coprime m (c - m) := cop_sub h.cop.symm hl
  refine ⟨h.odd, hc, ?_, by have := h.ab; omega, h.mb⟩
  rw [ng_sub hl]; exact h.eq
theorem SqI.fin {A m : Nat} {s : Bool} (h : SqI A 0 m s) : s = decide (Jac.ng A PG = 0) := by
  have h1 : m = 1 := by
    have := h.cop
    rwa [Nat.Coprime, Nat.gcd_zero_right] at this
  have e := h.eq
  subst h1
  rw [show Jac.ng 0 1 = 0 from rfl] at e
  cases s
  · rw [decide_eq_false]; rw [← e]; decide
  · rw [decide_eq_true]; rw [← e]; rfl
theorem sym_start {s : Nat} (h : s < 2) : (s + cond true 0 1) % 2 = s := by
  show (s + 0) % 2 = s
  omega
theorem irr_PG : Irr PG := irr_P
theorem pg_cop {A : Nat} (h0 : 0 < A) (hA : A < PG) : Nat.Coprime PG A := irr_PG.coprime (fun h => absurd (Nat.le_of_dvd h0 h) (Nat.not_le.2 hA))
theorem sq_start {A : Nat} (h0 : 0 < A) (hA : A < PG) : SqI A A PG true where
  odd := rn_p.odd
  cop := pg_cop h0 hA
  eq := sym_start (Jac.ng_lt A PG)
  ab := Nat.lt_trans hA pg_b24
  mb := pg_b24
theorem dlp {x : Nat} (h : 0 < x) : 0 < (D 4294967296 x).length := by rw [D_pos (by decide) (by omega)]; exact Nat.succ_pos _
theorem dlq {x : Nat} (h : 0 < (D 4294967296 x).length) : 0 < x := Nat.pos_of_ne_zero fun e => by subst e; exact absurd h (by decide)
theorem dlz {x : Nat} (h : (D 4294967296 x).length = 0 ∨ ¬ 0 < (D 4294967296 x).length) : x = 0 := by
  rcases Nat.eq_zero_or_pos x with h0 | h0
  · exact h0
  · have := dlp h0; omega
theorem dlb {x n : Nat} (h : x < B24) : (D 4294967296 x).length < n + 100 := Nat.lt_of_le_of_lt (dlen24 h) (by omega)
theorem cmp_neg {x y : Nat} : decide (cmpI x y < 0) = decide (x < y) := by
  refine decide_eq_decide.2 ?_
  unfold cmpI; split <;> (try split) <;> omega
theorem half_ctr {x : Nat} (hx : (D 4294967296 x).length < 1000) : GC Try.prog 131 [dd x] [] [dd (x / 2)] [] := by
  refine GC.intro Try.func131 rfl (by show 1 ≤ 44; decide) (by first | exact Nat.le_refl _ | decide | simp) ?_
  refine AW.expose 0 88000 ?_
  refine AW.seqR ?_
  refine AWo.pure (PureOp.assign rfl) rfl rfl ?_
  refine AWo.nil trivial ?_
  refine AW.seqR ?_
  refine AWo.pure (PureOp.move rfl) rfl rfl ?_
  first | refine AWo.pure (PureOp.lenS tbok rfl rfl) rfl rfl ?_ | refine AWo.pure (PureOp.lenD tbok rfl rfl) rfl rfl ?_
  refine AWo.makeI tbok 8000 rfl rfl rfl rfl rfl rfl (by first | decide | omega) (by first | decide | omega) rfl rfl rfl ?_
  refine AWo.pure (PureOp.assign rfl) rfl rfl ?_
  refine AWo.nil trivial ?_
  refine AW.seq ?_
  refine AW.seqR ?_
  refine AWo.pure (PureOp.assign rfl) rfl rfl ?_
  refine AWo.nil trivial ?_
  refine AW.block ?_
  refine AW.loopw (fun mm σ => ∃ i, (i ≤ (D 4294967296 x).length) ∧ mm = (D 4294967296 x).length - i ∧ σ = ⟨(upd (upd (upd emp 0 (.slice (some ⟨88000, 0, none⟩) (D 4294967296 x).length 0)) 3 (.slice (some ⟨77000, 0, none⟩) (D 4294967296 x).length 0)) 4 (vi .i64 i)), (upd (upd emp 88000 ⟨(D 4294967296 x).map (vi .u64), false, 1⟩) 77000 ⟨(hst x i).map (vi .u64), true, 1⟩)⟩) (fm := [(77000, 8000)]) ?_ ⟨0, Nat.zero_le _, rfl, rfl⟩ ?_
  ·
    refine Wk.of [88000, 77000] ?_ ?_ ?_ (by decide) rfl
    ·
      refine WkE.upd rfl (by first | exact VR.flat _ rfl | exact VR.eqv (vp_succ _) rfl | exact VR.eqv (vp_succ _).symm rfl | exact VR.eqv (by first | rfl | (congr 1; omega) | (simp; done) | (simp; omega)) rfl) ?_
      refine WkE.upd rfl (.slice (77000) 0 _ 0 ⟨_, rfl⟩ (by simp) (by simp)) ?_
      refine WkE.upd rfl (.slice (88000) 0 _ 0 ⟨_, rfl⟩ (by simp) (by simp)) ?_
      exact WkE.emp
    ·
      refine WkM.flatM rfl (by first | rfl | exact hst_zero x) flat_vi (fun h => h) ?_
      refine WkM.flat rfl (flatM flat_vi) (fun h => h) ?_
      exact WkM.emp
    ·
      repeat (refine dom_upd_mem (by decide) ?_)
      exact dom_emp
  ·
    rintro mm σ ⟨i, hinv, rfl, rfl⟩
    have hd1 : x / 4294967296 ^ i % 4294967296 < 4294967296 := Nat.mod_lt _ (by decide)
    refine AW.seq ?_
    refine AW.seqR ?_
    refine AWo.pure (PureOp.move rfl) rfl rfl ?_
    refine AWo.pure (PureOp.move rfl) rfl rfl ?_
    first | refine AWo.pure (PureOp.lenS tbok rfl rfl) rfl rfl ?_ | refine AWo.pure (PureOp.lenD tbok rfl rfl) rfl rfl ?_
    first | refine AWo.pure (PureOp.ltN rfl rfl) rfl rfl ?_ | refine AWo.pure (PureOp.bin rfl rfl rfl) rfl rfl ?_
    refine AWo.nil trivial ?_
    refine AW.cond rfl (fun hb0 => ?_) (fun hb0 => ?_)
    ·
      have hi : i < (D 4294967296 x).length := by simpa using hb0
      refine AW.skip ?_
      refine thenA_normal ?_
      refine AW.seq ?_
      refine AW.block ?_
      refine AW.seqR ?_
      refine AWo.pure (PureOp.move rfl) rfl rfl ?_
      refine AWo.pure (PureOp.move rfl) rfl rfl ?_
      refine AWo.pure (PureOp.move rfl) rfl rfl ?_
      refine AWo.pure (PureOp.move rfl) rfl rfl ?_
      refine yP (PureOp.idx1 tbok (j := i) rfl rfl rfl rfl hi) ?_
      refine AWo.loadM tbok 0 rfl rfl rfl hi rfl rfl ?_
      rw [D_getD (by decide) x i]
      refine AWo.pure (PureOp.quoN (a := x / 4294967296 ^ i % 4294967296) (b := 2) 18446744073709551616 rfl rfl (by decide) (by decide) (by omega) (by omega)) rfl rfl ?_
      refine yP (PureOp.idx1 tbok (j := i) rfl rfl rfl rfl hi) ?_
      refine AWo.storeM (f := (vi .u64)) tbok rfl rfl rfl rfl (by rw [hst_len]; exact hi) rfl rfl ?_
      refine AWo.nil trivial ?_
      refine AW.seqR ?_
      refine AWo.pure (PureOp.move rfl) rfl rfl ?_
      first | refine AWo.pure (PureOp.addI (b := 1) rfl rfl (by first | decide | omega)) rfl rfl ?_ | refine AWo.pure (PureOp.bin rfl rfl rfl) rfl rfl ?_
      refine AWo.pure (PureOp.move rfl) rfl rfl ?_
      first | refine AWo.pure (PureOp.lenS tbok rfl rfl) rfl rfl ?_ | refine AWo.pure (PureOp.lenD tbok rfl rfl) rfl rfl ?_
      first | refine AWo.pure (PureOp.ltN rfl rfl) rfl rfl ?_ | refine AWo.pure (PureOp.bin rfl rfl rfl) rfl rfl ?_
      refine AWo.nil trivial ?_
      refine AW.cond rfl (fun hb1 => ?_) (fun hb1 => ?_)
      ·
        have hi1 : i + 1 < (D 4294967296 x).length := by simpa using hb1
        refine AW.draw mixed ?_
        refine AWo.pure (PureOp.move rfl) rfl rfl ?_
        refine AWo.pure (PureOp.move rfl) rfl rfl ?_
        refine AWo.pure (PureOp.move rfl) rfl rfl ?_
        refine AWo.pure (PureOp.move rfl) rfl rfl ?_
        refine yP (PureOp.idx1 tbok (j := i) rfl rfl rfl rfl hi) ?_
        refine AWo.loadM tbok 0 rfl rfl rfl (by rw [List.length_set, hst_len]; exact hi) rfl rfl ?_
        rw [set_getD (by rw [hst_len]; exact hi)]
        refine AWo.pure (PureOp.move rfl) rfl rfl ?_
        refine AWo.pure (PureOp.move rfl) rfl rfl ?_
        first | refine AWo.pure (PureOp.addI (b := 1) rfl rfl (by first | decide | omega)) rfl rfl ?_ | refine AWo.pure (PureOp.bin rfl rfl rfl) rfl rfl ?_
        refine yP (PureOp.idx1 tbok (j := i + 1) rfl rfl rfl rfl hi1) ?_
        refine AWo.loadM tbok 0 rfl rfl rfl hi1 rfl rfl ?_
        rw [D_getD (by decide) x (i + 1)]
        refine AWo.pure (PureOp.remN (a := x / 4294967296 ^ (i + 1) % 4294967296) (b := 2) rfl rfl (by omega)) rfl rfl ?_
        first | refine AWo.pure ((PureOp.mulU (b := 2147483648) 18446744073709551616 rfl rfl rfl rfl).mono (v' := vi .u64 (x / 4294967296 ^ (i + 1) % 4294967296 % 2 * 2147483648)) (congrArg (vi .u64) (Nat.mod_eq_of_lt (by omega)))) rfl rfl ?_ | refine AWo.pure ((PureOp.bin rfl rfl rfl).mono (v' := vi .u64 (x / 4294967296 ^ (i + 1) % 4294967296 % 2 * 2147483648)) (congrArg (vi .u64) (Nat.mod_eq_of_lt (by omega)))) rfl rfl ?_
        first | refine AWo.pure ((PureOp.addU 18446744073709551616 rfl rfl rfl rfl).mono (v' := vi .u64 (x / 4294967296 ^ i % 4294967296 / 2 + x / 4294967296 ^ (i + 1) % 4294967296 % 2 * 2147483648)) (congrArg (vi .u64) (Nat.mod_eq_of_lt (by omega)))) rfl rfl ?_ | refine AWo.pure ((PureOp.bin rfl rfl rfl).mono (v' := vi .u64 (x / 4294967296 ^ i % 4294967296 / 2 + x / 4294967296 ^ (i + 1) % 4294967296 % 2 * 2147483648)) (congrArg (vi .u64) (Nat.mod_eq_of_lt (by omega)))) rfl rfl ?_
        refine yP (PureOp.idx1 tbok (j := i) rfl rfl rfl rfl hi) ?_
        refine AWo.storeM (f := (vi .u64)) tbok rfl rfl rfl rfl (by rw [List.length_set, hst_len]; exact hi) rfl rfl ?_
        rw [List.set_set, hst_set hi (half_dig x i)]
        refine AWo.nil (by kernel_rfl) ?_
        refine inBlockA_normal ?_
        refine thenA_normal ?_
        refine AW.region ?_
        refine AWo.pure (PureOp.move rfl) rfl rfl ?_
        first | refine AWo.pure (PureOp.addI (b := 1) rfl rfl (by first | decide | omega)) rfl rfl ?_ | refine AWo.pure (PureOp.bin rfl rfl rfl) rfl rfl ?_
        refine AWo.pure (PureOp.assign rfl) rfl rfl ?_
        refine AWo.nil trivial ?_
        refine thenA_normal ?_
        refine ⟨(D 4294967296 x).length - (i + 1), [], _, by omega, ?_, i + 1, by omega, rfl, rfl⟩
        refine Wk.of [88000, 77000] ?_ ?_ ?_ (by decide) rfl
        ·
          refine WkE.upd rfl (by first | exact VR.flat _ rfl | exact VR.eqv (vp_succ _) rfl | exact VR.eqv (vp_succ _).symm rfl | exact VR.eqv (by first | rfl | (congr 1; omega) | (simp; done) | (simp; omega)) rfl) ?_
          refine WkE.upd rfl (.slice (77000) 0 _ 0 ⟨_, rfl⟩ (by simp) (by simp)) ?_
          refine WkE.upd rfl (.slice (88000) 0 _ 0 ⟨_, rfl⟩ (by simp) (by simp)) ?_
          exact WkE.emp
        ·
          refine WkM.flatM rfl (by first | rfl | exact hst_zero x) flat_vi (fun h => h) ?_
          refine WkM.flat rfl (flatM flat_vi) (fun h => h) ?_
          exact WkM.emp
        ·
          repeat (refine dom_upd_mem (by decide) ?_)
          exact dom_emp
      ·
        have hi1 : ¬ i + 1 < (D 4294967296 x).length := by simpa using hb1
        rw [hst_set hi (half_last hi1)]
        refine AW.skip ?_
        refine inBlockA_normal ?_
        refine thenA_normal ?_
        refine AW.region ?_
        refine AWo.pure (PureOp.move rfl) rfl rfl ?_
        first | refine AWo.pure (PureOp.addI (b := 1) rfl rfl (by first | decide | omega)) rfl rfl ?_ | refine AWo.pure (PureOp.bin rfl rfl rfl) rfl rfl ?_
        refine AWo.pure (PureOp.assign rfl) rfl rfl ?_
        refine AWo.nil trivial ?_
        refine thenA_normal ?_
        refine ⟨(D 4294967296 x).length - (i + 1), [], _, by omega, ?_, i + 1, by omega, rfl, rfl⟩
        refine Wk.of [88000, 77000] ?_ ?_ ?_ (by decide) rfl
        ·
          refine WkE.upd rfl (by first | exact VR.flat _ rfl | exact VR.eqv (vp_succ _) rfl | exact VR.eqv (vp_succ _).symm rfl | exact VR.eqv (by first | rfl | (congr 1; omega) | (simp; done) | (simp; omega)) rfl) ?_
          refine WkE.upd rfl (.slice (77000) 0 _ 0 ⟨_, rfl⟩ (by simp) (by simp)) ?_
          refine WkE.upd rfl (.slice (88000) 0 _ 0 ⟨_, rfl⟩ (by simp) (by simp)) ?_
          exact WkE.emp
        ·
          refine WkM.flatM rfl (by first | rfl | exact hst_zero x) flat_vi (fun h => h) ?_
          refine WkM.flat rfl (flatM flat_vi) (fun h => h) ?_
          exact WkM.emp
        ·
          repeat (refine dom_upd_mem (by decide) ?_)
          exact dom_emp
    ·
      obtain rfl : i = (D 4294967296 x).length := by simp at hb0; omega
      refine AW.exit ?_
      refine thenA_exit ?_
      refine thenA_exit ?_
      refine inBlockA_hit ?_
      refine thenA_normal ?_
      refine AW.freeze 3 77000 ((hst x (D 4294967296 x).length).map (vi .u64)) ?_ rfl rfl (cloM fun _ => rfl) (by simp [hst_len]) (by rw [List.drop_zero]; exact List.take_of_length_le (by simp [hst_len]))
      refine AW.seqR ?_
      refine AWo.pure (PureOp.move rfl) rfl rfl ?_
      refine AWo.callX (v := dd (x / 2)) (triml (l := hst x (D 4294967296 x).length) (n := (D 4294967296 x).length) (hst_bd x _) (hst_len x _) (by omega)) bd89 [] [] rfl (.cons rfl .nil) rfl (.cons rfl rfl .nil) .nil rfl .nil frN (by decide) (.cons rfl rfl .nil) (by rw [hst_num]; rfl) rfl rfl rfl ?_
      refine AWo.pure (PureOp.assign rfl) rfl rfl ?_
      refine AWo.nil trivial ?_
      refine AW.ret ?_
      refine RetQ.gc [_] [] [.tmp 2] (.inl rfl) rfl (.tmp rfl .nil) rfl (.cons rfl rfl .nil) trivial (by decide) rfl
theorem square_ctr {A : Nat} (h0 : 0 < A) (hA : A < PG) : GC Try.prog 102 [dd A] [] [.bool (decide (Jac.ng A PG = 0))] [] := by
  refine GC.intro Try.func102 rfl (by show 1 ≤ 54; decide) (by first | exact Nat.le_refl _ | decide | simp) ?_
  refine AW.seqR ?_
  refine AWo.pure (PureOp.assign rfl) rfl rfl ?_
  refine AWo.nil trivial ?_
  refine AW.seqR ?_
  refine AWo.callX (p04_ctr) bd91 [] [] rfl .nil rfl .nil .nil rfl .nil frN (by decide) (.cons rfl rfl .nil) rfl rfl rfl rfl ?_
  refine AWo.pure (PureOp.assign rfl) rfl rfl ?_
  refine AWo.nil trivial ?_
  refine AW.seqR ?_
  refine AWo.pure (PureOp.assign rfl) rfl rfl ?_
  refine AWo.nil trivial ?_
  refine AW.seq ?_
  refine AW.block ?_
  refine AW.loopw (fun mm σ => ∃ a, ∃ m, ∃ s, (SqI A a m s) ∧ mm = 1 * (a + m) ∧ σ = ⟨(upd (upd (upd emp 0 (dd a)) 3 (dd m)) 4 (.bool s)), emp⟩) (fm := []) ?_ ⟨A, PG, true, sq_start h0 hA, rfl, rfl⟩ ?_
  ·
    refine Wk.of [] ?_ ?_ ?_ (by decide) rfl
    ·
      refine WkE.upd rfl (by first | exact VR.flat _ rfl | exact VR.eqv (vp_succ _) rfl | exact VR.eqv (vp_succ _).symm rfl | exact VR.eqv (by first | rfl | (congr 1; omega) | (simp; done) | (simp; omega)) rfl) ?_
      refine WkE.upd rfl (clo_refl (by simp) rfl) ?_
      refine WkE.upd rfl (clo_refl (by simp) rfl) ?_
      exact WkE.emp
    ·
      exact WkM.emp
    ·
      repeat (refine dom_upd_mem (by decide) ?_)
      exact dom_emp
  ·
    rintro mm σ ⟨a, m, s, hI, rfl, rfl⟩
    refine AW.seq ?_
    refine AW.seqR ?_
    refine AWo.pure (PureOp.move rfl) rfl rfl ?_
    first | refine AWo.pure (PureOp.lenS tbok rfl rfl) rfl rfl ?_ | refine AWo.pure (PureOp.lenD tbok rfl rfl) rfl rfl ?_
    first | refine AWo.pure (PureOp.gtN (b := 0) rfl rfl) rfl rfl ?_ | refine AWo.pure (PureOp.bin rfl rfl rfl) rfl rfl ?_
    refine AWo.nil trivial ?_
    refine AW.cond rfl (fun hb0 => ?_) (fun hb0 => ?_)
    ·
      have ha0 : 0 < a := dlq (by simpa using hb0)
      refine AW.skip ?_
      refine thenA_normal ?_
      refine AW.block ?_
      refine AW.seq ?_
      refine AW.block ?_
      refine AW.loopw (fun mm σ => ∃ c, ∃ u, (SqI A c m u ∧ 0 < c ∧ c ≤ a) ∧ mm = 1 * c ∧ σ = ⟨(upd (upd (upd emp 0 (dd c)) 3 (dd m)) 4 (.bool u)), emp⟩) (fm := []) ?_ ⟨a, s, ⟨hI, ha0, Nat.le_refl _⟩, rfl, rfl⟩ ?_
      ·
        refine Wk.of [] ?_ ?_ ?_ (by decide) rfl
        ·
          refine WkE.upd rfl (by first | exact VR.flat _ rfl | exact VR.eqv (vp_succ _) rfl | exact VR.eqv (vp_succ _).symm rfl | exact VR.eqv (by first | rfl | (congr 1; omega) | (simp; done) | (simp; omega)) rfl) ?_
          refine WkE.upd rfl (clo_refl (by simp) rfl) ?_
          refine WkE.upd rfl (clo_refl (by simp) rfl) ?_
          exact WkE.emp
        ·
          exact WkM.emp
        ·
          repeat (refine dom_upd_mem (by decide) ?_)
          exact dom_emp
      ·
        rintro mm σ ⟨c, u, ⟨hI, hc0, hca⟩, rfl, rfl⟩
        have hm0 := hI.m0
        refine AW.seq ?_
        refine AW.seqR ?_
        refine AWo.pureX 10000 (n := (D 4294967296 c).length) (es := 1) (cells := (D 4294967296 c).map (vi .u64)) (PureOp.move rfl) rfl rfl rfl ?_
        refine yP (PureOp.idx1 tbok (j := 0) rfl rfl rfl rfl (dlp hc0)) ?_
        refine AWo.loadM tbok 0 rfl rfl rfl (dlp hc0) rfl rfl ?_
        rw [D_getD (by decide) c 0, Nat.pow_zero, Nat.div_one]
        refine AWo.pure (PureOp.remN (a := c % 4294967296) (b := 2) rfl rfl (by omega)) rfl rfl ?_
        first | refine AWo.pure (PureOp.eqN (b := 0) rfl rfl) rfl rfl ?_ | refine AWo.pure (PureOp.bin rfl rfl rfl) rfl rfl ?_
        refine AWo.nil trivial ?_
        refine AW.cond rfl (fun hb1 => ?_) (fun hb1 => ?_)
        ·
          have he : c % 2 = 0 := by have := of_decide_eq_true hb1; omega
          refine AW.skip ?_
          refine thenA_normal ?_
          refine AW.block ?_
          refine AW.seqR ?_
          refine AWo.pure (PureOp.move rfl) rfl rfl ?_
          refine AWo.callX (half_ctr (x := c) (dlb hI.ab)) bd131 [] [] rfl (.cons rfl .nil) rfl (.cons rfl rfl .nil) .nil rfl .nil frN (by decide) (.cons rfl rfl .nil) rfl rfl rfl rfl ?_
          refine AWo.pure (PureOp.assign rfl) rfl rfl ?_
          refine AWo.nil trivial ?_
          refine AW.seqR ?_
          refine AWo.pureX 17000 (n := (D 4294967296 m).length) (es := 1) (cells := (D 4294967296 m).map (vi .u64)) (PureOp.move rfl) rfl rfl rfl ?_
          refine yP (PureOp.idx1 tbok (j := 0) rfl rfl rfl rfl (dlp hm0)) ?_
          refine AWo.loadM tbok 0 rfl rfl rfl (dlp hm0) rfl rfl ?_
          rw [D_getD (by decide) m 0, Nat.pow_zero, Nat.div_one]
          refine AWo.pure (PureOp.remN (a := m % 4294967296) (b := 8) rfl rfl (by omega)) rfl rfl ?_
          first | refine AWo.pureB (PureOp.eqN (b := 3) rfl rfl) rfl rfl (fun hb2 => ?_) (fun hb2 => ?_) | refine AWo.pureB (PureOp.bin rfl rfl rfl) rfl rfl (fun hb2 => ?_) (fun hb2 => ?_)
          ·
            have h8 : m % 8 = 3 ∨ m % 8 = 5 := by have := of_decide_eq_true hb2; omega
            refine AWo.pure (PureOp.move rfl) rfl rfl ?_
            refine AWo.skipped rfl rfl ?_
            refine AWo.skipped rfl rfl ?_
            refine AWo.skipped rfl rfl ?_
            refine AWo.skipped rfl rfl ?_
            refine AWo.skipped rfl rfl ?_
            refine AWo.pure (PureOp.pickT rfl rfl) rfl rfl ?_
            refine AWo.nil trivial ?_
            refine AW.condT rfl ?_
            refine AW.region ?_
            refine AWo.pure (PureOp.move rfl) rfl rfl ?_
            refine AWo.pure (PureOp.not rfl) rfl rfl ?_
            refine AWo.pure (PureOp.assign rfl) rfl rfl ?_
            refine AWo.nil trivial ?_
            refine inBlockA_normal ?_
            refine thenA_normal ?_
            refine ⟨1 * (c / 2), [], _, by omega, ?_, c / 2, (!u), ⟨hI.half he h8, by omega, by omega⟩, rfl, rfl⟩
            refine Wk.of [] ?_ ?_ ?_ (by decide) rfl
            ·
              refine WkE.upd rfl (by first | exact VR.flat _ rfl | exact VR.eqv (vp_succ _) rfl | exact VR.eqv (vp_succ _).symm rfl | exact VR.eqv (by first | rfl | (congr 1; omega) | (simp; done) | (simp; omega)) rfl) ?_
              refine WkE.upd rfl (clo_refl (by simp) rfl) ?_
              refine WkE.upd rfl (clo_refl (by simp) rfl) ?_
              exact WkE.emp
            ·
              exact WkM.emp
            ·
              repeat (refine dom_upd_mem (by decide) ?_)
              exact dom_emp
          ·
            have h83 : ¬ m % 8 = 3 := by have := of_decide_eq_false hb2; omega
            refine AWo.pure (PureOp.move rfl) rfl rfl ?_
            refine AWo.pureX 23000 (n := (D 4294967296 m).length) (es := 1) (cells := (D 4294967296 m).map (vi .u64)) (PureOp.move rfl) rfl rfl rfl ?_
            refine yP (PureOp.idx1 tbok (j := 0) rfl rfl rfl rfl (dlp hm0)) ?_
            refine AWo.loadM tbok 0 rfl rfl rfl (dlp hm0) rfl rfl ?_
            rw [D_getD (by decide) m 0, Nat.pow_zero, Nat.div_one]
            refine AWo.pure (PureOp.remN (a := m % 4294967296) (b := 8) rfl rfl (by omega)) rfl rfl ?_
            first | refine AWo.pure (PureOp.eqN (b := 5) rfl rfl) rfl rfl ?_ | refine AWo.pure (PureOp.bin rfl rfl rfl) rfl rfl ?_
            refine AWo.pure (PureOp.pickF rfl rfl) rfl rfl ?_
            refine AWo.nil trivial ?_
            refine AW.cond rfl (fun hb3 => ?_) (fun hb3 => ?_)
            ·
              have h8 : m % 8 = 3 ∨ m % 8 = 5 := by have := of_decide_eq_true hb3; omega
              refine AW.region ?_
              refine AWo.pure (PureOp.move rfl) rfl rfl ?_
              refine AWo.pure (PureOp.not rfl) rfl rfl ?_
              refine AWo.pure (PureOp.assign rfl) rfl rfl ?_
              refine AWo.nil trivial ?_
              refine inBlockA_normal ?_
              refine thenA_normal ?_
              refine ⟨1 * (c / 2), [], _, by omega, ?_, c / 2, (!u), ⟨hI.half he h8, by omega, by omega⟩, rfl, rfl⟩
              refine Wk.of [] ?_ ?_ ?_ (by decide) rfl
              ·
                refine WkE.upd rfl (by first | exact VR.flat _ rfl | exact VR.eqv (vp_succ _) rfl | exact VR.eqv (vp_succ _).symm rfl | exact VR.eqv (by first | rfl | (congr 1; omega) | (simp; done) | (simp; omega)) rfl) ?_
                refine WkE.upd rfl (clo_refl (by simp) rfl) ?_
                refine WkE.upd rfl (clo_refl (by simp) rfl) ?_
                exact WkE.emp
              ·
                exact WkM.emp
              ·
                repeat (refine dom_upd_mem (by decide) ?_)
                exact dom_emp
            ·
              have h85 : ¬ m % 8 = 5 := by have := of_decide_eq_false hb3; omega
              refine AW.skip ?_
              refine inBlockA_normal ?_
              refine thenA_normal ?_
              refine ⟨1 * (c / 2), [], _, by omega, ?_, c / 2, u, ⟨hI.half' he h83 h85, by omega, by omega⟩, rfl, rfl⟩
              refine Wk.of [] ?_ ?_ ?_ (by decide) rfl
              ·
                refine WkE.upd rfl (by first | exact VR.flat _ rfl | exact VR.eqv (vp_succ _) rfl | exact VR.eqv (vp_succ _).symm rfl | exact VR.eqv (by first | rfl | (congr 1; omega) | (simp; done) | (simp; omega)) rfl) ?_
                refine WkE.upd rfl (clo_refl (by simp) rfl) ?_
                refine WkE.upd rfl (clo_refl (by simp) rfl) ?_
                exact WkE.emp
              ·
                exact WkM.emp
              ·
                repeat (refine dom_upd_mem (by decide) ?_)
                exact dom_emp
        ·
          have hodd : c % 2 = 1 := by have := of_decide_eq_false hb1; omega
          refine AW.exit ?_
          refine thenA_exit ?_
          refine thenA_exit ?_
          refine inBlockA_hit ?_
          refine thenA_normal ?_
          refine AW.seq ?_
          refine AW.seqR ?_
          refine AWo.pure (PureOp.move rfl) rfl rfl ?_
          refine AWo.pure (PureOp.move rfl) rfl rfl ?_
          refine AWo.callX (cmpd (x := c) (y := m) (dlb hI.ab) (dlb hI.mb)) bd97 [] [] rfl (.cons rfl (.cons rfl .nil)) rfl (.cons rfl rfl (.cons rfl rfl .nil)) .nil rfl .nil frN (by decide) (.cons rfl rfl .nil) rfl rfl rfl rfl ?_
          first | refine AWo.pure ((PureOp.ltN (b := 0) rfl rfl).mono (v' := .bool (decide (c < m))) (congrArg Value.bool cmp_neg)) rfl rfl ?_ | refine AWo.pure ((PureOp.bin rfl rfl rfl).mono (v' := .bool (decide (c < m))) (congrArg Value.bool cmp_neg)) rfl rfl ?_
          refine AWo.nil trivial ?_
          refine AW.cond rfl (fun hb4 => ?_) (fun hb4 => ?_)
          ·
            have h33 : c < m := of_decide_eq_true hb4
            refine AW.seq ?_
            refine AW.seqR ?_
            refine AWo.pureX 35000 (n := (D 4294967296 c).length) (es := 1) (cells := (D 4294967296 c).map (vi .u64)) (PureOp.move rfl) rfl rfl rfl ?_
            refine yP (PureOp.idx1 tbok (j := 0) rfl rfl rfl rfl (dlp hc0)) ?_
            refine AWo.loadM tbok 0 rfl rfl rfl (dlp hc0) rfl rfl ?_
            rw [D_getD (by decide) c 0, Nat.pow_zero, Nat.div_one]
            refine AWo.pure (PureOp.remN (a := c % 4294967296) (b := 4) rfl rfl (by omega)) rfl rfl ?_
            first | refine AWo.pureB (PureOp.eqN (b := 3) rfl rfl) rfl rfl (fun hb5 => ?_) (fun hb5 => ?_) | refine AWo.pureB (PureOp.bin rfl rfl rfl) rfl rfl (fun hb5 => ?_) (fun hb5 => ?_)
            ·
              have h4 : c % 4 = 3 := by have := of_decide_eq_true hb5; omega
              refine AWo.pure (PureOp.move rfl) rfl rfl ?_
              refine AWo.pureX 41000 (n := (D 4294967296 m).length) (es := 1) (cells := (D 4294967296 m).map (vi .u64)) (PureOp.move rfl) rfl rfl rfl ?_
              refine yP (PureOp.idx1 tbok (j := 0) rfl rfl rfl rfl (dlp hm0)) ?_
              refine AWo.loadM tbok 0 rfl rfl rfl (dlp hm0) rfl rfl ?_
              rw [D_getD (by decide) m 0, Nat.pow_zero, Nat.div_one]
              refine AWo.pure (PureOp.remN (a := m % 4294967296) (b := 4) rfl rfl (by omega)) rfl rfl ?_
              first | refine AWo.pure (PureOp.eqN (b := 3) rfl rfl) rfl rfl ?_ | refine AWo.pure (PureOp.bin rfl rfl rfl) rfl rfl ?_
              refine AWo.pure (PureOp.pickT rfl rfl) rfl rfl ?_
              refine AWo.nil trivial ?_
              refine AW.cond rfl (fun hb6 => ?_) (fun hb6 => ?_)
              ·
                have h44 : m % 4 = 3 := by have := of_decide_eq_true hb6; omega
                refine AW.region ?_
                refine AWo.pure (PureOp.move rfl) rfl rfl ?_
                refine AWo.pure (PureOp.not rfl) rfl rfl ?_
                refine AWo.pure (PureOp.assign rfl) rfl rfl ?_
                refine AWo.nil trivial ?_
                refine thenA_normal ?_
                refine AW.region ?_
                refine AWo.pure (PureOp.move rfl) rfl rfl ?_
                refine AWo.pure (PureOp.move rfl) rfl rfl ?_
                refine AWo.pure (PureOp.assign rfl) rfl rfl ?_
                refine AWo.pure (PureOp.assign rfl) rfl rfl ?_
                refine AWo.nil trivial ?_
                refine thenA_normal ?_
                refine AW.region ?_
                refine AWo.pure (PureOp.move rfl) rfl rfl ?_
                refine AWo.pure (PureOp.move rfl) rfl rfl ?_
                refine AWo.callX (subd (x := m) (y := c) (dlb hI.mb) (dlb hI.ab) (Nat.le_of_lt h33)) bd27 [] [] rfl (.cons rfl (.cons rfl .nil)) rfl (.cons rfl rfl (.cons rfl rfl .nil)) .nil rfl .nil frN (by decide) (.cons rfl rfl .nil) rfl rfl rfl rfl ?_
                refine AWo.pure (PureOp.assign rfl) rfl rfl ?_
                refine AWo.nil trivial ?_
                refine inBlockA_normal ?_
                refine thenA_normal ?_
                refine ⟨1 * (m - c + c), [], _, by have := hI.m0; omega, ?_, m - c, c, (!u), hI.swap h33 hodd (by omega) (by omega), rfl, rfl⟩
                refine Wk.of [] ?_ ?_ ?_ (by decide) rfl
                ·
                  refine WkE.upd rfl (by first | exact VR.flat _ rfl | exact VR.eqv (vp_succ _) rfl | exact VR.eqv (vp_succ _).symm rfl | exact VR.eqv (by first | rfl | (congr 1; omega) | (simp; done) | (simp; omega)) rfl) ?_
                  refine WkE.upd rfl (clo_refl (by simp) rfl) ?_
                  refine WkE.upd rfl (clo_refl (by simp) rfl) ?_
                  exact WkE.emp
                ·
                  exact WkM.emp
                ·
                  repeat (refine dom_upd_mem (by decide) ?_)
                  exact dom_emp
              ·
                have h4 : ¬ (c % 4 = 3 ∧ m % 4 = 3) := by have := of_decide_eq_false hb6; omega
                refine AW.skip ?_
                refine thenA_normal ?_
                refine AW.region ?_
                refine AWo.pure (PureOp.move rfl) rfl rfl ?_
                refine AWo.pure (PureOp.move rfl) rfl rfl ?_
                refine AWo.pure (PureOp.assign rfl) rfl rfl ?_
                refine AWo.pure (PureOp.assign rfl) rfl rfl ?_
                refine AWo.nil trivial ?_
                refine thenA_normal ?_
                refine AW.region ?_
                refine AWo.pure (PureOp.move rfl) rfl rfl ?_
                refine AWo.pure (PureOp.move rfl) rfl rfl ?_
                refine AWo.callX (subd (x := m) (y := c) (dlb hI.mb) (dlb hI.ab) (Nat.le_of_lt h33)) bd27 [] [] rfl (.cons rfl (.cons rfl .nil)) rfl (.cons rfl rfl (.cons rfl rfl .nil)) .nil rfl .nil frN (by decide) (.cons rfl rfl .nil) rfl rfl rfl rfl ?_
                refine AWo.pure (PureOp.assign rfl) rfl rfl ?_
                refine AWo.nil trivial ?_
                refine inBlockA_normal ?_
                refine thenA_normal ?_
                refine ⟨1 * (m - c + c), [], _, by have := hI.m0; omega, ?_, m - c, c, u, hI.swap' h33 hodd (by omega), rfl, rfl⟩
                refine Wk.of [] ?_ ?_ ?_ (by decide) rfl
                ·
                  refine WkE.upd rfl (by first | exact VR.flat _ rfl | exact VR.eqv (vp_succ _) rfl | exact VR.eqv (vp_succ _).symm rfl | exact VR.eqv (by first | rfl | (congr 1; omega) | (simp; done) | (simp; omega)) rfl) ?_
                  refine WkE.upd rfl (clo_refl (by simp) rfl) ?_
                  refine WkE.upd rfl (clo_refl (by simp) rfl) ?_
                  exact WkE.emp
                ·
                  exact WkM.emp
                ·
                  repeat (refine dom_upd_mem (by decide) ?_)
                  exact dom_emp
            ·
              have h4 : ¬ (c % 4 = 3 ∧ m % 4 = 3) := by have := of_decide_eq_false hb5; omega
              refine AWo.pure (PureOp.move rfl) rfl rfl ?_
              refine AWo.skipped rfl rfl ?_
              refine AWo.skipped rfl rfl ?_
              refine AWo.skipped rfl rfl ?_
              refine AWo.skipped rfl rfl ?_
              refine AWo.skipped rfl rfl ?_
              refine AWo.pure (PureOp.pickF rfl rfl) rfl rfl ?_
              refine AWo.nil trivial ?_
              refine AW.condF rfl ?_
              refine AW.skip ?_
              refine thenA_normal ?_
              refine AW.region ?_
              refine AWo.pure (PureOp.move rfl) rfl rfl ?_
              refine AWo.pure (PureOp.move rfl) rfl rfl ?_
              refine AWo.pure (PureOp.assign rfl) rfl rfl ?_
              refine AWo.pure (PureOp.assign rfl) rfl rfl ?_
              refine AWo.nil trivial ?_
              refine thenA_normal ?_
              refine AW.region ?_
              refine AWo.pure (PureOp.move rfl) rfl rfl ?_
              refine AWo.pure (PureOp.move rfl) rfl rfl ?_
              refine AWo.callX (subd (x := m) (y := c) (dlb hI.mb) (dlb hI.ab) (Nat.le_of_lt h33)) bd27 [] [] rfl (.cons rfl (.cons rfl .nil)) rfl (.cons rfl rfl (.cons rfl rfl .nil)) .nil rfl .nil frN (by decide) (.cons rfl rfl .nil) rfl rfl rfl rfl ?_
              refine AWo.pure (PureOp.assign rfl) rfl rfl ?_
              refine AWo.nil trivial ?_
              refine inBlockA_normal ?_
              refine thenA_normal ?_
              refine ⟨1 * (m - c + c), [], _, by have := hI.m0; omega, ?_, m - c, c, u, hI.swap' h33 hodd (by omega), rfl, rfl⟩
              refine Wk.of [] ?_ ?_ ?_ (by decide) rfl
              ·
                refine WkE.upd rfl (by first | exact VR.flat _ rfl | exact VR.eqv (vp_succ _) rfl | exact VR.eqv (vp_succ _).symm rfl | exact VR.eqv (by first | rfl | (congr 1; omega) | (simp; done) | (simp; omega)) rfl) ?_
                refine WkE.upd rfl (clo_refl (by simp) rfl) ?_
                refine WkE.upd rfl (clo_refl (by simp) rfl) ?_
                exact WkE.emp
              ·
                exact WkM.emp
              ·
                repeat (refine dom_upd_mem (by decide) ?_)
                exact dom_emp
          ·
            have h33 : m ≤ c := Nat.le_of_not_lt (of_decide_eq_false hb4)
            refine AW.skip ?_
            refine thenA_normal ?_
            refine AW.region ?_
            refine AWo.pure (PureOp.move rfl) rfl rfl ?_
            refine AWo.pure (PureOp.move rfl) rfl rfl ?_
            refine AWo.callX (subd (x := c) (y := m) (dlb hI.ab) (dlb hI.mb) h33) bd27 [] [] rfl (.cons rfl (.cons rfl .nil)) rfl (.cons rfl rfl (.cons rfl rfl .nil)) .nil rfl .nil frN (by decide) (.cons rfl rfl .nil) rfl rfl rfl rfl ?_
            refine AWo.pure (PureOp.assign rfl) rfl rfl ?_
            refine AWo.nil trivial ?_
            refine inBlockA_normal ?_
            refine thenA_normal ?_
            refine ⟨1 * (c - m + m), [], _, by have := hI.m0; omega, ?_, c - m, m, u, hI.sub h33, rfl, rfl⟩
            refine Wk.of [] ?_ ?_ ?_ (by decide) rfl
            ·
              refine WkE.upd rfl (by first | exact VR.flat _ rfl | exact VR.eqv (vp_succ _) rfl | exact VR.eqv (vp_succ _).symm rfl | exact VR.eqv (by first | rfl | (congr 1; omega) | (simp; done) | (simp; omega)) rfl) ?_
              refine WkE.upd rfl (clo_refl (by simp) rfl) ?_
              refine WkE.upd rfl (clo_refl (by simp) rfl) ?_
              exact WkE.emp
            ·
              exact WkM.emp
            ·
              repeat (refine dom_upd_mem (by decide) ?_)
              exact dom_emp
    ·
      obtain rfl : a = 0 := dlz (by simpa using hb0)
      rw [← hI.fin]
      refine AW.exit ?_
      refine thenA_exit ?_
      refine thenA_exit ?_
      refine inBlockA_hit ?_
      refine thenA_normal ?_
      refine AW.seqR ?_
      refine AWo.pure (PureOp.move rfl) rfl rfl ?_
      refine AWo.pure (PureOp.assign rfl) rfl rfl ?_
      refine AWo.nil trivial ?_
      refine AW.ret ?_
      refine RetQ.gc [_] [] [.tmp 2] (.inl rfl) rfl (.tmp rfl .nil) rfl (.cons rfl rfl .nil) trivial (by decide) rfl
end Go.Proofs.Ytpahdiljpnfkdaa
namespace Go.Proofs.Ytpahdiljpnfkdaa
open Go Sim
def gmem (b : List Nat) : Prop := b.length = 96 ∧ num 256 b < PG ∧ num 256 b ^ QG % PG = 1
noncomputable instance (b : List Nat) : Decidable (gmem b) := Classical.propDecidable _
noncomputable def gx (b : List Nat) : Nat := if gmem b then num 256 b else 0
noncomputable def gc (b : List Nat) : Int := if gmem b then 0 else if b.length = 96 then 4 else 1
theorem gx_lt (b : List Nat) : gx b < 18446744073709551616 ^ 12 := by
  unfold gx; split
  · rename_i h; exact Nat.lt_trans h.2.1 rn_p.lt
  · exact Nat.pow_pos (by decide)
theorem gc_ok {b : List Nat} (h : gc b = 0) : gmem b := by
  unfold gc at h; split at h
  · assumption
  · split at h <;> cases h
theorem gx_bytes {b : List Nat} (hb : bd 256 b) (h : gmem b) : Sim.bstr b = Sim.bstr (digs 256 96 (gx b)) := by
  rw [gx, if_pos h, ← h.1, digs_num hb]
theorem zero_q : ¬ 0 ^ QG % PG = 1 := by
  rw [Nat.zero_pow (by decide +kernel)]; decide +kernel
theorem half_pg : (PG - 1) / 2 = QG := by decide +kernel
theorem sym_eq {x : Nat} (h0 : 0 < x) (h : x < PG) : Jac.ng x PG = 0 ↔ x ^ QG % PG = 1 := by
  have e := Jac.euler (show Irr PG from irr_P) rn_p.odd (a := x) (fun hd => absurd (Nat.le_of_dvd h0 hd) (Nat.not_le.2 h))
  rw [half_pg] at e
  rw [e]
  have hl := Jac.ng_lt x PG
  generalize Jac.ng x PG = s at *
  have h2 : s = 0 ∨ s = 1 := by omega
  rcases h2 with rfl | rfl
  · constructor
    · intro _; exact Nat.mod_eq_of_lt (by decide +kernel)
    · intro _; rfl
  · constructor
    · intro h; cases h
    · intro h; exact absurd h (by show ¬ (PG - 1) % PG = 1; decide +kernel)
theorem gRdE_ctr {b : List Nat} (hb : bd 256 b) (hne : rcW PG b ≠ 0) : GC Try.prog 41 [.slice (some ⟨0, 0, none⟩) b.length 0] [⟨b.map (vi .u8), false, 1⟩] [.agg ((digs 18446744073709551616 12 0).map (vi .u64)).toArray, .int .i64 (rcW PG b)] [⟨b.map (vi .u8), false, 1⟩] := by
  refine GC.intro Try.func41 rfl (by show 1 ≤ 31; decide) (by first | exact Nat.le_refl _ | decide | simp) ?_
  refine AW.seqR ?_
  refine AWo.alloc tbok 3000 1 _ rfl rfl rfl rfl rfl rfl ?_
  refine AWo.pure (PureOp.assign rfl) rfl rfl ?_
  refine AWo.nil trivial ?_
  refine AW.seqR ?_
  refine AWo.callX (groupW_ctr) bd38 [] [8000, 8001, 8002, 8003] rfl .nil rfl .nil .nil rfl (.new rfl (OkL.all rfl) (.new rfl (OkL.all rfl) (.new (flat_map_ren (flatM flat_vi)) (OkL.flat (flatM flat_vi)) (.new (flat_map_ren (flatM flat_vi)) (OkL.flat (flatM flat_vi)) .nil)))) (frC rfl (frC rfl (frC rfl (frC rfl frN)))) (by decide) (.cons rfl rfl .nil) rfl rfl rfl rfl ?_
  refine AWo.pure (PureOp.assign rfl) rfl rfl ?_
  refine AWo.nil trivial ?_
  refine AW.seqR ?_
  refine AWo.pure (PureOp.move rfl) rfl rfl ?_
  refine AWo.pure (PureOp.move rfl) rfl rfl ?_
  refine AWo.callX (readW_ctr rn_p hb) bd33 [(8000, 0), (8001, 0), (8002, 0), (8003, 0), (0, 0)] [] rfl (.cons rfl (.cons rfl .nil)) rfl (.cons rfl rfl (.cons rfl rfl .nil)) (.whole rfl rfl (OkL.all rfl) (by intro h; first | exact h | rfl) (.whole rfl rfl (OkL.all rfl) (by intro h; first | exact h | rfl) (.flat rfl (flatM flat_vi) (by intro h; first | exact h | rfl) (.flat rfl (flatM flat_vi) (by intro h; first | exact h | rfl) (.flat rfl (by first | exact flatM flat_vi | exact flatM flat_bool | (simp [flatV, flat_vi]; done)) (by intro h; first | exact h | rfl) .nil))))) rfl (.keep rfl (.keep rfl (.keep rfl (.keep rfl (.keep rfl .nil))))) frN (by decide) (.pure (by first | rfl | exact pure_aggM flat_vi | exact pure_aggM flat_bool) (.cons rfl rfl .nil)) rfl rfl rfl rfl ?_
  refine AWo.pure (PureOp.move rfl) rfl rfl ?_
  refine AWo.pure (PureOp.extract rfl rfl) rfl rfl ?_
  refine AWo.pure (PureOp.extract rfl rfl) rfl rfl ?_
  refine AWo.alloc tbok 6000 1 ((List.replicate 12 0).map (vi .u64)) rfl rfl rfl rfl rfl rfl ?_
  refine AWo.storeAllN tbok rfl rfl rfl rfl (by rw [List.length_map, digs_len]) (by first | rfl | (simp [digs_len]; done)) (oneM (fun _ => rfl) _) rfl ?_
  refine AWo.pure (PureOp.assign rfl) rfl rfl ?_
  refine AWo.nil trivial ?_
  refine AW.seq ?_
  refine AW.block ?_
  refine AW.seqR ?_
  refine AWo.pure (PureOp.move rfl) rfl rfl ?_
  first | refine AWo.pure ((PureOp.neN (b := 0) rfl rfl).mono (v' := .bool true) (congrArg Value.bool (by simp [hne]))) rfl rfl ?_ | refine AWo.pure ((PureOp.bin rfl rfl rfl).mono (v' := .bool true) (congrArg Value.bool (by simp [hne]))) rfl rfl ?_
  refine AWo.pure (PureOp.assign rfl) rfl rfl ?_
  refine AWo.nil trivial ?_
  refine AW.condT rfl ?_
  refine AW.seqR ?_
  refine yP ((PureOp.buildStruct [] pl56.choose_spec.1 zr56 (by decide) pl56.choose_spec.2 rfl rfl).mono (v' := .agg ((digs 18446744073709551616 12 0).map (vi .u64)).toArray) (by kernel_rfl)) ?_
  refine AWo.pure (PureOp.move rfl) rfl rfl ?_
  refine AWo.storeAllN tbok rfl rfl rfl rfl (by rw [List.length_map, digs_len]) (by first | rfl | (simp [digs_len]; done)) (oneM (fun _ => rfl) _) rfl ?_
  refine AWo.pure (PureOp.assign rfl) rfl rfl ?_
  refine AWo.nil trivial ?_
  refine AW.ret ?_
  refine inBlockA_ret ?_
  refine thenA_ret ?_
  refine RetQ.gc [_, _] [] [.cell 2 56, .tmp 3] (.inl rfl) rfl (.val (RVal.cellAll tbok rfl rfl rfl rfl (by first | (simp [*]; done) | rfl)) (.tmp rfl .nil)) rfl (.pure (by first | rfl | exact pure_aggM flat_vi | exact pure_aggM flat_bool) (.cons rfl rfl .nil)) (OutL.flat rfl (by first | exact flatM flat_vi | exact flatM flat_bool | (simp [flatV, flat_vi]; done)) (by intro h; first | rfl | exact h.elim id fun h => absurd h.1 (by simp)) trivial) (by decide) rfl
theorem gRead_ctr {b : List Nat} (hb : bd 256 b) : GC Try.prog 41 [.slice (some ⟨0, 0, none⟩) b.length 0] [⟨b.map (vi .u8), false, 1⟩] [.agg ((digs 18446744073709551616 12 (gx b)).map (vi .u64)).toArray, .int .i64 (gc b)] [⟨b.map (vi .u8), false, 1⟩] := by
  unfold gx gc
  by_cases hg : gmem b
  · rw [if_pos hg, if_pos hg]
    have h := gRdO_ctr hb hg.1 rfl hg.2.1 hg.2.2
    rw [← hg.1] at h
    exact h
  · rw [if_neg hg, if_neg hg]
    by_cases hl : b.length = 96
    · rw [if_pos hl]
      by_cases hlt : num 256 b < PG
      · have h := gRdN_ctr hb hl rfl hlt (fun hm => hg ⟨hl, hlt, hm⟩)
        rw [← hl] at h
        exact h
      · have e : rcW PG b = 4 := by rw [rcW, if_pos hl, if_neg hlt]
        have h := gRdE_ctr hb (by rw [e]; decide)
        rw [e] at h
        exact h
    · rw [if_neg hl]
      have e : rcW PG b = 1 := by rw [rcW, if_neg hl]
      have h := gRdE_ctr hb (by rw [e]; decide)
      rw [e] at h
      exact h
theorem rRdE_ctr {b : List Nat} (hb : bd 256 b) (hne : rcW PG b ≠ 0) : GC Try.prog 42 [.slice (some ⟨0, 0, none⟩) b.length 0] [⟨b.map (vi .u8), false, 1⟩] [dd 0, .int .i64 (rcW PG b)] [⟨b.map (vi .u8), false, 1⟩] := by
  refine GC.intro Try.func42 rfl (by show 1 ≤ 23; decide) (by first | exact Nat.le_refl _ | decide | simp) ?_
  refine AW.seqR ?_
  refine yP (PureOp.nilDeep 1) ?_
  rw [deep_dd0]
  refine AWo.pure (PureOp.assign rfl) rfl rfl ?_
  refine AWo.nil trivial ?_
  refine AW.seqR ?_
  refine AWo.pure (PureOp.move rfl) rfl rfl ?_
  refine AWo.callX (read4_ctr (g := true) hb) bd34 [(0, 0)] [] rfl (.cons rfl (.cons rfl .nil)) rfl (.cons rfl rfl (.cons rfl rfl .nil)) (.flat rfl (by first | exact flatM flat_vi | exact flatM flat_bool | (simp [flatV, flat_vi]; done)) (by intro h; first | exact h | rfl) .nil) rfl (.keep rfl .nil) frN (by decide) (.cons rfl rfl (.cons rfl rfl .nil)) rfl rfl rfl rfl ?_
  refine AWo.pure (PureOp.move rfl) rfl rfl ?_
  refine AWo.pure (PureOp.extract rfl rfl) rfl rfl ?_
  refine AWo.pure (PureOp.extract rfl rfl) rfl rfl ?_
  refine AWo.pure (PureOp.assign rfl) rfl rfl ?_
  refine AWo.pure (PureOp.assign rfl) rfl rfl ?_
  refine AWo.nil trivial ?_
  refine AW.seq ?_
  refine AW.seqR ?_
  refine AWo.pure (PureOp.move rfl) rfl rfl ?_
  first | refine AWo.pure ((PureOp.neN (b := 0) rfl rfl).mono (v' := .bool true) (congrArg Value.bool (by have h' : rcW (NG true) b ≠ 0 := hne; simpa using h'))) rfl rfl ?_ | refine AWo.pure ((PureOp.bin rfl rfl rfl).mono (v' := .bool true) (congrArg Value.bool (by have h' : rcW (NG true) b ≠ 0 := hne; simpa using h'))) rfl rfl ?_
  refine AWo.nil trivial ?_
  refine AW.condT rfl ?_
  refine AW.seqR ?_
  refine AWo.pure (PureOp.move rfl) rfl rfl ?_
  refine yP (PureOp.nilDeep 1) ?_
  rw [deep_dd0]
  refine AWo.pure (PureOp.assign rfl) rfl rfl ?_
  refine AWo.nil trivial ?_
  refine AW.ret ?_
  refine thenA_ret ?_
  refine RetQ.gc [_, _] [] [.tmp 2, .tmp 3] (.inl rfl) rfl (.tmp rfl (.tmp rfl .nil)) rfl (.cons rfl rfl (.cons rfl rfl .nil)) (OutL.flat rfl (by first | exact flatM flat_vi | exact flatM flat_bool | (simp [flatV, flat_vi]; done)) (by intro h; first | rfl | exact h.elim id fun h => absurd h.1 (by simp)) trivial) (by decide) rfl
theorem rRdO_ctr {b : List Nat} (hb : bd 256 b) (hl : b.length = 96) (hlt : num 256 b < PG) (h0 : 0 < num 256 b) (hsq : Jac.ng (num 256 b) PG = 0) : GC Try.prog 42 [.slice (some ⟨0, 0, none⟩) b.length 0] [⟨b.map (vi .u8), false, 1⟩] [dd (num 256 b), .int .i64 0] [⟨b.map (vi .u8), false, 1⟩] := by
  refine GC.intro Try.func42 rfl (by show 1 ≤ 23; decide) (by first | exact Nat.le_refl _ | decide | simp) ?_
  refine AW.seqR ?_
  refine yP (PureOp.nilDeep 1) ?_
  rw [deep_dd0]
  refine AWo.pure (PureOp.assign rfl) rfl rfl ?_
  refine AWo.nil trivial ?_
  refine AW.seqR ?_
  refine AWo.pure (PureOp.move rfl) rfl rfl ?_
  refine AWo.callX (rdO_ctr (g := true) hb hl hlt) bd34 [(0, 0)] [] rfl (.cons rfl (.cons rfl .nil)) rfl (.cons rfl rfl (.cons rfl rfl .nil)) (.flat rfl (by first | exact flatM flat_vi | exact flatM flat_bool | (simp [flatV, flat_vi]; done)) (by intro h; first | exact h | rfl) .nil) rfl (.keep rfl .nil) frN (by decide) (.cons rfl rfl (.cons rfl rfl .nil)) rfl rfl rfl rfl ?_
  refine AWo.pure (PureOp.move rfl) rfl rfl ?_
  refine AWo.pure (PureOp.extract rfl rfl) rfl rfl ?_
  refine AWo.pure (PureOp.extract rfl rfl) rfl rfl ?_
  refine AWo.pure (PureOp.assign rfl) rfl rfl ?_
  refine AWo.pure (PureOp.assign rfl) rfl rfl ?_
  refine AWo.nil trivial ?_
  refine AW.seq ?_
  refine AW.seqR ?_
  refine AWo.pure (PureOp.move rfl) rfl rfl ?_
  first | refine AWo.pure ((PureOp.neN (b := 0) rfl rfl).mono (v' := .bool false) (congrArg Value.bool (by rfl))) rfl rfl ?_ | refine AWo.pure ((PureOp.bin rfl rfl rfl).mono (v' := .bool false) (congrArg Value.bool (by rfl))) rfl rfl ?_
  refine AWo.nil trivial ?_
  refine AW.condF rfl ?_
  refine AW.skip ?_
  refine thenA_normal ?_
  refine AW.seq ?_
  refine AW.seqR ?_
  refine AWo.pure (PureOp.move rfl) rfl rfl ?_
  first | refine AWo.pure (PureOp.lenS tbok rfl rfl) rfl rfl ?_ | refine AWo.pure (PureOp.lenD tbok rfl rfl) rfl rfl ?_
  first | refine AWo.pure ((PureOp.eqN (b := 0) rfl rfl).mono (v' := .bool false) (congrArg Value.bool (by have := dlp h0; exact beq_eq_false_iff_ne.2 (by omega)))) rfl rfl ?_ | refine AWo.pure ((PureOp.bin rfl rfl rfl).mono (v' := .bool false) (congrArg Value.bool (by have := dlp h0; exact beq_eq_false_iff_ne.2 (by omega)))) rfl rfl ?_
  refine AWo.pure (PureOp.move rfl) rfl rfl ?_
  refine AWo.pure (PureOp.move rfl) rfl rfl ?_
  refine AWo.callX (v := .bool true) (square_ctr (A := num 256 b) h0 hlt) bd102 [] [] rfl (.cons rfl .nil) rfl (.cons rfl rfl .nil) .nil rfl .nil frN (by decide) (.cons rfl rfl .nil) (congrArg Value.bool (decide_eq_true hsq)) rfl rfl rfl ?_
  refine AWo.pure (PureOp.not rfl) rfl rfl ?_
  refine AWo.pure (PureOp.pickF rfl rfl) rfl rfl ?_
  refine AWo.nil trivial ?_
  refine AW.condF rfl ?_
  refine AW.skip ?_
  refine thenA_normal ?_
  refine AW.seqR ?_
  refine AWo.pure (PureOp.move rfl) rfl rfl ?_
  refine yA ?_
  refine AWo.pure (PureOp.assign rfl) rfl rfl ?_
  refine AWo.nil trivial ?_
  refine AW.ret ?_
  refine RetQ.gc [_, _] [] [.tmp 2, .tmp 3] (.inl rfl) rfl (.tmp rfl (.tmp rfl .nil)) rfl (.cons rfl rfl (.cons rfl rfl .nil)) (OutL.flat rfl (by first | exact flatM flat_vi | exact flatM flat_bool | (simp [flatV, flat_vi]; done)) (by intro h; first | rfl | exact h.elim id fun h => absurd h.1 (by simp)) trivial) (by decide) rfl
theorem rRdZ_ctr {b : List Nat} (hb : bd 256 b) (hl : b.length = 96) (hlt : num 256 b < PG) (h0 : num 256 b = 0) : GC Try.prog 42 [.slice (some ⟨0, 0, none⟩) b.length 0] [⟨b.map (vi .u8), false, 1⟩] [dd 0, .int .i64 4] [⟨b.map (vi .u8), false, 1⟩] := by
  refine GC.intro Try.func42 rfl (by show 1 ≤ 23; decide) (by first | exact Nat.le_refl _ | decide | simp) ?_
  refine AW.seqR ?_
  refine yP (PureOp.nilDeep 1) ?_
  rw [deep_dd0]
  refine AWo.pure (PureOp.assign rfl) rfl rfl ?_
  refine AWo.nil trivial ?_
  refine AW.seqR ?_
  refine AWo.pure (PureOp.move rfl) rfl rfl ?_
  refine AWo.callX (rdO_ctr (g := true) hb hl hlt) bd34 [(0, 0)] [] rfl (.cons rfl (.cons rfl .nil)) rfl (.cons rfl rfl (.cons rfl rfl .nil)) (.flat rfl (by first | exact flatM flat_vi | exact flatM flat_bool | (simp [flatV, flat_vi]; done)) (by intro h; first | exact h | rfl) .nil) rfl (.keep rfl .nil) frN (by decide) (.cons rfl rfl (.cons rfl rfl .nil)) rfl rfl rfl rfl ?_
  refine AWo.pure (PureOp.move rfl) rfl rfl ?_
  refine AWo.pure (PureOp.extract rfl rfl) rfl rfl ?_
  refine AWo.pure (PureOp.extract rfl rfl) rfl rfl ?_
  refine AWo.pure (PureOp.assign rfl) rfl rfl ?_
  refine AWo.pure (PureOp.assign rfl) rfl rfl ?_
  refine AWo.nil trivial ?_
  refine AW.seq ?_
  refine AW.seqR ?_
  refine AWo.pure (PureOp.move rfl) rfl rfl ?_
  first | refine AWo.pure ((PureOp.neN (b := 0) rfl rfl).mono (v' := .bool false) (congrArg Value.bool (by rfl))) rfl rfl ?_ | refine AWo.pure ((PureOp.bin rfl rfl rfl).mono (v' := .bool false) (congrArg Value.bool (by rfl))) rfl rfl ?_
  refine AWo.nil trivial ?_
  refine AW.condF rfl ?_
  refine AW.skip ?_
  refine thenA_normal ?_
  refine AW.seq ?_
  refine AW.seqR ?_
  refine AWo.pure (PureOp.move rfl) rfl rfl ?_
  first | refine AWo.pure (PureOp.lenS tbok rfl rfl) rfl rfl ?_ | refine AWo.pure (PureOp.lenD tbok rfl rfl) rfl rfl ?_
  first | refine AWo.pure ((PureOp.eqN (b := 0) rfl rfl).mono (v' := .bool true) (congrArg Value.bool (by rw [h0]; rfl))) rfl rfl ?_ | refine AWo.pure ((PureOp.bin rfl rfl rfl).mono (v' := .bool true) (congrArg Value.bool (by rw [h0]; rfl))) rfl rfl ?_
  refine AWo.pure (PureOp.move rfl) rfl rfl ?_
  refine AWo.skipped rfl rfl ?_
  refine AWo.skipped rfl rfl ?_
  refine AWo.skipped rfl rfl ?_
  refine AWo.pure (PureOp.pickT rfl rfl) rfl rfl ?_
  refine AWo.nil trivial ?_
  refine AW.condT rfl ?_
  refine AW.seqR ?_
  refine yP (PureOp.nilDeep 1) ?_
  rw [deep_dd0]
  refine AWo.pure (PureOp.assign rfl) rfl rfl ?_
  refine AWo.nil trivial ?_
  refine AW.ret ?_
  refine thenA_ret ?_
  refine RetQ.gc [_, _] [] [.tmp 2, .tmp 3] (.inl rfl) rfl (.tmp rfl (.tmp rfl .nil)) rfl (.cons rfl rfl (.cons rfl rfl .nil)) (OutL.flat rfl (by first | exact flatM flat_vi | exact flatM flat_bool | (simp [flatV, flat_vi]; done)) (by intro h; first | rfl | exact h.elim id fun h => absurd h.1 (by simp)) trivial) (by decide) rfl
theorem rRdN_ctr {b : List Nat} (hb : bd 256 b) (hl : b.length = 96) (hlt : num 256 b < PG) (h0 : 0 < num 256 b) (hsq : ¬ Jac.ng (num 256 b) PG = 0) : GC Try.prog 42 [.slice (some ⟨0, 0, none⟩) b.length 0] [⟨b.map (vi .u8), false, 1⟩] [dd 0, .int .i64 4] [⟨b.map (vi .u8), false, 1⟩] := by
  refine GC.intro Try.func42 rfl (by show 1 ≤ 23; decide) (by first | exact Nat.le_refl _ | decide | simp) ?_
  refine AW.seqR ?_
  refine yP (PureOp.nilDeep 1) ?_
  rw [deep_dd0]
  refine AWo.pure (PureOp.assign rfl) rfl rfl ?_
  refine AWo.nil trivial ?_
  refine AW.seqR ?_
  refine AWo.pure (PureOp.move rfl) rfl rfl ?_
  refine AWo.callX (rdO_ctr (g := true) hb hl hlt) bd34 [(0, 0)] [] rfl (.cons rfl (.cons rfl .nil)) rfl (.cons rfl rfl (.cons rfl rfl .nil)) (.flat rfl (by first | exact flatM flat_vi | exact flatM flat_bool | (simp [flatV, flat_vi]; done)) (by intro h; first | exact h | rfl) .nil) rfl (.keep rfl .nil) frN (by decide) (.cons rfl rfl (.cons rfl rfl .nil)) rfl rfl rfl rfl ?_
  refine AWo.pure (PureOp.move rfl) rfl rfl ?_
  refine AWo.pure (PureOp.extract rfl rfl) rfl rfl ?_
  refine AWo.pure (PureOp.extract rfl rfl) rfl rfl ?_
  refine AWo.pure (PureOp.assign rfl) rfl rfl ?_
  refine AWo.pure (PureOp.assign rfl) rfl rfl ?_
  refine AWo.nil trivial ?_
  refine AW.seq ?_
  refine AW.seqR ?_
  refine AWo.pure (PureOp.move rfl) rfl rfl ?_
  first | refine AWo.pure ((PureOp.neN (b := 0) rfl rfl).mono (v' := .bool false) (congrArg Value.bool (by rfl))) rfl rfl ?_ | refine AWo.pure ((PureOp.bin rfl rfl rfl).mono (v' := .bool false) (congrArg Value.bool (by rfl))) rfl rfl ?_
  refine AWo.nil trivial ?_
  refine AW.condF rfl ?_
  refine AW.skip ?_
  refine thenA_normal ?_
  refine AW.seq ?_
  refine AW.seqR ?_
  refine AWo.pure (PureOp.move rfl) rfl rfl ?_
  first | refine AWo.pure (PureOp.lenS tbok rfl rfl) rfl rfl ?_ | refine AWo.pure (PureOp.lenD tbok rfl rfl) rfl rfl ?_
  first | refine AWo.pure ((PureOp.eqN (b := 0) rfl rfl).mono (v' := .bool false) (congrArg Value.bool (by have := dlp h0; exact beq_eq_false_iff_ne.2 (by omega)))) rfl rfl ?_ | refine AWo.pure ((PureOp.bin rfl rfl rfl).mono (v' := .bool false) (congrArg Value.bool (by have := dlp h0; exact beq_eq_false_iff_ne.2 (by omega)))) rfl rfl ?_
  refine AWo.pure (PureOp.move rfl) rfl rfl ?_
  refine AWo.pure (PureOp.move rfl) rfl rfl ?_
  refine AWo.callX (v := .bool false) (square_ctr (A := num 256 b) h0 hlt) bd102 [] [] rfl (.cons rfl .nil) rfl (.cons rfl rfl .nil) .nil rfl .nil frN (by decide) (.cons rfl rfl .nil) (congrArg Value.bool (decide_eq_false hsq)) rfl rfl rfl ?_
  refine AWo.pure (PureOp.not rfl) rfl rfl ?_
  refine AWo.pure (PureOp.pickF rfl rfl) rfl rfl ?_
  refine AWo.nil trivial ?_
  refine AW.condT rfl ?_
  refine AW.seqR ?_
  refine yP (PureOp.nilDeep 1) ?_
  rw [deep_dd0]
  refine AWo.pure (PureOp.assign rfl) rfl rfl ?_
  refine AWo.nil trivial ?_
  refine AW.ret ?_
  refine thenA_ret ?_
  refine RetQ.gc [_, _] [] [.tmp 2, .tmp 3] (.inl rfl) rfl (.tmp rfl (.tmp rfl .nil)) rfl (.cons rfl rfl (.cons rfl rfl .nil)) (OutL.flat rfl (by first | exact flatM flat_vi | exact flatM flat_bool | (simp [flatV, flat_vi]; done)) (by intro h; first | rfl | exact h.elim id fun h => absurd h.1 (by simp)) trivial) (by decide) rfl
theorem rRead_ctr {b : List Nat} (hb : bd 256 b) : GC Try.prog 42 [.slice (some ⟨0, 0, none⟩) b.length 0] [⟨b.map (vi .u8), false, 1⟩] [dd (gx b), .int .i64 (gc b)] [⟨b.map (vi .u8), false, 1⟩] := by
  unfold gx gc
  by_cases hl : b.length = 96
  · by_cases hlt : num 256 b < PG
    · rcases Nat.eq_zero_or_pos (num 256 b) with h0 | h0
      · have hg : ¬ gmem b := fun h => zero_q (h0 ▸ h.2.2)
        rw [if_neg hg, if_neg hg, if_pos hl]
        exact rRdZ_ctr hb hl hlt h0
      · by_cases hs : Jac.ng (num 256 b) PG = 0
        · have hg : gmem b := ⟨hl, hlt, (sym_eq h0 hlt).1 hs⟩
          rw [if_pos hg, if_pos hg]
          exact rRdO_ctr hb hl hlt h0 hs
        · have hg : ¬ gmem b := fun h => hs ((sym_eq h0 hlt).2 h.2.2)
          rw [if_neg hg, if_neg hg, if_pos hl]
          exact rRdN_ctr hb hl hlt h0 hs
    · have hg : ¬ gmem b := fun h => hlt h.2.1
      rw [if_neg hg, if_neg hg, if_pos hl]
      have e : rcW PG b = 4 := by rw [rcW, if_pos hl, if_neg hlt]
      have h := rRdE_ctr hb (by rw [e]; decide)
      rw [e] at h
      exact h
  · have hg : ¬ gmem b := fun h => hl h.1
    rw [if_neg hg, if_neg hg, if_neg hl]
    have e : rcW PG b = 1 := by rw [rcW, if_neg hl]
    have h := rRdE_ctr hb (by rw [e]; decide)
    rw [e] at h
    exact h
theorem isG_ctr {x : Nat} (hx : x < 18446744073709551616 ^ 12) : GC Try.prog 43 [.agg ((digs 18446744073709551616 12 x).map (vi .u64)).toArray, dd x] [] [.bool true] [] := by
  refine GC.intro Try.func43 rfl (by show 2 ≤ 14; decide) (by first | exact Nat.le_refl _ | decide | simp) ?_
  refine AW.seqR ?_
  refine AWo.box 3000 1 _ rfl rfl rfl rfl rfl ?_
  refine AWo.pure (PureOp.assign rfl) rfl rfl ?_
  refine AWo.nil trivial ?_
  refine AW.seqR ?_
  refine AWo.loadAll tbok rfl rfl rfl rfl (by show ((digs 18446744073709551616 12 (x)).map (vi .u64)).length = 12; rw [List.length_map, digs_len]) rfl rfl ?_
  refine AWo.callX (gBy_ctr hx) bd58 [] [] rfl (.cons rfl .nil) rfl (.pure (by first | rfl | exact pure_aggM flat_vi | exact pure_aggM flat_bool) .nil) .nil rfl .nil frN (by decide) (.pure (by first | rfl | exact pure_aggM flat_vi | exact pure_aggM flat_bool) .nil) rfl rfl rfl rfl ?_
  refine AWo.alloc tbok 6000 1 ((List.replicate 96 0).map (vi .u8)) rfl rfl rfl rfl rfl rfl ?_
  refine AWo.storeAllN tbok rfl rfl rfl rfl (by rw [List.length_map, digs_len]) (by first | rfl | (simp [digs_len]; done)) (oneM (fun _ => rfl) _) rfl ?_
  refine AWo.nil trivial ?_
  refine AW.seqD mixed ?_
  refine AWo.sliceA tbok (h := 96) rfl .none .none rfl rfl rfl rfl (by decide) (by decide) (.inl rfl) (by simp [digs_len]) rfl rfl rfl ?_
  refine AWo.bytesStr tbok (digs 256 96 x) rfl rfl (List.take_of_length_le (by simp [digs_len])) (digs_len _ _) rfl Try.underlying5 Try.underlying9 rfl rfl ?_
  refine AWo.pure (PureOp.move rfl) rfl rfl ?_
  refine AWo.callX (bytes4_ctr hx) bd36 [] [12000] rfl (.cons rfl .nil) rfl (.cons rfl rfl .nil) .nil rfl (.new (flat_map_ren (by first | exact flatM flat_vi | exact flatM flat_bool | (simp [flatV, flat_vi]; done))) (OkL.flat (by first | exact flatM flat_vi | exact flatM flat_bool | (simp [flatV, flat_vi]; done))) .nil) (frC rfl frN) (by decide) (.cons rfl rfl .nil) rfl rfl rfl rfl ?_
  refine AWo.bytesStr tbok (digs 256 96 x) rfl rfl (List.take_of_length_le (by simp [digs_len])) (digs_len _ _) rfl Try.underlying5 Try.underlying9 rfl rfl ?_
  refine yP (PureOp.sameStr rfl rfl) ?_
  refine AWo.pure (PureOp.assign rfl) rfl rfl ?_
  refine AWo.nil (by kernel_rfl) ?_
  refine AW.ret ?_
  refine RetQ.gc [_] [] [.tmp 4] (.inl rfl) rfl (.tmp rfl .nil) rfl (.cons rfl rfl .nil) trivial (by decide) rfl
theorem gRs_ctr {b : List Nat} (hb : bd 256 b) : GC Try.prog 44 [.slice (some ⟨0, 0, none⟩) b.length 0] [⟨b.map (vi .u8), false, 1⟩] [.agg ((digs 18446744073709551616 12 (rdW QG b)).map (vi .u64)).toArray, .int .i64 (rcW QG b)] [⟨b.map (vi .u8), false, 1⟩] := by
  refine GC.intro Try.func44 rfl (by show 1 ≤ 15; decide) (by first | exact Nat.le_refl _ | decide | simp) ?_
  refine AW.seqR ?_
  refine AWo.alloc tbok 3000 1 _ rfl rfl rfl rfl rfl rfl ?_
  refine AWo.pure (PureOp.assign rfl) rfl rfl ?_
  refine AWo.nil trivial ?_
  refine AW.seqR ?_
  refine AWo.callX (expoW_ctr) bd39 [] [8000, 8001, 8002, 8003] rfl .nil rfl .nil .nil rfl (.new rfl (OkL.all rfl) (.new rfl (OkL.all rfl) (.new (flat_map_ren (flatM flat_vi)) (OkL.flat (flatM flat_vi)) (.new (flat_map_ren (flatM flat_vi)) (OkL.flat (flatM flat_vi)) .nil)))) (frC rfl (frC rfl (frC rfl (frC rfl frN)))) (by decide) (.cons rfl rfl .nil) rfl rfl rfl rfl ?_
  refine AWo.pure (PureOp.move rfl) rfl rfl ?_
  refine AWo.callX (readW_ctr rn_q hb) bd33 [(8000, 0), (8001, 0), (8002, 0), (8003, 0), (0, 0)] [] rfl (.cons rfl (.cons rfl .nil)) rfl (.cons rfl rfl (.cons rfl rfl .nil)) (.whole rfl rfl (OkL.all rfl) (by intro h; first | exact h | rfl) (.whole rfl rfl (OkL.all rfl) (by intro h; first | exact h | rfl) (.flat rfl (flatM flat_vi) (by intro h; first | exact h | rfl) (.flat rfl (flatM flat_vi) (by intro h; first | exact h | rfl) (.flat rfl (by first | exact flatM flat_vi | exact flatM flat_bool | (simp [flatV, flat_vi]; done)) (by intro h; first | exact h | rfl) .nil))))) rfl (.keep rfl (.keep rfl (.keep rfl (.keep rfl (.keep rfl .nil))))) frN (by decide) (.pure (by first | rfl | exact pure_aggM flat_vi | exact pure_aggM flat_bool) (.cons rfl rfl .nil)) rfl rfl rfl rfl ?_
  refine AWo.pure (PureOp.move rfl) rfl rfl ?_
  refine AWo.pure (PureOp.extract rfl rfl) rfl rfl ?_
  refine AWo.pure (PureOp.extract rfl rfl) rfl rfl ?_
  refine AWo.alloc tbok 5000 1 ((List.replicate 12 0).map (vi .u64)) rfl rfl rfl rfl rfl rfl ?_
  refine AWo.storeAllN tbok rfl rfl rfl rfl (by rw [List.length_map, digs_len]) (by first | rfl | (simp [digs_len]; done)) (oneM (fun _ => rfl) _) rfl ?_
  refine AWo.pure (PureOp.assign rfl) rfl rfl ?_
  refine AWo.nil trivial ?_
  refine AW.seqR ?_
  refine AWo.loadAll tbok rfl rfl rfl rfl (by show ((digs 18446744073709551616 12 (rdW QG b)).map (vi .u64)).length = 12; rw [List.length_map, digs_len]) rfl rfl ?_
  refine yP (bS61 (x := rdW QG b) rfl) ?_
  refine AWo.pure (PureOp.move rfl) rfl rfl ?_
  refine AWo.storeAllN tbok rfl rfl rfl rfl (by rw [List.length_map, digs_len]) (by first | rfl | (simp [digs_len]; done)) (oneM (fun _ => rfl) _) rfl ?_
  refine AWo.pure (PureOp.assign rfl) rfl rfl ?_
  refine AWo.nil trivial ?_
  refine AW.ret ?_
  refine RetQ.gc [_, _] [] [.cell 2 61, .tmp 3] (.inl rfl) rfl (.val (RVal.cellAll tbok rfl rfl rfl rfl (by first | (simp [*]; done) | rfl)) (.tmp rfl .nil)) rfl (.pure (by first | rfl | exact pure_aggM flat_vi | exact pure_aggM flat_bool) (.cons rfl rfl .nil)) (OutL.flat rfl (by first | exact flatM flat_vi | exact flatM flat_bool | (simp [flatV, flat_vi]; done)) (by intro h; first | rfl | exact h.elim id fun h => absurd h.1 (by simp)) trivial) (by decide) rfl
theorem greads_ctr {b : List Nat} (hb : bd 256 b) : GC Try.prog 8 [.slice (some ⟨0, 0, none⟩) b.length 0] [⟨b.map (vi .u8), false, 1⟩] [.bool true] [⟨b.map (vi .u8), false, 1⟩] := by
  refine GC.intro Try.func8 rfl (by show 1 ≤ 68; decide) (by first | exact Nat.le_refl _ | decide | simp) ?_
  refine AW.seqR ?_
  refine AWo.pure (PureOp.assign rfl) rfl rfl ?_
  refine AWo.nil trivial ?_
  refine AW.seq ?_
  refine AW.seqR ?_
  refine AWo.callX (sp5_ctr) bd40 [] [] rfl .nil rfl .nil .nil rfl .nil frN (by decide) (.cons rfl rfl .nil) rfl rfl rfl rfl ?_
  first | refine AWo.pure ((PureOp.not rfl).mono (v' := .bool false) (congrArg Value.bool (by rfl))) rfl rfl ?_
  refine AWo.pure (PureOp.move rfl) rfl rfl ?_
  refine AWo.pure (PureOp.move rfl) rfl rfl ?_
  first | refine AWo.pure (PureOp.lenS tbok rfl rfl) rfl rfl ?_ | refine AWo.pure (PureOp.lenD tbok rfl rfl) rfl rfl ?_
  first | refine AWo.pure (PureOp.gtN (b := 100) rfl rfl) rfl rfl ?_ | refine AWo.pure (PureOp.bin rfl rfl rfl) rfl rfl ?_
  refine AWo.pure (PureOp.pickF rfl rfl) rfl rfl ?_
  refine AWo.nil trivial ?_
  refine AW.cond rfl (fun hb0 => ?_) (fun hb0 => ?_)
  ·
    refine AW.seqR ?_
    refine AWo.callX (sp5_ctr) bd40 [] [] rfl .nil rfl .nil .nil rfl .nil frN (by decide) (.cons rfl rfl .nil) rfl rfl rfl rfl ?_
    refine AWo.pure (PureOp.assign rfl) rfl rfl ?_
    refine AWo.nil trivial ?_
    refine AW.ret ?_
    refine thenA_ret ?_
    refine RetQ.gc [_] [] [.tmp 2] (.inl rfl) rfl (.tmp rfl .nil) rfl (.cons rfl rfl .nil) (OutL.flat rfl (by first | exact flatM flat_vi | exact flatM flat_bool | (simp [flatV, flat_vi]; done)) (by intro h; first | rfl | exact h.elim id fun h => absurd h.1 (by simp)) trivial) (by decide) rfl
  ·
    have hbl : b.length ≤ 100 := by simpa using hb0
    refine AW.skip ?_
    refine thenA_normal ?_
    refine AW.seqR ?_
    refine AWo.pure (PureOp.move rfl) rfl rfl ?_
    refine AWo.callX (gRead_ctr hb) bd41 [(0, 0)] [] rfl (.cons rfl .nil) rfl (.cons rfl rfl .nil) (.flat rfl (by first | exact flatM flat_vi | exact flatM flat_bool | (simp [flatV, flat_vi]; done)) (by intro h; first | exact h | rfl) .nil) rfl (.keep rfl .nil) frN (by decide) (.pure (by first | rfl | exact pure_aggM flat_vi | exact pure_aggM flat_bool) (.cons rfl rfl .nil)) rfl rfl rfl rfl ?_
    refine AWo.pure (PureOp.move rfl) rfl rfl ?_
    refine AWo.pure (PureOp.extract rfl rfl) rfl rfl ?_
    refine AWo.pure (PureOp.extract rfl rfl) rfl rfl ?_
    refine AWo.alloc tbok 4000 1 _ rfl rfl rfl rfl rfl rfl ?_
    refine AWo.storeAllN tbok rfl rfl rfl rfl (by rw [List.length_map, digs_len]) (by first | rfl | (simp [digs_len]; done)) (oneM (fun _ => rfl) _) rfl ?_
    refine AWo.pure (PureOp.assign rfl) rfl rfl ?_
    refine AWo.nil trivial ?_
    refine AW.seqR ?_
    refine AWo.pure (PureOp.move rfl) rfl rfl ?_
    refine AWo.callX (rRead_ctr hb) bd42 [(0, 0)] [] rfl (.cons rfl .nil) rfl (.cons rfl rfl .nil) (.flat rfl (by first | exact flatM flat_vi | exact flatM flat_bool | (simp [flatV, flat_vi]; done)) (by intro h; first | exact h | rfl) .nil) rfl (.keep rfl .nil) frN (by decide) (.cons rfl rfl (.cons rfl rfl .nil)) rfl rfl rfl rfl ?_
    refine AWo.pure (PureOp.move rfl) rfl rfl ?_
    refine AWo.pure (PureOp.extract rfl rfl) rfl rfl ?_
    refine AWo.pure (PureOp.extract rfl rfl) rfl rfl ?_
    refine AWo.pure (PureOp.assign rfl) rfl rfl ?_
    refine AWo.pure (PureOp.assign rfl) rfl rfl ?_
    refine AWo.nil trivial ?_
    refine AW.seq ?_
    refine AW.seqD mixed ?_
    refine AWo.pure (PureOp.move rfl) rfl rfl ?_
    refine AWo.pure (PureOp.move rfl) rfl rfl ?_
    first | refine AWo.pure ((PureOp.neN rfl rfl).mono (v' := .bool false) (congrArg Value.bool (by simp))) rfl rfl ?_ | refine AWo.pure ((PureOp.bin rfl rfl rfl).mono (v' := .bool false) (congrArg Value.bool (by simp))) rfl rfl ?_
    refine AWo.pure (PureOp.move rfl) rfl rfl ?_
    refine AWo.pure (PureOp.move rfl) rfl rfl ?_
    first | refine AWo.pureB (PureOp.eqN (b := 0) rfl rfl) rfl rfl (fun hb1 => ?_) (fun hb1 => ?_) | refine AWo.pureB (PureOp.bin rfl rfl rfl) rfl rfl (fun hb1 => ?_) (fun hb1 => ?_)
    ·
      have hgc := gc_ok (of_decide_eq_true hb1)
      refine AWo.pure (PureOp.move rfl) rfl rfl ?_
      refine AWo.loadAll tbok rfl rfl rfl rfl (by show ((digs 18446744073709551616 12 (gx b)).map (vi .u64)).length = 12; rw [List.length_map, digs_len]) rfl rfl ?_
      refine AWo.pure (PureOp.move rfl) rfl rfl ?_
      refine AWo.callX (isG_ctr (x := gx b) (gx_lt b)) bd43 [] [] rfl (.cons rfl (.cons rfl .nil)) rfl (.pure (by first | rfl | exact pure_aggM flat_vi | exact pure_aggM flat_bool) (.cons rfl rfl .nil)) .nil rfl .nil frN (by decide) (.cons rfl rfl .nil) rfl rfl rfl rfl ?_
      first | refine AWo.pure ((PureOp.not rfl).mono (v' := .bool false) (congrArg Value.bool (by rfl))) rfl rfl ?_
      refine AWo.pure (PureOp.move rfl) rfl rfl ?_
      refine AWo.pure (PureOp.move rfl) rfl rfl ?_
      refine AWo.callX (bytes4_ctr (x := gx b) (gx_lt b)) bd36 [] [43000] rfl (.cons rfl .nil) rfl (.cons rfl rfl .nil) .nil rfl (.new (flat_map_ren (by first | exact flatM flat_vi | exact flatM flat_bool | (simp [flatV, flat_vi]; done))) (OkL.flat (by first | exact flatM flat_vi | exact flatM flat_bool | (simp [flatV, flat_vi]; done))) .nil) (frC rfl frN) (by decide) (.cons rfl rfl .nil) rfl rfl rfl rfl ?_
      refine AWo.bytesStr tbok (digs 256 96 (gx b)) rfl rfl (List.take_of_length_le (by simp [digs_len])) (digs_len _ _) rfl Try.underlying5 Try.underlying9 rfl rfl ?_
      refine AWo.pure (PureOp.move rfl) rfl rfl ?_
      refine AWo.bytesStr tbok (b) rfl rfl (List.take_of_length_le (by simp [digs_len])) (rfl) rfl Try.underlying5 Try.underlying9 rfl rfl ?_
      rw [gx_bytes hb hgc]
      refine yP (PureOp.neStr rfl rfl) ?_
      refine AWo.pure (PureOp.pickF rfl rfl) rfl rfl ?_
      refine AWo.pure (PureOp.pickT rfl rfl) rfl rfl ?_
      refine AWo.pure (PureOp.pickF rfl rfl) rfl rfl ?_
      refine AWo.nil (by kernel_rfl) ?_
      refine AW.condF rfl ?_
      refine AW.skip ?_
      refine thenA_normal ?_
      refine AW.seqR ?_
      refine AWo.pure (PureOp.move rfl) rfl rfl ?_
      refine AWo.callX (gRs_ctr hb) bd44 [(0, 0)] [] rfl (.cons rfl .nil) rfl (.cons rfl rfl .nil) (.flat rfl (by first | exact flatM flat_vi | exact flatM flat_bool | (simp [flatV, flat_vi]; done)) (by intro h; first | exact h | rfl) .nil) rfl (.keep rfl .nil) frN (by decide) (.pure (by first | rfl | exact pure_aggM flat_vi | exact pure_aggM flat_bool) (.cons rfl rfl .nil)) rfl rfl rfl rfl ?_
      refine AWo.pure (PureOp.move rfl) rfl rfl ?_
      refine AWo.pure (PureOp.extract rfl rfl) rfl rfl ?_
      refine AWo.pure (PureOp.extract rfl rfl) rfl rfl ?_
      refine AWo.alloc tbok 8000 1 _ rfl rfl rfl rfl rfl rfl ?_
      refine AWo.storeAllN tbok rfl rfl rfl rfl (by rw [List.length_map, digs_len]) (by first | rfl | (simp [digs_len]; done)) (oneM (fun _ => rfl) _) rfl ?_
      refine AWo.pure (PureOp.assign rfl) rfl rfl ?_
      refine AWo.nil trivial ?_
      refine AW.seqR ?_
      refine AWo.pure (PureOp.move rfl) rfl rfl ?_
      refine AWo.callX (read4_ctr (g := false) hb) bd34 [(0, 0)] [] rfl (.cons rfl (.cons rfl .nil)) rfl (.cons rfl rfl (.cons rfl rfl .nil)) (.flat rfl (by first | exact flatM flat_vi | exact flatM flat_bool | (simp [flatV, flat_vi]; done)) (by intro h; first | exact h | rfl) .nil) rfl (.keep rfl .nil) frN (by decide) (.cons rfl rfl (.cons rfl rfl .nil)) rfl rfl rfl rfl ?_
      refine AWo.pure (PureOp.move rfl) rfl rfl ?_
      refine AWo.pure (PureOp.extract rfl rfl) rfl rfl ?_
      refine AWo.pure (PureOp.extract rfl rfl) rfl rfl ?_
      refine AWo.pure (PureOp.assign rfl) rfl rfl ?_
      refine AWo.pure (PureOp.assign rfl) rfl rfl ?_
      refine AWo.nil trivial ?_
      refine AW.seqR ?_
      refine AWo.pure (PureOp.move rfl) rfl rfl ?_
      refine AWo.pure (PureOp.move rfl) rfl rfl ?_
      first | refine AWo.pure ((PureOp.eqN rfl rfl).mono (v' := .bool true) (congrArg Value.bool (beq_self_eq_true (rcW QG b)))) rfl rfl ?_ | refine AWo.pure ((PureOp.bin rfl rfl rfl).mono (v' := .bool true) (congrArg Value.bool (beq_self_eq_true (rcW QG b)))) rfl rfl ?_
      refine AWo.pure (PureOp.move rfl) rfl rfl ?_
      refine AWo.loadAll tbok rfl rfl rfl rfl (by show ((digs 18446744073709551616 12 (rdW QG b)).map (vi .u64)).length = 12; rw [List.length_map, digs_len]) rfl rfl ?_
      refine AWo.pure (PureOp.move rfl) rfl rfl ?_
      refine AWo.callX (isS_ctr (x := rdW QG b) (rd_lt rn_q)) bd45 [] [] rfl (.cons rfl (.cons rfl .nil)) rfl (.pure (by first | rfl | exact pure_aggM flat_vi | exact pure_aggM flat_bool) (.cons rfl rfl .nil)) .nil rfl .nil frN (by decide) (.cons rfl rfl .nil) rfl rfl rfl rfl ?_
      refine AWo.pure (PureOp.pickT rfl rfl) rfl rfl ?_
      refine AWo.pure (PureOp.assign rfl) rfl rfl ?_
      refine AWo.nil trivial ?_
      refine AW.ret ?_
      refine RetQ.gc [_] [] [.tmp 2] (.inl rfl) rfl (.tmp rfl .nil) rfl (.cons rfl rfl .nil) (OutL.flat rfl (by first | exact flatM flat_vi | exact flatM flat_bool | (simp [flatV, flat_vi]; done)) (by intro h; first | rfl | exact h.elim id fun h => absurd h.1 (by simp)) trivial) (by decide) rfl
    ·
      refine AWo.pure (PureOp.move rfl) rfl rfl ?_
      refine AWo.skipped rfl rfl ?_
      refine AWo.skipped rfl rfl ?_
      refine AWo.skipped rfl rfl ?_
      refine AWo.skipped rfl rfl ?_
      refine AWo.skipped rfl rfl ?_
      refine AWo.skipped rfl rfl ?_
      refine AWo.skipped rfl rfl ?_
      refine AWo.skipped rfl rfl ?_
      refine AWo.skipped rfl rfl ?_
      refine AWo.skipped rfl rfl ?_
      refine AWo.skipped rfl rfl ?_
      refine AWo.skipped rfl rfl ?_
      refine AWo.pure (PureOp.pickF rfl rfl) rfl rfl ?_
      refine AWo.pure (PureOp.pickF rfl rfl) rfl rfl ?_
      refine AWo.nil (by kernel_rfl) ?_
      refine AW.condF rfl ?_
      refine AW.skip ?_
      refine thenA_normal ?_
      refine AW.seqR ?_
      refine AWo.pure (PureOp.move rfl) rfl rfl ?_
      refine AWo.callX (gRs_ctr hb) bd44 [(0, 0)] [] rfl (.cons rfl .nil) rfl (.cons rfl rfl .nil) (.flat rfl (by first | exact flatM flat_vi | exact flatM flat_bool | (simp [flatV, flat_vi]; done)) (by intro h; first | exact h | rfl) .nil) rfl (.keep rfl .nil) frN (by decide) (.pure (by first | rfl | exact pure_aggM flat_vi | exact pure_aggM flat_bool) (.cons rfl rfl .nil)) rfl rfl rfl rfl ?_
      refine AWo.pure (PureOp.move rfl) rfl rfl ?_
      refine AWo.pure (PureOp.extract rfl rfl) rfl rfl ?_
      refine AWo.pure (PureOp.extract rfl rfl) rfl rfl ?_
      refine AWo.alloc tbok 8000 1 _ rfl rfl rfl rfl rfl rfl ?_
      refine AWo.storeAllN tbok rfl rfl rfl rfl (by rw [List.length_map, digs_len]) (by first | rfl | (simp [digs_len]; done)) (oneM (fun _ => rfl) _) rfl ?_
      refine AWo.pure (PureOp.assign rfl) rfl rfl ?_
      refine AWo.nil trivial ?_
      refine AW.seqR ?_
      refine AWo.pure (PureOp.move rfl) rfl rfl ?_
      refine AWo.callX (read4_ctr (g := false) hb) bd34 [(0, 0)] [] rfl (.cons rfl (.cons rfl .nil)) rfl (.cons rfl rfl (.cons rfl rfl .nil)) (.flat rfl (by first | exact flatM flat_vi | exact flatM flat_bool | (simp [flatV, flat_vi]; done)) (by intro h; first | exact h | rfl) .nil) rfl (.keep rfl .nil) frN (by decide) (.cons rfl rfl (.cons rfl rfl .nil)) rfl rfl rfl rfl ?_
      refine AWo.pure (PureOp.move rfl) rfl rfl ?_
      refine AWo.pure (PureOp.extract rfl rfl) rfl rfl ?_
      refine AWo.pure (PureOp.extract rfl rfl) rfl rfl ?_
      refine AWo.pure (PureOp.assign rfl) rfl rfl ?_
      refine AWo.pure (PureOp.assign rfl) rfl rfl ?_
      refine AWo.nil trivial ?_
      refine AW.seqR ?_
      refine AWo.pure (PureOp.move rfl) rfl rfl ?_
      refine AWo.pure (PureOp.move rfl) rfl rfl ?_
      first | refine AWo.pure ((PureOp.eqN rfl rfl).mono (v' := .bool true) (congrArg Value.bool (beq_self_eq_true (rcW QG b)))) rfl rfl ?_ | refine AWo.pure ((PureOp.bin rfl rfl rfl).mono (v' := .bool true) (congrArg Value.bool (beq_self_eq_true (rcW QG b)))) rfl rfl ?_
      refine AWo.pure (PureOp.move rfl) rfl rfl ?_
      refine AWo.loadAll tbok rfl rfl rfl rfl (by show ((digs 18446744073709551616 12 (rdW QG b)).map (vi .u64)).length = 12; rw [List.length_map, digs_len]) rfl rfl ?_
      refine AWo.pure (PureOp.move rfl) rfl rfl ?_
      refine AWo.callX (isS_ctr (x := rdW QG b) (rd_lt rn_q)) bd45 [] [] rfl (.cons rfl (.cons rfl .nil)) rfl (.pure (by first | rfl | exact pure_aggM flat_vi | exact pure_aggM flat_bool) (.cons rfl rfl .nil)) .nil rfl .nil frN (by decide) (.cons rfl rfl .nil) rfl rfl rfl rfl ?_
      refine AWo.pure (PureOp.pickT rfl rfl) rfl rfl ?_
      refine AWo.pure (PureOp.assign rfl) rfl rfl ?_
      refine AWo.nil trivial ?_
      refine AW.ret ?_
      refine RetQ.gc [_] [] [.tmp 2] (.inl rfl) rfl (.tmp rfl .nil) rfl (.cons rfl rfl .nil) (OutL.flat rfl (by first | exact flatM flat_vi | exact flatM flat_bool | (simp [flatV, flat_vi]; done)) (by intro h; first | rfl | exact h.elim id fun h => absurd h.1 (by simp)) trivial) (by decide) rfl
end Go.Proofs.Ytpahdiljpnfkdaa
namespace Go.Proofs.Ytpahdiljpnfkdaa
open Go
namespace Head
set_option maxRecDepth 100000 in
theorem words : ∃ l, Try.prog.initOrder = String.ofList l ∧ (behindMainWord (wordsSigns l)).head? = some "cut".toList := ⟨_, rfl, by kernel_rfl⟩
theorem head_of {P : Program} (h : ∃ l, P.initOrder = String.ofList l ∧ (behindMainWord (wordsSigns l)).head? = some "cut".toList) :
    ∃ rest, behindMainWord (wordsSigns P.initOrder.toList) = "cut".toList :: rest := by
  obtain ⟨l, h, hh⟩ := h
  rw [h, String.toList_ofList]
  cases hb : behindMainWord (wordsSigns l) with
  | nil => rw [hb] at hh; cases hh
  | cons c r => rw [hb] at hh; simp only [List.head?_cons, Option.some.injEq] at hh; exact ⟨r, by rw [hh]⟩
theorem cut_words : (liftWords.all fun s => !("cut".toList == s.toList)) = true := by decide +kernel
theorem strip_cut (rest : List (List Char)) : stripLifts liftWords ("cut".toList :: rest) = ([], "cut".toList :: rest) := by
  have key : ∀ o : List String, (o.all fun s => !("cut".toList == s.toList)) = true → stripLifts o ("cut".toList :: rest) = ([], "cut".toList :: rest) := by
    intro o
    induction o with
    | nil => intro _; rfl
    | cons s o ih =>
      intro h
      simp only [List.all_cons, Bool.and_eq_true, Bool.not_eq_true'] at h
      rw [stripLifts, if_neg (by rw [h.1]; exact Bool.false_ne_true)]
      exact ih h.2
  exact key liftWords cut_words
theorem mayEnter_of {P : Program} {rest : List (List Char)} (hr : behindMainWord (wordsSigns P.initOrder.toList) = "cut".toList :: rest) (e1 : P.laysLater = false) (e2 : P.bearsReflect = false) (e3 : P.doorFits [] = true) : P.mayEnter = true := by
  unfold Program.mayEnter
  rw [hr]
  simp only [strip_cut, e1, e2, e3]
  simp
theorem headLifts_of {P : Program} {rest : List (List Char)} (hr : behindMainWord (wordsSigns P.initOrder.toList) = "cut".toList :: rest) : P.headLifts = [] := by
  unfold Program.headLifts
  rw [hr, strip_cut]
  simp
theorem cut_ne : ("cut".toList == "carried".toList) = false ∧ ("cut".toList == "gc".toList) = false ∧ ("cut".toList == "spec".toList) = false := by decide +kernel
theorem liftsFinal_of {P : Program} {rest : List (List Char)} (hr : behindMainWord (wordsSigns P.initOrder.toList) = "cut".toList :: rest) : P.liftsFinal = false := by
  unfold Program.liftsFinal
  rw [hr, headLifts_of hr]
  simp
theorem make_of {P : Program} {rest : List (List Char)} (hr : behindMainWord (wordsSigns P.initOrder.toList) = "cut".toList :: rest) : P.make = some .cut := by
  unfold Program.make
  rw [hr]
  simp only [cut_ne.2.1, cut_ne.2.2, beq_self_eq_true]
  simp
theorem laysLater : Try.prog.laysLater = false := by kernel_rfl
theorem bearsReflect : Try.prog.bearsReflect = false := by kernel_rfl
theorem doorFits : Try.prog.doorFits [] = true := by kernel_rfl
theorem mayEnter : Try.prog.mayEnter = true := let ⟨_, hr⟩ := head_of words; mayEnter_of hr laysLater bearsReflect doorFits
theorem liftsFinal : Try.prog.liftsFinal = false := let ⟨_, hr⟩ := head_of words; liftsFinal_of hr
theorem make_cut : Try.prog.make = some .cut := let ⟨_, hr⟩ := head_of words; make_of hr
theorem band {a b : Bool} (ha : a = true) (hb : b = true) : (a && b) = true := by rw [ha, hb]; rfl
end Head
end Go.Proofs.Ytpahdiljpnfkdaa
