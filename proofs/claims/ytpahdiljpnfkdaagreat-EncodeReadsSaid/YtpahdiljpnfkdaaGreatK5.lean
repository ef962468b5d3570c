/- What the proof stands on, part 5: the walk of each function, and plain laws of numbers. -/
import Derived.Test.YtpahdiljpnfkdaaGreatK4
namespace Go.Proofs.YtpahdiljpnfkdaaGreat
open Go Sim
def hst (x k : Nat) : List Nat := (List.range (D 4294967296 x).length).map fun j => if j < k then x / 2 / 4294967296 ^ j % 4294967296 else 0
theorem hst_len (x k : Nat) : (hst x k).length = (D 4294967296 x).length := by simp [hst]
theorem hst_zero (x : Nat) : hst x 0 = List.replicate (D 4294967296 x).length 0 := by
  refine List.ext_getElem (by simp [hst]) fun i h1 h2 => ?_
  simp [hst]
theorem hst_set {x i v : Nat} (hi : i < (D 4294967296 x).length) (hv : v = x / 2 / 4294967296 ^ i % 4294967296) : (hst x i).set i v = hst x (i + 1) := by
  refine List.ext_getElem (by simp [hst]) fun j h1 h2 => ?_
  simp only [hst, List.getElem_set, List.getElem_map, List.getElem_range]
  by_cases h : i = j
  · subst h; rw [if_pos rfl, if_pos (Nat.lt_succ_self i)]; exact hv
  · rw [if_neg h]
    by_cases hj : j < i
    · rw [if_pos hj, if_pos (by omega)]
    · rw [if_neg hj, if_neg (by omega)]
theorem set_getD {l : List Nat} {i v : Nat} (h : i < l.length) : (l.set i v).getD i 0 = v := by
  rw [List.getD_eq_getElem?_getD, List.getElem?_set_self h]; rfl
theorem half_dig (x i : Nat) : x / 4294967296 ^ i % 4294967296 / 2 + x / 4294967296 ^ (i + 1) % 4294967296 % 2 * 2147483648 = x / 2 / 4294967296 ^ i % 4294967296 := by
  rw [Nat.pow_succ, ← Nat.div_div_eq_div_mul, Nat.div_div_eq_div_mul x 2, Nat.mul_comm 2, ← Nat.div_div_eq_div_mul]
  generalize x / 4294967296 ^ i = y
  omega
theorem half_last {x i : Nat} (h : ¬ i + 1 < (D 4294967296 x).length) : x / 4294967296 ^ i % 4294967296 / 2 = x / 2 / 4294967296 ^ i % 4294967296 := by
  have h1 : (D 4294967296 x).getD (i + 1) 0 = 0 := by rw [List.getD_eq_getElem?_getD, List.getElem?_eq_none (by omega)]; rfl
  rw [D_getD (by decide)] at h1
  rw [← half_dig, h1, Nat.zero_mod, Nat.zero_mul, Nat.add_zero]
theorem hst_fin (x : Nat) : hst x (D 4294967296 x).length = digs 4294967296 (D 4294967296 x).length (x / 2) := by
  rw [digs_rg, hst]; exact List.map_congr_left fun i hi => if_pos (List.mem_range.1 hi)
theorem hst_bd (x k : Nat) : bd 4294967296 (hst x k) := fun v hv => by
  obtain ⟨j, _, rfl⟩ := List.mem_map.1 hv
  split
  · exact Nat.mod_lt _ (by decide)
  · decide
theorem hst_num (x : Nat) : num 4294967296 (hst x (D 4294967296 x).length) = x / 2 := by
  rw [hst_fin, num_digs_lt]
  exact Nat.lt_of_le_of_lt (Nat.div_le_self _ _) ((D_len_le (B := 4294967296) (by decide) x _).1 (Nat.le_refl _))
structure SqI (A a m : Nat) (s : Bool) : Prop where
 odd : m % 2 = 1
 cop : Nat.Coprime m a
 eq : (Jac.ng a m + (cond s 0 1)) % 2 = Jac.ng A PG
 ab : a < B24
 mb : m < B24
theorem SqI.m0 {A a m : Nat} {s : Bool} (h : SqI A a m s) : 0 < m := by have := h.odd; omega
theorem cop_half {m a : Nat} (h : Nat.Coprime m a) (he : a % 2 = 0) : Nat.Coprime m (a / 2) :=
 Nat.Coprime.coprime_dvd_right ⟨2, by omega⟩ h
theorem cop_two {m : Nat} (h : m % 2 = 1) : Nat.Coprime m 2 := by
 rw [Nat.coprime_comm]
 rw [Nat.Coprime, Nat.gcd_rec, h, Nat.gcd_one_left]
theorem ng_half {a m : Nat} (ho : m % 2 = 1) (hc : Nat.Coprime m a) (he : a % 2 = 0) : Jac.ng a m = (Jac.ng 2 m + Jac.ng (a / 2) m) % 2 := by
 rw [← Jac.ng_mul ho (cop_half hc he) (cop_two ho), show 2 * (a / 2) = a by omega]
theorem SqI.half {A a m : Nat} {s : Bool} (h : SqI A a m s) (he : a % 2 = 0) (h8 : m % 8 = 3 ∨ m % 8 = 5) : SqI A (a / 2) m (!s) := by
 refine ⟨h.odd, cop_half h.cop he, ?_, by have := h.ab; omega, h.mb⟩
 have e := h.eq
 rw [ng_half h.odd h.cop he, Jac.ng_two h.odd, if_pos h8] at e
 rw [← e]
 cases s <;> simp only [cond, Bool.not_true, Bool.not_false] <;> omega
theorem SqI.half' {A a m : Nat} {s : Bool} (h : SqI A a m s) (he : a % 2 = 0) (h3 : ¬ m % 8 = 3) (h5 : ¬ m % 8 = 5) : SqI A (a / 2) m s := by
 refine ⟨h.odd, cop_half h.cop he, ?_, by have := h.ab; omega, h.mb⟩
 have e := h.eq
 rw [ng_half h.odd h.cop he, Jac.ng_two h.odd, if_neg (by omega)] at e
 rw [← e]
 cases s <;> simp only [cond] <;> omega
theorem cop_sub {m c : Nat} (h : Nat.Coprime m c) (hl : c ≤ m) : Nat.Coprime c (m - c) := by
 have h1 := h.symm
 rw [show m = m - c + c by omega] at h1
 rw [Nat.Coprime, Nat.gcd_add_self_right] at h1
 exact h1
theorem ng_sub {m c : Nat} (hl : c ≤ m) : Jac.ng (m - c) c = Jac.ng m c := Jac.ng_congr (by
 conv => rhs; rw [show m = m - c + c by omega]
 rw [Nat.add_mod_right])
theorem SqI.swap {A c m : Nat} {s : Bool} (h : SqI A c m s) (hl : c < m) (ho : c % 2 = 1) (h1 : c % 4 = 3) (h2 : m % 4 = 3) : SqI A (m - c) c (!s) := by
 refine ⟨ho, cop_sub h.cop (Nat.le_of_lt hl), ?_, by have := h.mb; omega, h.ab⟩
 have e := h.eq
 have r := Jac.recip h.odd ho h.cop
 rw [if_pos ⟨h2, h1⟩] at r
 rw [ng_sub (Nat.le_of_lt hl), ← e]
 cases s <;> simp only [cond, Bool.not_true, Bool.not_false] <;> omega
theorem SqI.swap' {A c m : Nat} {s : Bool} (h : SqI A c m s) (hl : c < m) (ho : c % 2 = 1) (h1 : ¬ (c % 4 = 3 ∧ m % 4 = 3)) : SqI A (m - c) c s := by
 refine ⟨ho, cop_sub h.cop (Nat.le_of_lt hl), ?_, by have := h.mb; omega, h.ab⟩
 have e := h.eq
 have r := Jac.recip h.odd ho h.cop
 rw [if_neg (fun h => h1 ⟨h.2, h.1⟩)] at r
 rw [ng_sub (Nat.le_of_lt hl), ← e]
 cases s <;> simp only [cond] <;> omega
theorem SqI.sub {A c m : Nat} {s : Bool} (h : SqI A c m s) (hl : m ≤ c) : SqI A (c - m) m s := by
 have hc : Nat.Coprime m (c - m) := cop_sub h.cop.symm hl
 refine ⟨h.odd, hc, ?_, by have := h.ab; omega, h.mb⟩
 rw [ng_sub hl]; exact h.eq
theorem SqI.fin {A m : Nat} {s : Bool} (h : SqI A 0 m s) : s = decide (Jac.ng A PG = 0) := by
 have h1 : m = 1 := by
  have := h.cop
  rwa [Nat.Coprime, Nat.gcd_zero_right] at this
 have e := h.eq
 subst h1
 rw [show Jac.ng 0 1 = 0 from rfl] at e
 cases s
 · rw [decide_eq_false]; rw [← e]; decide
 · rw [decide_eq_true]; rw [← e]; rfl
theorem sym_start {s : Nat} (h : s < 2) : (s + cond true 0 1) % 2 = s := by
 show (s + 0) % 2 = s
 omega
theorem irr_PG : Irr PG := irr_P
theorem pg_cop {A : Nat} (h0 : 0 < A) (hA : A < PG) : Nat.Coprime PG A := irr_PG.coprime (fun h => absurd (Nat.le_of_dvd h0 h) (Nat.not_le.2 hA))
theorem sq_start {A : Nat} (h0 : 0 < A) (hA : A < PG) : SqI A A PG true where
 odd := rn_p.odd
 cop := pg_cop h0 hA
 eq := sym_start (Jac.ng_lt A PG)
 ab := Nat.lt_trans hA pg_b24
 mb := pg_b24
theorem dlp {x : Nat} (h : 0 < x) : 0 < (D 4294967296 x).length := by rw [D_pos (by decide) (by omega)]; exact Nat.succ_pos _
theorem dlq {x : Nat} (h : 0 < (D 4294967296 x).length) : 0 < x := Nat.pos_of_ne_zero fun e => by subst e; exact absurd h (by decide)
theorem dlz {x : Nat} (h : (D 4294967296 x).length = 0 ∨ ¬ 0 < (D 4294967296 x).length) : x = 0 := by
 rcases Nat.eq_zero_or_pos x with h0 | h0
 · exact h0
 · have := dlp h0; omega
theorem dlb {x n : Nat} (h : x < B24) : (D 4294967296 x).length < n + 100 := Nat.lt_of_le_of_lt (dlen24 h) (by omega)
theorem cmp_neg {x y : Nat} : decide (cmpI x y < 0) = decide (x < y) := by
 refine decide_eq_decide.2 ?_
 unfold cmpI; split <;> (try split) <;> omega
theorem half_ctr {x : Nat} (hx : (D 4294967296 x).length < 1000) : GC Tryz.prog 98 [dd x] [] [dd (x / 2)] [] := by
 refine gi Tryz.func98 ?_
 refine AW.expose 0 88000 ?_
 refine zS ?_
 refine yA ?_
 refine zN (zS ?_)
 refine yM ?_
 refine yP pL ?_
 refine AWo.makeI tbok 8000 rfl rfl rfl rfl rfl rfl (by omega) (by omega) rfl rfl rfl ?_
 refine yA ?_
 refine zN (zQ (zS ?_))
 refine yA ?_
 refine zN (zB ?_)
 refine AW.loopw (fun mm σ => ∃ i, (i ≤ (D 4294967296 x).length) ∧ mm = (D 4294967296 x).length - i ∧ σ = ⟨(upd (upd (upd emp 0 (.slice (some ⟨88000, 0, none⟩) (D 4294967296 x).length 0)) 3 (.slice (some ⟨77000, 0, none⟩) (D 4294967296 x).length 0)) 4 (vi .i64 i)), (upd (upd emp 88000 ⟨(D 4294967296 x).map (vi .u64), false, 1⟩) 77000 ⟨(hst x i).map (vi .u64), true, 1⟩)⟩) (fm := [(77000, 8000)]) ?_ ⟨0, Nat.zero_le _, rfl, rfl⟩ ?_
 ·
  refine Wk.of [88000, 77000] ?_ ?_ ?_ (by decide) rfl
  ·
   refine WkE.upd rfl (by exact VR.flat _ rfl) ?_
   refine WkE.upd rfl (.slice (77000) 0 _ 0 ⟨_, rfl⟩ (by simp) (by simp)) ?_
   refine WkE.upd rfl (.slice (88000) 0 _ 0 ⟨_, rfl⟩ (by simp) (by simp)) ?_
   exact WkE.emp
  ·
   refine WkM.flatM rfl (by exact hst_zero x) flat_vi (fun h => h) ?_
   refine WkM.flat rfl (flatM flat_vi) (fun h => h) ?_
   exact WkM.emp
  ·
   repeat (refine dom_upd_mem (by decide) ?_)
   exact dom_emp
 ·
  rintro mm σ ⟨i, hinv, rfl, rfl⟩
  have hd1 : x / 4294967296 ^ i % 4294967296 < 4294967296 := Nat.mod_lt _ (by decide)
  refine zQ (zS ?_)
  refine yM ?_
  refine yM ?_
  refine yP pL ?_
  refine yP pLt ?_
  refine zN ?_
  refine zA (fun hb0 => ?_) (fun hb0 => ?_)
  ·
   have hi : i < (D 4294967296 x).length := by simpa using hb0
   refine zK (zT (zQ (zB (zS ?_))))
   refine yM ?_
   refine yM ?_
   refine yM ?_
   refine yM ?_
   refine yP (PureOp.idx1 tbok (j := i) rfl rfl rfl rfl hi) ?_
   refine AWo.loadM tbok 0 rfl rfl rfl hi rfl rfl ?_
   rw [D_getD (by decide) x i]
   refine yP (PureOp.quoN (a := x / 4294967296 ^ i % 4294967296) (b := 2) 18446744073709551616 rfl rfl (by decide) (by decide) (by omega) (by omega)) ?_
   refine yP (PureOp.idx1 tbok (j := i) rfl rfl rfl rfl hi) ?_
   refine AWo.storeM (f := (vi .u64)) tbok rfl rfl rfl rfl (by rw [hst_len]; exact hi) rfl rfl ?_
   refine zN (zS ?_)
   refine yM ?_
   refine yP (pAdd (b := 1)) ?_
   refine yM ?_
   refine yP pL ?_
   refine yP pLt ?_
   refine zN ?_
   refine zA (fun hb1 => ?_) (fun hb1 => ?_)
   ·
    have hi1 : i + 1 < (D 4294967296 x).length := by simpa using hb1
    refine AW.draw mixed ?_
    refine yM ?_
    refine yM ?_
    refine yM ?_
    refine yM ?_
    refine yP (PureOp.idx1 tbok (j := i) rfl rfl rfl rfl hi) ?_
    refine AWo.loadM tbok 0 rfl rfl rfl (by rw [List.length_set, hst_len]; exact hi) rfl rfl ?_
    rw [set_getD (by rw [hst_len]; exact hi)]
    refine yM ?_
    refine yM ?_
    refine yP (pAdd (b := 1)) ?_
    refine yP (PureOp.idx1 tbok (j := i + 1) rfl rfl rfl rfl hi1) ?_
    refine AWo.loadM tbok 0 rfl rfl rfl hi1 rfl rfl ?_
    rw [D_getD (by decide) x (i + 1)]
    refine yP (PureOp.remN (a := x / 4294967296 ^ (i + 1) % 4294967296) (b := 2) rfl rfl (by omega)) ?_
    refine yP ((PureOp.mulU (b := 2147483648) 18446744073709551616 rfl rfl rfl rfl).mono (v' := vi .u64 (x / 4294967296 ^ (i + 1) % 4294967296 % 2 * 2147483648)) (congrArg (vi .u64) (Nat.mod_eq_of_lt (by omega)))) ?_
    refine yP ((PureOp.addU 18446744073709551616 rfl rfl rfl rfl).mono (v' := vi .u64 (x / 4294967296 ^ i % 4294967296 / 2 + x / 4294967296 ^ (i + 1) % 4294967296 % 2 * 2147483648)) (congrArg (vi .u64) (Nat.mod_eq_of_lt (by omega)))) ?_
    refine yP (PureOp.idx1 tbok (j := i) rfl rfl rfl rfl hi) ?_
    refine AWo.storeM (f := (vi .u64)) tbok rfl rfl rfl rfl (by rw [List.length_set, hst_len]; exact hi) rfl rfl ?_
    rw [List.set_set, hst_set hi (half_dig x i)]
    refine zD (zL (zT (zR ?_)))
    refine yM ?_
    refine yP (pAdd (b := 1)) ?_
    refine yA ?_
    refine zN (zT ?_)
    exact ⟨(D 4294967296 x).length - (i + 1), [], _, by omega, wk [88000, 77000], i + 1, by omega, rfl, rfl⟩
   ·
    have hi1 : ¬ i + 1 < (D 4294967296 x).length := by simpa using hb1
    rw [hst_set hi (half_last hi1)]
    refine zK (zL (zT (zR ?_)))
    refine yM ?_
    refine yP (pAdd (b := 1)) ?_
    refine yA ?_
    refine zN (zT ?_)
    exact ⟨(D 4294967296 x).length - (i + 1), [], _, by omega, wk [88000, 77000], i + 1, by omega, rfl, rfl⟩
  ·
   obtain rfl : i = (D 4294967296 x).length := by simp at hb0; omega
   refine zX (zV (zV (zH (zT ?_))))
   refine AW.freeze 3 77000 ((hst x (D 4294967296 x).length).map (vi .u64)) ?_ rfl rfl (cloM fun _ => rfl) (by simp [hst_len]) (by rw [List.drop_zero]; exact List.take_of_length_le (by simp [hst_len]))
   refine zS ?_
   refine yM ?_
   refine yC (v := dd (x / 2)) (triml (l := hst x (D 4294967296 x).length) (n := (D 4294967296 x).length) (hst_bd x _) (hst_len x _) (by omega)) bd26 [] [] ?_ (hv := (by rw [hst_num]; rfl))
   refine yA ?_
   refine zN (zE ?_)
   exact rq [] [.tmp 2]
theorem square_ctr {A : Nat} (h0 : 0 < A) (hA : A < PG) : GC Tryz.prog 83 [dd A] [] [.bool (decide (Jac.ng A PG = 0))] [] := by
 refine gi Tryz.func83 ?_
 refine zS ?_
 refine yA ?_
 refine zN (zS ?_)
 refine yC (p04_ctr) bd97 [] [] ?_
 refine yA ?_
 refine zN (zS ?_)
 refine yA ?_
 refine zN (zQ (zB ?_))
 refine AW.loopw (fun mm σ => ∃ a, ∃ m, ∃ s, (SqI A a m s) ∧ mm = 1 * (a + m) ∧ σ = ⟨(upd (upd (upd emp 0 (dd a)) 3 (dd m)) 4 (.bool s)), emp⟩) (fm := []) (wk []) ⟨A, PG, true, sq_start h0 hA, rfl, rfl⟩ ?_
 rintro mm σ ⟨a, m, s, hI, rfl, rfl⟩
 refine zQ (zS ?_)
 refine yM ?_
 refine yP pD ?_
 refine yP (pGt (b := 0)) ?_
 refine zN ?_
 refine zA (fun hb0 => ?_) (fun hb0 => ?_)
 ·
  have ha0 : 0 < a := dlq (by simpa using hb0)
  refine zK (zT (zB (zQ (zB ?_))))
  refine AW.loopw (fun mm σ => ∃ c, ∃ u, (SqI A c m u ∧ 0 < c ∧ c ≤ a) ∧ mm = 1 * c ∧ σ = ⟨(upd (upd (upd emp 0 (dd c)) 3 (dd m)) 4 (.bool u)), emp⟩) (fm := []) (wk []) ⟨a, s, ⟨hI, ha0, Nat.le_refl _⟩, rfl, rfl⟩ ?_
  rintro mm σ ⟨c, u, ⟨hI, hc0, hca⟩, rfl, rfl⟩
  have hm0 := hI.m0
  refine zQ (zS ?_)
  refine AWo.pureX 10000 (n := (D 4294967296 c).length) (es := 1) (cells := (D 4294967296 c).map (vi .u64)) (PureOp.move rfl) rfl rfl rfl ?_
  refine yP (PureOp.idx1 tbok (j := 0) rfl rfl rfl rfl (dlp hc0)) ?_
  refine AWo.loadM tbok 0 rfl rfl rfl (dlp hc0) rfl rfl ?_
  rw [D_getD (by decide) c 0, Nat.pow_zero, Nat.div_one]
  refine yP (PureOp.remN (a := c % 4294967296) (b := 2) rfl rfl (by omega)) ?_
  refine yP (pEq (b := 0)) ?_
  refine zN ?_
  refine zA (fun hb1 => ?_) (fun hb1 => ?_)
  ·
   have he : c % 2 = 0 := by have := of_decide_eq_true hb1; omega
   refine zK (zT (zB (zS ?_)))
   refine yM ?_
   refine yC (half_ctr (x := c) (dlb hI.ab)) bd98 [] [] ?_
   refine yA ?_
   refine zN (zS ?_)
   refine AWo.pureX 17000 (n := (D 4294967296 m).length) (es := 1) (cells := (D 4294967296 m).map (vi .u64)) (PureOp.move rfl) rfl rfl rfl ?_
   refine yP (PureOp.idx1 tbok (j := 0) rfl rfl rfl rfl (dlp hm0)) ?_
   refine AWo.loadM tbok 0 rfl rfl rfl (dlp hm0) rfl rfl ?_
   rw [D_getD (by decide) m 0, Nat.pow_zero, Nat.div_one]
   refine yP (PureOp.remN (a := m % 4294967296) (b := 8) rfl rfl (by omega)) ?_
   refine yB (pEq (b := 3)) (fun hb2 => ?_) (fun hb2 => ?_)
   ·
    have h8 : m % 8 = 3 ∨ m % 8 = 5 := by have := of_decide_eq_true hb2; omega
    refine yM ?_
    refine yK ?_
    refine yK ?_
    refine yK ?_
    refine yK ?_
    refine yK ?_
    refine yP pT ?_
    refine zN (zC (zR ?_))
    refine yM ?_
    refine yP (PureOp.not rfl) ?_
    refine yA ?_
    refine zN (zL (zT ?_))
    exact ⟨1 * (c / 2), [], _, by omega, wk [], c / 2, (!u), ⟨hI.half he h8, by omega, by omega⟩, rfl, rfl⟩
   ·
    have h83 : ¬ m % 8 = 3 := by have := of_decide_eq_false hb2; omega
    refine yM ?_
    refine AWo.pureX 23000 (n := (D 4294967296 m).length) (es := 1) (cells := (D 4294967296 m).map (vi .u64)) (PureOp.move rfl) rfl rfl rfl ?_
    refine yP (PureOp.idx1 tbok (j := 0) rfl rfl rfl rfl (dlp hm0)) ?_
    refine AWo.loadM tbok 0 rfl rfl rfl (dlp hm0) rfl rfl ?_
    rw [D_getD (by decide) m 0, Nat.pow_zero, Nat.div_one]
    refine yP (PureOp.remN (a := m % 4294967296) (b := 8) rfl rfl (by omega)) ?_
    refine yP (pEq (b := 5)) ?_
    refine yP pE ?_
    refine zN ?_
    refine zA (fun hb3 => ?_) (fun hb3 => ?_)
    ·
     have h8 : m % 8 = 3 ∨ m % 8 = 5 := by have := of_decide_eq_true hb3; omega
     refine zR ?_
     refine yM ?_
     refine yP (PureOp.not rfl) ?_
     refine yA ?_
     refine zN (zL (zT ?_))
     exact ⟨1 * (c / 2), [], _, by omega, wk [], c / 2, (!u), ⟨hI.half he h8, by omega, by omega⟩, rfl, rfl⟩
    ·
     have h85 : ¬ m % 8 = 5 := by have := of_decide_eq_false hb3; omega
     refine zK (zL (zT ?_))
     exact ⟨1 * (c / 2), [], _, by omega, wk [], c / 2, u, ⟨hI.half' he h83 h85, by omega, by omega⟩, rfl, rfl⟩
  ·
   have hodd : c % 2 = 1 := by have := of_decide_eq_false hb1; omega
   refine zX (zV (zV (zH (zT (zQ (zS ?_))))))
   refine yM ?_
   refine yM ?_
   refine yC (cmpd (x := c) (y := m) (dlb hI.ab) (dlb hI.mb)) bd70 [] [] ?_
   refine yP ((PureOp.bin rfl rfl rfl).mono (v' := .bool (decide (c < m))) (congrArg Value.bool cmp_neg)) ?_
   refine zN ?_
   refine zA (fun hb4 => ?_) (fun hb4 => ?_)
   ·
    have h33 : c < m := of_decide_eq_true hb4
    refine zQ (zS ?_)
    refine AWo.pureX 35000 (n := (D 4294967296 c).length) (es := 1) (cells := (D 4294967296 c).map (vi .u64)) (PureOp.move rfl) rfl rfl rfl ?_
    refine yP (PureOp.idx1 tbok (j := 0) rfl rfl rfl rfl (dlp hc0)) ?_
    refine AWo.loadM tbok 0 rfl rfl rfl (dlp hc0) rfl rfl ?_
    rw [D_getD (by decide) c 0, Nat.pow_zero, Nat.div_one]
    refine yP (PureOp.remN (a := c % 4294967296) (b := 4) rfl rfl (by omega)) ?_
    refine yB (pEq (b := 3)) (fun hb5 => ?_) (fun hb5 => ?_)
    ·
     have h4 : c % 4 = 3 := by have := of_decide_eq_true hb5; omega
     refine yM ?_
     refine AWo.pureX 41000 (n := (D 4294967296 m).length) (es := 1) (cells := (D 4294967296 m).map (vi .u64)) (PureOp.move rfl) rfl rfl rfl ?_
     refine yP (PureOp.idx1 tbok (j := 0) rfl rfl rfl rfl (dlp hm0)) ?_
     refine AWo.loadM tbok 0 rfl rfl rfl (dlp hm0) rfl rfl ?_
     rw [D_getD (by decide) m 0, Nat.pow_zero, Nat.div_one]
     refine yP (PureOp.remN (a := m % 4294967296) (b := 4) rfl rfl (by omega)) ?_
     refine yP (pEq (b := 3)) ?_
     refine yP pT ?_
     refine zN ?_
     refine zA (fun hb6 => ?_) (fun hb6 => ?_)
     ·
      have h44 : m % 4 = 3 := by have := of_decide_eq_true hb6; omega
      refine zR ?_
      refine yM ?_
      refine yP (PureOp.not rfl) ?_
      refine yA ?_
      refine zN (zT (zR ?_))
      refine yM ?_
      refine yM ?_
      refine yA ?_
      refine yA ?_
      refine zN (zT (zR ?_))
      refine yM ?_
      refine yM ?_
      refine yC (subd (x := m) (y := c) (dlb hI.mb) (dlb hI.ab) (Nat.le_of_lt h33)) bd71 [] [] ?_
      refine yA ?_
      refine zN (zL (zT ?_))
      exact ⟨1 * (m - c + c), [], _, by have := hI.m0; omega, wk [], m - c, c, (!u), hI.swap h33 hodd (by omega) (by omega), rfl, rfl⟩
     ·
      have h4 : ¬ (c % 4 = 3 ∧ m % 4 = 3) := by have := of_decide_eq_false hb6; omega
      refine zK (zT (zR ?_))
      refine yM ?_
      refine yM ?_
      refine yA ?_
      refine yA ?_
      refine zN (zT (zR ?_))
      refine yM ?_
      refine yM ?_
      refine yC (subd (x := m) (y := c) (dlb hI.mb) (dlb hI.ab) (Nat.le_of_lt h33)) bd71 [] [] ?_
      refine yA ?_
      refine zN (zL (zT ?_))
      exact ⟨1 * (m - c + c), [], _, by have := hI.m0; omega, wk [], m - c, c, u, hI.swap' h33 hodd (by omega), rfl, rfl⟩
    ·
     have h4 : ¬ (c % 4 = 3 ∧ m % 4 = 3) := by have := of_decide_eq_false hb5; omega
     refine yM ?_
     refine yK ?_
     refine yK ?_
     refine yK ?_
     refine yK ?_
     refine yK ?_
     refine yP pE ?_
     refine zN (zF (zK (zT (zR ?_))))
     refine yM ?_
     refine yM ?_
     refine yA ?_
     refine yA ?_
     refine zN (zT (zR ?_))
     refine yM ?_
     refine yM ?_
     refine yC (subd (x := m) (y := c) (dlb hI.mb) (dlb hI.ab) (Nat.le_of_lt h33)) bd71 [] [] ?_
     refine yA ?_
     refine zN (zL (zT ?_))
     exact ⟨1 * (m - c + c), [], _, by have := hI.m0; omega, wk [], m - c, c, u, hI.swap' h33 hodd (by omega), rfl, rfl⟩
   ·
    have h33 : m ≤ c := Nat.le_of_not_lt (of_decide_eq_false hb4)
    refine zK (zT (zR ?_))
    refine yM ?_
    refine yM ?_
    refine yC (subd (x := c) (y := m) (dlb hI.ab) (dlb hI.mb) h33) bd71 [] [] ?_
    refine yA ?_
    refine zN (zL (zT ?_))
    exact ⟨1 * (c - m + m), [], _, by have := hI.m0; omega, wk [], c - m, m, u, hI.sub h33, rfl, rfl⟩
 ·
  obtain rfl : a = 0 := dlz (by simpa using hb0)
  rw [← hI.fin]
  refine zX (zV (zV (zH (zT (zS ?_)))))
  refine yM ?_
  refine yA ?_
  refine zN (zE ?_)
  exact rq [] [.tmp 2]
end Go.Proofs.YtpahdiljpnfkdaaGreat
namespace Go.Proofs.YtpahdiljpnfkdaaGreat
open Go Sim
def gmem (b : List Nat) : Prop := b.length = 96 ∧ num 256 b < PG ∧ num 256 b ^ QG % PG = 1
noncomputable instance (b : List Nat) : Decidable (gmem b) := Classical.propDecidable _
noncomputable def gx (b : List Nat) : Nat := if gmem b then num 256 b else 0
noncomputable def gc (b : List Nat) : Int := if gmem b then 0 else if b.length = 96 then 4 else 1
theorem zero_q : ¬ 0 ^ QG % PG = 1 := by
  rw [Nat.zero_pow (by decide +kernel)]; decide +kernel
theorem half_pg : (PG - 1) / 2 = QG := by decide +kernel
theorem sym_eq {x : Nat} (h0 : 0 < x) (h : x < PG) : Jac.ng x PG = 0 ↔ x ^ QG % PG = 1 := by
  have e := Jac.euler (show Irr PG from irr_P) rn_p.odd (a := x) (fun hd => absurd (Nat.le_of_dvd h0 hd) (Nat.not_le.2 h))
  rw [half_pg] at e
  rw [e]
  have hl := Jac.ng_lt x PG
  generalize Jac.ng x PG = s at *
  have h2 : s = 0 ∨ s = 1 := by omega
  rcases h2 with rfl | rfl
  · constructor
    · intro _; exact Nat.mod_eq_of_lt (by decide +kernel)
    · intro _; rfl
  · constructor
    · intro h; cases h
    · intro h; exact absurd h (by show ¬ (PG - 1) % PG = 1; decide +kernel)
theorem gRdE_ctr {b : List Nat} (hb : bd 256 b) (hne : rcW PG b ≠ 0) : GC Tryz.prog 79 [.slice (some ⟨0, 0, none⟩) b.length 0] [⟨b.map (vi .u8), false, 1⟩] [.agg ((digs 18446744073709551616 12 0).map (vi .u64)).toArray, .int .i64 (rcW PG b)] [⟨b.map (vi .u8), false, 1⟩] := by
  refine gi Tryz.func79 ?_
  refine zS ?_
  refine yN 3000 1 _ ?_
  refine yA ?_
  refine zN (zS ?_)
  refine yC (groupW_ctr) bd90 [] [8000, 8001, 8002, 8003] ?_
  refine yA ?_
  refine zN (zS ?_)
  refine yM ?_
  refine yM ?_
  refine yC (readW_ctr rn_p hb) bd91 [(8000, 0), (8001, 0), (8002, 0), (8003, 0), (0, 0)] [] ?_
  refine yM ?_
  refine yP pX ?_
  refine yP pX ?_
  refine yN 6000 1 ((List.replicate 12 0).map (vi .u64)) ?_
  refine AWo.storeAllN tbok rfl rfl rfl rfl (by rw [List.length_map, digs_len]) (by rfl) (oneM (fun _ => rfl) _) rfl ?_
  refine yA ?_
  refine zN (zQ (zB (zS ?_)))
  refine yM ?_
  refine yP ((PureOp.bin rfl rfl rfl).mono (v' := .bool true) (congrArg Value.bool (by simp [hne]))) ?_
  refine yA ?_
  refine zN (zC (zS ?_))
  refine yP ((PureOp.buildStruct [] pl121.choose_spec.1 zr121 (by decide) pl121.choose_spec.2 rfl rfl).mono (v' := .agg ((digs 18446744073709551616 12 0).map (vi .u64)).toArray) (by kernel_rfl)) ?_
  refine yM ?_
  refine AWo.storeAllN tbok rfl rfl rfl rfl (by rw [List.length_map, digs_len]) (by rfl) (oneM (fun _ => rfl) _) rfl ?_
  refine yA ?_
  refine zN (zE (zI (zU ?_)))
  exact rq [] [.cell 2 121, .tmp 3]
theorem gRead_ctr {b : List Nat} (hb : bd 256 b) : GC Tryz.prog 79 [.slice (some ⟨0, 0, none⟩) b.length 0] [⟨b.map (vi .u8), false, 1⟩] [.agg ((digs 18446744073709551616 12 (gx b)).map (vi .u64)).toArray, .int .i64 (gc b)] [⟨b.map (vi .u8), false, 1⟩] := by
  unfold gx gc
  by_cases hg : gmem b
  · rw [if_pos hg, if_pos hg]
    have h := gRdO_ctr hb hg.1 rfl hg.2.1 hg.2.2
    rw [← hg.1] at h
    exact h
  · rw [if_neg hg, if_neg hg]
    by_cases hl : b.length = 96
    · rw [if_pos hl]
      by_cases hlt : num 256 b < PG
      · have h := gRdN_ctr hb hl rfl hlt (fun hm => hg ⟨hl, hlt, hm⟩)
        rw [← hl] at h
        exact h
      · have e : rcW PG b = 4 := by rw [rcW, if_pos hl, if_neg hlt]
        have h := gRdE_ctr hb (by rw [e]; decide)
        rw [e] at h
        exact h
    · rw [if_neg hl]
      have e : rcW PG b = 1 := by rw [rcW, if_neg hl]
      have h := gRdE_ctr hb (by rw [e]; decide)
      rw [e] at h
      exact h
theorem rRdE_ctr {b : List Nat} (hb : bd 256 b) (hne : rcW PG b ≠ 0) : GC Tryz.prog 57 [.slice (some ⟨0, 0, none⟩) b.length 0] [⟨b.map (vi .u8), false, 1⟩] [dd 0, .int .i64 (rcW PG b)] [⟨b.map (vi .u8), false, 1⟩] := by
  refine gi Tryz.func57 ?_
  refine zS ?_
  refine yP (PureOp.nilDeep 1) ?_
  rw [deep_dd0]
  refine yA ?_
  refine zN (zS ?_)
  refine yM ?_
  refine yC (read4_ctr (g := true) hb) bd82 [(0, 0)] [] ?_
  refine yM ?_
  refine yP pX ?_
  refine yP pX ?_
  refine yA ?_
  refine yA ?_
  refine zN (zQ (zS ?_))
  refine yM ?_
  refine yP ((PureOp.bin rfl rfl rfl).mono (v' := .bool true) (congrArg Value.bool (by have h' : rcW (NG true) b ≠ 0 := hne; simpa using h'))) ?_
  refine zN (zC (zS ?_))
  refine yM ?_
  refine yP (PureOp.nilDeep 1) ?_
  rw [deep_dd0]
  refine yA ?_
  refine zN (zE (zU ?_))
  exact rq [] [.tmp 2, .tmp 3]
theorem rRdO_ctr {b : List Nat} (hb : bd 256 b) (hl : b.length = 96) (hlt : num 256 b < PG) (h0 : 0 < num 256 b) (hsq : Jac.ng (num 256 b) PG = 0) : GC Tryz.prog 57 [.slice (some ⟨0, 0, none⟩) b.length 0] [⟨b.map (vi .u8), false, 1⟩] [dd (num 256 b), .int .i64 0] [⟨b.map (vi .u8), false, 1⟩] := by
  refine gi Tryz.func57 ?_
  refine zS ?_
  refine yP (PureOp.nilDeep 1) ?_
  rw [deep_dd0]
  refine yA ?_
  refine zN (zS ?_)
  refine yM ?_
  refine yC (rdO_ctr (g := true) hb hl hlt) bd82 [(0, 0)] [] ?_
  refine yM ?_
  refine yP pX ?_
  refine yP pX ?_
  refine yA ?_
  refine yA ?_
  refine zN (zQ (zS ?_))
  refine yM ?_
  refine yP ((PureOp.neN (b := 0) rfl rfl).mono (v' := .bool false) (congrArg Value.bool (by rfl))) ?_
  refine zN (zF (zK (zT (zQ (zS ?_)))))
  refine yM ?_
  refine yP pD ?_
  refine yP ((PureOp.eqN (b := 0) rfl rfl).mono (v' := .bool false) (congrArg Value.bool (by have := dlp h0; exact beq_eq_false_iff_ne.2 (by omega)))) ?_
  refine yM ?_
  refine yM ?_
  refine AWo.callX (v := .bool true) (square_ctr (A := num 256 b) h0 hlt) bd83 [] [] rfl (.cons rfl .nil) rfl (.cons rfl rfl .nil) .nil rfl .nil frN (by decide) (.cons rfl rfl .nil) (congrArg Value.bool (decide_eq_true hsq)) rfl rfl rfl ?_
  refine yP (PureOp.not rfl) ?_
  refine yP pE ?_
  refine zN (zF (zK (zT (zS ?_))))
  refine yM ?_
  refine yA ?_
  refine yA ?_
  refine zN (zE ?_)
  exact rq [] [.tmp 2, .tmp 3]
theorem rRdZ_ctr {b : List Nat} (hb : bd 256 b) (hl : b.length = 96) (hlt : num 256 b < PG) (h0 : num 256 b = 0) : GC Tryz.prog 57 [.slice (some ⟨0, 0, none⟩) b.length 0] [⟨b.map (vi .u8), false, 1⟩] [dd 0, .int .i64 4] [⟨b.map (vi .u8), false, 1⟩] := by
  refine gi Tryz.func57 ?_
  refine zS ?_
  refine yP (PureOp.nilDeep 1) ?_
  rw [deep_dd0]
  refine yA ?_
  refine zN (zS ?_)
  refine yM ?_
  refine yC (rdO_ctr (g := true) hb hl hlt) bd82 [(0, 0)] [] ?_
  refine yM ?_
  refine yP pX ?_
  refine yP pX ?_
  refine yA ?_
  refine yA ?_
  refine zN (zQ (zS ?_))
  refine yM ?_
  refine yP ((PureOp.neN (b := 0) rfl rfl).mono (v' := .bool false) (congrArg Value.bool (by rfl))) ?_
  refine zN (zF (zK (zT (zQ (zS ?_)))))
  refine yM ?_
  refine yP pD ?_
  refine yP ((PureOp.eqN (b := 0) rfl rfl).mono (v' := .bool true) (congrArg Value.bool (by rw [h0]; rfl))) ?_
  refine yM ?_
  refine yK ?_
  refine yK ?_
  refine yK ?_
  refine yP pT ?_
  refine zN (zC (zS ?_))
  refine yP (PureOp.nilDeep 1) ?_
  rw [deep_dd0]
  refine yA ?_
  refine zN (zE (zU ?_))
  exact rq [] [.tmp 2, .tmp 3]
theorem rRdN_ctr {b : List Nat} (hb : bd 256 b) (hl : b.length = 96) (hlt : num 256 b < PG) (h0 : 0 < num 256 b) (hsq : ¬ Jac.ng (num 256 b) PG = 0) : GC Tryz.prog 57 [.slice (some ⟨0, 0, none⟩) b.length 0] [⟨b.map (vi .u8), false, 1⟩] [dd 0, .int .i64 4] [⟨b.map (vi .u8), false, 1⟩] := by
  refine gi Tryz.func57 ?_
  refine zS ?_
  refine yP (PureOp.nilDeep 1) ?_
  rw [deep_dd0]
  refine yA ?_
  refine zN (zS ?_)
  refine yM ?_
  refine yC (rdO_ctr (g := true) hb hl hlt) bd82 [(0, 0)] [] ?_
  refine yM ?_
  refine yP pX ?_
  refine yP pX ?_
  refine yA ?_
  refine yA ?_
  refine zN (zQ (zS ?_))
  refine yM ?_
  refine yP ((PureOp.neN (b := 0) rfl rfl).mono (v' := .bool false) (congrArg Value.bool (by rfl))) ?_
  refine zN (zF (zK (zT (zQ (zS ?_)))))
  refine yM ?_
  refine yP pD ?_
  refine yP ((PureOp.eqN (b := 0) rfl rfl).mono (v' := .bool false) (congrArg Value.bool (by have := dlp h0; exact beq_eq_false_iff_ne.2 (by omega)))) ?_
  refine yM ?_
  refine yM ?_
  refine AWo.callX (v := .bool false) (square_ctr (A := num 256 b) h0 hlt) bd83 [] [] rfl (.cons rfl .nil) rfl (.cons rfl rfl .nil) .nil rfl .nil frN (by decide) (.cons rfl rfl .nil) (congrArg Value.bool (decide_eq_false hsq)) rfl rfl rfl ?_
  refine yP (PureOp.not rfl) ?_
  refine yP pE ?_
  refine zN (zC (zS ?_))
  refine yP (PureOp.nilDeep 1) ?_
  rw [deep_dd0]
  refine yA ?_
  refine zN (zE (zU ?_))
  exact rq [] [.tmp 2, .tmp 3]
theorem rRead_ctr {b : List Nat} (hb : bd 256 b) : GC Tryz.prog 57 [.slice (some ⟨0, 0, none⟩) b.length 0] [⟨b.map (vi .u8), false, 1⟩] [dd (gx b), .int .i64 (gc b)] [⟨b.map (vi .u8), false, 1⟩] := by
  unfold gx gc
  by_cases hl : b.length = 96
  · by_cases hlt : num 256 b < PG
    · rcases Nat.eq_zero_or_pos (num 256 b) with h0 | h0
      · have hg : ¬ gmem b := fun h => zero_q (h0 ▸ h.2.2)
        rw [if_neg hg, if_neg hg, if_pos hl]
        exact rRdZ_ctr hb hl hlt h0
      · by_cases hs : Jac.ng (num 256 b) PG = 0
        · have hg : gmem b := ⟨hl, hlt, (sym_eq h0 hlt).1 hs⟩
          rw [if_pos hg, if_pos hg]
          exact rRdO_ctr hb hl hlt h0 hs
        · have hg : ¬ gmem b := fun h => hs ((sym_eq h0 hlt).2 h.2.2)
          rw [if_neg hg, if_neg hg, if_pos hl]
          exact rRdN_ctr hb hl hlt h0 hs
    · have hg : ¬ gmem b := fun h => hlt h.2.1
      rw [if_neg hg, if_neg hg, if_pos hl]
      have e : rcW PG b = 4 := by rw [rcW, if_pos hl, if_neg hlt]
      have h := rRdE_ctr hb (by rw [e]; decide)
      rw [e] at h
      exact h
  · have hg : ¬ gmem b := fun h => hl h.1
    rw [if_neg hg, if_neg hg, if_neg hl]
    have e : rcW PG b = 1 := by rw [rcW, if_neg hl]
    have h := rRdE_ctr hb (by rw [e]; decide)
    rw [e] at h
    exact h
end Go.Proofs.YtpahdiljpnfkdaaGreat
namespace Go.Proofs.YtpahdiljpnfkdaaGreat
open Go Sim
structure Opn where
  k : Int
  t : Int
  c : Int
  d : List Nat
def opV (x : Opn) : Value := .agg #[.int .i64 x.k, .int .i64 x.t, .int .i64 x.c, db x.d]
def op0 : Opn := ⟨0, 0, 0, []⟩
def szT (t : Int) : Nat := if t = 1 then 1 else if t = 2 then 8 else if t = 3 then 32 else if t = 4 then 96 else 0
def cC (t : Int) (L : Nat) : Nat := if szT t = 0 then 6 else if L % szT t ≠ 0 then 3 else if L / szT t < 1 ∨ 1048576 < L / szT t then 7 else 0
def cN (t : Int) (L : Nat) : Nat := if cC t L = 0 then L / szT t else 0
noncomputable def vC (t : Int) (v : List Nat) : Int := if t = 3 then rdC v else if t = 4 then gc v else 0
def vl (t : Int) (b : List Nat) (i : Nat) : List Nat := (b.drop (i * szT t)).take (szT t)
def okTo (t : Int) (b : List Nat) (k : Nat) : Prop := ∀ i, i < k → vC t (vl t b i) = 0
noncomputable instance (t : Int) (b : List Nat) (k : Nat) : Decidable (okTo t b k) := Classical.propDecidable _
noncomputable def ckC (t : Int) (b : List Nat) : Nat := if cC t b.length ≠ 0 then cC t b.length else if okTo t b (b.length / szT t) then 0 else 4
def itC (k t c : Int) : Nat := if k < 1 ∨ k > 3 then 5 else if (k = 1 ∧ (t < 1 ∨ t > 4)) ∨ (k = 2 ∧ t ≠ 1 ∧ t ≠ 3) ∨ (k = 3 ∧ t ≠ 0) then 6 else if c < 1 ∨ c > 1048576 ∨ (k = 3 ∧ c ≠ 1) then 7 else 0
def Rgt (x : Opn) : Prop := itC x.k x.t x.c = 0 ∧ (if x.k = 1 then x.c = cN x.t x.d.length ∧ ckC x.t x.d = 0 else x.d = [])
noncomputable instance (x : Opn) : Decidable (Rgt x) := Classical.propDecidable _
def off (t : Int) (k : Nat) : Nat := if t = 2 then 8 * k else if t = 3 then 32 * k else if t = 4 then 96 * (k / 4) + 31 * (k % 4) else 31 * k
def wd (t : Int) (k : Nat) : Nat := if t = 2 then 8 else if t = 3 then 32 else if t = 4 then (if k % 4 = 3 then 3 else 31) else 31
def np (t : Int) (L : Nat) : Nat := if t = 2 then L / 8 else if t = 3 then L / 32 else if t = 4 then 4 * (L / 96) else (L + 30) / 31
def pc (t : Int) (b : List Nat) (k : Nat) : List Nat := (b.drop (off t k)).take (wd t k)
def pcs (t : Int) (b : List Nat) : List (List Nat) := (List.range (np t b.length)).map (pc t b)
def fits (t : Int) (L : Nat) : Prop := (t = 2 → L % 8 = 0) ∧ (t = 3 → L % 32 = 0) ∧ (t = 4 → L % 96 = 0)
def hdr (x : Opn) : List Nat := [x.k.toNat % 256, x.t.toNat % 256, x.c.toNat % 256, x.c.toNat / 256 % 256, x.c.toNat / 65536 % 256, x.c.toNat / 16777216 % 256]
def fst1 (x : Opn) : Nat := x.k.toNat + 256 * x.t.toNat + 65536 * x.c.toNat
noncomputable def toB (x : Opn) : List Nat := if Rgt x then hdr x ++ x.d else []
noncomputable def toF (x : Opn) : List Fp := if Rgt x then fp (fst1 x) :: (pcs x.t x.d).map (fun p => fp (num 256 p)) else []
def lng (x : Opn) : Nat := if x.k = 1 then x.c.toNat * szT x.t else 0
def bgn (n : Nat) : Opn := ⟨(n % 256 : Nat), (n / 256 % 256 : Nat), (n / 65536 : Nat), []⟩
theorem szT_le (t : Int) : szT t ≤ 96 := by unfold szT; split <;> (try split) <;> (try split) <;> (try split) <;> omega
theorem szT_cases {t : Int} (h : 0 < szT t) : t = 1 ∨ t = 2 ∨ t = 3 ∨ t = 4 := by
  unfold szT at h
  split at h
  · exact .inl ‹_›
  · split at h
    · exact .inr (.inl ‹_›)
    · split at h
      · exact .inr (.inr (.inl ‹_›))
      · split at h
        · exact .inr (.inr (.inr ‹_›))
        · cases h
theorem off_succ (t : Int) (k : Nat) : off t (k + 1) = off t k + wd t k := by
  unfold off wd
  split
  · omega
  · split
    · omega
    · split
      · split <;> omega
      · omega
theorem off_zero (t : Int) : off t 0 = 0 := by unfold off; split <;> (try split) <;> (try split) <;> rfl
theorem wd_le (t : Int) (k : Nat) : wd t k ≤ 32 := by unfold wd; split <;> (try split) <;> (try split) <;> (try split) <;> omega
theorem np_lt {t : Int} {L k : Nat} (h : fits t L) : k < np t L ↔ off t k < L := by
  obtain ⟨h2, h3, h4⟩ := h
  unfold np off
  split
  · have := h2 ‹_›; omega
  · split
    · have := h3 ‹_›; omega
    · split
      · have := h4 ‹_›
        have h5 : k % 4 = 0 ∨ k % 4 = 1 ∨ k % 4 = 2 ∨ k % 4 = 3 := by omega
        rcases h5 with h5 | h5 | h5 | h5 <;> rw [h5] <;> omega
      · omega
theorem off_fit {t : Int} {L k : Nat} (h : fits t L) (ht : t = 2 ∨ t = 3 ∨ t = 4) (hk : off t k < L) : off t k + wd t k ≤ L := by
  obtain ⟨h2, h3, h4⟩ := h
  rcases ht with rfl | rfl | rfl
  · have := h2 rfl; simp only [off, wd] at *; simp at hk ⊢; omega
  · have := h3 rfl; simp only [off, wd] at *; simp at hk ⊢; omega
  · have := h4 rfl
    simp only [off, wd] at *
    simp at hk ⊢
    have h5 : k % 4 = 0 ∨ k % 4 = 1 ∨ k % 4 = 2 ∨ k % 4 = 3 := by omega
    rcases h5 with h5 | h5 | h5 | h5 <;> rw [h5] at hk ⊢ <;> simp <;> omega
theorem pc_len (t : Int) (b : List Nat) (k : Nat) : (pc t b k).length = min (wd t k) (b.length - off t k) := by rw [pc, List.length_take, List.length_drop]
theorem pcs_len (t : Int) (b : List Nat) : (pcs t b).length = np t b.length := by simp [pcs]
theorem bd_part {b : List Nat} (hb : bd 256 b) (i n : Nat) : bd 256 ((b.drop i).take n) := fun x hx => hb x (List.mem_of_mem_drop (List.mem_of_mem_take hx))
theorem db_part {b : List Nat} {l h : Nat} (hh : h ≤ b.length) (hl : l ≤ h) : deep (h - l) 1 (((b.map (vi .u8)).drop (l * 1)).take ((h - l) * 1)) = db ((b.drop l).take (h - l)) := by
  unfold db
  rw [Nat.mul_one, Nat.mul_one, ← List.map_drop, ← List.map_take, List.length_take, List.length_drop, Nat.min_eq_left (by omega)]
theorem rgt_fits {x : Opn} (h : Rgt x) : fits x.t x.d.length := by
  obtain ⟨h1, h2⟩ := h
  by_cases hk : x.k = 1
  · rw [if_pos hk] at h2
    have h3 : cC x.t x.d.length = 0 := by
      have := h2.2
      unfold ckC at this
      split at this
      · rename_i hne; exact absurd this hne
      · rename_i hne; exact Decidable.not_not.1 hne
    unfold cC at h3
    split at h3
    · cases h3
    · split at h3
      · cases h3
      · rename_i hz hm
        have hm : x.d.length % szT x.t = 0 := Decidable.not_not.1 hm
        refine ⟨fun e => ?_, fun e => ?_, fun e => ?_⟩ <;> rw [e] at hm <;> exact hm
  · rw [if_neg hk] at h2
    rw [h2]
    exact ⟨fun _ => rfl, fun _ => rfl, fun _ => rfl⟩
end Go.Proofs.YtpahdiljpnfkdaaGreat
namespace Go.Proofs.YtpahdiljpnfkdaaGreat
open Go Sim
theorem values1_ctr : GC Tryz.prog 51 [.int .i64 1] [] [.agg #[vi .i64 1, .nilFunc, .slice none 0 0]] [] := by
 refine gi Tryz.func51 ?_
 refine zS ?_
 refine yN 3000 1 _ ?_
 refine zN (zQ (zS ?_))
 refine yM ?_
 refine zN (zB (zS ?_))
 refine yP ((PureOp.eqN (b := 1) rfl rfl).mono (v' := .bool true) (congrArg Value.bool (by decide))) ?_
 refine yA ?_
 refine zN (zC (zS ?_))
 refine yP ((PureOp.buildStruct [(0, vi .i64 1)] pl95.choose_spec.1 zr95 (by decide) pl95.choose_spec.2 rfl rfl).mono (v' := .agg #[vi .i64 1, .nilFunc, .slice none 0 0]) rfl) ?_
 refine ySA ?_
 refine zN (zE (zI (zU ?_)))
 exact rq [] [.cell 2 95]
theorem values2_ctr : GC Tryz.prog 51 [.int .i64 2] [] [.agg #[vi .i64 8, .nilFunc, .slice (some ⟨0, 0, none⟩) 1 0]] [⟨[8].map (vi .i64), true, 1⟩] := by
 refine gi Tryz.func51 ?_
 refine zS ?_
 refine yN 3000 1 _ ?_
 refine zN (zQ (zS ?_))
 refine yM ?_
 refine zN (zB (zS ?_))
 refine yP ((PureOp.eqN (b := 1) rfl rfl).mono (v' := .bool false) (congrArg Value.bool (by decide))) ?_
 refine yA ?_
 refine zN (zF (zS ?_))
 refine yP ((PureOp.eqN (b := 2) rfl rfl).mono (v' := .bool true) (congrArg Value.bool (by decide))) ?_
 refine yA ?_
 refine zN (zC (zS ?_))
 refine AWo.buildSlice tbok 10000 [(0, vi .i64 8)] (out := [vi .i64 8]) rfl rfl (by decide) rfl rfl rfl (by decide) rfl rfl rfl rfl rfl ?_
 refine yP ((PureOp.buildStruct [(0, vi .i64 8), (2, .slice (some ⟨10000, 0, none⟩) 1 0)] pl95.choose_spec.1 zr95 (by decide) pl95.choose_spec.2 rfl rfl).mono (v' := .agg #[vi .i64 8, .nilFunc, .slice (some ⟨10000, 0, none⟩) 1 0]) rfl) ?_
 refine ySA ?_
 refine zN (zE (zI (zU ?_)))
 exact rq [10000] [.cell 2 95]
theorem values3_ctr : GC Tryz.prog 51 [.int .i64 3] [] [.agg #[vi .i64 32, .func (.func 76) #[] #[], .slice (some ⟨0, 0, none⟩) 1 0]] [⟨[32].map (vi .i64), true, 1⟩] := by
 refine gi Tryz.func51 ?_
 refine zS ?_
 refine yN 3000 1 _ ?_
 refine zN (zQ (zS ?_))
 refine yM ?_
 refine zN (zB (zS ?_))
 refine yP ((PureOp.eqN (b := 1) rfl rfl).mono (v' := .bool false) (congrArg Value.bool (by decide))) ?_
 refine yA ?_
 refine zN (zF (zS ?_))
 refine yP ((PureOp.eqN (b := 2) rfl rfl).mono (v' := .bool false) (congrArg Value.bool (by decide))) ?_
 refine yA ?_
 refine zN (zF (zS ?_))
 refine yP ((PureOp.eqN (b := 3) rfl rfl).mono (v' := .bool true) (congrArg Value.bool (by decide))) ?_
 refine yA ?_
 refine zN (zC (zS ?_))
 refine AWo.buildSlice tbok 14000 [(0, vi .i64 32)] (out := [vi .i64 32]) rfl rfl (by decide) rfl rfl rfl (by decide) rfl rfl rfl rfl rfl ?_
 refine yP ((PureOp.buildStruct [(0, vi .i64 32), (1, .func (.func 76) #[] #[]), (2, .slice (some ⟨14000, 0, none⟩) 1 0)] pl95.choose_spec.1 zr95 (by decide) pl95.choose_spec.2 rfl rfl).mono (v' := .agg #[vi .i64 32, .func (.func 76) #[] #[], .slice (some ⟨14000, 0, none⟩) 1 0]) rfl) ?_
 refine ySA ?_
 refine zN (zE (zI (zU ?_)))
 exact rq [14000] [.cell 2 95]
theorem values4_ctr : GC Tryz.prog 51 [.int .i64 4] [] [.agg #[vi .i64 96, .func (.func 78) #[] #[], .slice (some ⟨0, 0, none⟩) 4 0]] [⟨[31, 31, 31, 3].map (vi .i64), true, 1⟩] := by
 refine gi Tryz.func51 ?_
 refine zS ?_
 refine yN 3000 1 _ ?_
 refine zN (zQ (zS ?_))
 refine yM ?_
 refine zN (zB (zS ?_))
 refine yP ((PureOp.eqN (b := 1) rfl rfl).mono (v' := .bool false) (congrArg Value.bool (by decide))) ?_
 refine yA ?_
 refine zN (zF (zS ?_))
 refine yP ((PureOp.eqN (b := 2) rfl rfl).mono (v' := .bool false) (congrArg Value.bool (by decide))) ?_
 refine yA ?_
 refine zN (zF (zS ?_))
 refine yP ((PureOp.eqN (b := 3) rfl rfl).mono (v' := .bool false) (congrArg Value.bool (by decide))) ?_
 refine yA ?_
 refine zN (zF (zS ?_))
 refine yP ((PureOp.eqN (b := 4) rfl rfl).mono (v' := .bool true) (congrArg Value.bool (by decide))) ?_
 refine yA ?_
 refine zN (zC (zS ?_))
 refine AWo.buildSlice tbok 18000 [(0, vi .i64 31), (1, vi .i64 31), (2, vi .i64 31), (3, vi .i64 3)] (out := [vi .i64 31, vi .i64 31, vi .i64 31, vi .i64 3]) rfl rfl (by decide) rfl rfl rfl (by decide) rfl rfl rfl rfl rfl ?_
 refine yP ((PureOp.buildStruct [(0, vi .i64 96), (1, .func (.func 78) #[] #[]), (2, .slice (some ⟨18000, 0, none⟩) 4 0)] pl95.choose_spec.1 zr95 (by decide) pl95.choose_spec.2 rfl rfl).mono (v' := .agg #[vi .i64 96, .func (.func 78) #[] #[], .slice (some ⟨18000, 0, none⟩) 4 0]) rfl) ?_
 refine ySA ?_
 refine zN (zE (zI (zU ?_)))
 exact rq [18000] [.cell 2 95]
theorem values0_ctr {t : Int} (h1 : t ≠ 1) (h2 : t ≠ 2) (h3 : t ≠ 3) (h4 : t ≠ 4) : GC Tryz.prog 51 [.int .i64 t] [] [.agg #[vi .i64 0, .nilFunc, .slice none 0 0]] [] := by
 refine gi Tryz.func51 ?_
 refine zS ?_
 refine yN 3000 1 _ ?_
 refine zN (zQ (zS ?_))
 refine yM ?_
 refine zN (zB (zS ?_))
 refine yP ((PureOp.bin rfl rfl rfl).mono (v' := .bool false) (congrArg Value.bool (by simpa using h1))) ?_
 refine yA ?_
 refine zN (zF (zS ?_))
 refine yP ((PureOp.bin rfl rfl rfl).mono (v' := .bool false) (congrArg Value.bool (by simpa using h2))) ?_
 refine yA ?_
 refine zN (zF (zS ?_))
 refine yP ((PureOp.bin rfl rfl rfl).mono (v' := .bool false) (congrArg Value.bool (by simpa using h3))) ?_
 refine yA ?_
 refine zN (zF (zS ?_))
 refine yP ((PureOp.bin rfl rfl rfl).mono (v' := .bool false) (congrArg Value.bool (by simpa using h4))) ?_
 refine yA ?_
 refine zN (zF (zK (zL (zT (zS ?_)))))
 refine yP ((PureOp.buildStruct [] pl95.choose_spec.1 zr95 (by decide) pl95.choose_spec.2 rfl rfl).mono (v' := .agg #[vi .i64 0, .nilFunc, .slice none 0 0]) rfl) ?_
 refine ySA ?_
 refine zN (zE ?_)
 exact rq [] [.cell 2 95]
theorem esz1_ctr : GC Tryz.prog 58 [.int .i64 1] [] [vi .i64 1] [] := by
 refine gi Tryz.func58 ?_
 refine zS ?_
 refine yA ?_
 refine zN (zS ?_)
 refine yM ?_
 refine yC (values1_ctr) bd51 [] [] ?_
 first | refine AWo.pure (PureOp.fldV1 tbok rfl rfl rfl rfl) rfl rfl ?_
 refine yA ?_
 refine zN (zE ?_)
 exact rq [] [.tmp 2]
theorem esz2_ctr : GC Tryz.prog 58 [.int .i64 2] [] [vi .i64 8] [] := by
 refine gi Tryz.func58 ?_
 refine zS ?_
 refine yA ?_
 refine zN (zS ?_)
 refine yM ?_
 refine yC (values2_ctr) bd51 [] [5000] ?_
 first | refine AWo.pure (PureOp.fldV1 tbok rfl rfl rfl rfl) rfl rfl ?_
 refine yA ?_
 refine zN (zE ?_)
 exact rq [] [.tmp 2]
theorem esz3_ctr : GC Tryz.prog 58 [.int .i64 3] [] [vi .i64 32] [] := by
 refine gi Tryz.func58 ?_
 refine zS ?_
 refine yA ?_
 refine zN (zS ?_)
 refine yM ?_
 refine yC (values3_ctr) bd51 [] [5000] ?_
 first | refine AWo.pure (PureOp.fldV1 tbok rfl rfl rfl rfl) rfl rfl ?_
 refine yA ?_
 refine zN (zE ?_)
 exact rq [] [.tmp 2]
theorem esz4_ctr : GC Tryz.prog 58 [.int .i64 4] [] [vi .i64 96] [] := by
 refine gi Tryz.func58 ?_
 refine zS ?_
 refine yA ?_
 refine zN (zS ?_)
 refine yM ?_
 refine yC (values4_ctr) bd51 [] [5000] ?_
 first | refine AWo.pure (PureOp.fldV1 tbok rfl rfl rfl rfl) rfl rfl ?_
 refine yA ?_
 refine zN (zE ?_)
 exact rq [] [.tmp 2]
theorem esz0_ctr {t : Int} (h1 : t ≠ 1) (h2 : t ≠ 2) (h3 : t ≠ 3) (h4 : t ≠ 4) : GC Tryz.prog 58 [.int .i64 t] [] [vi .i64 0] [] := by
 refine gi Tryz.func58 ?_
 refine zS ?_
 refine yA ?_
 refine zN (zS ?_)
 refine yM ?_
 refine yC (values0_ctr h1 h2 h3 h4) bd51 [] [] ?_
 first | refine AWo.pure (PureOp.fldV1 tbok rfl rfl rfl rfl) rfl rfl ?_
 refine yA ?_
 refine zN (zE ?_)
 exact rq [] [.tmp 2]
theorem size_ctr {t : Int} : GC Tryz.prog 58 [.int .i64 t] [] [vi .i64 (szT t)] [] := by
 unfold szT
 by_cases h1 : t = 1
 · subst h1; exact esz1_ctr
 by_cases h2 : t = 2
 · subst h2; exact esz2_ctr
 by_cases h3 : t = 3
 · subst h3; exact esz3_ctr
 by_cases h4 : t = 4
 · subst h4; exact esz4_ctr
 rw [if_neg h1, if_neg h2, if_neg h3, if_neg h4]
 exact esz0_ctr h1 h2 h3 h4
end Go.Proofs.YtpahdiljpnfkdaaGreat
namespace Go.Proofs.YtpahdiljpnfkdaaGreat
open Go Sim
theorem gReadD {b : List Nat} (hb : bd 256 b) : GC Tryz.prog 79 [db b] [] [.agg ((digs 18446744073709551616 12 (gx b)).map (vi .u64)).toArray, .int .i64 (gc b)] [] := GC.deepen (gRead_ctr hb) (.deep .nil) (.pure (cloA flat_vi) (.pure rfl .nil))
theorem vf3_ctr {b : List Nat} (hb : bd 256 b) : GC Tryz.prog 76 [db b] [] [.int .i64 (rdC b)] [] := by
 refine gi Tryz.func76 ?_
 refine zS ?_
 refine yA ?_
 refine zN (zS ?_)
 refine yM ?_
 refine yC (fbXd hb) bd77 [] [] ?_
 refine yM ?_
 refine yP pX ?_
 refine yP pX ?_
 refine yN 4000 1 _ ?_
 refine AWo.storeAllN tbok rfl rfl rfl rfl (by rw [List.length_map, fel_len]) (by rfl) (oneM (fun _ => rfl) _) rfl ?_
 refine yA ?_
 refine zN (zS ?_)
 refine yM ?_
 refine yA ?_
 refine zN (zE ?_)
 exact rq [] [.tmp 2]
theorem vf4_ctr {b : List Nat} (hb : bd 256 b) : GC Tryz.prog 78 [db b] [] [.int .i64 (gc b)] [] := by
 refine gi Tryz.func78 ?_
 refine zS ?_
 refine yA ?_
 refine zN (zS ?_)
 refine yM ?_
 refine yC (gReadD hb) bd79 [] [] ?_
 refine yM ?_
 refine yP pX ?_
 refine yP pX ?_
 refine yN 4000 1 _ ?_
 refine AWo.storeAllN tbok rfl rfl rfl rfl (by rw [List.length_map, digs_len]) (by rfl) (oneM (fun _ => rfl) _) rfl ?_
 refine yA ?_
 refine zN (zS ?_)
 refine yM ?_
 refine yA ?_
 refine zN (zE ?_)
 exact rq [] [.tmp 2]
theorem count6_ctr {t : Int} {b : List Nat} {s : Nat} (hs : szT t = s) (hl : b.length < 9223372036854775808) (h0 : s = 0) : GC Tryz.prog 49 [.int .i64 t, db b] [] [vi .i64 0, vi .i64 6] [] := by
  have hs2 : s ≤ 96 := hs ▸ szT_le t
  refine gi Tryz.func49 ?_
  refine zS ?_
  refine yA ?_
  refine yA ?_
  refine zN (zS ?_)
  refine yM ?_
  refine AWo.callX (v := vi .i64 s) (size_ctr (t := t)) bd58 [] [] rfl (.cons rfl .nil) rfl (.cons rfl rfl .nil) .nil rfl .nil frN (by decide) (.cons rfl rfl .nil) (congrArg (vi .i64) hs) rfl rfl rfl ?_
  refine yA ?_
  refine zN (zQ (zB (zS ?_)))
  refine yM ?_
  refine yP ((PureOp.eqN (b := 0) rfl rfl).mono (v' := .bool true) (congrArg Value.bool (by simp [h0]))) ?_
  refine yA ?_
  refine zN (zC (zS ?_))
  refine yA ?_
  refine yA ?_
  refine zN (zE (zI (zU ?_)))
  exact rq [] [.tmp 4, .tmp 5]
theorem count3_ctr {t : Int} {b : List Nat} {s : Nat} (hs : szT t = s) (hl : b.length < 9223372036854775808) (h0 : s ≠ 0) (h1 : b.length % s ≠ 0) : GC Tryz.prog 49 [.int .i64 t, db b] [] [vi .i64 0, vi .i64 3] [] := by
  have hs2 : s ≤ 96 := hs ▸ szT_le t
  refine gi Tryz.func49 ?_
  refine zS ?_
  refine yA ?_
  refine yA ?_
  refine zN (zS ?_)
  refine yM ?_
  refine AWo.callX (v := vi .i64 s) (size_ctr (t := t)) bd58 [] [] rfl (.cons rfl .nil) rfl (.cons rfl rfl .nil) .nil rfl .nil frN (by decide) (.cons rfl rfl .nil) (congrArg (vi .i64) hs) rfl rfl rfl ?_
  refine yA ?_
  refine zN (zQ (zB (zS ?_)))
  refine yM ?_
  refine yP ((PureOp.eqN (b := 0) rfl rfl).mono (v' := .bool false) (congrArg Value.bool (by simp [h0]))) ?_
  refine yA ?_
  refine zN (zF (zS ?_))
  refine yM ?_
  refine yP pD ?_
  refine yM ?_
  refine yP ((PureOp.remN rfl rfl (by omega)).mono (v' := vi .i64 (b.length % s)) rfl) ?_
  refine yP ((PureOp.neN (b := 0) rfl rfl).mono (v' := .bool true) (congrArg Value.bool (by simp [h1]))) ?_
  refine yA ?_
  refine zN (zC (zS ?_))
  refine yA ?_
  refine yA ?_
  refine zN (zE (zI (zU ?_)))
  exact rq [] [.tmp 4, .tmp 5]
theorem count7_ctr {t : Int} {b : List Nat} {s : Nat} (hs : szT t = s) (hl : b.length < 9223372036854775808) (h0 : s ≠ 0) (h1 : b.length % s = 0) (h2 : b.length ≠ 0) (h3 : 1048576 < b.length / s) : GC Tryz.prog 49 [.int .i64 t, db b] [] [vi .i64 0, vi .i64 7] [] := by
  have hs2 : s ≤ 96 := hs ▸ szT_le t
  refine gi Tryz.func49 ?_
  refine zS ?_
  refine yA ?_
  refine yA ?_
  refine zN (zS ?_)
  refine yM ?_
  refine AWo.callX (v := vi .i64 s) (size_ctr (t := t)) bd58 [] [] rfl (.cons rfl .nil) rfl (.cons rfl rfl .nil) .nil rfl .nil frN (by decide) (.cons rfl rfl .nil) (congrArg (vi .i64) hs) rfl rfl rfl ?_
  refine yA ?_
  refine zN (zQ (zB (zS ?_)))
  refine yM ?_
  refine yP ((PureOp.eqN (b := 0) rfl rfl).mono (v' := .bool false) (congrArg Value.bool (by simp [h0]))) ?_
  refine yA ?_
  refine zN (zF (zS ?_))
  refine yM ?_
  refine yP pD ?_
  refine yM ?_
  refine yP ((PureOp.remN rfl rfl (by omega)).mono (v' := vi .i64 (b.length % s)) rfl) ?_
  refine yP ((PureOp.neN (b := 0) rfl rfl).mono (v' := .bool false) (congrArg Value.bool (by simp [h1]))) ?_
  refine yA ?_
  refine zN (zF (zS ?_))
  refine yM ?_
  refine yP pD ?_
  refine yP ((PureOp.eqN (b := 0) rfl rfl).mono (v' := .bool false) (congrArg Value.bool (by simp [h2]))) ?_
  refine yM ?_
  refine yM ?_
  refine yP pD ?_
  refine yM ?_
  refine yP (PureOp.quoN 9223372036854775808 rfl rfl (by decide) (by decide) (by omega) (by omega)) ?_
  refine yP ((PureOp.gtN (b := 1048576) rfl rfl).mono (v' := .bool true) (congrArg Value.bool (by simp [h3]))) ?_
  refine yP pE ?_
  refine yA ?_
  refine zN (zC (zS ?_))
  refine yA ?_
  refine yA ?_
  refine zN (zE (zI (zU ?_)))
  exact rq [] [.tmp 4, .tmp 5]
theorem count0_ctr {t : Int} {b : List Nat} {s : Nat} (hs : szT t = s) (hl : b.length < 9223372036854775808) (h0 : s ≠ 0) (h1 : b.length % s = 0) (h2 : b.length ≠ 0) (h3 : b.length / s ≤ 1048576) : GC Tryz.prog 49 [.int .i64 t, db b] [] [vi .i64 (b.length / s), vi .i64 0] [] := by
  have hs2 : s ≤ 96 := hs ▸ szT_le t
  refine gi Tryz.func49 ?_
  refine zS ?_
  refine yA ?_
  refine yA ?_
  refine zN (zS ?_)
  refine yM ?_
  refine AWo.callX (v := vi .i64 s) (size_ctr (t := t)) bd58 [] [] rfl (.cons rfl .nil) rfl (.cons rfl rfl .nil) .nil rfl .nil frN (by decide) (.cons rfl rfl .nil) (congrArg (vi .i64) hs) rfl rfl rfl ?_
  refine yA ?_
  refine zN (zQ (zB (zS ?_)))
  refine yM ?_
  refine yP ((PureOp.eqN (b := 0) rfl rfl).mono (v' := .bool false) (congrArg Value.bool (by simp [h0]))) ?_
  refine yA ?_
  refine zN (zF (zS ?_))
  refine yM ?_
  refine yP pD ?_
  refine yM ?_
  refine yP ((PureOp.remN rfl rfl (by omega)).mono (v' := vi .i64 (b.length % s)) rfl) ?_
  refine yP ((PureOp.neN (b := 0) rfl rfl).mono (v' := .bool false) (congrArg Value.bool (by simp [h1]))) ?_
  refine yA ?_
  refine zN (zF (zS ?_))
  refine yM ?_
  refine yP pD ?_
  refine yP ((PureOp.eqN (b := 0) rfl rfl).mono (v' := .bool false) (congrArg Value.bool (by simp [h2]))) ?_
  refine yM ?_
  refine yM ?_
  refine yP pD ?_
  refine yM ?_
  refine yP (PureOp.quoN 9223372036854775808 rfl rfl (by decide) (by decide) (by omega) (by omega)) ?_
  refine yP ((PureOp.gtN (b := 1048576) rfl rfl).mono (v' := .bool false) (congrArg Value.bool (by simp [h3]))) ?_
  refine yP pE ?_
  refine yA ?_
  refine zN (zF (zK (zL (zT (zS ?_)))))
  refine yM ?_
  refine yP pD ?_
  refine yM ?_
  refine yP (PureOp.quoN 9223372036854775808 rfl rfl (by decide) (by decide) (by omega) (by omega)) ?_
  refine yA ?_
  refine yA ?_
  refine zN (zE ?_)
  exact rq [] [.tmp 4, .tmp 5]
theorem count8_ctr {t : Int} {b : List Nat} {s : Nat} (hs : szT t = s) (hl : b.length < 9223372036854775808) (h0 : s ≠ 0) (h1 : b.length % s = 0) (h2 : b.length = 0) : GC Tryz.prog 49 [.int .i64 t, db b] [] [vi .i64 0, vi .i64 7] [] := by
  have hs2 : s ≤ 96 := hs ▸ szT_le t
  refine gi Tryz.func49 ?_
  refine zS ?_
  refine yA ?_
  refine yA ?_
  refine zN (zS ?_)
  refine yM ?_
  refine AWo.callX (v := vi .i64 s) (size_ctr (t := t)) bd58 [] [] rfl (.cons rfl .nil) rfl (.cons rfl rfl .nil) .nil rfl .nil frN (by decide) (.cons rfl rfl .nil) (congrArg (vi .i64) hs) rfl rfl rfl ?_
  refine yA ?_
  refine zN (zQ (zB (zS ?_)))
  refine yM ?_
  refine yP ((PureOp.eqN (b := 0) rfl rfl).mono (v' := .bool false) (congrArg Value.bool (by simp [h0]))) ?_
  refine yA ?_
  refine zN (zF (zS ?_))
  refine yM ?_
  refine yP pD ?_
  refine yM ?_
  refine yP (PureOp.remN rfl rfl (by omega)) ?_
  refine yP ((PureOp.neN (b := 0) rfl rfl).mono (v' := .bool false) (congrArg Value.bool (by simp [h1]))) ?_
  refine yA ?_
  refine zN (zF (zS ?_))
  refine yM ?_
  refine yP pD ?_
  refine yP ((PureOp.eqN (b := 0) rfl rfl).mono (v' := .bool true) (congrArg Value.bool (by simp [h2]))) ?_
  refine yM ?_
  refine yK ?_
  refine yK ?_
  refine yK ?_
  refine yK ?_
  refine yK ?_
  refine yP pT ?_
  refine yA ?_
  refine zN (zC (zS ?_))
  refine yA ?_
  refine yA ?_
  refine zN (zE (zI (zU ?_)))
  exact rq [] [.tmp 4, .tmp 5]
theorem cC_6 {t : Int} {L s : Nat} (hs : szT t = s) (h0 : s = 0) : cC t L = 6 := if_pos (hs.trans h0)
theorem cC_3 {t : Int} {L s : Nat} (hs : szT t = s) (h0 : s ≠ 0) (h1 : L % s ≠ 0) : cC t L = 3 := by subst hs; rw [cC, if_neg h0, if_pos h1]
theorem cC_7 {t : Int} {L s : Nat} (hs : szT t = s) (h0 : s ≠ 0) (h1 : L % s = 0) (h2 : L / s < 1 ∨ 1048576 < L / s) : cC t L = 7 := by subst hs; rw [cC, if_neg h0, if_neg (fun h => h h1), if_pos h2]
theorem cC_0 {t : Int} {L s : Nat} (hs : szT t = s) (h0 : s ≠ 0) (h1 : L % s = 0) (h2 : ¬ (L / s < 1 ∨ 1048576 < L / s)) : cC t L = 0 := by subst hs; rw [cC, if_neg h0, if_neg (fun h => h h1), if_neg h2]
theorem cN_0 {t : Int} {L s : Nat} (hs : szT t = s) (h : cC t L = 0) : cN t L = L / s := by subst hs; exact if_pos h
theorem cN_e {t : Int} {L e : Nat} (h : cC t L = e) (he : e ≠ 0) : cN t L = 0 := if_neg (by rw [h]; exact he)
theorem count_ctr {t : Int} {b : List Nat} (hl : b.length < 9223372036854775808) : GC Tryz.prog 49 [.int .i64 t, db b] [] [vi .i64 (cN t b.length), vi .i64 (cC t b.length)] [] := by
  obtain ⟨s, hs⟩ : ∃ s, szT t = s := ⟨_, rfl⟩
  by_cases h0 : s = 0
  · have e := cC_6 (L := b.length) hs h0
    rw [cN_e e (by decide), e]; exact count6_ctr hs hl h0
  by_cases h1 : b.length % s = 0
  · by_cases h2 : b.length = 0
    · have e := cC_7 (L := b.length) hs h0 h1 (.inl (by rw [h2, Nat.zero_div]; exact Nat.zero_lt_one))
      rw [cN_e e (by decide), e]; exact count8_ctr hs hl h0 h1 h2
    have h4 : 1 ≤ b.length / s := by
      have := Nat.div_add_mod b.length s
      rw [h1] at this
      refine Nat.pos_of_ne_zero fun e => h2 ?_
      rw [e] at this; simpa using this.symm
    by_cases h3 : 1048576 < b.length / s
    · have e := cC_7 (L := b.length) hs h0 h1 (.inr h3)
      rw [cN_e e (by decide), e]; exact count7_ctr hs hl h0 h1 h2 h3
    · have e := cC_0 (L := b.length) hs h0 h1 (by omega)
      rw [cN_0 hs e, e]; exact count0_ctr hs hl h0 h1 h2 (by omega)
  · have e := cC_3 (L := b.length) hs h0 h1
    rw [cN_e e (by decide), e]; exact count3_ctr hs hl h0 h1
end Go.Proofs.YtpahdiljpnfkdaaGreat
namespace Go.Proofs.YtpahdiljpnfkdaaGreat
open Go Sim
theorem itC_inv {k t c : Int} (h : itC k t c = 0) : 1 ≤ k ∧ k ≤ 3 ∧ 0 ≤ t ∧ t ≤ 4 ∧ 1 ≤ c ∧ c ≤ 1048576 ∧ (k = 1 → 1 ≤ t) := by
  unfold itC at h
  split at h
  · cases h
  · split at h
    · cases h
    · split at h
      · cases h
      · rename_i h1 h2 h3
        refine ⟨?_, ?_, ?_, ?_, ?_, ?_, ?_⟩ <;> omega
theorem ckC_inv {t : Int} {b : List Nat} (h : ckC t b = 0) : cC t b.length = 0 ∧ okTo t b (b.length / szT t) := by
  unfold ckC at h
  split at h
  · rename_i hne; exact absurd h hne
  · rename_i hne
    split at h
    · rename_i ho; exact ⟨Decidable.not_not.1 hne, ho⟩
    · cases h
theorem cC_inv {t : Int} {L : Nat} (h : cC t L = 0) : 0 < szT t ∧ L = L / szT t * szT t ∧ 1 ≤ L / szT t ∧ L / szT t ≤ 1048576 ∧ cN t L = L / szT t := by
  have hn : cN t L = L / szT t := if_pos h
  unfold cC at h
  split at h
  · cases h
  · split at h
    · cases h
    · split at h
      · cases h
      · rename_i h1 h2 h3
        have h2 : L % szT t = 0 := Decidable.not_not.1 h2
        refine ⟨Nat.pos_of_ne_zero h1, ?_, by omega, by omega, hn⟩
        have := Nat.div_add_mod L (szT t)
        rw [h2, Nat.mul_comm] at this
        exact this.symm
theorem lng_rgt {x : Opn} (h : Rgt x) : lng x = x.d.length := by
  obtain ⟨h1, h2⟩ := h
  have hi := itC_inv h1
  unfold lng
  by_cases hk : x.k = 1
  · rw [if_pos hk] at h2 ⊢
    obtain ⟨h3, h4⟩ := h2
    obtain ⟨h5, h6⟩ := ckC_inv h4
    obtain ⟨g1, g2, g3, g4, g5⟩ := cC_inv h5
    rw [h3, g5]
    rw [Int.toNat_natCast]
    exact g2.symm
  · rw [if_neg hk] at h2 ⊢
    rw [h2]; rfl
theorem toF_len {x : Opn} (h : Rgt x) : (toF x).length = 1 + np x.t x.d.length := by
  rw [toF, if_pos h, List.length_cons, List.length_map, pcs_len, Nat.add_comm]
noncomputable def ofB (B : List Nat) : Opn × Nat × Nat :=
  if B.length < 6 then (op0, 0, 2) else
  if itC (bgn (num 256 (B.take 6))).k (bgn (num 256 (B.take 6))).t (bgn (num 256 (B.take 6))).c ≠ 0 then (op0, 0, 3) else
  if B.length < 6 + lng (bgn (num 256 (B.take 6))) then (op0, 0, 2) else
  if Rgt { bgn (num 256 (B.take 6)) with d := (B.drop 6).take (lng (bgn (num 256 (B.take 6)))) } then
    ({ bgn (num 256 (B.take 6)) with d := (B.drop 6).take (lng (bgn (num 256 (B.take 6)))) }, 6 + lng (bgn (num 256 (B.take 6))), 0) else (op0, 0, 3)
def plen (t : Int) (L i : Nat) : Nat := min (wd t i) (L - off t i)
def bad (t : Int) (L : Nat) (l : List Fp) (k : Nat) : Bool := (List.range k).any fun i => decide (256 ^ plen t L i ≤ (l.getD (1 + i) 0).val)
def rdD (t : Int) (L : Nat) (l : List Fp) (k : Nat) : List Nat := ((List.range k).map fun i => digs 256 (plen t L i) (l.getD (1 + i) 0).val).flatten
noncomputable def ofF1 (l : List Fp) (x : Opn) : Opn × Nat × Nat :=
  if 32 * l.length < lng x then (op0, 0, 2) else
  if l.length < 1 + np x.t (lng x) then (op0, 0, 2) else
  if bad x.t (lng x) l (np x.t (lng x)) then (op0, 0, 3) else
  if Rgt { x with d := rdD x.t (lng x) l (np x.t (lng x)) } then ({ x with d := rdD x.t (lng x) l (np x.t (lng x)) }, 1 + np x.t (lng x), 0) else (op0, 0, 3)
noncomputable def ofF (l : List Fp) : Opn × Nat × Nat :=
  if l.length = 0 then (op0, 0, 2) else
  if itC (bgn ((l.getD 0 0).val % 18446744073709551616)).k (bgn ((l.getD 0 0).val % 18446744073709551616)).t (bgn ((l.getD 0 0).val % 18446744073709551616)).c ≠ 0 ∨ 18446744073709551616 ≤ (l.getD 0 0).val then (op0, 0, 3) else
  ofF1 l (bgn ((l.getD 0 0).val % 18446744073709551616))
end Go.Proofs.YtpahdiljpnfkdaaGreat
namespace Go.Proofs.YtpahdiljpnfkdaaGreat
open Go Sim
theorem ck_err {t : Int} {b : List Nat} (h : cC t b.length ≠ 0) : ckC t b = cC t b.length := if_pos h
theorem ck_ok {t : Int} {b : List Nat} (h : cC t b.length = 0) (ho : okTo t b (b.length / szT t)) : ckC t b = 0 := by
 unfold ckC; rw [if_neg (by simpa using h), if_pos ho]
theorem ck_bad {t : Int} {b : List Nat} {k : Nat} (h : cC t b.length = 0) (hk : k < b.length / szT t) (hz : vC t (vl t b k) ≠ 0) : ckC t b = 4 := by
 unfold ckC; rw [if_neg (by simpa using h), if_neg (fun ho => hz (ho k hk))]
theorem okTo_succ {t : Int} {b : List Nat} {k : Nat} (ho : okTo t b k) (hz : vC t (vl t b k) = 0) : okTo t b (k + 1) := fun i hi => by
 rcases Nat.lt_succ_iff_lt_or_eq.1 hi with h | rfl
 · exact ho i h
 · exact hz
theorem vC3 (v : List Nat) : vC 3 v = rdC v := if_pos rfl
theorem vC4 (v : List Nat) : vC 4 v = gc v := by rw [vC, if_neg (by decide), if_pos rfl]
theorem rReadD {b : List Nat} (hb : bd 256 b) : GC Tryz.prog 57 [db b] [] [dd (gx b), .int .i64 (gc b)] [] := GC.deepen (rRead_ctr hb) (.deep .nil) (.pure rfl (.pure rfl .nil))
theorem check1_ctr {b : List Nat} (hb : bd 256 b) (hl : b.length < 9223372036854775808) (hc : cC 1 b.length = 0) : GC Tryz.prog 50 [.int .i64 1, db b] [] [vi .i64 (ckC 1 b)] [] := by
  refine gi Tryz.func50 ?_
  obtain ⟨_, hn, h1, h2, h3⟩ := cC_inv hc
  change b.length = b.length / 1 * 1 at hn
  change 1 ≤ b.length / 1 at h1
  change b.length / 1 ≤ 1048576 at h2
  change cN 1 b.length = b.length / 1 at h3
  rw [ck_ok hc (fun i _ => by rw [vC, if_neg (by decide), if_neg (by decide)])]
  refine zS ?_
  refine yA ?_
  refine zN (zQ (zS ?_))
  refine yM ?_
  refine yM ?_
  refine yC (v := .tuple #[vi .i64 (b.length / 1), vi .i64 0]) (count_ctr (t := 1) hl) bd49 [] [] ?_ (hv := (by rw [h3, hc]; rfl))
  refine yM ?_
  refine yP pX ?_
  refine yP pX ?_
  refine yA ?_
  refine yA ?_
  refine zN (zS ?_)
  refine yM ?_
  refine yP ((PureOp.neN (b := 0) rfl rfl).mono (v' := .bool false) (congrArg Value.bool (rfl))) ?_
  refine zN (zF (zK (zT (zS ?_))))
  refine yM ?_
  refine yC (values1_ctr) bd51 [] [] ?_
  refine yN 8000 1 _ ?_
  refine ySA ?_
  refine zN (zQ (zS ?_))
  refine yA ?_
  refine zN (zB ?_)
  refine AW.rounds 1 ?_
  refine roundsA_succ ?_
  refine zQ (zS ?_)
  refine yP pF ?_
  refine yL1 ?_
  refine yP (PureOp.nilFnNeNil Tryz.underlying93 rfl rfl) ?_
  refine yM ?_
  refine yK ?_
  refine yK ?_
  refine yK ?_
  refine yK ?_
  refine yP pE ?_
  refine zN (zF (zX (zV (zV (zH (zT (zS ?_)))))))
  refine yA ?_
  refine zN (zE ?_)
  exact rq [] [.tmp 4]
theorem check2_ctr {b : List Nat} (hb : bd 256 b) (hl : b.length < 9223372036854775808) (hc : cC 2 b.length = 0) : GC Tryz.prog 50 [.int .i64 2, db b] [] [vi .i64 (ckC 2 b)] [] := by
  refine gi Tryz.func50 ?_
  obtain ⟨_, hn, h1, h2, h3⟩ := cC_inv hc
  change b.length = b.length / 8 * 8 at hn
  change 1 ≤ b.length / 8 at h1
  change b.length / 8 ≤ 1048576 at h2
  change cN 2 b.length = b.length / 8 at h3
  rw [ck_ok hc (fun i _ => by rw [vC, if_neg (by decide), if_neg (by decide)])]
  refine zS ?_
  refine yA ?_
  refine zN (zQ (zS ?_))
  refine yM ?_
  refine yM ?_
  refine yC (v := .tuple #[vi .i64 (b.length / 8), vi .i64 0]) (count_ctr (t := 2) hl) bd49 [] [] ?_ (hv := (by rw [h3, hc]; rfl))
  refine yM ?_
  refine yP pX ?_
  refine yP pX ?_
  refine yA ?_
  refine yA ?_
  refine zN (zS ?_)
  refine yM ?_
  refine yP ((PureOp.neN (b := 0) rfl rfl).mono (v' := .bool false) (congrArg Value.bool (rfl))) ?_
  refine zN (zF (zK (zT (zS ?_))))
  refine yM ?_
  refine yC (values2_ctr) bd51 [] [20000] ?_
  refine yN 8000 1 _ ?_
  refine ySA ?_
  refine zN (zQ (zS ?_))
  refine yA ?_
  refine zN (zB ?_)
  refine AW.rounds 1 ?_
  refine roundsA_succ ?_
  refine zQ (zS ?_)
  refine yP pF ?_
  refine yL1 ?_
  refine yP (PureOp.nilFnNeNil Tryz.underlying93 rfl rfl) ?_
  refine yM ?_
  refine yK ?_
  refine yK ?_
  refine yK ?_
  refine yK ?_
  refine yP pE ?_
  refine zN (zF (zX (zV (zV (zH (zT (zS ?_)))))))
  refine yA ?_
  refine zN (zE ?_)
  exact rq [] [.tmp 4]
theorem check3_ctr {b : List Nat} (hb : bd 256 b) (hl : b.length < 9223372036854775808) (hc : cC 3 b.length = 0) : GC Tryz.prog 50 [.int .i64 3, db b] [] [vi .i64 (ckC 3 b)] [] := by
  refine gi Tryz.func50 ?_
  obtain ⟨_, hn, h1, h2, h3⟩ := cC_inv hc
  change b.length = b.length / 32 * 32 at hn
  change 1 ≤ b.length / 32 at h1
  change b.length / 32 ≤ 1048576 at h2
  change cN 3 b.length = b.length / 32 at h3
  refine zS ?_
  refine yA ?_
  refine zN (zQ (zS ?_))
  refine yM ?_
  refine yM ?_
  refine yC (v := .tuple #[vi .i64 (b.length / 32), vi .i64 0]) (count_ctr (t := 3) hl) bd49 [] [] ?_ (hv := (by rw [h3, hc]; rfl))
  refine yM ?_
  refine yP pX ?_
  refine yP pX ?_
  refine yA ?_
  refine yA ?_
  refine zN (zS ?_)
  refine yM ?_
  refine yP ((PureOp.neN (b := 0) rfl rfl).mono (v' := .bool false) (congrArg Value.bool (rfl))) ?_
  refine zN (zF (zK (zT (zS ?_))))
  refine yM ?_
  refine yC (values3_ctr) bd51 [] [20000] ?_
  refine yN 8000 1 _ ?_
  refine ySA ?_
  refine zN (zQ (zS ?_))
  refine yA ?_
  refine zN (zB ?_)
  refine AW.loopw (fun mm σ => ∃ k, (okTo 3 b k ∧ k ≤ b.length / 32) ∧ mm = b.length / 32 - k ∧ σ = ⟨(upd (upd (upd emp 1 (db b)) 7 (.pointer (some ⟨8000, 0, none⟩))) 8 (vi .i64 (k * 32))), (upd (upd emp 8000 ⟨[vi .i64 32, .func (.func 76) #[] #[], .slice (some ⟨20000, 0, none⟩) 1 0], true, 1⟩) 20000 ⟨[32].map (vi .i64), true, 1⟩)⟩) (fm := []) ?_ ⟨0, ⟨fun i hi => absurd hi (Nat.not_lt_zero i), Nat.zero_le _⟩, rfl, by rw [Nat.zero_mul]⟩ ?_
  ·
    exact wk [8000, 20000]
  ·
    rintro mm σ ⟨k, ⟨ho, hk⟩, rfl, rfl⟩
    refine zQ (zS ?_)
    refine yP pF ?_
    refine yL1 ?_
    refine yP (PureOp.fnNeNil Tryz.underlying93 rfl rfl) ?_
    refine yM ?_
    refine yM ?_
    refine yM ?_
    refine yP pD ?_
    refine yP pLt ?_
    refine yP pT ?_
    refine zN ?_
    refine zA (fun hb0 => ?_) (fun hb0 => ?_)
    ·
      have hlt : k * 32 < b.length := by simpa using hb0
      refine zK (zT (zQ (zB ?_)))
      refine AW.seqD mixed ?_
      refine yP pF ?_
      refine yL1 ?_
      refine yM ?_
      refine yM ?_
      refine yM ?_
      refine yP pF ?_
      refine yL1 ?_
      refine yP pAdd ?_
      refine yP ((PureOp.sliceD (l := k * 32) (h := k * 32 + 32) rfl (.some rfl) (.some rfl) (tbok.sl _ _ rfl) (tbok.sz _ _ rfl) (by omega) (by omega)).mono (v' := db (vl 3 b k)) (by rw [db_part (by omega) (by omega), Nat.add_sub_cancel_left]; rfl)) ?_
      refine yC (vf3_ctr (b := vl 3 b k) (bd_part hb _ _)) bd76 [] [] ?_
      refine yP (PureOp.bin rfl rfl rfl) ?_
      refine zD ?_
      refine zA (fun hb1 => ?_) (fun hb1 => ?_)
      ·
        have hz : ¬ rdC (vl 3 b k) = 0 := by simpa using hb1
        rw [ck_bad hc (k := k) (by show k < b.length / 32; omega) (by rw [vC3]; exact hz)]
        refine zS ?_
        refine yA ?_
        refine zN (zE (zI (zU (zU (zI (zU ?_))))))
        exact rq [] [.tmp 4]
      ·
        have hz : rdC (vl 3 b k) = 0 := by simpa using hb1
        refine zK (zL (zT (zR ?_)))
        refine yM ?_
        refine yP pF ?_
        refine yL1 ?_
        refine yP pAdd ?_
        refine yA ?_
        refine zN (zT ?_)
        exact ⟨b.length / 32 - (k + 1), [], _, by omega, wk [8000, 20000], k + 1, ⟨okTo_succ ho (by rw [vC3]; exact hz), by omega⟩, rfl, rfl⟩
    ·
      have hge : ¬ k * 32 < b.length := by simpa using hb0
      obtain rfl : k = b.length / 32 := by omega
      rw [ck_ok hc ho]
      refine zX (zV (zV (zH (zT (zS ?_)))))
      refine yA ?_
      refine zN (zE ?_)
      exact rq [] [.tmp 4]
theorem check4_ctr {b : List Nat} (hb : bd 256 b) (hl : b.length < 9223372036854775808) (hc : cC 4 b.length = 0) : GC Tryz.prog 50 [.int .i64 4, db b] [] [vi .i64 (ckC 4 b)] [] := by
  refine gi Tryz.func50 ?_
  obtain ⟨_, hn, h1, h2, h3⟩ := cC_inv hc
  change b.length = b.length / 96 * 96 at hn
  change 1 ≤ b.length / 96 at h1
  change b.length / 96 ≤ 1048576 at h2
  change cN 4 b.length = b.length / 96 at h3
  refine zS ?_
  refine yA ?_
  refine zN (zQ (zS ?_))
  refine yM ?_
  refine yM ?_
  refine yC (v := .tuple #[vi .i64 (b.length / 96), vi .i64 0]) (count_ctr (t := 4) hl) bd49 [] [] ?_ (hv := (by rw [h3, hc]; rfl))
  refine yM ?_
  refine yP pX ?_
  refine yP pX ?_
  refine yA ?_
  refine yA ?_
  refine zN (zS ?_)
  refine yM ?_
  refine yP ((PureOp.neN (b := 0) rfl rfl).mono (v' := .bool false) (congrArg Value.bool (rfl))) ?_
  refine zN (zF (zK (zT (zS ?_))))
  refine yM ?_
  refine yC (values4_ctr) bd51 [] [20000] ?_
  refine yN 8000 1 _ ?_
  refine ySA ?_
  refine zN (zQ (zS ?_))
  refine yA ?_
  refine zN (zB ?_)
  refine AW.loopw (fun mm σ => ∃ k, (okTo 4 b k ∧ k ≤ b.length / 96) ∧ mm = b.length / 96 - k ∧ σ = ⟨(upd (upd (upd emp 1 (db b)) 7 (.pointer (some ⟨8000, 0, none⟩))) 8 (vi .i64 (k * 96))), (upd (upd emp 8000 ⟨[vi .i64 96, .func (.func 78) #[] #[], .slice (some ⟨20000, 0, none⟩) 4 0], true, 1⟩) 20000 ⟨[31, 31, 31, 3].map (vi .i64), true, 1⟩)⟩) (fm := []) ?_ ⟨0, ⟨fun i hi => absurd hi (Nat.not_lt_zero i), Nat.zero_le _⟩, rfl, by rw [Nat.zero_mul]⟩ ?_
  ·
    exact wk [8000, 20000]
  ·
    rintro mm σ ⟨k, ⟨ho, hk⟩, rfl, rfl⟩
    refine zQ (zS ?_)
    refine yP pF ?_
    refine yL1 ?_
    refine yP (PureOp.fnNeNil Tryz.underlying93 rfl rfl) ?_
    refine yM ?_
    refine yM ?_
    refine yM ?_
    refine yP pD ?_
    refine yP pLt ?_
    refine yP pT ?_
    refine zN ?_
    refine zA (fun hb0 => ?_) (fun hb0 => ?_)
    ·
      have hlt : k * 96 < b.length := by simpa using hb0
      refine zK (zT (zQ (zB ?_)))
      refine AW.seqD mixed ?_
      refine yP pF ?_
      refine yL1 ?_
      refine yM ?_
      refine yM ?_
      refine yM ?_
      refine yP pF ?_
      refine yL1 ?_
      refine yP pAdd ?_
      refine yP ((PureOp.sliceD (l := k * 96) (h := k * 96 + 96) rfl (.some rfl) (.some rfl) (tbok.sl _ _ rfl) (tbok.sz _ _ rfl) (by omega) (by omega)).mono (v' := db (vl 4 b k)) (by rw [db_part (by omega) (by omega), Nat.add_sub_cancel_left]; rfl)) ?_
      refine yC (vf4_ctr (b := vl 4 b k) (bd_part hb _ _)) bd78 [] [] ?_
      refine yP (PureOp.bin rfl rfl rfl) ?_
      refine zD ?_
      refine zA (fun hb1 => ?_) (fun hb1 => ?_)
      ·
        have hz : ¬ gc (vl 4 b k) = 0 := by simpa using hb1
        rw [ck_bad hc (k := k) (by show k < b.length / 96; omega) (by rw [vC4]; exact hz)]
        refine zS ?_
        refine yA ?_
        refine zN (zE (zI (zU (zU (zI (zU ?_))))))
        exact rq [] [.tmp 4]
      ·
        have hz : gc (vl 4 b k) = 0 := by simpa using hb1
        refine zK (zL (zT (zR ?_)))
        refine yM ?_
        refine yP pF ?_
        refine yL1 ?_
        refine yP pAdd ?_
        refine yA ?_
        refine zN (zT ?_)
        exact ⟨b.length / 96 - (k + 1), [], _, by omega, wk [8000, 20000], k + 1, ⟨okTo_succ ho (by rw [vC4]; exact hz), by omega⟩, rfl, rfl⟩
    ·
      have hge : ¬ k * 96 < b.length := by simpa using hb0
      obtain rfl : k = b.length / 96 := by omega
      rw [ck_ok hc ho]
      refine zX (zV (zV (zH (zT (zS ?_)))))
      refine yA ?_
      refine zN (zE ?_)
      exact rq [] [.tmp 4]
theorem checkE_ctr {t : Int} {b : List Nat} (hl : b.length < 9223372036854775808) (hc : cC t b.length ≠ 0) : GC Tryz.prog 50 [.int .i64 t, db b] [] [vi .i64 (ckC t b)] [] := by
  refine gi Tryz.func50 ?_
  rw [ck_err hc]
  refine zS ?_
  refine yA ?_
  refine zN (zQ (zS ?_))
  refine yM ?_
  refine yM ?_
  refine yC (count_ctr (t := t) hl) bd49 [] [] ?_
  refine yM ?_
  refine yP pX ?_
  refine yP pX ?_
  refine yA ?_
  refine yA ?_
  refine zN (zS ?_)
  refine yM ?_
  refine yP ((PureOp.neN (b := 0) rfl rfl).mono (v' := .bool true) (congrArg Value.bool (by simp [hc]))) ?_
  refine zN (zC (zS ?_))
  refine yM ?_
  refine yA ?_
  refine zN (zE (zU ?_))
  exact rq [] [.tmp 4]
theorem size151_ctr : GC Tryz.prog 55 [.int .i64 1] [] [vi .i64 1] [] := by
  refine gi Tryz.func55 ?_
  refine zS ?_
  refine yA ?_
  refine zN (zQ (zS ?_))
  refine yM ?_
  refine zN (zB (zS ?_))
  refine yP ((PureOp.eqN (b := 1) rfl rfl).mono (v' := .bool true) (congrArg Value.bool (by decide))) ?_
  refine yA ?_
  refine zN (zC (zS ?_))
  refine yA ?_
  refine zN (zE (zI (zU ?_)))
  exact rq [] [.tmp 2]
theorem size152_ctr : GC Tryz.prog 55 [.int .i64 2] [] [vi .i64 8] [] := by
  refine gi Tryz.func55 ?_
  refine zS ?_
  refine yA ?_
  refine zN (zQ (zS ?_))
  refine yM ?_
  refine zN (zB (zS ?_))
  refine yP ((PureOp.eqN (b := 1) rfl rfl).mono (v' := .bool false) (congrArg Value.bool (by decide))) ?_
  refine yA ?_
  refine zN (zF (zS ?_))
  refine yP ((PureOp.eqN (b := 2) rfl rfl).mono (v' := .bool true) (congrArg Value.bool (by decide))) ?_
  refine yA ?_
  refine zN (zC (zS ?_))
  refine yA ?_
  refine zN (zE (zI (zU ?_)))
  exact rq [] [.tmp 2]
theorem size153_ctr : GC Tryz.prog 55 [.int .i64 3] [] [vi .i64 32] [] := by
  refine gi Tryz.func55 ?_
  refine zS ?_
  refine yA ?_
  refine zN (zQ (zS ?_))
  refine yM ?_
  refine zN (zB (zS ?_))
  refine yP ((PureOp.eqN (b := 1) rfl rfl).mono (v' := .bool false) (congrArg Value.bool (by decide))) ?_
  refine yA ?_
  refine zN (zF (zS ?_))
  refine yP ((PureOp.eqN (b := 2) rfl rfl).mono (v' := .bool false) (congrArg Value.bool (by decide))) ?_
  refine yA ?_
  refine zN (zF (zS ?_))
  refine yP ((PureOp.eqN (b := 3) rfl rfl).mono (v' := .bool true) (congrArg Value.bool (by decide))) ?_
  refine yA ?_
  refine zN (zC (zS ?_))
  refine yA ?_
  refine zN (zE (zI (zU ?_)))
  exact rq [] [.tmp 2]
theorem size154_ctr : GC Tryz.prog 55 [.int .i64 4] [] [vi .i64 96] [] := by
  refine gi Tryz.func55 ?_
  refine zS ?_
  refine yA ?_
  refine zN (zQ (zS ?_))
  refine yM ?_
  refine zN (zB (zS ?_))
  refine yP ((PureOp.eqN (b := 1) rfl rfl).mono (v' := .bool false) (congrArg Value.bool (by decide))) ?_
  refine yA ?_
  refine zN (zF (zS ?_))
  refine yP ((PureOp.eqN (b := 2) rfl rfl).mono (v' := .bool false) (congrArg Value.bool (by decide))) ?_
  refine yA ?_
  refine zN (zF (zS ?_))
  refine yP ((PureOp.eqN (b := 3) rfl rfl).mono (v' := .bool false) (congrArg Value.bool (by decide))) ?_
  refine yA ?_
  refine zN (zF (zS ?_))
  refine yP ((PureOp.eqN (b := 4) rfl rfl).mono (v' := .bool true) (congrArg Value.bool (by decide))) ?_
  refine yA ?_
  refine zN (zC (zS ?_))
  refine yA ?_
  refine zN (zE (zI (zU ?_)))
  exact rq [] [.tmp 2]
theorem size150_ctr {t : Int} (h1 : t ≠ 1) (h2 : t ≠ 2) (h3 : t ≠ 3) (h4 : t ≠ 4) : GC Tryz.prog 55 [.int .i64 t] [] [vi .i64 0] [] := by
  refine gi Tryz.func55 ?_
  refine zS ?_
  refine yA ?_
  refine zN (zQ (zS ?_))
  refine yM ?_
  refine zN (zB (zS ?_))
  refine yP ((PureOp.bin rfl rfl rfl).mono (v' := .bool false) (congrArg Value.bool (by simpa using h1))) ?_
  refine yA ?_
  refine zN (zF (zS ?_))
  refine yP ((PureOp.bin rfl rfl rfl).mono (v' := .bool false) (congrArg Value.bool (by simpa using h2))) ?_
  refine yA ?_
  refine zN (zF (zS ?_))
  refine yP ((PureOp.bin rfl rfl rfl).mono (v' := .bool false) (congrArg Value.bool (by simpa using h3))) ?_
  refine yA ?_
  refine zN (zF (zS ?_))
  refine yP ((PureOp.bin rfl rfl rfl).mono (v' := .bool false) (congrArg Value.bool (by simpa using h4))) ?_
  refine yA ?_
  refine zN (zF (zK (zL (zT (zS ?_)))))
  refine yA ?_
  refine zN (zE ?_)
  exact rq [] [.tmp 2]
theorem size15_ctr {t : Int} : GC Tryz.prog 55 [.int .i64 t] [] [vi .i64 (szT t)] [] := by
  unfold szT
  by_cases h1 : t = 1
  · subst h1; exact size151_ctr
  by_cases h2 : t = 2
  · subst h2; exact size152_ctr
  by_cases h3 : t = 3
  · subst h3; exact size153_ctr
  by_cases h4 : t = 4
  · subst h4; exact size154_ctr
  rw [if_neg h1, if_neg h2, if_neg h3, if_neg h4]
  exact size150_ctr h1 h2 h3 h4
theorem count156_ctr {t : Int} {b : List Nat} {s : Nat} (hs : szT t = s) (hl : b.length < 9223372036854775808) (h0 : s = 0) : GC Tryz.prog 30 [.int .i64 t, db b] [] [vi .i64 0, vi .i64 6] [] := by
  have hs2 : s ≤ 96 := hs ▸ szT_le t
  refine gi Tryz.func30 ?_
  refine zS ?_
  refine yA ?_
  refine yA ?_
  refine zN (zQ (zS ?_))
  refine yM ?_
  refine AWo.callX (v := vi .i64 s) (size15_ctr (t := t)) bd55 [] [] rfl (.cons rfl .nil) rfl (.cons rfl rfl .nil) .nil rfl .nil frN (by decide) (.cons rfl rfl .nil) (congrArg (vi .i64) hs) rfl rfl rfl ?_
  refine yP ((PureOp.eqN (b := 0) rfl rfl).mono (v' := .bool true) (congrArg Value.bool (by simp [h0]))) ?_
  refine zN (zC (zS ?_))
  refine yA ?_
  refine yA ?_
  refine zN (zE (zU ?_))
  exact rq [] [.tmp 4, .tmp 5]
theorem count153_ctr {t : Int} {b : List Nat} {s : Nat} (hs : szT t = s) (hl : b.length < 9223372036854775808) (h0 : s ≠ 0) (h1 : b.length % s ≠ 0) : GC Tryz.prog 30 [.int .i64 t, db b] [] [vi .i64 0, vi .i64 3] [] := by
  have hs2 : s ≤ 96 := hs ▸ szT_le t
  refine gi Tryz.func30 ?_
  refine zS ?_
  refine yA ?_
  refine yA ?_
  refine zN (zQ (zS ?_))
  refine yM ?_
  refine AWo.callX (v := vi .i64 s) (size15_ctr (t := t)) bd55 [] [] rfl (.cons rfl .nil) rfl (.cons rfl rfl .nil) .nil rfl .nil frN (by decide) (.cons rfl rfl .nil) (congrArg (vi .i64) hs) rfl rfl rfl ?_
  refine yP ((PureOp.eqN (b := 0) rfl rfl).mono (v' := .bool false) (congrArg Value.bool (by simp [h0]))) ?_
  refine zN (zF (zK (zT (zQ (zS ?_)))))
  refine yM ?_
  refine yP pD ?_
  refine yM ?_
  refine AWo.callX (v := vi .i64 s) (size15_ctr (t := t)) bd55 [] [] rfl (.cons rfl .nil) rfl (.cons rfl rfl .nil) .nil rfl .nil frN (by decide) (.cons rfl rfl .nil) (congrArg (vi .i64) hs) rfl rfl rfl ?_
  refine yP ((PureOp.remN rfl rfl (by omega)).mono (v' := vi .i64 (b.length % s)) rfl) ?_
  refine yP ((PureOp.neN (b := 0) rfl rfl).mono (v' := .bool true) (congrArg Value.bool (by simp [h1]))) ?_
  refine zN (zC (zS ?_))
  refine yA ?_
  refine yA ?_
  refine zN (zE (zU ?_))
  exact rq [] [.tmp 4, .tmp 5]
theorem count158_ctr {t : Int} {b : List Nat} {s : Nat} (hs : szT t = s) (hl : b.length < 9223372036854775808) (h0 : s ≠ 0) (h1 : b.length % s = 0) (h2 : b.length / s < 1) : GC Tryz.prog 30 [.int .i64 t, db b] [] [vi .i64 0, vi .i64 7] [] := by
  have hs2 : s ≤ 96 := hs ▸ szT_le t
  refine gi Tryz.func30 ?_
  refine zS ?_
  refine yA ?_
  refine yA ?_
  refine zN (zQ (zS ?_))
  refine yM ?_
  refine AWo.callX (v := vi .i64 s) (size15_ctr (t := t)) bd55 [] [] rfl (.cons rfl .nil) rfl (.cons rfl rfl .nil) .nil rfl .nil frN (by decide) (.cons rfl rfl .nil) (congrArg (vi .i64) hs) rfl rfl rfl ?_
  refine yP ((PureOp.eqN (b := 0) rfl rfl).mono (v' := .bool false) (congrArg Value.bool (by simp [h0]))) ?_
  refine zN (zF (zK (zT (zQ (zS ?_)))))
  refine yM ?_
  refine yP pD ?_
  refine yM ?_
  refine AWo.callX (v := vi .i64 s) (size15_ctr (t := t)) bd55 [] [] rfl (.cons rfl .nil) rfl (.cons rfl rfl .nil) .nil rfl .nil frN (by decide) (.cons rfl rfl .nil) (congrArg (vi .i64) hs) rfl rfl rfl ?_
  refine yP ((PureOp.remN rfl rfl (by omega)).mono (v' := vi .i64 (b.length % s)) rfl) ?_
  refine yP ((PureOp.neN (b := 0) rfl rfl).mono (v' := .bool false) (congrArg Value.bool (by simp [h1]))) ?_
  refine zN (zF (zK (zT (zS ?_))))
  refine yM ?_
  refine yP pD ?_
  refine yM ?_
  refine AWo.callX (v := vi .i64 s) (size15_ctr (t := t)) bd55 [] [] rfl (.cons rfl .nil) rfl (.cons rfl rfl .nil) .nil rfl .nil frN (by decide) (.cons rfl rfl .nil) (congrArg (vi .i64) hs) rfl rfl rfl ?_
  refine yP ((PureOp.quoN 9223372036854775808 rfl rfl (by decide) (by decide) (by omega) (by omega)).mono (v' := vi .i64 (b.length / s)) rfl) ?_
  refine yA ?_
  refine zN (zQ (zS ?_))
  refine yM ?_
  refine yP ((PureOp.ltN (b := 1) rfl rfl).mono (v' := .bool true) (congrArg Value.bool (by simp [h2]))) ?_
  refine yM ?_
  refine yK ?_
  refine yK ?_
  refine yP pT ?_
  refine zN (zC (zS ?_))
  refine yA ?_
  refine yA ?_
  refine zN (zE (zU ?_))
  exact rq [] [.tmp 4, .tmp 5]
theorem count157_ctr {t : Int} {b : List Nat} {s : Nat} (hs : szT t = s) (hl : b.length < 9223372036854775808) (h0 : s ≠ 0) (h1 : b.length % s = 0) (h2 : 1 ≤ b.length / s) (h3 : 1048576 < b.length / s) : GC Tryz.prog 30 [.int .i64 t, db b] [] [vi .i64 0, vi .i64 7] [] := by
  have hs2 : s ≤ 96 := hs ▸ szT_le t
  refine gi Tryz.func30 ?_
  refine zS ?_
  refine yA ?_
  refine yA ?_
  refine zN (zQ (zS ?_))
  refine yM ?_
  refine AWo.callX (v := vi .i64 s) (size15_ctr (t := t)) bd55 [] [] rfl (.cons rfl .nil) rfl (.cons rfl rfl .nil) .nil rfl .nil frN (by decide) (.cons rfl rfl .nil) (congrArg (vi .i64) hs) rfl rfl rfl ?_
  refine yP ((PureOp.eqN (b := 0) rfl rfl).mono (v' := .bool false) (congrArg Value.bool (by simp [h0]))) ?_
  refine zN (zF (zK (zT (zQ (zS ?_)))))
  refine yM ?_
  refine yP pD ?_
  refine yM ?_
  refine AWo.callX (v := vi .i64 s) (size15_ctr (t := t)) bd55 [] [] rfl (.cons rfl .nil) rfl (.cons rfl rfl .nil) .nil rfl .nil frN (by decide) (.cons rfl rfl .nil) (congrArg (vi .i64) hs) rfl rfl rfl ?_
  refine yP ((PureOp.remN rfl rfl (by omega)).mono (v' := vi .i64 (b.length % s)) rfl) ?_
  refine yP ((PureOp.neN (b := 0) rfl rfl).mono (v' := .bool false) (congrArg Value.bool (by simp [h1]))) ?_
  refine zN (zF (zK (zT (zS ?_))))
  refine yM ?_
  refine yP pD ?_
  refine yM ?_
  refine AWo.callX (v := vi .i64 s) (size15_ctr (t := t)) bd55 [] [] rfl (.cons rfl .nil) rfl (.cons rfl rfl .nil) .nil rfl .nil frN (by decide) (.cons rfl rfl .nil) (congrArg (vi .i64) hs) rfl rfl rfl ?_
  refine yP ((PureOp.quoN 9223372036854775808 rfl rfl (by decide) (by decide) (by omega) (by omega)).mono (v' := vi .i64 (b.length / s)) rfl) ?_
  refine yA ?_
  refine zN (zQ (zS ?_))
  refine yM ?_
  refine yP ((PureOp.bin rfl rfl rfl).mono (v' := .bool false) (congrArg Value.bool (by simp; omega))) ?_
  refine yM ?_
  refine yM ?_
  refine yP ((PureOp.gtN (b := 1048576) rfl rfl).mono (v' := .bool true) (congrArg Value.bool (by simp; omega))) ?_
  refine yP pE ?_
  refine zN (zC (zS ?_))
  refine yA ?_
  refine yA ?_
  refine zN (zE (zU ?_))
  exact rq [] [.tmp 4, .tmp 5]
theorem count150_ctr {t : Int} {b : List Nat} {s : Nat} (hs : szT t = s) (hl : b.length < 9223372036854775808) (h0 : s ≠ 0) (h1 : b.length % s = 0) (h2 : 1 ≤ b.length / s) (h3 : b.length / s ≤ 1048576) : GC Tryz.prog 30 [.int .i64 t, db b] [] [vi .i64 (b.length / s), vi .i64 0] [] := by
  have hs2 : s ≤ 96 := hs ▸ szT_le t
  refine gi Tryz.func30 ?_
  refine zS ?_
  refine yA ?_
  refine yA ?_
  refine zN (zQ (zS ?_))
  refine yM ?_
  refine AWo.callX (v := vi .i64 s) (size15_ctr (t := t)) bd55 [] [] rfl (.cons rfl .nil) rfl (.cons rfl rfl .nil) .nil rfl .nil frN (by decide) (.cons rfl rfl .nil) (congrArg (vi .i64) hs) rfl rfl rfl ?_
  refine yP ((PureOp.eqN (b := 0) rfl rfl).mono (v' := .bool false) (congrArg Value.bool (by simp [h0]))) ?_
  refine zN (zF (zK (zT (zQ (zS ?_)))))
  refine yM ?_
  refine yP pD ?_
  refine yM ?_
  refine AWo.callX (v := vi .i64 s) (size15_ctr (t := t)) bd55 [] [] rfl (.cons rfl .nil) rfl (.cons rfl rfl .nil) .nil rfl .nil frN (by decide) (.cons rfl rfl .nil) (congrArg (vi .i64) hs) rfl rfl rfl ?_
  refine yP ((PureOp.remN rfl rfl (by omega)).mono (v' := vi .i64 (b.length % s)) rfl) ?_
  refine yP ((PureOp.neN (b := 0) rfl rfl).mono (v' := .bool false) (congrArg Value.bool (by simp [h1]))) ?_
  refine zN (zF (zK (zT (zS ?_))))
  refine yM ?_
  refine yP pD ?_
  refine yM ?_
  refine AWo.callX (v := vi .i64 s) (size15_ctr (t := t)) bd55 [] [] rfl (.cons rfl .nil) rfl (.cons rfl rfl .nil) .nil rfl .nil frN (by decide) (.cons rfl rfl .nil) (congrArg (vi .i64) hs) rfl rfl rfl ?_
  refine yP ((PureOp.quoN 9223372036854775808 rfl rfl (by decide) (by decide) (by omega) (by omega)).mono (v' := vi .i64 (b.length / s)) rfl) ?_
  refine yA ?_
  refine zN (zQ (zS ?_))
  refine yM ?_
  refine yP ((PureOp.bin rfl rfl rfl).mono (v' := .bool false) (congrArg Value.bool (by simp; omega))) ?_
  refine yM ?_
  refine yM ?_
  refine yP ((PureOp.gtN (b := 1048576) rfl rfl).mono (v' := .bool false) (congrArg Value.bool (by simp; omega))) ?_
  refine yP pE ?_
  refine zN (zF (zK (zT (zS ?_))))
  refine yM ?_
  refine yA ?_
  refine yA ?_
  refine zN (zE ?_)
  exact rq [] [.tmp 4, .tmp 5]
theorem count15_ctr {t : Int} {b : List Nat} (hl : b.length < 9223372036854775808) : GC Tryz.prog 30 [.int .i64 t, db b] [] [vi .i64 (cN t b.length), vi .i64 (cC t b.length)] [] := by
  obtain ⟨s, hs⟩ : ∃ s, szT t = s := ⟨_, rfl⟩
  by_cases h0 : s = 0
  · have e := cC_6 (L := b.length) hs h0
    rw [cN_e e (by decide), e]; exact count156_ctr hs hl h0
  by_cases h1 : b.length % s = 0
  · by_cases h2 : b.length / s < 1
    · have e := cC_7 (L := b.length) hs h0 h1 (.inl h2)
      rw [cN_e e (by decide), e]; exact count158_ctr hs hl h0 h1 h2
    by_cases h3 : 1048576 < b.length / s
    · have e := cC_7 (L := b.length) hs h0 h1 (.inr h3)
      rw [cN_e e (by decide), e]; exact count157_ctr hs hl h0 h1 (by omega) h3
    · have e := cC_0 (L := b.length) hs h0 h1 (by omega)
      rw [cN_0 hs e, e]; exact count150_ctr hs hl h0 h1 (by omega) (by omega)
  · have e := cC_3 (L := b.length) hs h0 h1
    rw [cN_e e (by decide), e]; exact count153_ctr hs hl h0 h1
theorem check151_ctr {b : List Nat} (hb : bd 256 b) (hl : b.length < 9223372036854775808) (hc : cC 1 b.length = 0) : GC Tryz.prog 31 [.int .i64 1, db b] [] [vi .i64 (ckC 1 b)] [] := by
  refine gi Tryz.func31 ?_
  obtain ⟨_, hn, h1, h2, h3⟩ := cC_inv hc
  change b.length = b.length / 1 * 1 at hn
  change 1 ≤ b.length / 1 at h1
  change b.length / 1 ≤ 1048576 at h2
  change cN 1 b.length = b.length / 1 at h3
  refine zS ?_
  refine yA ?_
  refine zN (zS ?_)
  refine yM ?_
  refine yM ?_
  refine yC (v := .tuple #[vi .i64 (b.length / 1), vi .i64 0]) (count15_ctr (t := 1) hl) bd30 [] [] ?_ (hv := (by rw [h3, hc]; rfl))
  refine yM ?_
  refine yP pX ?_
  refine yP pX ?_
  refine yA ?_
  refine yA ?_
  refine zN (zQ (zS ?_))
  refine yM ?_
  refine yP ((PureOp.neN (b := 0) rfl rfl).mono (v' := .bool false) (congrArg Value.bool (rfl))) ?_
  refine zN (zF (zK (zT (zQ (zS ?_)))))
  refine yA ?_
  refine zN (zB ?_)
  refine AW.loopw (fun mm σ => ∃ k, (okTo 1 b k ∧ k ≤ b.length / 1) ∧ mm = b.length / 1 - k ∧ σ = ⟨(upd (upd (upd (upd emp 0 (.int .i64 1)) 1 (db b)) 5 (vi .i64 (b.length / 1))) 7 (vi .i64 k)), emp⟩) (fm := []) (wk []) ⟨0, ⟨fun i hi => absurd hi (Nat.not_lt_zero i), Nat.zero_le _⟩, rfl, rfl⟩ ?_
  rintro mm σ ⟨k, ⟨ho, hk⟩, rfl, rfl⟩
  refine zQ (zS ?_)
  refine yM ?_
  refine yM ?_
  refine yP pLt ?_
  refine zN ?_
  refine zA (fun hb0 => ?_) (fun hb0 => ?_)
  ·
    have hlt : k < b.length / 1 := by simpa using hb0
    refine zK (zT (zQ (zB (zS ?_))))
    refine yM ?_
    refine yM ?_
    refine yM ?_
    refine yC (v := vi .i64 1) (size15_ctr (t := 1)) bd55 [] [] ?_
    refine yP (PureOp.mulI rfl rfl (by omega)) ?_
    refine yM ?_
    refine yP (pAdd (b := 1)) ?_
    refine yM ?_
    refine yC (v := vi .i64 1) (size15_ctr (t := 1)) bd55 [] [] ?_
    refine yP (PureOp.mulI rfl rfl (by omega)) ?_
    refine yP ((PureOp.sliceD (l := k * 1) (h := (k + 1) * 1) rfl (.some rfl) (.some rfl) (tbok.sl _ _ rfl) (tbok.sz _ _ rfl) (by omega) (by omega)).mono (v' := db (vl 1 b k)) (by rw [db_part (by omega) (by omega), Nat.succ_mul, Nat.add_sub_cancel_left]; rfl)) ?_
    refine yA ?_
    refine zN (zS ?_)
    refine yA ?_
    refine zN (zQ (zS ?_))
    refine yM ?_
    refine yP ((PureOp.eqN (b := 3) rfl rfl).mono (v' := .bool false) (congrArg Value.bool (by decide))) ?_
    refine zN (zF (zK (zT (zQ (zS ?_)))))
    refine yM ?_
    refine yP ((PureOp.eqN (b := 4) rfl rfl).mono (v' := .bool false) (congrArg Value.bool (by decide))) ?_
    refine zN (zF (zK (zT (zS ?_))))
    refine yM ?_
    refine yP ((PureOp.neN (b := 0) rfl rfl).mono (v' := .bool false) (congrArg Value.bool (rfl))) ?_
    refine zN (zF (zK (zL (zT (zR ?_)))))
    refine yM ?_
    refine yP (pAdd (b := 1)) ?_
    refine yA ?_
    refine zN (zT ?_)
    exact ⟨b.length / 1 - (k + 1), [], _, by omega, wk [], k + 1, ⟨okTo_succ ho (by rw [vC, if_neg (by decide), if_neg (by decide)]), by omega⟩, rfl, rfl⟩
  ·
    have hge : ¬ k < b.length / 1 := by simpa using hb0
    obtain rfl : k = b.length / 1 := by omega
    rw [ck_ok hc ho]
    refine zX (zV (zV (zH (zT (zS ?_)))))
    refine yA ?_
    refine zN (zE ?_)
    exact rq [] [.tmp 4]
theorem check152_ctr {b : List Nat} (hb : bd 256 b) (hl : b.length < 9223372036854775808) (hc : cC 2 b.length = 0) : GC Tryz.prog 31 [.int .i64 2, db b] [] [vi .i64 (ckC 2 b)] [] := by
  refine gi Tryz.func31 ?_
  obtain ⟨_, hn, h1, h2, h3⟩ := cC_inv hc
  change b.length = b.length / 8 * 8 at hn
  change 1 ≤ b.length / 8 at h1
  change b.length / 8 ≤ 1048576 at h2
  change cN 2 b.length = b.length / 8 at h3
  refine zS ?_
  refine yA ?_
  refine zN (zS ?_)
  refine yM ?_
  refine yM ?_
  refine yC (v := .tuple #[vi .i64 (b.length / 8), vi .i64 0]) (count15_ctr (t := 2) hl) bd30 [] [] ?_ (hv := (by rw [h3, hc]; rfl))
  refine yM ?_
  refine yP pX ?_
  refine yP pX ?_
  refine yA ?_
  refine yA ?_
  refine zN (zQ (zS ?_))
  refine yM ?_
  refine yP ((PureOp.neN (b := 0) rfl rfl).mono (v' := .bool false) (congrArg Value.bool (rfl))) ?_
  refine zN (zF (zK (zT (zQ (zS ?_)))))
  refine yA ?_
  refine zN (zB ?_)
  refine AW.loopw (fun mm σ => ∃ k, (okTo 2 b k ∧ k ≤ b.length / 8) ∧ mm = b.length / 8 - k ∧ σ = ⟨(upd (upd (upd (upd emp 0 (.int .i64 2)) 1 (db b)) 5 (vi .i64 (b.length / 8))) 7 (vi .i64 k)), emp⟩) (fm := []) (wk []) ⟨0, ⟨fun i hi => absurd hi (Nat.not_lt_zero i), Nat.zero_le _⟩, rfl, rfl⟩ ?_
  rintro mm σ ⟨k, ⟨ho, hk⟩, rfl, rfl⟩
  refine zQ (zS ?_)
  refine yM ?_
  refine yM ?_
  refine yP pLt ?_
  refine zN ?_
  refine zA (fun hb0 => ?_) (fun hb0 => ?_)
  ·
    have hlt : k < b.length / 8 := by simpa using hb0
    refine zK (zT (zQ (zB (zS ?_))))
    refine yM ?_
    refine yM ?_
    refine yM ?_
    refine yC (v := vi .i64 8) (size15_ctr (t := 2)) bd55 [] [] ?_
    refine yP (PureOp.mulI rfl rfl (by omega)) ?_
    refine yM ?_
    refine yP (pAdd (b := 1)) ?_
    refine yM ?_
    refine yC (v := vi .i64 8) (size15_ctr (t := 2)) bd55 [] [] ?_
    refine yP (PureOp.mulI rfl rfl (by omega)) ?_
    refine yP ((PureOp.sliceD (l := k * 8) (h := (k + 1) * 8) rfl (.some rfl) (.some rfl) (tbok.sl _ _ rfl) (tbok.sz _ _ rfl) (by omega) (by omega)).mono (v' := db (vl 2 b k)) (by rw [db_part (by omega) (by omega), Nat.succ_mul, Nat.add_sub_cancel_left]; rfl)) ?_
    refine yA ?_
    refine zN (zS ?_)
    refine yA ?_
    refine zN (zQ (zS ?_))
    refine yM ?_
    refine yP ((PureOp.eqN (b := 3) rfl rfl).mono (v' := .bool false) (congrArg Value.bool (by decide))) ?_
    refine zN (zF (zK (zT (zQ (zS ?_)))))
    refine yM ?_
    refine yP ((PureOp.eqN (b := 4) rfl rfl).mono (v' := .bool false) (congrArg Value.bool (by decide))) ?_
    refine zN (zF (zK (zT (zS ?_))))
    refine yM ?_
    refine yP ((PureOp.neN (b := 0) rfl rfl).mono (v' := .bool false) (congrArg Value.bool (rfl))) ?_
    refine zN (zF (zK (zL (zT (zR ?_)))))
    refine yM ?_
    refine yP (pAdd (b := 1)) ?_
    refine yA ?_
    refine zN (zT ?_)
    exact ⟨b.length / 8 - (k + 1), [], _, by omega, wk [], k + 1, ⟨okTo_succ ho (by rw [vC, if_neg (by decide), if_neg (by decide)]), by omega⟩, rfl, rfl⟩
  ·
    have hge : ¬ k < b.length / 8 := by simpa using hb0
    obtain rfl : k = b.length / 8 := by omega
    rw [ck_ok hc ho]
    refine zX (zV (zV (zH (zT (zS ?_)))))
    refine yA ?_
    refine zN (zE ?_)
    exact rq [] [.tmp 4]
theorem check153_ctr {b : List Nat} (hb : bd 256 b) (hl : b.length < 9223372036854775808) (hc : cC 3 b.length = 0) : GC Tryz.prog 31 [.int .i64 3, db b] [] [vi .i64 (ckC 3 b)] [] := by
  refine gi Tryz.func31 ?_
  obtain ⟨_, hn, h1, h2, h3⟩ := cC_inv hc
  change b.length = b.length / 32 * 32 at hn
  change 1 ≤ b.length / 32 at h1
  change b.length / 32 ≤ 1048576 at h2
  change cN 3 b.length = b.length / 32 at h3
  refine zS ?_
  refine yA ?_
  refine zN (zS ?_)
  refine yM ?_
  refine yM ?_
  refine yC (v := .tuple #[vi .i64 (b.length / 32), vi .i64 0]) (count15_ctr (t := 3) hl) bd30 [] [] ?_ (hv := (by rw [h3, hc]; rfl))
  refine yM ?_
  refine yP pX ?_
  refine yP pX ?_
  refine yA ?_
  refine yA ?_
  refine zN (zQ (zS ?_))
  refine yM ?_
  refine yP ((PureOp.neN (b := 0) rfl rfl).mono (v' := .bool false) (congrArg Value.bool (rfl))) ?_
  refine zN (zF (zK (zT (zQ (zS ?_)))))
  refine yA ?_
  refine zN (zB ?_)
  refine AW.loopw (fun mm σ => ∃ k, (okTo 3 b k ∧ k ≤ b.length / 32) ∧ mm = b.length / 32 - k ∧ σ = ⟨(upd (upd (upd (upd emp 0 (.int .i64 3)) 1 (db b)) 5 (vi .i64 (b.length / 32))) 7 (vi .i64 k)), emp⟩) (fm := []) (wk []) ⟨0, ⟨fun i hi => absurd hi (Nat.not_lt_zero i), Nat.zero_le _⟩, rfl, rfl⟩ ?_
  rintro mm σ ⟨k, ⟨ho, hk⟩, rfl, rfl⟩
  refine zQ (zS ?_)
  refine yM ?_
  refine yM ?_
  refine yP pLt ?_
  refine zN ?_
  refine zA (fun hb0 => ?_) (fun hb0 => ?_)
  ·
    have hlt : k < b.length / 32 := by simpa using hb0
    refine zK (zT (zQ (zB (zS ?_))))
    refine yM ?_
    refine yM ?_
    refine yM ?_
    refine yC (v := vi .i64 32) (size15_ctr (t := 3)) bd55 [] [] ?_
    refine yP (PureOp.mulI rfl rfl (by omega)) ?_
    refine yM ?_
    refine yP (pAdd (b := 1)) ?_
    refine yM ?_
    refine yC (v := vi .i64 32) (size15_ctr (t := 3)) bd55 [] [] ?_
    refine yP (PureOp.mulI rfl rfl (by omega)) ?_
    refine yP ((PureOp.sliceD (l := k * 32) (h := (k + 1) * 32) rfl (.some rfl) (.some rfl) (tbok.sl _ _ rfl) (tbok.sz _ _ rfl) (by omega) (by omega)).mono (v' := db (vl 3 b k)) (by rw [db_part (by omega) (by omega), Nat.succ_mul, Nat.add_sub_cancel_left]; rfl)) ?_
    refine yA ?_
    refine zN (zS ?_)
    refine yA ?_
    refine zN (zQ (zS ?_))
    refine yM ?_
    refine yP ((PureOp.eqN (b := 3) rfl rfl).mono (v' := .bool true) (congrArg Value.bool (by decide))) ?_
    refine zN (zC (zR ?_))
    refine yM ?_
    refine yC (read02d (b := vl 3 b k) (bd_part hb _ _)) bd56 [] [] ?_
    refine yM ?_
    refine yP pX ?_
    refine yP pX ?_
    refine yA ?_
    refine zN (zT (zQ (zS ?_)))
    refine yM ?_
    refine yP ((PureOp.eqN (b := 4) rfl rfl).mono (v' := .bool false) (congrArg Value.bool (by decide))) ?_
    refine zN (zF (zK (zT (zS ?_))))
    refine yM ?_
    refine yP (PureOp.bin rfl rfl rfl) ?_
    refine zN ?_
    refine zA (fun hb1 => ?_) (fun hb1 => ?_)
    ·
      have hz : ¬ rdC (vl 3 b k) = 0 := by simpa using hb1
      rw [ck_bad hc (k := k) (by show k < b.length / 32; omega) (by rw [vC3]; exact hz)]
      refine zS ?_
      refine yA ?_
      refine zN (zE (zI (zU (zU (zI (zU ?_))))))
      exact rq [] [.tmp 4]
    ·
      have hz : rdC (vl 3 b k) = 0 := by simpa using hb1
      refine zK (zL (zT (zR ?_)))
      refine yM ?_
      refine yP (pAdd (b := 1)) ?_
      refine yA ?_
      refine zN (zT ?_)
      exact ⟨b.length / 32 - (k + 1), [], _, by omega, wk [], k + 1, ⟨okTo_succ ho (by rw [vC3]; exact hz), by omega⟩, rfl, rfl⟩
  ·
    have hge : ¬ k < b.length / 32 := by simpa using hb0
    obtain rfl : k = b.length / 32 := by omega
    rw [ck_ok hc ho]
    refine zX (zV (zV (zH (zT (zS ?_)))))
    refine yA ?_
    refine zN (zE ?_)
    exact rq [] [.tmp 4]
theorem check154_ctr {b : List Nat} (hb : bd 256 b) (hl : b.length < 9223372036854775808) (hc : cC 4 b.length = 0) : GC Tryz.prog 31 [.int .i64 4, db b] [] [vi .i64 (ckC 4 b)] [] := by
  refine gi Tryz.func31 ?_
  obtain ⟨_, hn, h1, h2, h3⟩ := cC_inv hc
  change b.length = b.length / 96 * 96 at hn
  change 1 ≤ b.length / 96 at h1
  change b.length / 96 ≤ 1048576 at h2
  change cN 4 b.length = b.length / 96 at h3
  refine zS ?_
  refine yA ?_
  refine zN (zS ?_)
  refine yM ?_
  refine yM ?_
  refine yC (v := .tuple #[vi .i64 (b.length / 96), vi .i64 0]) (count15_ctr (t := 4) hl) bd30 [] [] ?_ (hv := (by rw [h3, hc]; rfl))
  refine yM ?_
  refine yP pX ?_
  refine yP pX ?_
  refine yA ?_
  refine yA ?_
  refine zN (zQ (zS ?_))
  refine yM ?_
  refine yP ((PureOp.neN (b := 0) rfl rfl).mono (v' := .bool false) (congrArg Value.bool (rfl))) ?_
  refine zN (zF (zK (zT (zQ (zS ?_)))))
  refine yA ?_
  refine zN (zB ?_)
  refine AW.loopw (fun mm σ => ∃ k, (okTo 4 b k ∧ k ≤ b.length / 96) ∧ mm = b.length / 96 - k ∧ σ = ⟨(upd (upd (upd (upd emp 0 (.int .i64 4)) 1 (db b)) 5 (vi .i64 (b.length / 96))) 7 (vi .i64 k)), emp⟩) (fm := []) (wk []) ⟨0, ⟨fun i hi => absurd hi (Nat.not_lt_zero i), Nat.zero_le _⟩, rfl, rfl⟩ ?_
  rintro mm σ ⟨k, ⟨ho, hk⟩, rfl, rfl⟩
  refine zQ (zS ?_)
  refine yM ?_
  refine yM ?_
  refine yP pLt ?_
  refine zN ?_
  refine zA (fun hb0 => ?_) (fun hb0 => ?_)
  ·
    have hlt : k < b.length / 96 := by simpa using hb0
    refine zK (zT (zQ (zB (zS ?_))))
    refine yM ?_
    refine yM ?_
    refine yM ?_
    refine yC (v := vi .i64 96) (size15_ctr (t := 4)) bd55 [] [] ?_
    refine yP (PureOp.mulI rfl rfl (by omega)) ?_
    refine yM ?_
    refine yP (pAdd (b := 1)) ?_
    refine yM ?_
    refine yC (v := vi .i64 96) (size15_ctr (t := 4)) bd55 [] [] ?_
    refine yP (PureOp.mulI rfl rfl (by omega)) ?_
    refine yP ((PureOp.sliceD (l := k * 96) (h := (k + 1) * 96) rfl (.some rfl) (.some rfl) (tbok.sl _ _ rfl) (tbok.sz _ _ rfl) (by omega) (by omega)).mono (v' := db (vl 4 b k)) (by rw [db_part (by omega) (by omega), Nat.succ_mul, Nat.add_sub_cancel_left]; rfl)) ?_
    refine yA ?_
    refine zN (zS ?_)
    refine yA ?_
    refine zN (zQ (zS ?_))
    refine yM ?_
    refine yP ((PureOp.eqN (b := 3) rfl rfl).mono (v' := .bool false) (congrArg Value.bool (by decide))) ?_
    refine zN (zF (zK (zT (zQ (zS ?_)))))
    refine yM ?_
    refine yP ((PureOp.eqN (b := 4) rfl rfl).mono (v' := .bool true) (congrArg Value.bool (by decide))) ?_
    refine zN (zC (zR ?_))
    refine yM ?_
    refine yC (rReadD (b := vl 4 b k) (bd_part hb _ _)) bd57 [] [] ?_
    refine yM ?_
    refine yP pX ?_
    refine yP pX ?_
    refine yA ?_
    refine zN (zT (zS ?_))
    refine yM ?_
    refine yP (PureOp.bin rfl rfl rfl) ?_
    refine zN ?_
    refine zA (fun hb1 => ?_) (fun hb1 => ?_)
    ·
      have hz : ¬ gc (vl 4 b k) = 0 := by simpa using hb1
      rw [ck_bad hc (k := k) (by show k < b.length / 96; omega) (by rw [vC4]; exact hz)]
      refine zS ?_
      refine yA ?_
      refine zN (zE (zI (zU (zU (zI (zU ?_))))))
      exact rq [] [.tmp 4]
    ·
      have hz : gc (vl 4 b k) = 0 := by simpa using hb1
      refine zK (zL (zT (zR ?_)))
      refine yM ?_
      refine yP (pAdd (b := 1)) ?_
      refine yA ?_
      refine zN (zT ?_)
      exact ⟨b.length / 96 - (k + 1), [], _, by omega, wk [], k + 1, ⟨okTo_succ ho (by rw [vC4]; exact hz), by omega⟩, rfl, rfl⟩
  ·
    have hge : ¬ k < b.length / 96 := by simpa using hb0
    obtain rfl : k = b.length / 96 := by omega
    rw [ck_ok hc ho]
    refine zX (zV (zV (zH (zT (zS ?_)))))
    refine yA ?_
    refine zN (zE ?_)
    exact rq [] [.tmp 4]
theorem check15E_ctr {t : Int} {b : List Nat} (hl : b.length < 9223372036854775808) (hc : cC t b.length ≠ 0) : GC Tryz.prog 31 [.int .i64 t, db b] [] [vi .i64 (ckC t b)] [] := by
  refine gi Tryz.func31 ?_
  rw [ck_err hc]
  refine zS ?_
  refine yA ?_
  refine zN (zS ?_)
  refine yM ?_
  refine yM ?_
  refine yC (count15_ctr (t := t) hl) bd30 [] [] ?_
  refine yM ?_
  refine yP pX ?_
  refine yP pX ?_
  refine yA ?_
  refine yA ?_
  refine zN (zQ (zS ?_))
  refine yM ?_
  refine yP ((PureOp.neN (b := 0) rfl rfl).mono (v' := .bool true) (congrArg Value.bool (by simp [hc]))) ?_
  refine zN (zC (zS ?_))
  refine yM ?_
  refine yA ?_
  refine zN (zE (zU ?_))
  exact rq [] [.tmp 4]
theorem check_ctr {t : Int} {b : List Nat} (hb : bd 256 b) (hl : b.length < 9223372036854775808) : GC Tryz.prog 50 [.int .i64 t, db b] [] [vi .i64 (ckC t b)] [] := by
  by_cases hc : cC t b.length = 0
  · have h4 := (cC_inv hc).1
    rcases szT_cases h4 with rfl | rfl | rfl | rfl
    · exact check1_ctr hb hl hc
    · exact check2_ctr hb hl hc
    · exact check3_ctr hb hl hc
    · exact check4_ctr hb hl hc
  · exact checkE_ctr hl hc
theorem check15_ctr {t : Int} {b : List Nat} (hb : bd 256 b) (hl : b.length < 9223372036854775808) : GC Tryz.prog 31 [.int .i64 t, db b] [] [vi .i64 (ckC t b)] [] := by
  by_cases hc : cC t b.length = 0
  · have h4 := (cC_inv hc).1
    rcases szT_cases h4 with rfl | rfl | rfl | rfl
    · exact check151_ctr hb hl hc
    · exact check152_ctr hb hl hc
    · exact check153_ctr hb hl hc
    · exact check154_ctr hb hl hc
  · exact check15E_ctr hl hc
end Go.Proofs.YtpahdiljpnfkdaaGreat
namespace Go.Proofs.YtpahdiljpnfkdaaGreat
open Go Sim
abbrev itV (k t c : Int) : Value := .agg #[.int .i64 k, .int .i64 t, .int .i64 c, .string .empty]
def hasI (ls : List Nat) (x : Int) : Bool := decide (∃ j, j < ls.length ∧ (ls.getD j 0 : Int) = x)
theorem has1 {t : Int} : hasI [1, 2, 3, 4] t = decide (1 ≤ t ∧ t ≤ 4) := by
  refine decide_eq_decide.2 ⟨?_, fun h => ?_⟩
  · rintro ⟨j, hj, rfl⟩
    match j, hj with
    | 0, _ => decide
    | 1, _ => decide
    | 2, _ => decide
    | 3, _ => decide
  · have : t = 1 ∨ t = 2 ∨ t = 3 ∨ t = 4 := by omega
    rcases this with rfl | rfl | rfl | rfl
    · exact ⟨0, by decide, rfl⟩
    · exact ⟨1, by decide, rfl⟩
    · exact ⟨2, by decide, rfl⟩
    · exact ⟨3, by decide, rfl⟩
theorem has2 {t : Int} : hasI [1, 3] t = decide (t = 1 ∨ t = 3) := by
  refine decide_eq_decide.2 ⟨?_, fun h => ?_⟩
  · rintro ⟨j, hj, rfl⟩
    match j, hj with
    | 0, _ => decide
    | 1, _ => decide
  · rcases h with rfl | rfl
    · exact ⟨0, by decide, rfl⟩
    · exact ⟨1, by decide, rfl⟩
theorem has3 {t : Int} : hasI [0] t = decide (t = 0) := by
  refine decide_eq_decide.2 ⟨?_, fun h => ?_⟩
  · rintro ⟨j, hj, rfl⟩
    match j, hj with
    | 0, _ => rfl
  · subst h; exact ⟨0, by decide, rfl⟩
theorem it5 {k t c : Int} (h : k < 1 ∨ k > 3) : itC k t c = 5 := if_pos h
theorem it6 {k t c : Int} (h0 : ¬ (k < 1 ∨ k > 3)) (h : (k = 1 ∧ (t < 1 ∨ t > 4)) ∨ (k = 2 ∧ t ≠ 1 ∧ t ≠ 3) ∨ (k = 3 ∧ t ≠ 0)) : itC k t c = 6 := by rw [itC, if_neg h0, if_pos h]
theorem it7 {k t c : Int} (h0 : ¬ (k < 1 ∨ k > 3)) (h1 : ¬ ((k = 1 ∧ (t < 1 ∨ t > 4)) ∨ (k = 2 ∧ t ≠ 1 ∧ t ≠ 3) ∨ (k = 3 ∧ t ≠ 0))) (h : c < 1 ∨ c > 1048576 ∨ (k = 3 ∧ c ≠ 1)) : itC k t c = 7 := by rw [itC, if_neg h0, if_neg h1, if_pos h]
theorem it0 {k t c : Int} (h0 : ¬ (k < 1 ∨ k > 3)) (h1 : ¬ ((k = 1 ∧ (t < 1 ∨ t > 4)) ∨ (k = 2 ∧ t ≠ 1 ∧ t ≠ 3) ∨ (k = 3 ∧ t ≠ 0))) (h : ¬ (c < 1 ∨ c > 1048576 ∨ (k = 3 ∧ c ≠ 1))) : itC k t c = 0 := by rw [itC, if_neg h0, if_neg h1, if_neg h]
theorem rgt_it {x : Opn} (h : itC x.k x.t x.c ≠ 0) : decide (Rgt x) = false := decide_eq_false fun hr => h hr.1
theorem rgt_ne {x : Opn} (h0 : itC x.k x.t x.c = 0) (hk : x.k ≠ 1) : decide (Rgt x) = (x.d.length == 0) := by
  rw [Bool.eq_iff_iff, decide_eq_true_eq, beq_iff_eq, List.length_eq_zero_iff]
  unfold Rgt
  rw [if_neg hk]
  exact ⟨fun h => h.2, fun h => ⟨h0, h⟩⟩
theorem rgt_1 {x : Opn} (h0 : itC x.k x.t x.c = 0) (hk : x.k = 1) (hc : x.c = cN x.t x.d.length) : decide (Rgt x) = (ckC x.t x.d == 0) := by
  rw [Bool.eq_iff_iff, decide_eq_true_eq, beq_iff_eq]
  unfold Rgt
  rw [if_pos hk]
  exact ⟨fun h => h.2.2, fun h => ⟨h0, hc, h⟩⟩
theorem rgt_n {x : Opn} (_ : itC x.k x.t x.c = 0) (hk : x.k = 1) (hc : ¬ x.c = cN x.t x.d.length) : decide (Rgt x) = false := decide_eq_false fun hr => by
  have := hr.2; rw [if_pos hk] at this; exact hc this.1
theorem rgt_c {x : Opn} (_ : itC x.k x.t x.c = 0) (hk : x.k = 1) (hc : ¬ cC x.t x.d.length = 0) : decide (Rgt x) = false := decide_eq_false fun hr => by
  have := hr.2; rw [if_pos hk] at this; exact hc (ckC_inv this.2).1
theorem types1_ctr : GC Tryz.prog 74 [.int .i64 1] [] [.slice (some ⟨0, 0, none⟩) 4 0, vi .i64 1048576] [⟨[1, 2, 3, 4].map (vi .i64), true, 1⟩] := by
  refine gi Tryz.func74 ?_
  refine zS ?_
  refine yA ?_
  refine yA ?_
  refine zN (zQ (zS ?_))
  refine yM ?_
  refine zN (zB (zS ?_))
  refine yP ((PureOp.eqN (b := 1) rfl rfl).mono (v' := .bool true) (congrArg Value.bool (by decide))) ?_
  refine yA ?_
  refine zN (zC (zS ?_))
  refine AWo.buildSlice tbok 8000 [(0, vi .i64 1), (1, vi .i64 2), (2, vi .i64 3), (3, vi .i64 4)] (out := [vi .i64 1, vi .i64 2, vi .i64 3, vi .i64 4]) rfl rfl (by decide) rfl rfl rfl (by decide) rfl rfl rfl rfl rfl ?_
  refine yA ?_
  refine yA ?_
  refine zN (zE (zI (zU ?_)))
  exact rq [8000] [.tmp 2, .tmp 3]
theorem types2_ctr : GC Tryz.prog 74 [.int .i64 2] [] [.slice (some ⟨0, 0, none⟩) 2 0, vi .i64 1048576] [⟨[1, 3].map (vi .i64), true, 1⟩] := by
  refine gi Tryz.func74 ?_
  refine zS ?_
  refine yA ?_
  refine yA ?_
  refine zN (zQ (zS ?_))
  refine yM ?_
  refine zN (zB (zS ?_))
  refine yP ((PureOp.eqN (b := 1) rfl rfl).mono (v' := .bool false) (congrArg Value.bool (by decide))) ?_
  refine yA ?_
  refine zN (zF (zS ?_))
  refine yP ((PureOp.eqN (b := 2) rfl rfl).mono (v' := .bool true) (congrArg Value.bool (by decide))) ?_
  refine yA ?_
  refine zN (zC (zS ?_))
  refine AWo.buildSlice tbok 11000 [(0, vi .i64 1), (1, vi .i64 3)] (out := [vi .i64 1, vi .i64 3]) rfl rfl (by decide) rfl rfl rfl (by decide) rfl rfl rfl rfl rfl ?_
  refine yA ?_
  refine yA ?_
  refine zN (zE (zI (zU ?_)))
  exact rq [11000] [.tmp 2, .tmp 3]
theorem types3_ctr : GC Tryz.prog 74 [.int .i64 3] [] [.slice (some ⟨0, 0, none⟩) 1 0, vi .i64 1] [⟨[0].map (vi .i64), true, 1⟩] := by
  refine gi Tryz.func74 ?_
  refine zS ?_
  refine yA ?_
  refine yA ?_
  refine zN (zQ (zS ?_))
  refine yM ?_
  refine zN (zB (zS ?_))
  refine yP ((PureOp.eqN (b := 1) rfl rfl).mono (v' := .bool false) (congrArg Value.bool (by decide))) ?_
  refine yA ?_
  refine zN (zF (zS ?_))
  refine yP ((PureOp.eqN (b := 2) rfl rfl).mono (v' := .bool false) (congrArg Value.bool (by decide))) ?_
  refine yA ?_
  refine zN (zF (zS ?_))
  refine yP ((PureOp.eqN (b := 3) rfl rfl).mono (v' := .bool true) (congrArg Value.bool (by decide))) ?_
  refine yA ?_
  refine zN (zC (zS ?_))
  refine AWo.buildSlice tbok 14000 [(0, vi .i64 0)] (out := [vi .i64 0]) rfl rfl (by decide) rfl rfl rfl (by decide) rfl rfl rfl rfl rfl ?_
  refine yA ?_
  refine yA ?_
  refine zN (zE (zI (zU ?_)))
  exact rq [14000] [.tmp 2, .tmp 3]
theorem types0_ctr {k : Int} (h1 : k ≠ 1) (h2 : k ≠ 2) (h3 : k ≠ 3) : GC Tryz.prog 74 [.int .i64 k] [] [.slice none 0 0, vi .i64 0] [] := by
  refine gi Tryz.func74 ?_
  refine zS ?_
  refine yA ?_
  refine yA ?_
  refine zN (zQ (zS ?_))
  refine yM ?_
  refine zN (zB (zS ?_))
  refine yP ((PureOp.bin rfl rfl rfl).mono (v' := .bool false) (congrArg Value.bool (by simpa using h1))) ?_
  refine yA ?_
  refine zN (zF (zS ?_))
  refine yP ((PureOp.bin rfl rfl rfl).mono (v' := .bool false) (congrArg Value.bool (by simpa using h2))) ?_
  refine yA ?_
  refine zN (zF (zS ?_))
  refine yP ((PureOp.bin rfl rfl rfl).mono (v' := .bool false) (congrArg Value.bool (by simpa using h3))) ?_
  refine yA ?_
  refine zN (zF (zK (zL (zT (zS ?_)))))
  refine yA ?_
  refine yA ?_
  refine zN (zE ?_)
  exact rq [] [.tmp 2, .tmp 3]
theorem idxY_ctr {ls : List Nat} {x : Int} {i : Nat} (hi : i < ls.length) (he : (ls.getD i 0 : Int) = x) (hj : ∀ j, j < i → (ls.getD j 0 : Int) ≠ x) (hl : ls.length < 1000) : GC Tryz.prog 89 [.slice (some ⟨0, 0, none⟩) ls.length 0, .int .i64 x] [⟨ls.map (vi .i64), false, 1⟩] [vi .i64 i] [⟨ls.map (vi .i64), false, 1⟩] := by
  refine gi Tryz.func89 ?_
  refine zS ?_
  refine yA ?_
  refine zN (zQ (zS ?_))
  refine yM ?_
  refine yP pL ?_
  refine yM ?_
  refine zN (zB ?_)
  refine AW.loopw (fun mm σ => ∃ j, (j ≤ i) ∧ mm = i - j ∧ σ = ⟨(upd (upd (upd (upd emp 0 (.slice (some ⟨0, 0, none⟩) ls.length 0)) 1 (.int .i64 x)) 7 (vi .i64 ls.length)) 8 (vi .i64 j)), (upd emp 0 ⟨ls.map (vi .i64), false, 1⟩)⟩) (fm := []) (wk [0]) ⟨0, Nat.zero_le _, rfl, rfl⟩ ?_
  rintro mm σ ⟨j, hji, rfl, rfl⟩
  refine zS ?_
  refine yP pLt ?_
  refine zN (zQ ?_)
  refine zA (fun hb0 => ?_) (fun hb0 => ?_)
  ·
    refine zK (zT (zQ (zB (zS ?_))))
    refine yM ?_
    refine yA ?_
    refine zN (zS ?_)
    refine yM ?_
    refine yM ?_
    refine yM ?_
    refine yP pJ ?_
    refine yL 0 ?_
    refine yP (PureOp.bin rfl rfl rfl) ?_
    refine zN ?_
    refine zA (fun hb1 => ?_) (fun hb1 => ?_)
    ·
      have hx : x = (ls.getD j 0 : Int) := by simpa using hb1
      obtain rfl : j = i := by
        rcases Nat.lt_or_eq_of_le hji with h | h
        · exact absurd hx.symm (hj j h)
        · exact h
      refine zS ?_
      refine yM ?_
      refine yA ?_
      refine zN (zE (zI (zU (zU (zI (zU ?_))))))
      exact rq [] [.tmp 4]
    ·
      have hx : ¬ x = (ls.getD j 0 : Int) := by simpa using hb1
      have hne : j ≠ i := fun e => hx (by rw [e]; exact he.symm)
      refine zK (zL (zT (zR ?_)))
      refine yP (pAdd (b := 1)) ?_
      refine yM ?_
      refine zN (zT ?_)
      exact ⟨i - (j + 1), [], _, by omega, wk [0], j + 1, by omega, rfl, rfl⟩
  ·
    exact absurd (show j < ls.length by omega) (by simpa using hb0)
theorem idxZ_ctr {ls : List Nat} {x : Int} (hn : ∀ j, j < ls.length → (ls.getD j 0 : Int) ≠ x) (hl : ls.length < 1000) : GC Tryz.prog 89 [.slice (some ⟨0, 0, none⟩) ls.length 0, .int .i64 x] [⟨ls.map (vi .i64), false, 1⟩] [.int .i64 (-1)] [⟨ls.map (vi .i64), false, 1⟩] := by
  refine gi Tryz.func89 ?_
  refine zS ?_
  refine yA ?_
  refine zN (zQ (zS ?_))
  refine yM ?_
  refine yP pL ?_
  refine yM ?_
  refine zN (zB ?_)
  refine AW.loopw (fun mm σ => ∃ j, (j ≤ ls.length) ∧ mm = ls.length - j ∧ σ = ⟨(upd (upd (upd (upd emp 0 (.slice (some ⟨0, 0, none⟩) ls.length 0)) 1 (.int .i64 x)) 7 (vi .i64 ls.length)) 8 (vi .i64 j)), (upd emp 0 ⟨ls.map (vi .i64), false, 1⟩)⟩) (fm := []) (wk [0]) ⟨0, Nat.zero_le _, rfl, rfl⟩ ?_
  rintro mm σ ⟨j, hji, rfl, rfl⟩
  refine zS ?_
  refine yP pLt ?_
  refine zN (zQ ?_)
  refine zA (fun hb0 => ?_) (fun hb0 => ?_)
  ·
    have hlt : j < ls.length := by simpa using hb0
    refine zK (zT (zQ (zB (zS ?_))))
    refine yM ?_
    refine yA ?_
    refine zN (zS ?_)
    refine yM ?_
    refine yM ?_
    refine yM ?_
    refine yP pJ ?_
    refine yL 0 ?_
    refine yP (PureOp.bin rfl rfl rfl) ?_
    refine zN ?_
    refine zA (fun hb1 => ?_) (fun hb1 => ?_)
    ·
      exact absurd (show x = (ls.getD j 0 : Int) by simpa using hb1).symm (hn j hlt)
    ·
      refine zK (zL (zT (zR ?_)))
      refine yP (pAdd (b := 1)) ?_
      refine yM ?_
      refine zN (zT ?_)
      exact ⟨ls.length - (j + 1), [], _, by omega, wk [0], j + 1, by omega, rfl, rfl⟩
  ·
    refine zX (zV (zV (zH (zT (zS ?_)))))
    refine yA ?_
    refine zN (zE ?_)
    exact rq [] [.tmp 4]
theorem contY_ctr {ls : List Nat} {x : Int} {i : Nat} (hi : i < ls.length) (he : (ls.getD i 0 : Int) = x) (hj : ∀ j, j < i → (ls.getD j 0 : Int) ≠ x) (hl : ls.length < 1000) : GC Tryz.prog 75 [.slice (some ⟨0, 0, none⟩) ls.length 0, .int .i64 x] [⟨ls.map (vi .i64), false, 1⟩] [.bool true] [⟨ls.map (vi .i64), false, 1⟩] := by
  refine gi Tryz.func75 ?_
  refine zS ?_
  refine yA ?_
  refine zN (zS ?_)
  refine yM ?_
  refine yM ?_
  refine yC (idxY_ctr hi he hj hl) bd89 [(0, 0)] [] ?_
  refine yP ((PureOp.geN (b := 0) rfl rfl).mono (v' := .bool true) (congrArg Value.bool (by simp))) ?_
  refine yA ?_
  refine zN (zE ?_)
  exact rq [] [.tmp 4]
theorem contZ_ctr {ls : List Nat} {x : Int} (hn : ∀ j, j < ls.length → (ls.getD j 0 : Int) ≠ x) (hl : ls.length < 1000) : GC Tryz.prog 75 [.slice (some ⟨0, 0, none⟩) ls.length 0, .int .i64 x] [⟨ls.map (vi .i64), false, 1⟩] [.bool false] [⟨ls.map (vi .i64), false, 1⟩] := by
  refine gi Tryz.func75 ?_
  refine zS ?_
  refine yA ?_
  refine zN (zS ?_)
  refine yM ?_
  refine yM ?_
  refine yC (idxZ_ctr hn hl) bd89 [(0, 0)] [] ?_
  refine yP ((PureOp.bin rfl rfl rfl).mono (v' := .bool false) (congrArg Value.bool (by simp))) ?_
  refine yA ?_
  refine zN (zE ?_)
  exact rq [] [.tmp 4]
theorem least {p : Nat → Prop} : ∀ n, p n → ∃ i, p i ∧ i ≤ n ∧ ∀ j, j < i → ¬ p j := by
  intro n
  induction n using Nat.strongRecOn with
  | ind n ih =>
    intro hp
    by_cases h : ∃ m, m < n ∧ p m
    · obtain ⟨m, hm, hpm⟩ := h
      obtain ⟨i, h1, h2, h3⟩ := ih m hm hpm
      exact ⟨i, h1, by omega, h3⟩
    · exact ⟨n, hp, Nat.le_refl _, fun j hj hpj => h ⟨j, hj, hpj⟩⟩
theorem cont_ctr {ls : List Nat} {x : Int} {n : Nat} (hn : ls.length = n) (hl : ls.length < 1000) : GC Tryz.prog 75 [.slice (some ⟨0, 0, none⟩) n 0, .int .i64 x] [⟨ls.map (vi .i64), false, 1⟩] [.bool (hasI ls x)] [⟨ls.map (vi .i64), false, 1⟩] := by
  subst hn
  by_cases h : ∃ j, j < ls.length ∧ (ls.getD j 0 : Int) = x
  · rw [hasI, decide_eq_true h]
    obtain ⟨j, hj⟩ := h
    obtain ⟨i, ⟨h1, h2⟩, h3, h4⟩ := least (p := fun j => j < ls.length ∧ (ls.getD j 0 : Int) = x) j hj
    exact contY_ctr h1 h2 (fun j hj e => h4 j hj ⟨by omega, e⟩) hl
  · rw [hasI, decide_eq_false h]
    exact contZ_ctr (fun j hj e => h ⟨j, hj, e⟩) hl
theorem itck1_ctr {t c : Int} : GC Tryz.prog 48 [itV 1 t c] [] [vi .i64 (itC 1 t c)] [] := by
  refine gi Tryz.func48 ?_
  refine zS ?_
  refine AWo.box 2000 1 [.int .i64 1, .int .i64 t, .int .i64 c, .string .empty] rfl rfl rfl rfl rfl ?_
  refine yA ?_
  refine zN (zS ?_)
  refine yP pF ?_
  refine yL1 ?_
  refine yC (types1_ctr) bd74 [] [9000] ?_
  refine yM ?_
  refine yP pX ?_
  refine yP pX ?_
  refine yA ?_
  refine yA ?_
  refine zN (zQ (zB (zS ?_)))
  refine yM ?_
  refine yP pL ?_
  refine yP ((PureOp.eqN (b := 0) rfl rfl).mono (v' := .bool false) (congrArg Value.bool (by decide))) ?_
  refine yA ?_
  refine zN (zF (zS ?_))
  refine yM ?_
  refine yP pF ?_
  refine yL1 ?_
  refine yC (v := .bool (decide (1 ≤ t ∧ t ≤ 4))) (cont_ctr (ls := [1, 2, 3, 4]) (x := t) rfl (by decide)) bd75 [(9000, 0)] [] ?_ (hv := (by rw [has1]; rfl))
  refine yP (PureOp.not rfl) ?_
  refine yA ?_
  refine zN ?_
  refine zA (fun hb0 => ?_) (fun hb0 => ?_)
  ·
    have p1 : ¬ (1 ≤ t ∧ t ≤ 4) := by
      intro hp
      rw [decide_eq_true hp] at hb0
      cases hb0
    refine zS ?_
    refine yA ?_
    refine zN (zE (zI (zU ?_)))
    rw [it6 (by omega) (by omega)]
    exact rq [] [.tmp 2]
  ·
    have p1 : 1 ≤ t ∧ t ≤ 4 := Decidable.byContradiction fun hp => by
      rw [decide_eq_false hp] at hb0
      cases hb0
    refine zS ?_
    refine yP pF ?_
    refine yL1 ?_
    refine yB (PureOp.bin rfl rfl rfl) (fun hb1 => ?_) (fun hb1 => ?_)
    ·
      have p2 : c < 1 := by simpa using hb1
      refine yM ?_
      refine yK ?_
      refine yK ?_
      refine yK ?_
      refine yK ?_
      refine yP pT ?_
      refine yA ?_
      refine zN (zC (zS ?_))
      refine yA ?_
      refine zN (zE (zI (zU ?_)))
      rw [it7 (by omega) (by omega) (by omega)]
      exact rq [] [.tmp 2]
    ·
      have p2 : ¬ c < 1 := by simpa using hb1
      refine yM ?_
      refine yP pF ?_
      refine yL1 ?_
      refine yM ?_
      refine yB (PureOp.bin rfl rfl rfl) (fun hb2 => ?_) (fun hb2 => ?_)
      ·
        have p3 : c > 1048576 := by simpa using hb2
        refine yP pE ?_
        refine yA ?_
        refine zN (zC (zS ?_))
        refine yA ?_
        refine zN (zE (zI (zU ?_)))
        rw [it7 (by omega) (by omega) (by omega)]
        exact rq [] [.tmp 2]
      ·
        have p3 : ¬ c > 1048576 := by simpa using hb2
        refine yP pE ?_
        refine yA ?_
        refine zN (zF (zS ?_))
        refine yP pF ?_
        refine yL1 ?_
        refine yP ((PureOp.lenStr rfl Tryz.underlying9).mono (v' := vi .i64 0) rfl) ?_
        refine yP ((PureOp.gtN (b := 255) rfl rfl).mono (v' := .bool false) (congrArg Value.bool (by decide))) ?_
        refine yA ?_
        refine zN (zF (zK (zL (zT (zS ?_)))))
        refine yA ?_
        refine zN (zE ?_)
        rw [it0 (by omega) (by omega) (by omega)]
        exact rq [] [.tmp 2]
theorem itck2_ctr {t c : Int} : GC Tryz.prog 48 [itV 2 t c] [] [vi .i64 (itC 2 t c)] [] := by
  refine gi Tryz.func48 ?_
  refine zS ?_
  refine AWo.box 2000 1 [.int .i64 2, .int .i64 t, .int .i64 c, .string .empty] rfl rfl rfl rfl rfl ?_
  refine yA ?_
  refine zN (zS ?_)
  refine yP pF ?_
  refine yL1 ?_
  refine yC (types2_ctr) bd74 [] [9000] ?_
  refine yM ?_
  refine yP pX ?_
  refine yP pX ?_
  refine yA ?_
  refine yA ?_
  refine zN (zQ (zB (zS ?_)))
  refine yM ?_
  refine yP pL ?_
  refine yP ((PureOp.eqN (b := 0) rfl rfl).mono (v' := .bool false) (congrArg Value.bool (by decide))) ?_
  refine yA ?_
  refine zN (zF (zS ?_))
  refine yM ?_
  refine yP pF ?_
  refine yL1 ?_
  refine yC (v := .bool (decide (t = 1 ∨ t = 3))) (cont_ctr (ls := [1, 3]) (x := t) rfl (by decide)) bd75 [(9000, 0)] [] ?_ (hv := (by rw [has2]; rfl))
  refine yP (PureOp.not rfl) ?_
  refine yA ?_
  refine zN ?_
  refine zA (fun hb0 => ?_) (fun hb0 => ?_)
  ·
    have p1 : ¬ (t = 1 ∨ t = 3) := by
      intro hp
      rw [decide_eq_true hp] at hb0
      cases hb0
    refine zS ?_
    refine yA ?_
    refine zN (zE (zI (zU ?_)))
    rw [it6 (by omega) (by omega)]
    exact rq [] [.tmp 2]
  ·
    have p1 : t = 1 ∨ t = 3 := Decidable.byContradiction fun hp => by
      rw [decide_eq_false hp] at hb0
      cases hb0
    refine zS ?_
    refine yP pF ?_
    refine yL1 ?_
    refine yB (PureOp.bin rfl rfl rfl) (fun hb1 => ?_) (fun hb1 => ?_)
    ·
      have p2 : c < 1 := by simpa using hb1
      refine yM ?_
      refine yK ?_
      refine yK ?_
      refine yK ?_
      refine yK ?_
      refine yP pT ?_
      refine yA ?_
      refine zN (zC (zS ?_))
      refine yA ?_
      refine zN (zE (zI (zU ?_)))
      rw [it7 (by omega) (by omega) (by omega)]
      exact rq [] [.tmp 2]
    ·
      have p2 : ¬ c < 1 := by simpa using hb1
      refine yM ?_
      refine yP pF ?_
      refine yL1 ?_
      refine yM ?_
      refine yB (PureOp.bin rfl rfl rfl) (fun hb2 => ?_) (fun hb2 => ?_)
      ·
        have p3 : c > 1048576 := by simpa using hb2
        refine yP pE ?_
        refine yA ?_
        refine zN (zC (zS ?_))
        refine yA ?_
        refine zN (zE (zI (zU ?_)))
        rw [it7 (by omega) (by omega) (by omega)]
        exact rq [] [.tmp 2]
      ·
        have p3 : ¬ c > 1048576 := by simpa using hb2
        refine yP pE ?_
        refine yA ?_
        refine zN (zF (zS ?_))
        refine yP pF ?_
        refine yL1 ?_
        refine yP ((PureOp.lenStr rfl Tryz.underlying9).mono (v' := vi .i64 0) rfl) ?_
        refine yP ((PureOp.gtN (b := 255) rfl rfl).mono (v' := .bool false) (congrArg Value.bool (by decide))) ?_
        refine yA ?_
        refine zN (zF (zK (zL (zT (zS ?_)))))
        refine yA ?_
        refine zN (zE ?_)
        rw [it0 (by omega) (by omega) (by omega)]
        exact rq [] [.tmp 2]
theorem itck3_ctr {t c : Int} : GC Tryz.prog 48 [itV 3 t c] [] [vi .i64 (itC 3 t c)] [] := by
  refine gi Tryz.func48 ?_
  refine zS ?_
  refine AWo.box 2000 1 [.int .i64 3, .int .i64 t, .int .i64 c, .string .empty] rfl rfl rfl rfl rfl ?_
  refine yA ?_
  refine zN (zS ?_)
  refine yP pF ?_
  refine yL1 ?_
  refine yC (types3_ctr) bd74 [] [9000] ?_
  refine yM ?_
  refine yP pX ?_
  refine yP pX ?_
  refine yA ?_
  refine yA ?_
  refine zN (zQ (zB (zS ?_)))
  refine yM ?_
  refine yP pL ?_
  refine yP ((PureOp.eqN (b := 0) rfl rfl).mono (v' := .bool false) (congrArg Value.bool (by decide))) ?_
  refine yA ?_
  refine zN (zF (zS ?_))
  refine yM ?_
  refine yP pF ?_
  refine yL1 ?_
  refine yC (v := .bool (decide (t = 0))) (cont_ctr (ls := [0]) (x := t) rfl (by decide)) bd75 [(9000, 0)] [] ?_ (hv := (by rw [has3]; rfl))
  refine yP (PureOp.not rfl) ?_
  refine yA ?_
  refine zN ?_
  refine zA (fun hb0 => ?_) (fun hb0 => ?_)
  ·
    have p1 : ¬ (t = 0) := by
      intro hp
      rw [decide_eq_true hp] at hb0
      cases hb0
    refine zS ?_
    refine yA ?_
    refine zN (zE (zI (zU ?_)))
    rw [it6 (by omega) (by omega)]
    exact rq [] [.tmp 2]
  ·
    have p1 : t = 0 := Decidable.byContradiction fun hp => by
      rw [decide_eq_false hp] at hb0
      cases hb0
    refine zS ?_
    refine yP pF ?_
    refine yL1 ?_
    refine yB (PureOp.bin rfl rfl rfl) (fun hb1 => ?_) (fun hb1 => ?_)
    ·
      have p2 : c < 1 := by simpa using hb1
      refine yM ?_
      refine yK ?_
      refine yK ?_
      refine yK ?_
      refine yK ?_
      refine yP pT ?_
      refine yA ?_
      refine zN (zC (zS ?_))
      refine yA ?_
      refine zN (zE (zI (zU ?_)))
      rw [it7 (by omega) (by omega) (by omega)]
      exact rq [] [.tmp 2]
    ·
      have p2 : ¬ c < 1 := by simpa using hb1
      refine yM ?_
      refine yP pF ?_
      refine yL1 ?_
      refine yM ?_
      refine yB (PureOp.bin rfl rfl rfl) (fun hb2 => ?_) (fun hb2 => ?_)
      ·
        have p3 : c > 1 := by simpa using hb2
        refine yP pE ?_
        refine yA ?_
        refine zN (zC (zS ?_))
        refine yA ?_
        refine zN (zE (zI (zU ?_)))
        rw [it7 (by omega) (by omega) (by omega)]
        exact rq [] [.tmp 2]
      ·
        have p3 : ¬ c > 1 := by simpa using hb2
        refine yP pE ?_
        refine yA ?_
        refine zN (zF (zS ?_))
        refine yP pF ?_
        refine yL1 ?_
        refine yP ((PureOp.lenStr rfl Tryz.underlying9).mono (v' := vi .i64 0) rfl) ?_
        refine yP ((PureOp.gtN (b := 255) rfl rfl).mono (v' := .bool false) (congrArg Value.bool (by decide))) ?_
        refine yA ?_
        refine zN (zF (zK (zL (zT (zS ?_)))))
        refine yA ?_
        refine zN (zE ?_)
        rw [it0 (by omega) (by omega) (by omega)]
        exact rq [] [.tmp 2]
theorem itck0_ctr {k t c : Int} (h1 : k ≠ 1) (h2 : k ≠ 2) (h3 : k ≠ 3) : GC Tryz.prog 48 [itV k t c] [] [vi .i64 (itC k t c)] [] := by
  refine gi Tryz.func48 ?_
  rw [it5 (by omega)]
  refine zS ?_
  refine AWo.box 2000 1 [.int .i64 k, .int .i64 t, .int .i64 c, .string .empty] rfl rfl rfl rfl rfl ?_
  refine yA ?_
  refine zN (zS ?_)
  refine yP pF ?_
  refine yL1 ?_
  refine yC (types0_ctr h1 h2 h3) bd74 [] [] ?_
  refine yM ?_
  refine yP pX ?_
  refine yP pX ?_
  refine yA ?_
  refine yA ?_
  refine zN (zQ (zB (zS ?_)))
  refine yM ?_
  refine yP pL ?_
  refine yP ((PureOp.eqN (b := 0) rfl rfl).mono (v' := .bool true) (congrArg Value.bool (by decide))) ?_
  refine yA ?_
  refine zN (zC (zS ?_))
  refine yA ?_
  refine zN (zE (zI (zU ?_)))
  exact rq [] [.tmp 2]
theorem itck_ctr {k t c : Int} : GC Tryz.prog 48 [itV k t c] [] [vi .i64 (itC k t c)] [] := by
  by_cases h1 : k = 1
  · subst h1; exact itck1_ctr
  by_cases h2 : k = 2
  · subst h2; exact itck2_ctr
  by_cases h3 : k = 3
  · subst h3; exact itck3_ctr
  exact itck0_ctr h1 h2 h3
theorem it12_ctr {k t c : Int} : GC Tryz.prog 29 [itV k t c] [] [vi .i64 (itC k t c)] [] := by
  refine gi Tryz.func29 ?_
  refine zS ?_
  refine AWo.box 2000 1 [.int .i64 k, .int .i64 t, .int .i64 c, .string .empty] rfl rfl rfl rfl rfl ?_
  refine yA ?_
  refine zN (zQ (zS ?_))
  refine yP pF ?_
  refine yL1 ?_
  refine yB (PureOp.bin rfl rfl rfl) (fun hb0 => ?_) (fun hb0 => ?_)
  ·
    have p5 : k < 1 := by simpa using hb0
    refine yM ?_
    refine yK ?_
    refine yK ?_
    refine yK ?_
    refine yP pT ?_
    refine zN (zC (zS ?_))
    refine yA ?_
    refine zN (zE (zU ?_))
    (rw [it5 (by omega)]; exact RetQ.gc [_] [] [.tmp 2] (.inl rfl) rfl (.tmp rfl .nil) rfl (.cons rfl rfl .nil) trivial (by decide) rfl)
  ·
    have p5 : ¬ (k < 1) := by simpa using hb0
    refine yM ?_
    refine yP pF ?_
    refine yL1 ?_
    refine yB (PureOp.bin rfl rfl rfl) (fun hb1 => ?_) (fun hb1 => ?_)
    ·
      have p9 : k > 3 := by simpa using hb1
      refine yP pE ?_
      refine zN (zC (zS ?_))
      refine yA ?_
      refine zN (zE (zU ?_))
      (rw [it5 (by omega)]; exact RetQ.gc [_] [] [.tmp 2] (.inl rfl) rfl (.tmp rfl .nil) rfl (.cons rfl rfl .nil) trivial (by decide) rfl)
    ·
      have p9 : ¬ (k > 3) := by simpa using hb1
      refine yP pE ?_
      refine zN (zF (zK (zT (zQ (zS ?_)))))
      refine yP pF ?_
      refine yL1 ?_
      refine yB (PureOp.bin rfl rfl rfl) (fun hb2 => ?_) (fun hb2 => ?_)
      ·
        have p13 : k = 1 := by simpa using hb2
        refine yM ?_
        refine yP pF ?_
        refine yL1 ?_
        refine yB (PureOp.bin rfl rfl rfl) (fun hb3 => ?_) (fun hb3 => ?_)
        ·
          have p17 : t < 1 := by simpa using hb3
          refine yM ?_
          refine yK ?_
          refine yK ?_
          refine yK ?_
          refine yP pT ?_
          refine yP pT ?_
          refine yM ?_
          refine yK ?_
          refine yK ?_
          refine yK ?_
          refine yK ?_
          refine yK ?_
          refine yK ?_
          refine yK ?_
          refine yK ?_
          refine yK ?_
          refine yK ?_
          refine yK ?_
          refine yK ?_
          refine yK ?_
          refine yP pT ?_
          refine yM ?_
          refine yK ?_
          refine yK ?_
          refine yK ?_
          refine yK ?_
          refine yK ?_
          refine yK ?_
          refine yK ?_
          refine yK ?_
          refine yP pT ?_
          refine zN (zC (zS ?_))
          refine yA ?_
          refine zN (zE (zU ?_))
          (rw [it6 (by omega) (by omega)]; exact RetQ.gc [_] [] [.tmp 2] (.inl rfl) rfl (.tmp rfl .nil) rfl (.cons rfl rfl .nil) trivial (by decide) rfl)
        ·
          have p17 : ¬ (t < 1) := by simpa using hb3
          refine yM ?_
          refine yP pF ?_
          refine yL1 ?_
          refine yB (PureOp.bin rfl rfl rfl) (fun hb4 => ?_) (fun hb4 => ?_)
          ·
            have p21 : t > 4 := by simpa using hb4
            refine yP pE ?_
            refine yP pT ?_
            refine yM ?_
            refine yK ?_
            refine yK ?_
            refine yK ?_
            refine yK ?_
            refine yK ?_
            refine yK ?_
            refine yK ?_
            refine yK ?_
            refine yK ?_
            refine yK ?_
            refine yK ?_
            refine yK ?_
            refine yK ?_
            refine yP pT ?_
            refine yM ?_
            refine yK ?_
            refine yK ?_
            refine yK ?_
            refine yK ?_
            refine yK ?_
            refine yK ?_
            refine yK ?_
            refine yK ?_
            refine yP pT ?_
            refine zN (zC (zS ?_))
            refine yA ?_
            refine zN (zE (zU ?_))
            (rw [it6 (by omega) (by omega)]; exact RetQ.gc [_] [] [.tmp 2] (.inl rfl) rfl (.tmp rfl .nil) rfl (.cons rfl rfl .nil) trivial (by decide) rfl)
          ·
            have p21 : ¬ (t > 4) := by simpa using hb4
            refine yP pE ?_
            refine yP pT ?_
            refine yM ?_
            refine yP pF ?_
            refine yL1 ?_
            refine yB (PureOp.bin rfl rfl rfl) (fun hb5 => ?_) (fun hb5 => ?_)
            ·
              have p27 : k = 2 := by simpa using hb5
              refine yM ?_
              refine yP pF ?_
              refine yL1 ?_
              refine yB (PureOp.bin rfl rfl rfl) (fun hb6 => ?_) (fun hb6 => ?_)
              ·
                have p31 : t ≠ 1 := by simpa using hb6
                refine yP pT ?_
                refine yM ?_
                refine yP pF ?_
                refine yL1 ?_
                refine yB (PureOp.bin rfl rfl rfl) (fun hb7 => ?_) (fun hb7 => ?_)
                ·
                  have p36 : t ≠ 3 := by simpa using hb7
                  refine yP pT ?_
                  refine yP pE ?_
                  refine yM ?_
                  refine yK ?_
                  refine yK ?_
                  refine yK ?_
                  refine yK ?_
                  refine yK ?_
                  refine yK ?_
                  refine yK ?_
                  refine yK ?_
                  refine yP pT ?_
                  refine zN (zC (zS ?_))
                  refine yA ?_
                  refine zN (zE (zU ?_))
                  (exfalso; omega)
                ·
                  have p36 : ¬ (t ≠ 3) := by simpa using hb7
                  refine yP pT ?_
                  refine yP pE ?_
                  refine yM ?_
                  refine yP pF ?_
                  refine yL1 ?_
                  refine yB (PureOp.bin rfl rfl rfl) (fun hb8 => ?_) (fun hb8 => ?_)
                  ·
                    have p42 : k = 3 := by simpa using hb8
                    refine yM ?_
                    refine yP pF ?_
                    refine yL1 ?_
                    refine yB (PureOp.bin rfl rfl rfl) (fun hb9 => ?_) (fun hb9 => ?_)
                    ·
                      have p46 : t ≠ 0 := by simpa using hb9
                      refine yP pT ?_
                      refine yP pE ?_
                      refine zN (zC (zS ?_))
                      refine yA ?_
                      refine zN (zE (zU ?_))
                      (exfalso; omega)
                    ·
                      have p46 : ¬ (t ≠ 0) := by simpa using hb9
                      refine yP pT ?_
                      refine yP pE ?_
                      refine zN (zF (zK (zT (zQ (zS ?_)))))
                      refine yP pF ?_
                      refine yL1 ?_
                      refine yB (PureOp.bin rfl rfl rfl) (fun hb10 => ?_) (fun hb10 => ?_)
                      ·
                        have p51 : c < 1 := by simpa using hb10
                        refine yM ?_
                        refine yK ?_
                        refine yK ?_
                        refine yK ?_
                        refine yP pT ?_
                        refine yM ?_
                        refine yK ?_
                        refine yK ?_
                        refine yK ?_
                        refine yK ?_
                        refine yK ?_
                        refine yK ?_
                        refine yK ?_
                        refine yK ?_
                        refine yP pT ?_
                        refine zN (zC (zS ?_))
                        refine yA ?_
                        refine zN (zE (zU ?_))
                        (exfalso; omega)
                      ·
                        have p51 : ¬ (c < 1) := by simpa using hb10
                        refine yM ?_
                        refine yP pF ?_
                        refine yL1 ?_
                        refine yB (PureOp.bin rfl rfl rfl) (fun hb11 => ?_) (fun hb11 => ?_)
                        ·
                          have p55 : c > 1048576 := by simpa using hb11
                          refine yP pE ?_
                          refine yM ?_
                          refine yK ?_
                          refine yK ?_
                          refine yK ?_
                          refine yK ?_
                          refine yK ?_
                          refine yK ?_
                          refine yK ?_
                          refine yK ?_
                          refine yP pT ?_
                          refine zN (zC (zS ?_))
                          refine yA ?_
                          refine zN (zE (zU ?_))
                          (exfalso; omega)
                        ·
                          have p55 : ¬ (c > 1048576) := by simpa using hb11
                          refine yP pE ?_
                          refine yM ?_
                          refine yP pF ?_
                          refine yL1 ?_
                          refine yB (PureOp.bin rfl rfl rfl) (fun hb12 => ?_) (fun hb12 => ?_)
                          ·
                            have p60 : k = 3 := by simpa using hb12
                            refine yM ?_
                            refine yP pF ?_
                            refine yL1 ?_
                            refine yB (PureOp.bin rfl rfl rfl) (fun hb13 => ?_) (fun hb13 => ?_)
                            ·
                              have p64 : c ≠ 1 := by simpa using hb13
                              refine yP pT ?_
                              refine yP pE ?_
                              refine zN (zC (zS ?_))
                              refine yA ?_
                              refine zN (zE (zU ?_))
                              (exfalso; omega)
                            ·
                              have p64 : ¬ (c ≠ 1) := by simpa using hb13
                              refine yP pT ?_
                              refine yP pE ?_
                              refine zN (zF (zK (zT (zQ (zS ?_)))))
                              refine yP pF ?_
                              refine yL1 ?_
                              refine yP ((PureOp.lenStr rfl Tryz.underlying9).mono (v' := vi .i64 0) rfl) ?_
                              refine yP ((PureOp.gtN (b := 255) rfl rfl).mono (v' := .bool false) (congrArg Value.bool (by decide))) ?_
                              refine zN (zF (zK (zT (zS ?_))))
                              refine yA ?_
                              refine zN (zE ?_)
                              (exfalso; omega)
                          ·
                            have p60 : ¬ (k = 3) := by simpa using hb12
                            refine yM ?_
                            refine yK ?_
                            refine yK ?_
                            refine yK ?_
                            refine yP pE ?_
                            refine yP pE ?_
                            refine zN (zF (zK (zT (zQ (zS ?_)))))
                            refine yP pF ?_
                            refine yL1 ?_
                            refine yP ((PureOp.lenStr rfl Tryz.underlying9).mono (v' := vi .i64 0) rfl) ?_
                            refine yP ((PureOp.gtN (b := 255) rfl rfl).mono (v' := .bool false) (congrArg Value.bool (by decide))) ?_
                            refine zN (zF (zK (zT (zS ?_))))
                            refine yA ?_
                            refine zN (zE ?_)
                            (exfalso; omega)
                  ·
                    have p42 : ¬ (k = 3) := by simpa using hb8
                    refine yM ?_
                    refine yK ?_
                    refine yK ?_
                    refine yK ?_
                    refine yP pE ?_
                    refine yP pE ?_
                    refine zN (zF (zK (zT (zQ (zS ?_)))))
                    refine yP pF ?_
                    refine yL1 ?_
                    refine yB (PureOp.bin rfl rfl rfl) (fun hb14 => ?_) (fun hb14 => ?_)
                    ·
                      have p51 : c < 1 := by simpa using hb14
                      refine yM ?_
                      refine yK ?_
                      refine yK ?_
                      refine yK ?_
                      refine yP pT ?_
                      refine yM ?_
                      refine yK ?_
                      refine yK ?_
                      refine yK ?_
                      refine yK ?_
                      refine yK ?_
                      refine yK ?_
                      refine yK ?_
                      refine yK ?_
                      refine yP pT ?_
                      refine zN (zC (zS ?_))
                      refine yA ?_
                      refine zN (zE (zU ?_))
                      (exfalso; omega)
                    ·
                      have p51 : ¬ (c < 1) := by simpa using hb14
                      refine yM ?_
                      refine yP pF ?_
                      refine yL1 ?_
                      refine yB (PureOp.bin rfl rfl rfl) (fun hb15 => ?_) (fun hb15 => ?_)
                      ·
                        have p55 : c > 1048576 := by simpa using hb15
                        refine yP pE ?_
                        refine yM ?_
                        refine yK ?_
                        refine yK ?_
                        refine yK ?_
                        refine yK ?_
                        refine yK ?_
                        refine yK ?_
                        refine yK ?_
                        refine yK ?_
                        refine yP pT ?_
                        refine zN (zC (zS ?_))
                        refine yA ?_
                        refine zN (zE (zU ?_))
                        (exfalso; omega)
                      ·
                        have p55 : ¬ (c > 1048576) := by simpa using hb15
                        refine yP pE ?_
                        refine yM ?_
                        refine yP pF ?_
                        refine yL1 ?_
                        refine yB (PureOp.bin rfl rfl rfl) (fun hb16 => ?_) (fun hb16 => ?_)
                        ·
                          have p60 : k = 3 := by simpa using hb16
                          refine yM ?_
                          refine yP pF ?_
                          refine yL1 ?_
                          refine yB (PureOp.bin rfl rfl rfl) (fun hb17 => ?_) (fun hb17 => ?_)
                          ·
                            have p64 : c ≠ 1 := by simpa using hb17
                            refine yP pT ?_
                            refine yP pE ?_
                            refine zN (zC (zS ?_))
                            refine yA ?_
                            refine zN (zE (zU ?_))
                            (exfalso; omega)
                          ·
                            have p64 : ¬ (c ≠ 1) := by simpa using hb17
                            refine yP pT ?_
                            refine yP pE ?_
                            refine zN (zF (zK (zT (zQ (zS ?_)))))
                            refine yP pF ?_
                            refine yL1 ?_
                            refine yP ((PureOp.lenStr rfl Tryz.underlying9).mono (v' := vi .i64 0) rfl) ?_
                            refine yP ((PureOp.gtN (b := 255) rfl rfl).mono (v' := .bool false) (congrArg Value.bool (by decide))) ?_
                            refine zN (zF (zK (zT (zS ?_))))
                            refine yA ?_
                            refine zN (zE ?_)
                            (exfalso; omega)
                        ·
                          have p60 : ¬ (k = 3) := by simpa using hb16
                          refine yM ?_
                          refine yK ?_
                          refine yK ?_
                          refine yK ?_
                          refine yP pE ?_
                          refine yP pE ?_
                          refine zN (zF (zK (zT (zQ (zS ?_)))))
                          refine yP pF ?_
                          refine yL1 ?_
                          refine yP ((PureOp.lenStr rfl Tryz.underlying9).mono (v' := vi .i64 0) rfl) ?_
                          refine yP ((PureOp.gtN (b := 255) rfl rfl).mono (v' := .bool false) (congrArg Value.bool (by decide))) ?_
                          refine zN (zF (zK (zT (zS ?_))))
                          refine yA ?_
                          refine zN (zE ?_)
                          (exfalso; omega)
              ·
                have p31 : ¬ (t ≠ 1) := by simpa using hb6
                refine yP pT ?_
                refine yM ?_
                refine yK ?_
                refine yK ?_
                refine yK ?_
                refine yP pE ?_
                refine yP pE ?_
                refine yM ?_
                refine yP pF ?_
                refine yL1 ?_
                refine yB (PureOp.bin rfl rfl rfl) (fun hb18 => ?_) (fun hb18 => ?_)
                ·
                  have p42 : k = 3 := by simpa using hb18
                  refine yM ?_
                  refine yP pF ?_
                  refine yL1 ?_
                  refine yB (PureOp.bin rfl rfl rfl) (fun hb19 => ?_) (fun hb19 => ?_)
                  ·
                    have p46 : t ≠ 0 := by simpa using hb19
                    refine yP pT ?_
                    refine yP pE ?_
                    refine zN (zC (zS ?_))
                    refine yA ?_
                    refine zN (zE (zU ?_))
                    (exfalso; omega)
                  ·
                    have p46 : ¬ (t ≠ 0) := by simpa using hb19
                    refine yP pT ?_
                    refine yP pE ?_
                    refine zN (zF (zK (zT (zQ (zS ?_)))))
                    refine yP pF ?_
                    refine yL1 ?_
                    refine yB (PureOp.bin rfl rfl rfl) (fun hb20 => ?_) (fun hb20 => ?_)
                    ·
                      have p51 : c < 1 := by simpa using hb20
                      refine yM ?_
                      refine yK ?_
                      refine yK ?_
                      refine yK ?_
                      refine yP pT ?_
                      refine yM ?_
                      refine yK ?_
                      refine yK ?_
                      refine yK ?_
                      refine yK ?_
                      refine yK ?_
                      refine yK ?_
                      refine yK ?_
                      refine yK ?_
                      refine yP pT ?_
                      refine zN (zC (zS ?_))
                      refine yA ?_
                      refine zN (zE (zU ?_))
                      (exfalso; omega)
                    ·
                      have p51 : ¬ (c < 1) := by simpa using hb20
                      refine yM ?_
                      refine yP pF ?_
                      refine yL1 ?_
                      refine yB (PureOp.bin rfl rfl rfl) (fun hb21 => ?_) (fun hb21 => ?_)
                      ·
                        have p55 : c > 1048576 := by simpa using hb21
                        refine yP pE ?_
                        refine yM ?_
                        refine yK ?_
                        refine yK ?_
                        refine yK ?_
                        refine yK ?_
                        refine yK ?_
                        refine yK ?_
                        refine yK ?_
                        refine yK ?_
                        refine yP pT ?_
                        refine zN (zC (zS ?_))
                        refine yA ?_
                        refine zN (zE (zU ?_))
                        (exfalso; omega)
                      ·
                        have p55 : ¬ (c > 1048576) := by simpa using hb21
                        refine yP pE ?_
                        refine yM ?_
                        refine yP pF ?_
                        refine yL1 ?_
                        refine yB (PureOp.bin rfl rfl rfl) (fun hb22 => ?_) (fun hb22 => ?_)
                        ·
                          have p60 : k = 3 := by simpa using hb22
                          refine yM ?_
                          refine yP pF ?_
                          refine yL1 ?_
                          refine yB (PureOp.bin rfl rfl rfl) (fun hb23 => ?_) (fun hb23 => ?_)
                          ·
                            have p64 : c ≠ 1 := by simpa using hb23
                            refine yP pT ?_
                            refine yP pE ?_
                            refine zN (zC (zS ?_))
                            refine yA ?_
                            refine zN (zE (zU ?_))
                            (exfalso; omega)
                          ·
                            have p64 : ¬ (c ≠ 1) := by simpa using hb23
                            refine yP pT ?_
                            refine yP pE ?_
                            refine zN (zF (zK (zT (zQ (zS ?_)))))
                            refine yP pF ?_
                            refine yL1 ?_
                            refine yP ((PureOp.lenStr rfl Tryz.underlying9).mono (v' := vi .i64 0) rfl) ?_
                            refine yP ((PureOp.gtN (b := 255) rfl rfl).mono (v' := .bool false) (congrArg Value.bool (by decide))) ?_
                            refine zN (zF (zK (zT (zS ?_))))
                            refine yA ?_
                            refine zN (zE ?_)
                            (exfalso; omega)
                        ·
                          have p60 : ¬ (k = 3) := by simpa using hb22
                          refine yM ?_
                          refine yK ?_
                          refine yK ?_
                          refine yK ?_
                          refine yP pE ?_
                          refine yP pE ?_
                          refine zN (zF (zK (zT (zQ (zS ?_)))))
                          refine yP pF ?_
                          refine yL1 ?_
                          refine yP ((PureOp.lenStr rfl Tryz.underlying9).mono (v' := vi .i64 0) rfl) ?_
                          refine yP ((PureOp.gtN (b := 255) rfl rfl).mono (v' := .bool false) (congrArg Value.bool (by decide))) ?_
                          refine zN (zF (zK (zT (zS ?_))))
                          refine yA ?_
                          refine zN (zE ?_)
                          (exfalso; omega)
                ·
                  have p42 : ¬ (k = 3) := by simpa using hb18
                  refine yM ?_
                  refine yK ?_
                  refine yK ?_
                  refine yK ?_
                  refine yP pE ?_
                  refine yP pE ?_
                  refine zN (zF (zK (zT (zQ (zS ?_)))))
                  refine yP pF ?_
                  refine yL1 ?_
                  refine yB (PureOp.bin rfl rfl rfl) (fun hb24 => ?_) (fun hb24 => ?_)
                  ·
                    have p51 : c < 1 := by simpa using hb24
                    refine yM ?_
                    refine yK ?_
                    refine yK ?_
                    refine yK ?_
                    refine yP pT ?_
                    refine yM ?_
                    refine yK ?_
                    refine yK ?_
                    refine yK ?_
                    refine yK ?_
                    refine yK ?_
                    refine yK ?_
                    refine yK ?_
                    refine yK ?_
                    refine yP pT ?_
                    refine zN (zC (zS ?_))
                    refine yA ?_
                    refine zN (zE (zU ?_))
                    (exfalso; omega)
                  ·
                    have p51 : ¬ (c < 1) := by simpa using hb24
                    refine yM ?_
                    refine yP pF ?_
                    refine yL1 ?_
                    refine yB (PureOp.bin rfl rfl rfl) (fun hb25 => ?_) (fun hb25 => ?_)
                    ·
                      have p55 : c > 1048576 := by simpa using hb25
                      refine yP pE ?_
                      refine yM ?_
                      refine yK ?_
                      refine yK ?_
                      refine yK ?_
                      refine yK ?_
                      refine yK ?_
                      refine yK ?_
                      refine yK ?_
                      refine yK ?_
                      refine yP pT ?_
                      refine zN (zC (zS ?_))
                      refine yA ?_
                      refine zN (zE (zU ?_))
                      (exfalso; omega)
                    ·
                      have p55 : ¬ (c > 1048576) := by simpa using hb25
                      refine yP pE ?_
                      refine yM ?_
                      refine yP pF ?_
                      refine yL1 ?_
                      refine yB (PureOp.bin rfl rfl rfl) (fun hb26 => ?_) (fun hb26 => ?_)
                      ·
                        have p60 : k = 3 := by simpa using hb26
                        refine yM ?_
                        refine yP pF ?_
                        refine yL1 ?_
                        refine yB (PureOp.bin rfl rfl rfl) (fun hb27 => ?_) (fun hb27 => ?_)
                        ·
                          have p64 : c ≠ 1 := by simpa using hb27
                          refine yP pT ?_
                          refine yP pE ?_
                          refine zN (zC (zS ?_))
                          refine yA ?_
                          refine zN (zE (zU ?_))
                          (exfalso; omega)
                        ·
                          have p64 : ¬ (c ≠ 1) := by simpa using hb27
                          refine yP pT ?_
                          refine yP pE ?_
                          refine zN (zF (zK (zT (zQ (zS ?_)))))
                          refine yP pF ?_
                          refine yL1 ?_
                          refine yP ((PureOp.lenStr rfl Tryz.underlying9).mono (v' := vi .i64 0) rfl) ?_
                          refine yP ((PureOp.gtN (b := 255) rfl rfl).mono (v' := .bool false) (congrArg Value.bool (by decide))) ?_
                          refine zN (zF (zK (zT (zS ?_))))
                          refine yA ?_
                          refine zN (zE ?_)
                          (exfalso; omega)
                      ·
                        have p60 : ¬ (k = 3) := by simpa using hb26
                        refine yM ?_
                        refine yK ?_
                        refine yK ?_
                        refine yK ?_
                        refine yP pE ?_
                        refine yP pE ?_
                        refine zN (zF (zK (zT (zQ (zS ?_)))))
                        refine yP pF ?_
                        refine yL1 ?_
                        refine yP ((PureOp.lenStr rfl Tryz.underlying9).mono (v' := vi .i64 0) rfl) ?_
                        refine yP ((PureOp.gtN (b := 255) rfl rfl).mono (v' := .bool false) (congrArg Value.bool (by decide))) ?_
                        refine zN (zF (zK (zT (zS ?_))))
                        refine yA ?_
                        refine zN (zE ?_)
                        (exfalso; omega)
            ·
              have p27 : ¬ (k = 2) := by simpa using hb5
              refine yM ?_
              refine yK ?_
              refine yK ?_
              refine yK ?_
              refine yP pE ?_
              refine yM ?_
              refine yK ?_
              refine yK ?_
              refine yK ?_
              refine yP pE ?_
              refine yP pE ?_
              refine yM ?_
              refine yP pF ?_
              refine yL1 ?_
              refine yB (PureOp.bin rfl rfl rfl) (fun hb28 => ?_) (fun hb28 => ?_)
              ·
                have p42 : k = 3 := by simpa using hb28
                refine yM ?_
                refine yP pF ?_
                refine yL1 ?_
                refine yB (PureOp.bin rfl rfl rfl) (fun hb29 => ?_) (fun hb29 => ?_)
                ·
                  have p46 : t ≠ 0 := by simpa using hb29
                  refine yP pT ?_
                  refine yP pE ?_
                  refine zN (zC (zS ?_))
                  refine yA ?_
                  refine zN (zE (zU ?_))
                  (exfalso; omega)
                ·
                  have p46 : ¬ (t ≠ 0) := by simpa using hb29
                  refine yP pT ?_
                  refine yP pE ?_
                  refine zN (zF (zK (zT (zQ (zS ?_)))))
                  refine yP pF ?_
                  refine yL1 ?_
                  refine yB (PureOp.bin rfl rfl rfl) (fun hb30 => ?_) (fun hb30 => ?_)
                  ·
                    have p51 : c < 1 := by simpa using hb30
                    refine yM ?_
                    refine yK ?_
                    refine yK ?_
                    refine yK ?_
                    refine yP pT ?_
                    refine yM ?_
                    refine yK ?_
                    refine yK ?_
                    refine yK ?_
                    refine yK ?_
                    refine yK ?_
                    refine yK ?_
                    refine yK ?_
                    refine yK ?_
                    refine yP pT ?_
                    refine zN (zC (zS ?_))
                    refine yA ?_
                    refine zN (zE (zU ?_))
                    (exfalso; omega)
                  ·
                    have p51 : ¬ (c < 1) := by simpa using hb30
                    refine yM ?_
                    refine yP pF ?_
                    refine yL1 ?_
                    refine yB (PureOp.bin rfl rfl rfl) (fun hb31 => ?_) (fun hb31 => ?_)
                    ·
                      have p55 : c > 1048576 := by simpa using hb31
                      refine yP pE ?_
                      refine yM ?_
                      refine yK ?_
                      refine yK ?_
                      refine yK ?_
                      refine yK ?_
                      refine yK ?_
                      refine yK ?_
                      refine yK ?_
                      refine yK ?_
                      refine yP pT ?_
                      refine zN (zC (zS ?_))
                      refine yA ?_
                      refine zN (zE (zU ?_))
                      (exfalso; omega)
                    ·
                      have p55 : ¬ (c > 1048576) := by simpa using hb31
                      refine yP pE ?_
                      refine yM ?_
                      refine yP pF ?_
                      refine yL1 ?_
                      refine yB (PureOp.bin rfl rfl rfl) (fun hb32 => ?_) (fun hb32 => ?_)
                      ·
                        have p60 : k = 3 := by simpa using hb32
                        refine yM ?_
                        refine yP pF ?_
                        refine yL1 ?_
                        refine yB (PureOp.bin rfl rfl rfl) (fun hb33 => ?_) (fun hb33 => ?_)
                        ·
                          have p64 : c ≠ 1 := by simpa using hb33
                          refine yP pT ?_
                          refine yP pE ?_
                          refine zN (zC (zS ?_))
                          refine yA ?_
                          refine zN (zE (zU ?_))
                          (exfalso; omega)
                        ·
                          have p64 : ¬ (c ≠ 1) := by simpa using hb33
                          refine yP pT ?_
                          refine yP pE ?_
                          refine zN (zF (zK (zT (zQ (zS ?_)))))
                          refine yP pF ?_
                          refine yL1 ?_
                          refine yP ((PureOp.lenStr rfl Tryz.underlying9).mono (v' := vi .i64 0) rfl) ?_
                          refine yP ((PureOp.gtN (b := 255) rfl rfl).mono (v' := .bool false) (congrArg Value.bool (by decide))) ?_
                          refine zN (zF (zK (zT (zS ?_))))
                          refine yA ?_
                          refine zN (zE ?_)
                          (exfalso; omega)
                      ·
                        have p60 : ¬ (k = 3) := by simpa using hb32
                        refine yM ?_
                        refine yK ?_
                        refine yK ?_
                        refine yK ?_
                        refine yP pE ?_
                        refine yP pE ?_
                        refine zN (zF (zK (zT (zQ (zS ?_)))))
                        refine yP pF ?_
                        refine yL1 ?_
                        refine yP ((PureOp.lenStr rfl Tryz.underlying9).mono (v' := vi .i64 0) rfl) ?_
                        refine yP ((PureOp.gtN (b := 255) rfl rfl).mono (v' := .bool false) (congrArg Value.bool (by decide))) ?_
                        refine zN (zF (zK (zT (zS ?_))))
                        refine yA ?_
                        refine zN (zE ?_)
                        (exfalso; omega)
              ·
                have p42 : ¬ (k = 3) := by simpa using hb28
                refine yM ?_
                refine yK ?_
                refine yK ?_
                refine yK ?_
                refine yP pE ?_
                refine yP pE ?_
                refine zN (zF (zK (zT (zQ (zS ?_)))))
                refine yP pF ?_
                refine yL1 ?_
                refine yB (PureOp.bin rfl rfl rfl) (fun hb34 => ?_) (fun hb34 => ?_)
                ·
                  have p51 : c < 1 := by simpa using hb34
                  refine yM ?_
                  refine yK ?_
                  refine yK ?_
                  refine yK ?_
                  refine yP pT ?_
                  refine yM ?_
                  refine yK ?_
                  refine yK ?_
                  refine yK ?_
                  refine yK ?_
                  refine yK ?_
                  refine yK ?_
                  refine yK ?_
                  refine yK ?_
                  refine yP pT ?_
                  refine zN (zC (zS ?_))
                  refine yA ?_
                  refine zN (zE (zU ?_))
                  (rw [it7 (by omega) (by omega) (by omega)]; exact RetQ.gc [_] [] [.tmp 2] (.inl rfl) rfl (.tmp rfl .nil) rfl (.cons rfl rfl .nil) trivial (by decide) rfl)
                ·
                  have p51 : ¬ (c < 1) := by simpa using hb34
                  refine yM ?_
                  refine yP pF ?_
                  refine yL1 ?_
                  refine yB (PureOp.bin rfl rfl rfl) (fun hb35 => ?_) (fun hb35 => ?_)
                  ·
                    have p55 : c > 1048576 := by simpa using hb35
                    refine yP pE ?_
                    refine yM ?_
                    refine yK ?_
                    refine yK ?_
                    refine yK ?_
                    refine yK ?_
                    refine yK ?_
                    refine yK ?_
                    refine yK ?_
                    refine yK ?_
                    refine yP pT ?_
                    refine zN (zC (zS ?_))
                    refine yA ?_
                    refine zN (zE (zU ?_))
                    (rw [it7 (by omega) (by omega) (by omega)]; exact RetQ.gc [_] [] [.tmp 2] (.inl rfl) rfl (.tmp rfl .nil) rfl (.cons rfl rfl .nil) trivial (by decide) rfl)
                  ·
                    have p55 : ¬ (c > 1048576) := by simpa using hb35
                    refine yP pE ?_
                    refine yM ?_
                    refine yP pF ?_
                    refine yL1 ?_
                    refine yB (PureOp.bin rfl rfl rfl) (fun hb36 => ?_) (fun hb36 => ?_)
                    ·
                      have p60 : k = 3 := by simpa using hb36
                      refine yM ?_
                      refine yP pF ?_
                      refine yL1 ?_
                      refine yB (PureOp.bin rfl rfl rfl) (fun hb37 => ?_) (fun hb37 => ?_)
                      ·
                        have p64 : c ≠ 1 := by simpa using hb37
                        refine yP pT ?_
                        refine yP pE ?_
                        refine zN (zC (zS ?_))
                        refine yA ?_
                        refine zN (zE (zU ?_))
                        (exfalso; omega)
                      ·
                        have p64 : ¬ (c ≠ 1) := by simpa using hb37
                        refine yP pT ?_
                        refine yP pE ?_
                        refine zN (zF (zK (zT (zQ (zS ?_)))))
                        refine yP pF ?_
                        refine yL1 ?_
                        refine yP ((PureOp.lenStr rfl Tryz.underlying9).mono (v' := vi .i64 0) rfl) ?_
                        refine yP ((PureOp.gtN (b := 255) rfl rfl).mono (v' := .bool false) (congrArg Value.bool (by decide))) ?_
                        refine zN (zF (zK (zT (zS ?_))))
                        refine yA ?_
                        refine zN (zE ?_)
                        (exfalso; omega)
                    ·
                      have p60 : ¬ (k = 3) := by simpa using hb36
                      refine yM ?_
                      refine yK ?_
                      refine yK ?_
                      refine yK ?_
                      refine yP pE ?_
                      refine yP pE ?_
                      refine zN (zF (zK (zT (zQ (zS ?_)))))
                      refine yP pF ?_
                      refine yL1 ?_
                      refine yP ((PureOp.lenStr rfl Tryz.underlying9).mono (v' := vi .i64 0) rfl) ?_
                      refine yP ((PureOp.gtN (b := 255) rfl rfl).mono (v' := .bool false) (congrArg Value.bool (by decide))) ?_
                      refine zN (zF (zK (zT (zS ?_))))
                      refine yA ?_
                      refine zN (zE ?_)
                      (rw [it0 (by omega) (by omega) (by omega)]; exact RetQ.gc [_] [] [.tmp 2] (.inl rfl) rfl (.tmp rfl .nil) rfl (.cons rfl rfl .nil) trivial (by decide) rfl)
      ·
        have p13 : ¬ (k = 1) := by simpa using hb2
        refine yM ?_
        refine yK ?_
        refine yK ?_
        refine yK ?_
        refine yK ?_
        refine yK ?_
        refine yK ?_
        refine yK ?_
        refine yK ?_
        refine yP pE ?_
        refine yM ?_
        refine yP pF ?_
        refine yL1 ?_
        refine yB (PureOp.bin rfl rfl rfl) (fun hb38 => ?_) (fun hb38 => ?_)
        ·
          have p27 : k = 2 := by simpa using hb38
          refine yM ?_
          refine yP pF ?_
          refine yL1 ?_
          refine yB (PureOp.bin rfl rfl rfl) (fun hb39 => ?_) (fun hb39 => ?_)
          ·
            have p31 : t ≠ 1 := by simpa using hb39
            refine yP pT ?_
            refine yM ?_
            refine yP pF ?_
            refine yL1 ?_
            refine yB (PureOp.bin rfl rfl rfl) (fun hb40 => ?_) (fun hb40 => ?_)
            ·
              have p36 : t ≠ 3 := by simpa using hb40
              refine yP pT ?_
              refine yP pE ?_
              refine yM ?_
              refine yK ?_
              refine yK ?_
              refine yK ?_
              refine yK ?_
              refine yK ?_
              refine yK ?_
              refine yK ?_
              refine yK ?_
              refine yP pT ?_
              refine zN (zC (zS ?_))
              refine yA ?_
              refine zN (zE (zU ?_))
              (rw [it6 (by omega) (by omega)]; exact RetQ.gc [_] [] [.tmp 2] (.inl rfl) rfl (.tmp rfl .nil) rfl (.cons rfl rfl .nil) trivial (by decide) rfl)
            ·
              have p36 : ¬ (t ≠ 3) := by simpa using hb40
              refine yP pT ?_
              refine yP pE ?_
              refine yM ?_
              refine yP pF ?_
              refine yL1 ?_
              refine yB (PureOp.bin rfl rfl rfl) (fun hb41 => ?_) (fun hb41 => ?_)
              ·
                have p42 : k = 3 := by simpa using hb41
                refine yM ?_
                refine yP pF ?_
                refine yL1 ?_
                refine yB (PureOp.bin rfl rfl rfl) (fun hb42 => ?_) (fun hb42 => ?_)
                ·
                  have p46 : t ≠ 0 := by simpa using hb42
                  refine yP pT ?_
                  refine yP pE ?_
                  refine zN (zC (zS ?_))
                  refine yA ?_
                  refine zN (zE (zU ?_))
                  (exfalso; omega)
                ·
                  have p46 : ¬ (t ≠ 0) := by simpa using hb42
                  refine yP pT ?_
                  refine yP pE ?_
                  refine zN (zF (zK (zT (zQ (zS ?_)))))
                  refine yP pF ?_
                  refine yL1 ?_
                  refine yB (PureOp.bin rfl rfl rfl) (fun hb43 => ?_) (fun hb43 => ?_)
                  ·
                    have p51 : c < 1 := by simpa using hb43
                    refine yM ?_
                    refine yK ?_
                    refine yK ?_
                    refine yK ?_
                    refine yP pT ?_
                    refine yM ?_
                    refine yK ?_
                    refine yK ?_
                    refine yK ?_
                    refine yK ?_
                    refine yK ?_
                    refine yK ?_
                    refine yK ?_
                    refine yK ?_
                    refine yP pT ?_
                    refine zN (zC (zS ?_))
                    refine yA ?_
                    refine zN (zE (zU ?_))
                    (exfalso; omega)
                  ·
                    have p51 : ¬ (c < 1) := by simpa using hb43
                    refine yM ?_
                    refine yP pF ?_
                    refine yL1 ?_
                    refine yB (PureOp.bin rfl rfl rfl) (fun hb44 => ?_) (fun hb44 => ?_)
                    ·
                      have p55 : c > 1048576 := by simpa using hb44
                      refine yP pE ?_
                      refine yM ?_
                      refine yK ?_
                      refine yK ?_
                      refine yK ?_
                      refine yK ?_
                      refine yK ?_
                      refine yK ?_
                      refine yK ?_
                      refine yK ?_
                      refine yP pT ?_
                      refine zN (zC (zS ?_))
                      refine yA ?_
                      refine zN (zE (zU ?_))
                      (exfalso; omega)
                    ·
                      have p55 : ¬ (c > 1048576) := by simpa using hb44
                      refine yP pE ?_
                      refine yM ?_
                      refine yP pF ?_
                      refine yL1 ?_
                      refine yB (PureOp.bin rfl rfl rfl) (fun hb45 => ?_) (fun hb45 => ?_)
                      ·
                        have p60 : k = 3 := by simpa using hb45
                        refine yM ?_
                        refine yP pF ?_
                        refine yL1 ?_
                        refine yB (PureOp.bin rfl rfl rfl) (fun hb46 => ?_) (fun hb46 => ?_)
                        ·
                          have p64 : c ≠ 1 := by simpa using hb46
                          refine yP pT ?_
                          refine yP pE ?_
                          refine zN (zC (zS ?_))
                          refine yA ?_
                          refine zN (zE (zU ?_))
                          (exfalso; omega)
                        ·
                          have p64 : ¬ (c ≠ 1) := by simpa using hb46
                          refine yP pT ?_
                          refine yP pE ?_
                          refine zN (zF (zK (zT (zQ (zS ?_)))))
                          refine yP pF ?_
                          refine yL1 ?_
                          refine yP ((PureOp.lenStr rfl Tryz.underlying9).mono (v' := vi .i64 0) rfl) ?_
                          refine yP ((PureOp.gtN (b := 255) rfl rfl).mono (v' := .bool false) (congrArg Value.bool (by decide))) ?_
                          refine zN (zF (zK (zT (zS ?_))))
                          refine yA ?_
                          refine zN (zE ?_)
                          (exfalso; omega)
                      ·
                        have p60 : ¬ (k = 3) := by simpa using hb45
                        refine yM ?_
                        refine yK ?_
                        refine yK ?_
                        refine yK ?_
                        refine yP pE ?_
                        refine yP pE ?_
                        refine zN (zF (zK (zT (zQ (zS ?_)))))
                        refine yP pF ?_
                        refine yL1 ?_
                        refine yP ((PureOp.lenStr rfl Tryz.underlying9).mono (v' := vi .i64 0) rfl) ?_
                        refine yP ((PureOp.gtN (b := 255) rfl rfl).mono (v' := .bool false) (congrArg Value.bool (by decide))) ?_
                        refine zN (zF (zK (zT (zS ?_))))
                        refine yA ?_
                        refine zN (zE ?_)
                        (exfalso; omega)
              ·
                have p42 : ¬ (k = 3) := by simpa using hb41
                refine yM ?_
                refine yK ?_
                refine yK ?_
                refine yK ?_
                refine yP pE ?_
                refine yP pE ?_
                refine zN (zF (zK (zT (zQ (zS ?_)))))
                refine yP pF ?_
                refine yL1 ?_
                refine yB (PureOp.bin rfl rfl rfl) (fun hb47 => ?_) (fun hb47 => ?_)
                ·
                  have p51 : c < 1 := by simpa using hb47
                  refine yM ?_
                  refine yK ?_
                  refine yK ?_
                  refine yK ?_
                  refine yP pT ?_
                  refine yM ?_
                  refine yK ?_
                  refine yK ?_
                  refine yK ?_
                  refine yK ?_
                  refine yK ?_
                  refine yK ?_
                  refine yK ?_
                  refine yK ?_
                  refine yP pT ?_
                  refine zN (zC (zS ?_))
                  refine yA ?_
                  refine zN (zE (zU ?_))
                  (rw [it7 (by omega) (by omega) (by omega)]; exact RetQ.gc [_] [] [.tmp 2] (.inl rfl) rfl (.tmp rfl .nil) rfl (.cons rfl rfl .nil) trivial (by decide) rfl)
                ·
                  have p51 : ¬ (c < 1) := by simpa using hb47
                  refine yM ?_
                  refine yP pF ?_
                  refine yL1 ?_
                  refine yB (PureOp.bin rfl rfl rfl) (fun hb48 => ?_) (fun hb48 => ?_)
                  ·
                    have p55 : c > 1048576 := by simpa using hb48
                    refine yP pE ?_
                    refine yM ?_
                    refine yK ?_
                    refine yK ?_
                    refine yK ?_
                    refine yK ?_
                    refine yK ?_
                    refine yK ?_
                    refine yK ?_
                    refine yK ?_
                    refine yP pT ?_
                    refine zN (zC (zS ?_))
                    refine yA ?_
                    refine zN (zE (zU ?_))
                    (rw [it7 (by omega) (by omega) (by omega)]; exact RetQ.gc [_] [] [.tmp 2] (.inl rfl) rfl (.tmp rfl .nil) rfl (.cons rfl rfl .nil) trivial (by decide) rfl)
                  ·
                    have p55 : ¬ (c > 1048576) := by simpa using hb48
                    refine yP pE ?_
                    refine yM ?_
                    refine yP pF ?_
                    refine yL1 ?_
                    refine yB (PureOp.bin rfl rfl rfl) (fun hb49 => ?_) (fun hb49 => ?_)
                    ·
                      have p60 : k = 3 := by simpa using hb49
                      refine yM ?_
                      refine yP pF ?_
                      refine yL1 ?_
                      refine yB (PureOp.bin rfl rfl rfl) (fun hb50 => ?_) (fun hb50 => ?_)
                      ·
                        have p64 : c ≠ 1 := by simpa using hb50
                        refine yP pT ?_
                        refine yP pE ?_
                        refine zN (zC (zS ?_))
                        refine yA ?_
                        refine zN (zE (zU ?_))
                        (exfalso; omega)
                      ·
                        have p64 : ¬ (c ≠ 1) := by simpa using hb50
                        refine yP pT ?_
                        refine yP pE ?_
                        refine zN (zF (zK (zT (zQ (zS ?_)))))
                        refine yP pF ?_
                        refine yL1 ?_
                        refine yP ((PureOp.lenStr rfl Tryz.underlying9).mono (v' := vi .i64 0) rfl) ?_
                        refine yP ((PureOp.gtN (b := 255) rfl rfl).mono (v' := .bool false) (congrArg Value.bool (by decide))) ?_
                        refine zN (zF (zK (zT (zS ?_))))
                        refine yA ?_
                        refine zN (zE ?_)
                        (exfalso; omega)
                    ·
                      have p60 : ¬ (k = 3) := by simpa using hb49
                      refine yM ?_
                      refine yK ?_
                      refine yK ?_
                      refine yK ?_
                      refine yP pE ?_
                      refine yP pE ?_
                      refine zN (zF (zK (zT (zQ (zS ?_)))))
                      refine yP pF ?_
                      refine yL1 ?_
                      refine yP ((PureOp.lenStr rfl Tryz.underlying9).mono (v' := vi .i64 0) rfl) ?_
                      refine yP ((PureOp.gtN (b := 255) rfl rfl).mono (v' := .bool false) (congrArg Value.bool (by decide))) ?_
                      refine zN (zF (zK (zT (zS ?_))))
                      refine yA ?_
                      refine zN (zE ?_)
                      (rw [it0 (by omega) (by omega) (by omega)]; exact RetQ.gc [_] [] [.tmp 2] (.inl rfl) rfl (.tmp rfl .nil) rfl (.cons rfl rfl .nil) trivial (by decide) rfl)
          ·
            have p31 : ¬ (t ≠ 1) := by simpa using hb39
            refine yP pT ?_
            refine yM ?_
            refine yK ?_
            refine yK ?_
            refine yK ?_
            refine yP pE ?_
            refine yP pE ?_
            refine yM ?_
            refine yP pF ?_
            refine yL1 ?_
            refine yB (PureOp.bin rfl rfl rfl) (fun hb51 => ?_) (fun hb51 => ?_)
            ·
              have p42 : k = 3 := by simpa using hb51
              refine yM ?_
              refine yP pF ?_
              refine yL1 ?_
              refine yB (PureOp.bin rfl rfl rfl) (fun hb52 => ?_) (fun hb52 => ?_)
              ·
                have p46 : t ≠ 0 := by simpa using hb52
                refine yP pT ?_
                refine yP pE ?_
                refine zN (zC (zS ?_))
                refine yA ?_
                refine zN (zE (zU ?_))
                (exfalso; omega)
              ·
                have p46 : ¬ (t ≠ 0) := by simpa using hb52
                refine yP pT ?_
                refine yP pE ?_
                refine zN (zF (zK (zT (zQ (zS ?_)))))
                refine yP pF ?_
                refine yL1 ?_
                refine yB (PureOp.bin rfl rfl rfl) (fun hb53 => ?_) (fun hb53 => ?_)
                ·
                  have p51 : c < 1 := by simpa using hb53
                  refine yM ?_
                  refine yK ?_
                  refine yK ?_
                  refine yK ?_
                  refine yP pT ?_
                  refine yM ?_
                  refine yK ?_
                  refine yK ?_
                  refine yK ?_
                  refine yK ?_
                  refine yK ?_
                  refine yK ?_
                  refine yK ?_
                  refine yK ?_
                  refine yP pT ?_
                  refine zN (zC (zS ?_))
                  refine yA ?_
                  refine zN (zE (zU ?_))
                  (exfalso; omega)
                ·
                  have p51 : ¬ (c < 1) := by simpa using hb53
                  refine yM ?_
                  refine yP pF ?_
                  refine yL1 ?_
                  refine yB (PureOp.bin rfl rfl rfl) (fun hb54 => ?_) (fun hb54 => ?_)
                  ·
                    have p55 : c > 1048576 := by simpa using hb54
                    refine yP pE ?_
                    refine yM ?_
                    refine yK ?_
                    refine yK ?_
                    refine yK ?_
                    refine yK ?_
                    refine yK ?_
                    refine yK ?_
                    refine yK ?_
                    refine yK ?_
                    refine yP pT ?_
                    refine zN (zC (zS ?_))
                    refine yA ?_
                    refine zN (zE (zU ?_))
                    (exfalso; omega)
                  ·
                    have p55 : ¬ (c > 1048576) := by simpa using hb54
                    refine yP pE ?_
                    refine yM ?_
                    refine yP pF ?_
                    refine yL1 ?_
                    refine yB (PureOp.bin rfl rfl rfl) (fun hb55 => ?_) (fun hb55 => ?_)
                    ·
                      have p60 : k = 3 := by simpa using hb55
                      refine yM ?_
                      refine yP pF ?_
                      refine yL1 ?_
                      refine yB (PureOp.bin rfl rfl rfl) (fun hb56 => ?_) (fun hb56 => ?_)
                      ·
                        have p64 : c ≠ 1 := by simpa using hb56
                        refine yP pT ?_
                        refine yP pE ?_
                        refine zN (zC (zS ?_))
                        refine yA ?_
                        refine zN (zE (zU ?_))
                        (exfalso; omega)
                      ·
                        have p64 : ¬ (c ≠ 1) := by simpa using hb56
                        refine yP pT ?_
                        refine yP pE ?_
                        refine zN (zF (zK (zT (zQ (zS ?_)))))
                        refine yP pF ?_
                        refine yL1 ?_
                        refine yP ((PureOp.lenStr rfl Tryz.underlying9).mono (v' := vi .i64 0) rfl) ?_
                        refine yP ((PureOp.gtN (b := 255) rfl rfl).mono (v' := .bool false) (congrArg Value.bool (by decide))) ?_
                        refine zN (zF (zK (zT (zS ?_))))
                        refine yA ?_
                        refine zN (zE ?_)
                        (exfalso; omega)
                    ·
                      have p60 : ¬ (k = 3) := by simpa using hb55
                      refine yM ?_
                      refine yK ?_
                      refine yK ?_
                      refine yK ?_
                      refine yP pE ?_
                      refine yP pE ?_
                      refine zN (zF (zK (zT (zQ (zS ?_)))))
                      refine yP pF ?_
                      refine yL1 ?_
                      refine yP ((PureOp.lenStr rfl Tryz.underlying9).mono (v' := vi .i64 0) rfl) ?_
                      refine yP ((PureOp.gtN (b := 255) rfl rfl).mono (v' := .bool false) (congrArg Value.bool (by decide))) ?_
                      refine zN (zF (zK (zT (zS ?_))))
                      refine yA ?_
                      refine zN (zE ?_)
                      (exfalso; omega)
            ·
              have p42 : ¬ (k = 3) := by simpa using hb51
              refine yM ?_
              refine yK ?_
              refine yK ?_
              refine yK ?_
              refine yP pE ?_
              refine yP pE ?_
              refine zN (zF (zK (zT (zQ (zS ?_)))))
              refine yP pF ?_
              refine yL1 ?_
              refine yB (PureOp.bin rfl rfl rfl) (fun hb57 => ?_) (fun hb57 => ?_)
              ·
                have p51 : c < 1 := by simpa using hb57
                refine yM ?_
                refine yK ?_
                refine yK ?_
                refine yK ?_
                refine yP pT ?_
                refine yM ?_
                refine yK ?_
                refine yK ?_
                refine yK ?_
                refine yK ?_
                refine yK ?_
                refine yK ?_
                refine yK ?_
                refine yK ?_
                refine yP pT ?_
                refine zN (zC (zS ?_))
                refine yA ?_
                refine zN (zE (zU ?_))
                (rw [it7 (by omega) (by omega) (by omega)]; exact RetQ.gc [_] [] [.tmp 2] (.inl rfl) rfl (.tmp rfl .nil) rfl (.cons rfl rfl .nil) trivial (by decide) rfl)
              ·
                have p51 : ¬ (c < 1) := by simpa using hb57
                refine yM ?_
                refine yP pF ?_
                refine yL1 ?_
                refine yB (PureOp.bin rfl rfl rfl) (fun hb58 => ?_) (fun hb58 => ?_)
                ·
                  have p55 : c > 1048576 := by simpa using hb58
                  refine yP pE ?_
                  refine yM ?_
                  refine yK ?_
                  refine yK ?_
                  refine yK ?_
                  refine yK ?_
                  refine yK ?_
                  refine yK ?_
                  refine yK ?_
                  refine yK ?_
                  refine yP pT ?_
                  refine zN (zC (zS ?_))
                  refine yA ?_
                  refine zN (zE (zU ?_))
                  (rw [it7 (by omega) (by omega) (by omega)]; exact RetQ.gc [_] [] [.tmp 2] (.inl rfl) rfl (.tmp rfl .nil) rfl (.cons rfl rfl .nil) trivial (by decide) rfl)
                ·
                  have p55 : ¬ (c > 1048576) := by simpa using hb58
                  refine yP pE ?_
                  refine yM ?_
                  refine yP pF ?_
                  refine yL1 ?_
                  refine yB (PureOp.bin rfl rfl rfl) (fun hb59 => ?_) (fun hb59 => ?_)
                  ·
                    have p60 : k = 3 := by simpa using hb59
                    refine yM ?_
                    refine yP pF ?_
                    refine yL1 ?_
                    refine yB (PureOp.bin rfl rfl rfl) (fun hb60 => ?_) (fun hb60 => ?_)
                    ·
                      have p64 : c ≠ 1 := by simpa using hb60
                      refine yP pT ?_
                      refine yP pE ?_
                      refine zN (zC (zS ?_))
                      refine yA ?_
                      refine zN (zE (zU ?_))
                      (exfalso; omega)
                    ·
                      have p64 : ¬ (c ≠ 1) := by simpa using hb60
                      refine yP pT ?_
                      refine yP pE ?_
                      refine zN (zF (zK (zT (zQ (zS ?_)))))
                      refine yP pF ?_
                      refine yL1 ?_
                      refine yP ((PureOp.lenStr rfl Tryz.underlying9).mono (v' := vi .i64 0) rfl) ?_
                      refine yP ((PureOp.gtN (b := 255) rfl rfl).mono (v' := .bool false) (congrArg Value.bool (by decide))) ?_
                      refine zN (zF (zK (zT (zS ?_))))
                      refine yA ?_
                      refine zN (zE ?_)
                      (exfalso; omega)
                  ·
                    have p60 : ¬ (k = 3) := by simpa using hb59
                    refine yM ?_
                    refine yK ?_
                    refine yK ?_
                    refine yK ?_
                    refine yP pE ?_
                    refine yP pE ?_
                    refine zN (zF (zK (zT (zQ (zS ?_)))))
                    refine yP pF ?_
                    refine yL1 ?_
                    refine yP ((PureOp.lenStr rfl Tryz.underlying9).mono (v' := vi .i64 0) rfl) ?_
                    refine yP ((PureOp.gtN (b := 255) rfl rfl).mono (v' := .bool false) (congrArg Value.bool (by decide))) ?_
                    refine zN (zF (zK (zT (zS ?_))))
                    refine yA ?_
                    refine zN (zE ?_)
                    (rw [it0 (by omega) (by omega) (by omega)]; exact RetQ.gc [_] [] [.tmp 2] (.inl rfl) rfl (.tmp rfl .nil) rfl (.cons rfl rfl .nil) trivial (by decide) rfl)
        ·
          have p27 : ¬ (k = 2) := by simpa using hb38
          refine yM ?_
          refine yK ?_
          refine yK ?_
          refine yK ?_
          refine yP pE ?_
          refine yM ?_
          refine yK ?_
          refine yK ?_
          refine yK ?_
          refine yP pE ?_
          refine yP pE ?_
          refine yM ?_
          refine yP pF ?_
          refine yL1 ?_
          refine yB (PureOp.bin rfl rfl rfl) (fun hb61 => ?_) (fun hb61 => ?_)
          ·
            have p42 : k = 3 := by simpa using hb61
            refine yM ?_
            refine yP pF ?_
            refine yL1 ?_
            refine yB (PureOp.bin rfl rfl rfl) (fun hb62 => ?_) (fun hb62 => ?_)
            ·
              have p46 : t ≠ 0 := by simpa using hb62
              refine yP pT ?_
              refine yP pE ?_
              refine zN (zC (zS ?_))
              refine yA ?_
              refine zN (zE (zU ?_))
              (rw [it6 (by omega) (by omega)]; exact RetQ.gc [_] [] [.tmp 2] (.inl rfl) rfl (.tmp rfl .nil) rfl (.cons rfl rfl .nil) trivial (by decide) rfl)
            ·
              have p46 : ¬ (t ≠ 0) := by simpa using hb62
              refine yP pT ?_
              refine yP pE ?_
              refine zN (zF (zK (zT (zQ (zS ?_)))))
              refine yP pF ?_
              refine yL1 ?_
              refine yB (PureOp.bin rfl rfl rfl) (fun hb63 => ?_) (fun hb63 => ?_)
              ·
                have p51 : c < 1 := by simpa using hb63
                refine yM ?_
                refine yK ?_
                refine yK ?_
                refine yK ?_
                refine yP pT ?_
                refine yM ?_
                refine yK ?_
                refine yK ?_
                refine yK ?_
                refine yK ?_
                refine yK ?_
                refine yK ?_
                refine yK ?_
                refine yK ?_
                refine yP pT ?_
                refine zN (zC (zS ?_))
                refine yA ?_
                refine zN (zE (zU ?_))
                (rw [it7 (by omega) (by omega) (by omega)]; exact RetQ.gc [_] [] [.tmp 2] (.inl rfl) rfl (.tmp rfl .nil) rfl (.cons rfl rfl .nil) trivial (by decide) rfl)
              ·
                have p51 : ¬ (c < 1) := by simpa using hb63
                refine yM ?_
                refine yP pF ?_
                refine yL1 ?_
                refine yB (PureOp.bin rfl rfl rfl) (fun hb64 => ?_) (fun hb64 => ?_)
                ·
                  have p55 : c > 1048576 := by simpa using hb64
                  refine yP pE ?_
                  refine yM ?_
                  refine yK ?_
                  refine yK ?_
                  refine yK ?_
                  refine yK ?_
                  refine yK ?_
                  refine yK ?_
                  refine yK ?_
                  refine yK ?_
                  refine yP pT ?_
                  refine zN (zC (zS ?_))
                  refine yA ?_
                  refine zN (zE (zU ?_))
                  (rw [it7 (by omega) (by omega) (by omega)]; exact RetQ.gc [_] [] [.tmp 2] (.inl rfl) rfl (.tmp rfl .nil) rfl (.cons rfl rfl .nil) trivial (by decide) rfl)
                ·
                  have p55 : ¬ (c > 1048576) := by simpa using hb64
                  refine yP pE ?_
                  refine yM ?_
                  refine yP pF ?_
                  refine yL1 ?_
                  refine yB (PureOp.bin rfl rfl rfl) (fun hb65 => ?_) (fun hb65 => ?_)
                  ·
                    have p60 : k = 3 := by simpa using hb65
                    refine yM ?_
                    refine yP pF ?_
                    refine yL1 ?_
                    refine yB (PureOp.bin rfl rfl rfl) (fun hb66 => ?_) (fun hb66 => ?_)
                    ·
                      have p64 : c ≠ 1 := by simpa using hb66
                      refine yP pT ?_
                      refine yP pE ?_
                      refine zN (zC (zS ?_))
                      refine yA ?_
                      refine zN (zE (zU ?_))
                      (rw [it7 (by omega) (by omega) (by omega)]; exact RetQ.gc [_] [] [.tmp 2] (.inl rfl) rfl (.tmp rfl .nil) rfl (.cons rfl rfl .nil) trivial (by decide) rfl)
                    ·
                      have p64 : ¬ (c ≠ 1) := by simpa using hb66
                      refine yP pT ?_
                      refine yP pE ?_
                      refine zN (zF (zK (zT (zQ (zS ?_)))))
                      refine yP pF ?_
                      refine yL1 ?_
                      refine yP ((PureOp.lenStr rfl Tryz.underlying9).mono (v' := vi .i64 0) rfl) ?_
                      refine yP ((PureOp.gtN (b := 255) rfl rfl).mono (v' := .bool false) (congrArg Value.bool (by decide))) ?_
                      refine zN (zF (zK (zT (zS ?_))))
                      refine yA ?_
                      refine zN (zE ?_)
                      (rw [it0 (by omega) (by omega) (by omega)]; exact RetQ.gc [_] [] [.tmp 2] (.inl rfl) rfl (.tmp rfl .nil) rfl (.cons rfl rfl .nil) trivial (by decide) rfl)
                  ·
                    have p60 : ¬ (k = 3) := by simpa using hb65
                    refine yM ?_
                    refine yK ?_
                    refine yK ?_
                    refine yK ?_
                    refine yP pE ?_
                    refine yP pE ?_
                    refine zN (zF (zK (zT (zQ (zS ?_)))))
                    refine yP pF ?_
                    refine yL1 ?_
                    refine yP ((PureOp.lenStr rfl Tryz.underlying9).mono (v' := vi .i64 0) rfl) ?_
                    refine yP ((PureOp.gtN (b := 255) rfl rfl).mono (v' := .bool false) (congrArg Value.bool (by decide))) ?_
                    refine zN (zF (zK (zT (zS ?_))))
                    refine yA ?_
                    refine zN (zE ?_)
                    (exfalso; omega)
          ·
            have p42 : ¬ (k = 3) := by simpa using hb61
            refine yM ?_
            refine yK ?_
            refine yK ?_
            refine yK ?_
            refine yP pE ?_
            refine yP pE ?_
            refine zN (zF (zK (zT (zQ (zS ?_)))))
            refine yP pF ?_
            refine yL1 ?_
            refine yB (PureOp.bin rfl rfl rfl) (fun hb67 => ?_) (fun hb67 => ?_)
            ·
              have p51 : c < 1 := by simpa using hb67
              refine yM ?_
              refine yK ?_
              refine yK ?_
              refine yK ?_
              refine yP pT ?_
              refine yM ?_
              refine yK ?_
              refine yK ?_
              refine yK ?_
              refine yK ?_
              refine yK ?_
              refine yK ?_
              refine yK ?_
              refine yK ?_
              refine yP pT ?_
              refine zN (zC (zS ?_))
              refine yA ?_
              refine zN (zE (zU ?_))
              (exfalso; omega)
            ·
              have p51 : ¬ (c < 1) := by simpa using hb67
              refine yM ?_
              refine yP pF ?_
              refine yL1 ?_
              refine yB (PureOp.bin rfl rfl rfl) (fun hb68 => ?_) (fun hb68 => ?_)
              ·
                have p55 : c > 1048576 := by simpa using hb68
                refine yP pE ?_
                refine yM ?_
                refine yK ?_
                refine yK ?_
                refine yK ?_
                refine yK ?_
                refine yK ?_
                refine yK ?_
                refine yK ?_
                refine yK ?_
                refine yP pT ?_
                refine zN (zC (zS ?_))
                refine yA ?_
                refine zN (zE (zU ?_))
                (exfalso; omega)
              ·
                have p55 : ¬ (c > 1048576) := by simpa using hb68
                refine yP pE ?_
                refine yM ?_
                refine yP pF ?_
                refine yL1 ?_
                refine yB (PureOp.bin rfl rfl rfl) (fun hb69 => ?_) (fun hb69 => ?_)
                ·
                  have p60 : k = 3 := by simpa using hb69
                  refine yM ?_
                  refine yP pF ?_
                  refine yL1 ?_
                  refine yB (PureOp.bin rfl rfl rfl) (fun hb70 => ?_) (fun hb70 => ?_)
                  ·
                    have p64 : c ≠ 1 := by simpa using hb70
                    refine yP pT ?_
                    refine yP pE ?_
                    refine zN (zC (zS ?_))
                    refine yA ?_
                    refine zN (zE (zU ?_))
                    (exfalso; omega)
                  ·
                    have p64 : ¬ (c ≠ 1) := by simpa using hb70
                    refine yP pT ?_
                    refine yP pE ?_
                    refine zN (zF (zK (zT (zQ (zS ?_)))))
                    refine yP pF ?_
                    refine yL1 ?_
                    refine yP ((PureOp.lenStr rfl Tryz.underlying9).mono (v' := vi .i64 0) rfl) ?_
                    refine yP ((PureOp.gtN (b := 255) rfl rfl).mono (v' := .bool false) (congrArg Value.bool (by decide))) ?_
                    refine zN (zF (zK (zT (zS ?_))))
                    refine yA ?_
                    refine zN (zE ?_)
                    (exfalso; omega)
                ·
                  have p60 : ¬ (k = 3) := by simpa using hb69
                  refine yM ?_
                  refine yK ?_
                  refine yK ?_
                  refine yK ?_
                  refine yP pE ?_
                  refine yP pE ?_
                  refine zN (zF (zK (zT (zQ (zS ?_)))))
                  refine yP pF ?_
                  refine yL1 ?_
                  refine yP ((PureOp.lenStr rfl Tryz.underlying9).mono (v' := vi .i64 0) rfl) ?_
                  refine yP ((PureOp.gtN (b := 255) rfl rfl).mono (v' := .bool false) (congrArg Value.bool (by decide))) ?_
                  refine zN (zF (zK (zT (zS ?_))))
                  refine yA ?_
                  refine zN (zE ?_)
                  (exfalso; omega)
theorem oprightA_ctr {x : Opn} (h0 : itC x.k x.t x.c ≠ 0) : GC Tryz.prog 22 [opV x] [] [.bool (decide (Rgt x))] [] := by
  refine gi Tryz.func22 ?_
  rw [rgt_it h0]
  refine zS ?_
  refine AWo.box 2000 1 [.int .i64 x.k, .int .i64 x.t, .int .i64 x.c, db x.d] rfl rfl rfl rfl rfl ?_
  refine yA ?_
  refine zN (zQ (zS ?_))
  refine yP pF ?_
  refine yL1 ?_
  refine yP pF ?_
  refine yL1 ?_
  refine yP pF ?_
  refine yL1 ?_
  refine yP ((PureOp.buildStruct [(0, .int .i64 x.k), (1, .int .i64 x.t), (2, .int .i64 x.c)] pl89.choose_spec.1 zr89 (by decide) pl89.choose_spec.2 rfl rfl).mono (v' := itV x.k x.t x.c) rfl) ?_
  refine yC (itck_ctr (k := x.k) (t := x.t) (c := x.c)) bd48 [] [] ?_
  refine yP ((PureOp.neN (b := 0) rfl rfl).mono (v' := .bool true) (congrArg Value.bool (by simp [h0]))) ?_
  refine zN (zC (zS ?_))
  refine yA ?_
  refine zN (zE (zU ?_))
  exact rq [] [.tmp 2]
theorem oprightB_ctr {x : Opn} (h0 : itC x.k x.t x.c = 0) (hk : x.k ≠ 1) : GC Tryz.prog 22 [opV x] [] [.bool (decide (Rgt x))] [] := by
  refine gi Tryz.func22 ?_
  rw [rgt_ne h0 hk]
  refine zS ?_
  refine AWo.box 2000 1 [.int .i64 x.k, .int .i64 x.t, .int .i64 x.c, db x.d] rfl rfl rfl rfl rfl ?_
  refine yA ?_
  refine zN (zQ (zS ?_))
  refine yP pF ?_
  refine yL1 ?_
  refine yP pF ?_
  refine yL1 ?_
  refine yP pF ?_
  refine yL1 ?_
  refine yP ((PureOp.buildStruct [(0, .int .i64 x.k), (1, .int .i64 x.t), (2, .int .i64 x.c)] pl89.choose_spec.1 zr89 (by decide) pl89.choose_spec.2 rfl rfl).mono (v' := itV x.k x.t x.c) rfl) ?_
  refine yC (itck_ctr (k := x.k) (t := x.t) (c := x.c)) bd48 [] [] ?_
  refine yP ((PureOp.neN (b := 0) rfl rfl).mono (v' := .bool false) (congrArg Value.bool (by simp [h0]))) ?_
  refine zN (zF (zK (zT (zQ (zS ?_)))))
  refine yP pF ?_
  refine yL1 ?_
  refine yP ((PureOp.bin rfl rfl rfl).mono (v' := .bool true) (congrArg Value.bool (by simpa using hk))) ?_
  refine zN (zC (zS ?_))
  refine yP pF ?_
  refine yL1 ?_
  refine yP pD ?_
  refine yP (pEq (b := 0)) ?_
  refine yA ?_
  refine zN (zE (zU ?_))
  exact rq [] [.tmp 2]
theorem oprightC_ctr {x : Opn} (hb : bd 256 x.d) (hl : x.d.length < 9223372036854775808) (h0 : itC x.k x.t x.c = 0) (hk : x.k = 1) : GC Tryz.prog 22 [opV x] [] [.bool (decide (Rgt x))] [] := by
  refine gi Tryz.func22 ?_
  refine zS ?_
  refine AWo.box 2000 1 [.int .i64 x.k, .int .i64 x.t, .int .i64 x.c, db x.d] rfl rfl rfl rfl rfl ?_
  refine yA ?_
  refine zN (zQ (zS ?_))
  refine yP pF ?_
  refine yL1 ?_
  refine yP pF ?_
  refine yL1 ?_
  refine yP pF ?_
  refine yL1 ?_
  refine yP ((PureOp.buildStruct [(0, .int .i64 x.k), (1, .int .i64 x.t), (2, .int .i64 x.c)] pl89.choose_spec.1 zr89 (by decide) pl89.choose_spec.2 rfl rfl).mono (v' := itV x.k x.t x.c) rfl) ?_
  refine yC (itck_ctr (k := x.k) (t := x.t) (c := x.c)) bd48 [] [] ?_
  refine yP ((PureOp.neN (b := 0) rfl rfl).mono (v' := .bool false) (congrArg Value.bool (by simp [h0]))) ?_
  refine zN (zF (zK (zT (zQ (zS ?_)))))
  refine yP pF ?_
  refine yL1 ?_
  refine yP ((PureOp.bin rfl rfl rfl).mono (v' := .bool false) (congrArg Value.bool (by simp [hk]))) ?_
  refine zN (zF (zK (zT (zS ?_))))
  refine yP pF ?_
  refine yL1 ?_
  refine yP pF ?_
  refine yL1 ?_
  refine yC (count_ctr (t := x.t) (b := x.d) hl) bd49 [] [] ?_
  refine yM ?_
  refine yP pX ?_
  refine yP pX ?_
  refine yA ?_
  refine yA ?_
  refine zN (zS ?_)
  refine yM ?_
  refine yP pF ?_
  refine yL1 ?_
  refine yB (PureOp.bin rfl rfl rfl) (fun hb0 => ?_) (fun hb0 => ?_)
  ·
    have p1 : x.c = cN x.t x.d.length := (by simpa using hb0 : (cN x.t x.d.length : Int) = x.c).symm
    rw [rgt_1 h0 hk p1]
    refine yM ?_
    refine yP pF ?_
    refine yL1 ?_
    refine yP pF ?_
    refine yL1 ?_
    refine yC (check_ctr (t := x.t) (b := x.d) hb hl) bd50 [] [] ?_
    refine yP (pEq (b := 0)) ?_
    refine yP pT ?_
    refine yA ?_
    refine zN (zE ?_)
    exact rq [] [.tmp 2]
  ·
    have p1 : ¬ x.c = cN x.t x.d.length := fun e => (by simpa using hb0 : ¬ (cN x.t x.d.length : Int) = x.c) e.symm
    rw [rgt_n h0 hk p1]
    refine yM ?_
    refine yK ?_
    refine yK ?_
    refine yK ?_
    refine yK ?_
    refine yK ?_
    refine yK ?_
    refine yP pE ?_
    refine yA ?_
    refine zN (zE ?_)
    exact rq [] [.tmp 2]
theorem opright_ctr {x : Opn} (hb : bd 256 x.d) (hl : x.d.length < 9223372036854775808) : GC Tryz.prog 22 [opV x] [] [.bool (decide (Rgt x))] [] := by
  by_cases h0 : itC x.k x.t x.c = 0
  · by_cases hk : x.k = 1
    · exact oprightC_ctr hb hl h0 hk
    · exact oprightB_ctr h0 hk
  · exact oprightA_ctr h0
theorem right15A_ctr {x : Opn} (h0 : itC x.k x.t x.c ≠ 0) : GC Tryz.prog 12 [opV x] [] [.bool (decide (Rgt x))] [] := by
  refine gi Tryz.func12 ?_
  rw [rgt_it h0]
  refine zS ?_
  refine AWo.box 2000 1 [.int .i64 x.k, .int .i64 x.t, .int .i64 x.c, db x.d] rfl rfl rfl rfl rfl ?_
  refine yA ?_
  refine zN (zQ (zS ?_))
  refine yP pF ?_
  refine yL1 ?_
  refine yP pF ?_
  refine yL1 ?_
  refine yP pF ?_
  refine yL1 ?_
  refine yP ((PureOp.buildStruct [(0, .int .i64 x.k), (1, .int .i64 x.t), (2, .int .i64 x.c)] pl65.choose_spec.1 zr65 (by decide) pl65.choose_spec.2 rfl rfl).mono (v' := itV x.k x.t x.c) rfl) ?_
  refine yC (it12_ctr (k := x.k) (t := x.t) (c := x.c)) bd29 [] [] ?_
  refine yP ((PureOp.neN (b := 0) rfl rfl).mono (v' := .bool true) (congrArg Value.bool (by simp [h0]))) ?_
  refine zN (zC (zS ?_))
  refine yA ?_
  refine zN (zE (zU ?_))
  exact rq [] [.tmp 2]
theorem right15B_ctr {x : Opn} (h0 : itC x.k x.t x.c = 0) (hk : x.k ≠ 1) : GC Tryz.prog 12 [opV x] [] [.bool (decide (Rgt x))] [] := by
  refine gi Tryz.func12 ?_
  rw [rgt_ne h0 hk]
  refine zS ?_
  refine AWo.box 2000 1 [.int .i64 x.k, .int .i64 x.t, .int .i64 x.c, db x.d] rfl rfl rfl rfl rfl ?_
  refine yA ?_
  refine zN (zQ (zS ?_))
  refine yP pF ?_
  refine yL1 ?_
  refine yP pF ?_
  refine yL1 ?_
  refine yP pF ?_
  refine yL1 ?_
  refine yP ((PureOp.buildStruct [(0, .int .i64 x.k), (1, .int .i64 x.t), (2, .int .i64 x.c)] pl65.choose_spec.1 zr65 (by decide) pl65.choose_spec.2 rfl rfl).mono (v' := itV x.k x.t x.c) rfl) ?_
  refine yC (it12_ctr (k := x.k) (t := x.t) (c := x.c)) bd29 [] [] ?_
  refine yP ((PureOp.neN (b := 0) rfl rfl).mono (v' := .bool false) (congrArg Value.bool (by simp [h0]))) ?_
  refine zN (zF (zK (zT (zQ (zS ?_)))))
  refine yP pF ?_
  refine yL1 ?_
  refine yP ((PureOp.bin rfl rfl rfl).mono (v' := .bool true) (congrArg Value.bool (by simpa using hk))) ?_
  refine zN (zC (zS ?_))
  refine yP pF ?_
  refine yL1 ?_
  refine yP pD ?_
  refine yP (pEq (b := 0)) ?_
  refine yA ?_
  refine zN (zE (zU ?_))
  exact rq [] [.tmp 2]
theorem right15C_ctr {x : Opn} (hb : bd 256 x.d) (hl : x.d.length < 9223372036854775808) (h0 : itC x.k x.t x.c = 0) (hk : x.k = 1) : GC Tryz.prog 12 [opV x] [] [.bool (decide (Rgt x))] [] := by
  refine gi Tryz.func12 ?_
  refine zS ?_
  refine AWo.box 2000 1 [.int .i64 x.k, .int .i64 x.t, .int .i64 x.c, db x.d] rfl rfl rfl rfl rfl ?_
  refine yA ?_
  refine zN (zQ (zS ?_))
  refine yP pF ?_
  refine yL1 ?_
  refine yP pF ?_
  refine yL1 ?_
  refine yP pF ?_
  refine yL1 ?_
  refine yP ((PureOp.buildStruct [(0, .int .i64 x.k), (1, .int .i64 x.t), (2, .int .i64 x.c)] pl65.choose_spec.1 zr65 (by decide) pl65.choose_spec.2 rfl rfl).mono (v' := itV x.k x.t x.c) rfl) ?_
  refine yC (it12_ctr (k := x.k) (t := x.t) (c := x.c)) bd29 [] [] ?_
  refine yP ((PureOp.neN (b := 0) rfl rfl).mono (v' := .bool false) (congrArg Value.bool (by simp [h0]))) ?_
  refine zN (zF (zK (zT (zQ (zS ?_)))))
  refine yP pF ?_
  refine yL1 ?_
  refine yP ((PureOp.bin rfl rfl rfl).mono (v' := .bool false) (congrArg Value.bool (by simp [hk]))) ?_
  refine zN (zF (zK (zT (zS ?_))))
  refine yP pF ?_
  refine yL1 ?_
  refine yP pF ?_
  refine yL1 ?_
  refine yC (count15_ctr (t := x.t) (b := x.d) hl) bd30 [] [] ?_
  refine yM ?_
  refine yP pX ?_
  refine yP pX ?_
  refine yA ?_
  refine yA ?_
  refine zN (zS ?_)
  refine yM ?_
  refine yB (pEq (b := 0)) (fun hb0 => ?_) (fun hb0 => ?_)
  ·
    refine yM ?_
    refine yM ?_
    refine yP pF ?_
    refine yL1 ?_
    refine yB (PureOp.bin rfl rfl rfl) (fun hb1 => ?_) (fun hb1 => ?_)
    ·
      have p1 : x.c = cN x.t x.d.length := (by simpa using hb1 : (cN x.t x.d.length : Int) = x.c).symm
      rw [rgt_1 h0 hk p1]
      refine yP pT ?_
      refine yM ?_
      refine yP pF ?_
      refine yL1 ?_
      refine yP pF ?_
      refine yL1 ?_
      refine yC (check15_ctr (t := x.t) (b := x.d) hb hl) bd31 [] [] ?_
      refine yP (pEq (b := 0)) ?_
      refine yP pT ?_
      refine yA ?_
      refine zN (zE ?_)
      exact rq [] [.tmp 2]
    ·
      have p1 : ¬ x.c = cN x.t x.d.length := fun e => (by simpa using hb1 : ¬ (cN x.t x.d.length : Int) = x.c) e.symm
      rw [rgt_n h0 hk p1]
      refine yP pT ?_
      refine yM ?_
      refine yK ?_
      refine yK ?_
      refine yK ?_
      refine yK ?_
      refine yK ?_
      refine yK ?_
      refine yP pE ?_
      refine yA ?_
      refine zN (zE ?_)
      exact rq [] [.tmp 2]
  ·
    have p0 : ¬ cC x.t x.d.length = 0 := by simpa using hb0
    rw [rgt_c h0 hk p0]
    refine yM ?_
    refine yK ?_
    refine yK ?_
    refine yK ?_
    refine yK ?_
    refine yP pE ?_
    refine yM ?_
    refine yK ?_
    refine yK ?_
    refine yK ?_
    refine yK ?_
    refine yK ?_
    refine yK ?_
    refine yP pE ?_
    refine yA ?_
    refine zN (zE ?_)
    exact rq [] [.tmp 2]
theorem right15_ctr {x : Opn} (hb : bd 256 x.d) (hl : x.d.length < 9223372036854775808) : GC Tryz.prog 12 [opV x] [] [.bool (decide (Rgt x))] [] := by
  by_cases h0 : itC x.k x.t x.c = 0
  · by_cases hk : x.k = 1
    · exact right15C_ctr hb hl h0 hk
    · exact right15B_ctr h0 hk
  · exact right15A_ctr h0
end Go.Proofs.YtpahdiljpnfkdaaGreat
namespace Go.Proofs.YtpahdiljpnfkdaaGreat
open Go Sim
abbrev FF (xs : List Fp) : List Value := ((xs.map fe).flatten).map (vi .u64)
theorem FF_len (xs : List Fp) : (FF xs).length = xs.length * 4 := by rw [List.length_map, fe_flat]
theorem ptr_off {E : Env} {a : Operand} {id o o' : Nat} (h : aev E a = some (.pointer (some ⟨id, o, none⟩))) (e : o = o') : aev E a = some (.pointer (some ⟨id, o', none⟩)) := e ▸ h
section
variable {ops : Array Oper} {n i : Nat} {os : List Oper} {E : Env} {M : Mem} {D : List Eff → Prop} {K : ASt → Prop}
  {d : Tmp} {ty : TypeId} {ps : String} {af : Array Edge} {g : Option (Nat × Bool)} {t : TypeId} {a x : Operand}
theorem yLJ {xs : List Fp} {id sz o : Nat} {rw : Bool} {es : Nat} (j : Nat) (hr : AWo Tryz.prog ops n (i + 1) os ⟨upd E d (.agg ((fe (xs.getD j 0)).map (vi .u64)).toArray), M⟩ (fun es => D (⟨[id], []⟩ :: es)) K)
        (ha : aev E a = some (.pointer (some ⟨id, o, none⟩)) := by exact rfl) (hb : M id = some ⟨((xs.map fe).flatten).map (vi .u64), rw, es⟩ := by exact rfl)
    (ht : Tb.agg.lookup t = some true := by exact rfl) (hs : Tb.sz.lookup t = some sz := by exact rfl) (hl : 4 = sz := by exact rfl) (hw : wantA ops E ⟨some d, .load t a, ty, ps, af, g⟩ = some true := by exact rfl) (hd : Nat.blt d n = true := by exact rfl) (hj : j < xs.length := by first | decide | omega | (simp only [List.length_cons, List.length_nil]; omega)) (ho : o = j * 4 := by omega) :
    AWo Tryz.prog ops n i (⟨some d, .load t a, ty, ps, af, g⟩ :: os) ⟨E, M⟩ D K :=
  yLEi (xs := xs) (j := j) hr (ptr_off ha (by omega)) hb hj ht hs hl hw hd
end
end Go.Proofs.YtpahdiljpnfkdaaGreat
namespace Go.Proofs.YtpahdiljpnfkdaaGreat
open Go Sim Go.RowKit
theorem Sim.Rep.sub {C : Ctx} {ρ : Rho} {E E' : Env} {M : Mem} {a : Act} {w : World} (h : Rep C ρ ⟨E, M⟩ a w) (hE : ∀ t v, E' t = some v → E t = some v) : Rep C ρ ⟨E', M⟩ a w :=
  ⟨h.size, h.defers, fun t v ht => h.env t v (hE t v ht), h.mem, h.agree, h.low, h.own, h.frame, h.im, h.imsub, h.imnew, h.gl⟩
end Go.Proofs.YtpahdiljpnfkdaaGreat
namespace Go.Proofs.YtpahdiljpnfkdaaGreat
open Go Sim Go.RowKit
def chunkN (c n : Nat) : Nat := (n + c - 1) / c
theorem chunk_lt {c n k : Nat} (hc : 1 ≤ c) : c * k < n ↔ k < chunkN c n := by
  unfold chunkN
  rw [show k < (n + c - 1) / c ↔ k + 1 ≤ (n + c - 1) / c from Iff.rfl, Nat.le_div_iff_mul_le (by omega), Nat.succ_mul, Nat.mul_comm k c]
  omega
theorem subs3 {E : Env} {i j k : Nat} {x y z : Value} (h1 : E i = some x) (h2 : E j = some y) (h3 : E k = some z) :
    ∀ t v, Sim.upd (Sim.upd (Sim.upd (fun _ => none) i x) j y) k z t = some v → E t = some v := by
  intro t v ht
  simp only [Sim.upd] at ht
  split at ht
  · rename_i e; subst e; rw [h3]; exact ht
  · split at ht
    · rename_i e; subst e; rw [h2]; exact ht
    · split at ht
      · rename_i e; subst e; rw [h1]; exact ht
      · cases ht
end Go.Proofs.YtpahdiljpnfkdaaGreat
namespace Go.Proofs.YtpahdiljpnfkdaaGreat
open Go Sim Go.RowKit
def chunkQD (bx cx c : Nat) (b : List Nat) (M : Mem) : Prop :=
  (∃ rw es, M bx = some ⟨[db b], rw, es⟩) ∧ (∃ rw es, M cx = some ⟨[vi .i64 c], rw, es⟩)
def chunkED (c : Nat) (b : List Nat) (k : Nat) : List Value := [db ((b.drop (c * k)).take c)]
theorem min_take {b : List Nat} {i c : Nat} : (b.drop i).take c = (b.drop i).take (Nat.min c (b.length - i)) := by
  rw [← List.length_drop]
  show _ = List.take (min c _) _
  rw [← List.take_eq_take_min]
set_option maxRecDepth 100000 in
theorem chunk_itD {b : List Nat} {bx cx c m : Nat} (hb : bx < m) (hcx : cx < m) (hc : 1 ≤ c) (hc2 : c < 1000000) (hx : b.length < 4611686018427387904) : IterA Tryz.prog 81 [.pointer (some ⟨bx, 0, none⟩), .pointer (some ⟨cx, 0, none⟩)] m (chunkQD bx cx c b) (chunkN c b.length) (chunkED c b) := by
  intro C hm l Inv Ext Jx hq hExt hY ρ M w rcaps hM h0 hw hcap
  obtain ⟨u, u', rfl⟩ : ∃ u u', rcaps = [u, u'] := by
    have := hcap.1
    match rcaps, this with
    | [u, u'], _ => exact ⟨u, u', rfl⟩
  have hu : VR .real (fun i => i < C.m) C.ρ0 (.pointer (some ⟨bx, 0, none⟩)) u := by rw [hm]; exact hcap.2 0 _ _ rfl rfl
  have hu' : VR .real (fun i => i < C.m) C.ρ0 (.pointer (some ⟨cx, 0, none⟩)) u' := by rw [hm]; exact hcap.2 1 _ _ rfl rfl
  refine callsIn_of_wp (F := GF none) Tryz.func81 rfl trivial ?_ rfl
  obtain ⟨ax, hM⟩ := hM
  have hR := hM.reframe (C := { C with n := ax.tmps.size }) (n := 31) (E := Sim.upd (Sim.upd (fun _ => none) 1 (.pointer (some ⟨bx, 0, none⟩))) 2 (.pointer (some ⟨cx, 0, none⟩))) (a := { tmps := (#[.func (.yield l) #[] #[]] ++ [u, u'].toArray) ++ Array.replicate 28 undef, defers := [] }) (by simp) rfl (fun t v ht => by
    simp only [Sim.upd] at ht
    split at ht
    · rename_i e; subst e; cases ht
      exact ⟨u', by simp, VR.up (C := { C with n := ax.tmps.size }) hM hu'⟩
    · split at ht
      · rename_i e; subst e; cases ht
        exact ⟨u, by simp, VR.up (C := { C with n := ax.tmps.size }) hM hu⟩
      · cases ht)
  have hT : TS [(0, .func (.yield l) #[] #[]), (1, u), (2, u')] { tmps := (#[.func (.yield l) #[] #[]] ++ [u, u'].toArray) ++ Array.replicate 28 undef, defers := [] } := by
    intro p hp
    simp only [List.mem_cons, List.not_mem_nil, or_false] at hp
    rcases hp with rfl | rfl | rfl <;> simp
  refine wpIn_seq (wpIn_regionX hR rfl hT (K := fun σ => σ.mem = M ∧ σ.env 1 = some (.pointer (some ⟨bx, 0, none⟩)) ∧ σ.env 2 = some (.pointer (some ⟨cx, 0, none⟩)) ∧ σ.env 4 = some (vi .i64 0)) ?_ rfl rfl ?_)
  · refine yA ?_
    exact AWo.nil trivial ⟨rfl, rfl, rfl, rfl⟩
  intro ρ1 E1 M1 a1 w1 hR1 hK1 hT1
  obtain ⟨hm1, he1, he2, he4⟩ := hK1
  have hm1 : M1 = M := hm1
  subst hm1
  have hE1 := hExt _ _ hw (hR.others hR1)
  obtain ⟨N, hN⟩ : ∃ N, N = chunkN c b.length := ⟨_, rfl⟩
  rw [← hN] at hY ⊢
  refine wpIn_block (wpIn_loopK (I := fun r a w => ∃ k ρ M, k + r = N ∧ Rep { C with n := 31 } ρ ⟨(Sim.upd (Sim.upd (Sim.upd (fun _ => none) 1 (.pointer (some ⟨bx, 0, none⟩))) 2 (.pointer (some ⟨cx, 0, none⟩))) 4 (vi .i64 (c * k))), M⟩ a w ∧ Inv k M ∧ Ext w ∧ TS [(0, .func (.yield l) #[] #[]), (1, u), (2, u')] a) ?_
    (k := N) ⟨0, ρ1, M1, Nat.zero_add _, ((hR.unbase (Nat.le_refl _) hR1).sub (subs3 he1 he2 (by rw [Nat.mul_zero]; exact he4))), h0, hE1, hT1⟩)
  rintro r a w ⟨k, ρ, M, hkr, hR, hi, hw, hT⟩
  obtain ⟨⟨rw0, es0, hbx⟩, ⟨rw1, es1, hcc⟩⟩ := hq _ _ hi
  refine wpIn_seq (wpIn_seq (wpIn_regionX hR rfl hT (K := fun σ => σ.mem = M ∧ σ.env 1 = some (.pointer (some ⟨bx, 0, none⟩)) ∧ σ.env 2 = some (.pointer (some ⟨cx, 0, none⟩)) ∧ σ.env 4 = some (vi .i64 (c * k)) ∧ σ.env 9 = some (.bool (decide (c * k < b.length)))) ?_ rfl rfl ?_))
  · refine yM ?_
    refine yL1 ?_ rfl hbx
    refine yP (PureOp.lenD tbok rfl rfl) ?_
    refine yP (PureOp.ltN rfl rfl) ?_
    exact AWo.nil trivial ⟨rfl, rfl, rfl, rfl, rfl⟩
  rintro ρ1 E1 M1 a1 w1 hR1 ⟨hm1, he1, he2, he4, he9⟩ hT1
  have hm1 : M1 = M := hm1
  subst hm1
  have hE1 := hExt _ _ hw (hR.others hR1)
  have hRc := hR.unbase (Nat.le_refl _) hR1
  refine wpIn_cond_split (t := decide (c * k < b.length)) (flat_inv (hRc.eval (x := .tmp 9) he9) rfl) (fun h0r => ?_) (fun h0r => ?_)
  · have hlt : c * k < b.length := of_decide_eq_true h0r
    have hkN : k < N := by rw [hN]; exact (chunk_lt hc).1 hlt
    have hce : c * (k + 1) = c * k + c := Nat.mul_succ c k
    refine wpIn_skip ?_
    have hRs := hRc.sub (subs3 he1 he2 he4)
    refine wpIn_seq (wpIn_block (wpIn_seq (wpIn_drawX mixed hRs rfl hT1 (K := fun σ => σ.mem = M1 ∧ σ.env 1 = some (.pointer (some ⟨bx, 0, none⟩)) ∧ σ.env 2 = some (.pointer (some ⟨cx, 0, none⟩)) ∧ σ.env 4 = some (vi .i64 (c * k)) ∧ σ.env 5 = some (vi .i64 (Nat.min c (b.length - c * k)))) ?_ rfl rfl ?_)))
    · refine yL1 ?_ rfl hcc
      refine yL1 ?_ rfl hbx
      refine yM ?_
      refine yP (PureOp.sliceD (l := c * k) (h := b.length) rfl (.some rfl) .none (tbok.sl _ _ rfl) (tbok.sz _ _ rfl) (by omega) (Nat.le_refl _)) ?_
      refine yP (PureOp.lenD tbok rfl rfl) ?_
      refine yP (PureOp.minN (a := c) (b := b.length - c * k) rfl rfl) ?_
      refine yA ?_
      exact AWo.nil (by kernel_rfl) ⟨rfl, rfl, rfl, rfl, rfl⟩
    rintro ρ2 E2 M2 a2 w2 hR2 ⟨hm2, hf1, hf2, hf4, hf5⟩ hT2
    have hm2 : M2 = M1 := hm2
    subst hm2
    have hE2 := hExt _ _ hE1 (hRs.others hR2)
    have hRt := hRs.unbase (Nat.le_refl _) hR2
    have hmn : Nat.min c (b.length - c * k) ≤ b.length - c * k := Nat.min_le_right _ _
    have hmc : Nat.min c (b.length - c * k) ≤ c := Nat.min_le_left _ _
    have hsub4 : ∀ t v, Sim.upd ((Sim.upd (Sim.upd (Sim.upd (fun _ => none) 1 (.pointer (some ⟨bx, 0, none⟩))) 2 (.pointer (some ⟨cx, 0, none⟩))) 4 (vi .i64 (c * k)))) 5 (vi .i64 (Nat.min c (b.length - c * k))) t = some v → E2 t = some v := by
      intro t v ht
      simp only [Sim.upd] at ht
      split at ht
      · rename_i e; subst e; exact (show E2 5 = _ from hf5).trans ht
      · exact subs3 hf1 hf2 hf4 t v (by simp only [Sim.upd]; exact ht)
    refine wpIn_seq (wpIn_yield (os := [_, _, _, _, _, _, _, _, _]) (n := 31) (d0 := 19) (dc := 29) (dn := 30) (l := l) (Ext := Ext) (Jx := Jx) (Nx := Inv (k + 1)) (vs := chunkED c b k) (E2 := (Sim.upd (Sim.upd (Sim.upd (fun _ => none) 1 (.pointer (some ⟨bx, 0, none⟩))) 2 (.pointer (some ⟨cx, 0, none⟩))) 4 (vi .i64 (c * k))))
      (hRt.sub hsub4) rfl hT2 hE2 hExt rfl (by decide) rfl (by simp) (by decide) ?_ rfl rfl (fun ρ' w' rv h1 h2 h3 => hY k ρ' M2 w' rv hkN h1 hi h2 h3) ?_ ?_)
    · refine yL1 ?_ rfl hbx
      refine yM ?_
      refine yM ?_
      refine yM ?_
      refine yP (PureOp.addI (a := c * k) (b := Nat.min c (b.length - c * k)) rfl rfl (by omega)) ?_
      refine yM ?_
      refine yM ?_
      refine yP (PureOp.addI (a := c * k) (b := Nat.min c (b.length - c * k)) rfl rfl (by omega)) ?_
      refine yP (PureOp.sliceD3 (l := c * k) (h := c * k + Nat.min c (b.length - c * k)) rfl (.some rfl) rfl rfl (tbok.sl _ _ rfl) (tbok.sz _ _ rfl) (by omega) (by omega)) ?_
      refine AWo.nil trivial ⟨rfl, ?_, fun t v ht => ?_⟩
      · rw [db_part (by omega) (by omega), Nat.add_sub_cancel_left, ← min_take]; rfl
      simp only [Sim.upd] at ht
      split at ht
      · rename_i e; subst e; cases ht
        exact ⟨by decide, by decide, .inl ⟨rfl, rfl⟩⟩
      · split at ht
        · rename_i e; subst e; cases ht
          exact ⟨by decide, by decide, .inr ⟨u', by simp, hu'⟩⟩
        · split at ht
          · rename_i e; subst e; cases ht
            exact ⟨by decide, by decide, .inr ⟨u, by simp, hu⟩⟩
          · cases ht
    · intro ρ3 M3 a3 w3 hnx hE3 hR3 hT3
      obtain ⟨_, ⟨rw4, es4, hcc3⟩⟩ := hq _ _ hnx
      refine wpIn_cond_false (flat_inv (hR3.eval (x := .tmp 30) rfl) rfl) (wpIn_skip ?_)
      refine wpIn_regionX hR3 rfl hT3 (K := fun σ => σ.mem = M3 ∧ σ.env 1 = some (.pointer (some ⟨bx, 0, none⟩)) ∧ σ.env 2 = some (.pointer (some ⟨cx, 0, none⟩)) ∧ σ.env 4 = some (vi .i64 (c * (k + 1)))) ?_ rfl rfl ?_
      · refine yM ?_
        refine yL1 ?_ rfl hcc3
        refine yP (PureOp.addI (a := c * k) (b := c) rfl rfl (by omega)) ?_
        refine yA ?_
        exact AWo.nil trivial ⟨rfl, rfl, rfl, by rw [hce]; rfl⟩
      rintro ρ4 E4 M4 a4 w4 hR4 ⟨hm4, hg1, hg2, hg4⟩ hT4
      have hm4 : M4 = M3 := hm4
      subst hm4
      exact ⟨r - 1, by omega, k + 1, ρ4, M4, by omega, (hR3.unbase (Nat.le_refl _) hR4).sub (subs3 hg1 hg2 hg4), hnx, hExt _ _ hE3 (hR3.others hR4), hT4⟩
    · intro a3 w3 hj h30 hd
      refine wpIn_cond_true (eval_of h30) (wpIn_ret ?_)
      exact ⟨hd, _, results_none rfl _ _ _, ⟨_, rfl⟩, .inr hj⟩
  · have hge : ¬ c * k < b.length := of_decide_eq_false h0r
    have hkN : k = N := by
      have : ¬ k < N := fun h => hge ((chunk_lt hc).2 (hN ▸ h))
      omega
    subst hkN
    refine wpIn_exit ?_
    exact ⟨hRc.defers, _, results_none rfl _ _ _, ⟨_, rfl⟩, .inl ⟨ρ1, M1, hRc.toM, hi, hE1⟩⟩
theorem chunkwD_ctr {b : List Nat} {c : Nat} (hc : 1 ≤ c) : GC Tryz.prog 53 [db b, vi .i64 c] [] [.func (.func 81) #[] #[.pointer (some ⟨0, 0, none⟩), .pointer (some ⟨1, 0, none⟩)]]
    [⟨[db b], true, 1⟩, ⟨[vi .i64 c], true, 1⟩] := by
  refine GC.intro Tryz.func53 rfl (by show 2 ≤ 9; decide) (Nat.le_add_right 0 2) ?_
  refine AW.seqR ?_
  refine yO 3000 1 _ ?_
  refine yO 4000 1 _ ?_
  refine yA ?_
  refine zN ?_
  refine AW.seq (AW.seqR ?_)
  refine yL1 ?_
  refine AWo.pure ((PureOp.ltN (a := c) (b := 1) rfl rfl).mono (v' := .bool false) (congrArg Value.bool (decide_eq_false (by omega)))) rfl rfl ?_
  refine zN ?_
  refine zF (zK ?_)
  refine zT ?_
  refine AW.seqR ?_
  refine yP (PureOp.makeFunc (xs := #[]) (ys := #[.pointer (some ⟨3000, 0, none⟩), .pointer (some ⟨4000, 0, none⟩)]) rfl (by simp) (by simp [aev, Sim.upd]) ) ?_
  refine yA ?_
  refine zN ?_
  refine AW.ret ?_
  exact rq [3000, 4000] [.tmp 4] (hres := .cons rfl rfl .nil) (hb := OutL.clo rfl (by simp [cloV, clo1, isDeep, deep, flatV]) (fun _ => rfl) (OutL.flat rfl (flat1 rfl) (fun _ => rfl) trivial))
theorem Sim.AWd.ghostD {P : Program} {n m : Nat} {c : Code} {E : Env} {M : Mem} {Q : Exit → ASt → Prop} {z : Bool} {id es : Nat} (hid : M id = none) (h : AWd z P n m c ⟨E, Sim.upd M id ⟨[], true, es⟩⟩ Q) : AWd z P n m c ⟨E, M⟩ Q :=
  fun C hn hm ds _ a w hz hst hR => let ⟨ρ', hR'⟩ := hR.2.ghost es hid; h C hn hm ds ρ' a w hz hst ⟨hR.1, hR'⟩
theorem WkI.nilD {Dm : Nat → Prop} {fm : List (Nat × Nat)} {M N : Mem} {i id : Nat} {rw rw' : Bool} {es : Nat} {ids : List Nat} (h1 : M ((fm.lookup i).getD i) = some ⟨[.slice none 0 0], rw', es⟩)
    (h3 : rw = true → rw' = true) (h : WkI ids Dm fm M N) : WkI ids Dm fm M (Sim.upd N i ⟨[.slice (some ⟨id, 0, none⟩) 0 0], rw, es⟩) :=
  WkM.upd h1 (fun k x hx => by
    match k, hx with
    | 0, hx => cases hx; exact ⟨_, rfl, .nilS _ (by simp)⟩
    | k + 1, hx => simp at hx) h3 rfl (Nat.le_refl _) h
def chL (c : Nat) (b : List Nat) (k : Nat) : List (List Nat) := (List.range k).map fun i => (b.drop (c * i)).take c
theorem chL_len (c : Nat) (b : List Nat) (k : Nat) : (chL c b k).length = k := by simp [chL]
theorem chL_succ (c : Nat) (b : List Nat) (k : Nat) : chL c b (k + 1) = chL c b k ++ [(b.drop (c * k)).take c] := by rw [chL, List.range_succ, List.map_append]; rfl
def asM (b : List Nat) (c : Nat) (L : List (List Nat)) : Mem := Sim.upd (Sim.upd (Sim.upd (Sim.upd (fun _ => none) 0 ⟨[db b], false, 1⟩) 1 ⟨[vi .i64 c], false, 1⟩) 2 ⟨[.slice (some ⟨77000, 0, none⟩) L.length 0], true, 1⟩) 77000 ⟨L.map db, true, 1⟩
def asE : Env := Sim.upd (fun _ => none) 2 (.pointer (some ⟨2, 0, none⟩))
theorem sub1D {E : Env} {m i : Nat} {x : Value} (h1 : E i = some x) (l1 : Low m x) : ∀ t v, Sim.upd (fun _ => none) i x t = some v → E t = some v ∧ Low m v := by
  intro t v ht
  simp only [Sim.upd] at ht
  split at ht
  · rename_i e; subst e; cases ht; exact ⟨h1, l1⟩
  · cases ht
set_option maxRecDepth 10000 in
theorem appseq_ctr {b : List Nat} {c : Nat} (hc : 1 ≤ c) (hc2 : c < 1000000) (hx : b.length < 1000000000) : GC Tryz.prog 80 [.slice none 0 0, .func (.func 81) #[] #[.pointer (some ⟨0, 0, none⟩), .pointer (some ⟨1, 0, none⟩)]] [⟨[db b], false, 1⟩, ⟨[vi .i64 c], false, 1⟩]
    [.slice (some ⟨2, 0, none⟩) (chL c b (chunkN c b.length)).length 0] [⟨[db b], false, 1⟩, ⟨[vi .i64 c], false, 1⟩, ⟨(chL c b (chunkN c b.length)).map db, true, 1⟩] := by
  refine GC.introD Tryz.func80 rfl (by show 2 ≤ 13; decide) (Nat.le_succ 2) ?_
  refine AWd.firstR ?_
  refine yO 2 1 [.slice none 0 0] ?_
  refine yA ?_
  refine zN ?_
  refine AWd.seq (AWd.firstR ?_)
  refine yM ?_
  refine zN ?_
  refine AWd.block (AWd.ghostD (id := 77000) (es := 1) rfl (AWd.weaken (fm := []) (τ := ⟨Sim.upd asE 6 (.func (.func 81) #[] #[.pointer (some ⟨0, 0, none⟩), .pointer (some ⟨1, 0, none⟩)]), asM b c []⟩)
    (wk [0, 1, 2, 77000] (hE := WkE.upd rfl (okVI_rel (ids := [0, 1]) (by simp) rfl (dom_all rfl) rfl) (WkE.upd rfl (.ptr _ _ ⟨_, rfl⟩) WkE.emp))
      (hM := WkI.cloM (l := ([] : List (List Nat))) (l' := []) rfl rfl (fun _ => rfl) (fun h => h) (WkI.nilD rfl (fun h => h) (WkI.flat (cells := [vi .i64 c]) rfl (by simp [flatV, vi]) (fun h => h) (WkI.cloM (l := [b]) (l' := [b]) (f := db) rfl rfl (fun _ => rfl) (fun h => h) WkM.emp))))) ?_))
  refine AWd.range (chunk_itD (b := b) (bx := 0) (cx := 1) (c := c) (m := 3) (by decide) (by decide) hc hc2 (by omega)) asE
    (fun k M => M = asM b c (chL c b k)) (fun _ => False)
    (by show 2 ≤ 3; decide) rfl ?_ ?_ (fun args w => run_callFunc bd81 args w) (sub1D rfl (Low.ptr (by decide))) (fun _ => rfl) (by decide) rfl ?_ ?_ ?_ ?_
  · intro v hv
    simp only [List.mem_cons, List.not_mem_nil, or_false] at hv
    rcases hv with rfl | rfl <;> exact Low.ptr (by decide)
  · intro i hi
    match i, hi with
    | 0, _ => exact ⟨_, rfl⟩
    | 1, _ => exact ⟨_, rfl⟩
    | 2, _ => exact ⟨_, rfl⟩
  · rintro k M rfl
    exact ⟨⟨_, _, rfl⟩, ⟨_, _, rfl⟩⟩
  · rintro k M hk rfl
    have hkl : chunkN c b.length ≤ b.length := by
      unfold chunkN
      rw [Nat.div_le_iff_le_mul_add_pred (by omega)]
      have : b.length ≤ c * b.length := Nat.le_mul_of_pos_left _ hc
      omega
    show AWX _ _ _ _ ⟨Sim.upd asE 7 (db ((b.drop (c * k)).take c)), _⟩ _
    refine AWX.region ?_
    refine yA ?_
    refine zN ?_
    refine AWX.block (AWX.region ?_)
    refine yL1 ?_
    refine yM ?_
    refine AWo.buildSlice tbok 26000 [(0, db ((b.drop (c * k)).take c))] (out := [(b.drop (c * k)).take c].map db) rfl rfl (by decide) rfl rfl rfl (by decide) rfl rfl rfl rfl rfl ?_
    refine AWo.append tbok (all := (chL c b (k + 1)).map db) (news := [(b.drop (c * k)).take c].map db) 27000 rfl rfl rfl rfl (by simp) rfl (by simp) (by decide) rfl rfl rfl (by decide) rfl rfl rfl (by rw [chL_len]; omega) (by rw [chL_len]; omega) rfl (by rw [chL_succ, List.map_append]) rfl rfl ?_
    refine AWo.store1 tbok rfl rfl rfl rfl rfl (by simp) rfl rfl ?_
    refine zN ?_
    refine ⟨[(77000, 27000)], ⟨fun _ => none, asM b c (chL c b (k + 1))⟩, ?_, .inl ⟨rfl, rfl⟩⟩
    rw [show (chL c b k).length + 1 = (chL c b (k + 1)).length by rw [chL_len, chL_len]]
    exact wk [0, 1, 2, 77000] (hM := WkI.cloM rfl rfl (fun _ => rfl) (fun h => h) (WkI.ren rfl rfl rfl (dom_all rfl) (fun h => h) (WkI.flat (cells := [vi .i64 c]) rfl (by simp [flatV, vi]) (fun h => h) (WkI.cloM (l := [b]) (l' := [b]) (f := db) rfl rfl (fun _ => rfl) (fun h => h) WkM.emp))))
  · rintro M rfl
    refine AWd.ofX (AWX.seqR ?_)
    refine yL1 ?_
    refine yA ?_
    refine zN ?_
    refine AWX.ret ?_
    exact rq [77000] [.tmp 4] (hb := OutL.clo (c := [b].map db) rfl (cloM fun _ => rfl) (by intro h; exact h.elim id fun h => absurd h.1 (by simp)) (OutL.flat rfl (flat1 rfl) (by intro h; exact h.elim id fun h => absurd h.1 (by simp)) (OutL.clo rfl (cloM fun _ => rfl) (fun _ => rfl) trivial)))
  · rintro M h
    exact h.elim
end Go.Proofs.YtpahdiljpnfkdaaGreat
namespace Go.Proofs.YtpahdiljpnfkdaaGreat
open Go Sim
theorem coll_ctr {b : List Nat} {c : Nat} (hc : 1 ≤ c) (hc2 : c < 1000000) (hx : b.length < 1000000000) : GC Tryz.prog 52 [.func (.func 81) #[] #[.pointer (some ⟨0, 0, none⟩), .pointer (some ⟨1, 0, none⟩)]] [⟨[db b], false, 1⟩, ⟨[vi .i64 c], false, 1⟩] [.slice (some ⟨2, 0, none⟩) (chL c b (chunkN c b.length)).length 0] [⟨[db b], false, 1⟩, ⟨[vi .i64 c], false, 1⟩, ⟨(chL c b (chunkN c b.length)).map db, true, 1⟩] := by
 refine gi Tryz.func52 ?_
 refine zS ?_
 refine yA ?_
 refine zN (zS ?_)
 refine yM ?_
 refine yC (appseq_ctr hc hc2 hx) bd80 [(0, 0), (1, 0)] [5000] ?_ (hfit := (.clo rfl (cloM (f := db) (l := [b]) fun _ => rfl) (by intro h; exact h) (.flat rfl (flat1 rfl) (by intro h; exact h) .nil))) (hnew := (.keep rfl (.keep rfl (.new (clo_map_ren (cloM fun _ => rfl)) (OkL.clo (cloM fun _ => rfl)) .nil))))
 refine yA ?_
 refine zN (zE ?_)
 exact rq [5000] [.tmp 2] (hb := OutL.clo (c := [b].map db) rfl (cloM fun _ => rfl) (by intro h; exact h.elim id fun h => absurd h.1 (by simp)) (OutL.flat rfl (flat1 rfl) (by intro h; exact h.elim id fun h => absurd h.1 (by simp)) (OutL.clo rfl (cloM fun _ => rfl) (fun _ => rfl) trivial)))
theorem pcs_ch {t : Int} {b : List Nat} (h2 : t ≠ 2) (h3 : t ≠ 3) (h4 : t ≠ 4) : pcs t b = chL 31 b (chunkN 31 b.length) := by
 unfold pcs chL chunkN np
 rw [if_neg h2, if_neg h3, if_neg h4]
 refine List.map_congr_left fun i _ => ?_
 rw [pc, off, wd, if_neg h2, if_neg h3, if_neg h4, if_neg h2, if_neg h3, if_neg h4]
theorem wd_2 (k : Nat) : [8].getD (k % 1) 0 = wd 2 k := by rw [Nat.mod_one]; rfl
theorem wd_3 (k : Nat) : [32].getD (k % 1) 0 = wd 3 k := by rw [Nat.mod_one]; rfl
theorem wd_4 (k : Nat) : [31, 31, 31, 3].getD (k % 4) 0 = wd 4 k := by
 rw [show wd 4 k = if k % 4 = 3 then 3 else 31 from rfl]
 have h5 : k % 4 = 0 ∨ k % 4 = 1 ∨ k % 4 = 2 ∨ k % 4 = 3 := by omega
 rcases h5 with h5 | h5 | h5 | h5 <;> rw [h5] <;> rfl
theorem np_le {t : Int} {L : Nat} : np t L ≤ L := by unfold np; split <;> (try split) <;> (try split) <;> omega
theorem cut1_ctr {b : List Nat} (hL : b.length < 200000000) : GC Tryz.prog 23 [.int .i64 1, db b] [] [.slice (some ⟨0, 0, none⟩) (np 1 b.length) 0] [⟨(pcs 1 b).map db, true, 1⟩] := by
  refine gi Tryz.func23 ?_
  have hp := pcs_ch (t := 1) (b := b) (by decide) (by decide) (by decide)
  have hn : np 1 b.length = (chL 31 b (chunkN 31 b.length)).length := by rw [← hp, pcs_len]
  rw [hn, hp]
  refine zS ?_
  refine yA ?_
  refine zN (zS ?_)
  refine yM ?_
  refine yC (values1_ctr) bd51 [] [] ?_
  first | refine AWo.pure (PureOp.fldV1 tbok rfl rfl rfl rfl) rfl rfl ?_
  refine yA ?_
  refine zN (zQ (zS ?_))
  refine yM ?_
  refine yP (PureOp.nilEqNilS Tryz.underlying61 rfl) ?_
  refine zN (zC (zS ?_))
  refine yM ?_
  refine yC (chunkwD_ctr (b := b) (c := 31) (by decide)) bd53 [] [15000, 15001] ?_ (hnew := (.new (clo_map_ren (l := [b].map db) (cloM fun _ => rfl)) (OkL.clo (l := [b].map db) (cloM fun _ => rfl)) (.new (flat_map_ren (flat1 rfl)) (OkL.flat (flat1 rfl)) .nil)))
  refine yC (coll_ctr (b := b) (c := 31) (by decide) (by decide) (by omega)) bd52 [(15000, 0), (15001, 0)] [16000] ?_ (hfit := (.clo rfl (cloM (f := db) (l := [b]) fun _ => rfl) (by intro h; rfl) (.flat rfl (flat1 rfl) (by intro h; rfl) .nil))) (hnew := (.keep rfl (.keep rfl (.new (clo_map_ren (cloM fun _ => rfl)) (OkL.clo (cloM fun _ => rfl)) .nil))))
  refine yA ?_
  refine zN (zE (zU ?_))
  exact rq [16000] [.tmp 4] (hb := (OutL.clo rfl (cloM fun _ => rfl) (by intro h; rfl) trivial))
theorem cut0_ctr {t : Int} {b : List Nat} (h1 : t ≠ 1) (h2 : t ≠ 2) (h3 : t ≠ 3) (h4 : t ≠ 4) (hL : b.length < 200000000) : GC Tryz.prog 23 [.int .i64 t, db b] [] [.slice (some ⟨0, 0, none⟩) (np t b.length) 0] [⟨(pcs t b).map db, true, 1⟩] := by
  refine gi Tryz.func23 ?_
  have hp := pcs_ch (t := t) (b := b) h2 h3 h4
  have hn : np t b.length = (chL 31 b (chunkN 31 b.length)).length := by rw [← hp, pcs_len]
  rw [hn, hp]
  refine zS ?_
  refine yA ?_
  refine zN (zS ?_)
  refine yM ?_
  refine yC (values0_ctr h1 h2 h3 h4) bd51 [] [] ?_
  first | refine AWo.pure (PureOp.fldV1 tbok rfl rfl rfl rfl) rfl rfl ?_
  refine yA ?_
  refine zN (zQ (zS ?_))
  refine yM ?_
  refine yP (PureOp.nilEqNilS Tryz.underlying61 rfl) ?_
  refine zN (zC (zS ?_))
  refine yM ?_
  refine yC (chunkwD_ctr (b := b) (c := 31) (by decide)) bd53 [] [15000, 15001] ?_ (hnew := (.new (clo_map_ren (l := [b].map db) (cloM fun _ => rfl)) (OkL.clo (l := [b].map db) (cloM fun _ => rfl)) (.new (flat_map_ren (flat1 rfl)) (OkL.flat (flat1 rfl)) .nil)))
  refine yC (coll_ctr (b := b) (c := 31) (by decide) (by decide) (by omega)) bd52 [(15000, 0), (15001, 0)] [16000] ?_ (hfit := (.clo rfl (cloM (f := db) (l := [b]) fun _ => rfl) (by intro h; rfl) (.flat rfl (flat1 rfl) (by intro h; rfl) .nil))) (hnew := (.keep rfl (.keep rfl (.new (clo_map_ren (cloM fun _ => rfl)) (OkL.clo (cloM fun _ => rfl)) .nil))))
  refine yA ?_
  refine zN (zE (zU ?_))
  exact rq [16000] [.tmp 4] (hb := (OutL.clo rfl (cloM fun _ => rfl) (by intro h; rfl) trivial))
theorem cut2_ctr {b : List Nat} (hf : fits 2 b.length) (hL : b.length < 200000000) : GC Tryz.prog 23 [.int .i64 2, db b] [] [.slice (some ⟨0, 0, none⟩) (np 2 b.length) 0] [⟨(pcs 2 b).map db, true, 1⟩] := by
  have hnp : np 2 b.length ≤ b.length := np_le
  refine gi Tryz.func23 ?_
  refine zS ?_
  refine yA ?_
  refine zN (zS ?_)
  refine yM ?_
  refine yC (values2_ctr) bd51 [] [10000] ?_
  first | refine AWo.pure (PureOp.fldV1 tbok rfl rfl rfl rfl) rfl rfl ?_
  refine yA ?_
  refine zN (zQ (zS ?_))
  refine yM ?_
  refine yP (PureOp.slEqNil Tryz.underlying61 rfl (by decide)) ?_
  refine zN (zF (zK (zT (zS ?_))))
  refine yA ?_
  refine zN (zQ (zS ?_))
  refine yA ?_
  refine zN (zB ?_)
  refine AW.ghost 77000 1 rfl ?_
  refine AW.loopw (fun mm σ => ∃ k, (k ≤ np 2 b.length) ∧ mm = np 2 b.length - k ∧ σ = ⟨(upd (upd (upd (upd emp 1 (db (b.drop (off 2 k)))) 5 (.slice (some ⟨10000, 0, none⟩) 1 0)) 6 (.slice (some ⟨77000, 0, none⟩) k 0)) 7 (vi .i64 (k % 1))), (upd (upd emp 10000 ⟨[8].map (vi .i64), true, 1⟩) 77000 ⟨((List.range k).map (pc 2 b)).map db, true, 1⟩)⟩) (fm := []) (wk [10000, 77000]) ⟨0, Nat.zero_le _, rfl, rfl⟩ ?_
  rintro mm σ ⟨k, hk, rfl, rfl⟩
  refine zQ (zS ?_)
  refine yM ?_
  refine yP pD ?_
  refine yP (pGt (b := 0)) ?_
  refine zN ?_
  refine zA (fun hb0 => ?_) (fun hb0 => ?_)
  ·
    have h0 : 0 < (b.drop (off 2 k)).length := by simpa using hb0
    have hlt : off 2 k < b.length := by rw [List.length_drop] at h0; omega
    have hkn : k < np 2 b.length := (np_lt hf).2 hlt
    have hfit : wd 2 k ≤ (b.drop (off 2 k)).length := by have := off_fit hf (by decide) hlt; rw [List.length_drop]; omega
    refine zK (zT (zQ (zB (zS ?_))))
    refine yM ?_
    refine yM ?_
    refine yM ?_
    refine yM ?_
    refine yP (PureOp.idx1 tbok (j := k % 1) rfl rfl rfl rfl (by omega)) ?_
    refine AWo.loadM tbok 0 rfl rfl rfl (by show k % 1 < 1; omega) rfl rfl ?_
    rw [wd_2 k]
    refine yP ((PureOp.sliceD (l := 0) (h := wd 2 k) rfl .none (.some rfl) (tbok.sl _ _ rfl) (tbok.sz _ _ rfl) (Nat.zero_le _) hfit).mono (v' := db (pc 2 b k)) (by rw [db_part hfit (Nat.zero_le _), List.drop_zero, Nat.sub_zero]; rfl)) ?_
    refine AWo.buildSlice tbok 32000 [(0, db (pc 2 b k))] (out := [pc 2 b k].map db) rfl rfl (by decide) rfl rfl rfl (by decide) rfl rfl rfl rfl rfl ?_
    refine AWo.append tbok (all := ((List.range (k + 1)).map (pc 2 b)).map db) (news := [pc 2 b k].map db) 33000 rfl rfl rfl rfl (by simp) (by show List.take _ (List.drop 0 _) = _; rw [List.drop_zero]; exact List.take_of_length_le (by simp)) (by (simp; done)) (by decide) rfl rfl rfl (by decide) rfl rfl rfl (by omega) (by omega) (by rfl) (by rw [List.range_succ, List.map_append, List.map_append]; rfl) rfl rfl ?_
    refine yA ?_
    refine zN (zR ?_)
    refine yM ?_
    refine yM ?_
    refine yM ?_
    refine yP (PureOp.idx1 tbok (j := k % 1) rfl rfl rfl rfl (by omega)) ?_
    refine AWo.loadM tbok 0 rfl rfl rfl (by show k % 1 < 1; omega) rfl rfl ?_
    rw [wd_2 k]
    refine yP ((PureOp.sliceD (l := wd 2 k) (h := (b.drop (off 2 k)).length) rfl (.some rfl) .none (tbok.sl _ _ rfl) (tbok.sz _ _ rfl) hfit (Nat.le_refl _)).mono (v' := db (b.drop (off 2 (k + 1)))) (by rw [db_part (Nat.le_refl _) hfit, List.drop_drop, List.take_of_length_le (by rw [List.length_drop, List.length_drop]; omega), off_succ])) ?_
    refine yA ?_
    refine zN (zL (zT (zR ?_)))
    refine yM ?_
    refine yP (pAdd (b := 1)) ?_
    refine yM ?_
    refine yP pL ?_
    refine yP ((PureOp.remN rfl rfl (by decide)).mono (v' := vi .i64 ((k + 1) % 1)) (congrArg (vi .i64) (by omega))) ?_
    refine yA ?_
    refine zN (zT ?_)
    exact ⟨np 2 b.length - (k + 1), [(77000, 33000)], _, by omega, wk [10000, 77000], k + 1, by omega, rfl, rfl⟩
  ·
    have h0 : ¬ 0 < (b.drop (off 2 k)).length := by simpa using hb0
    obtain rfl : k = np 2 b.length := by
      refine Nat.le_antisymm hk (Nat.le_of_not_lt fun h => h0 ?_)
      have := (np_lt hf).1 h
      rw [List.length_drop]; omega
    refine zX (zV (zV (zH (zT (zS ?_)))))
    refine yM ?_
    refine yA ?_
    refine zN (zE ?_)
    exact rq [77000] [.tmp 4] (hb := (OutL.clo rfl (cloM fun _ => rfl) (by intro h; rfl) trivial))
theorem cut3_ctr {b : List Nat} (hf : fits 3 b.length) (hL : b.length < 200000000) : GC Tryz.prog 23 [.int .i64 3, db b] [] [.slice (some ⟨0, 0, none⟩) (np 3 b.length) 0] [⟨(pcs 3 b).map db, true, 1⟩] := by
  have hnp : np 3 b.length ≤ b.length := np_le
  refine gi Tryz.func23 ?_
  refine zS ?_
  refine yA ?_
  refine zN (zS ?_)
  refine yM ?_
  refine yC (values3_ctr) bd51 [] [10000] ?_
  first | refine AWo.pure (PureOp.fldV1 tbok rfl rfl rfl rfl) rfl rfl ?_
  refine yA ?_
  refine zN (zQ (zS ?_))
  refine yM ?_
  refine yP (PureOp.slEqNil Tryz.underlying61 rfl (by decide)) ?_
  refine zN (zF (zK (zT (zS ?_))))
  refine yA ?_
  refine zN (zQ (zS ?_))
  refine yA ?_
  refine zN (zB ?_)
  refine AW.ghost 77000 1 rfl ?_
  refine AW.loopw (fun mm σ => ∃ k, (k ≤ np 3 b.length) ∧ mm = np 3 b.length - k ∧ σ = ⟨(upd (upd (upd (upd emp 1 (db (b.drop (off 3 k)))) 5 (.slice (some ⟨10000, 0, none⟩) 1 0)) 6 (.slice (some ⟨77000, 0, none⟩) k 0)) 7 (vi .i64 (k % 1))), (upd (upd emp 10000 ⟨[32].map (vi .i64), true, 1⟩) 77000 ⟨((List.range k).map (pc 3 b)).map db, true, 1⟩)⟩) (fm := []) (wk [10000, 77000]) ⟨0, Nat.zero_le _, rfl, rfl⟩ ?_
  rintro mm σ ⟨k, hk, rfl, rfl⟩
  refine zQ (zS ?_)
  refine yM ?_
  refine yP pD ?_
  refine yP (pGt (b := 0)) ?_
  refine zN ?_
  refine zA (fun hb0 => ?_) (fun hb0 => ?_)
  ·
    have h0 : 0 < (b.drop (off 3 k)).length := by simpa using hb0
    have hlt : off 3 k < b.length := by rw [List.length_drop] at h0; omega
    have hkn : k < np 3 b.length := (np_lt hf).2 hlt
    have hfit : wd 3 k ≤ (b.drop (off 3 k)).length := by have := off_fit hf (by decide) hlt; rw [List.length_drop]; omega
    refine zK (zT (zQ (zB (zS ?_))))
    refine yM ?_
    refine yM ?_
    refine yM ?_
    refine yM ?_
    refine yP (PureOp.idx1 tbok (j := k % 1) rfl rfl rfl rfl (by omega)) ?_
    refine AWo.loadM tbok 0 rfl rfl rfl (by show k % 1 < 1; omega) rfl rfl ?_
    rw [wd_3 k]
    refine yP ((PureOp.sliceD (l := 0) (h := wd 3 k) rfl .none (.some rfl) (tbok.sl _ _ rfl) (tbok.sz _ _ rfl) (Nat.zero_le _) hfit).mono (v' := db (pc 3 b k)) (by rw [db_part hfit (Nat.zero_le _), List.drop_zero, Nat.sub_zero]; rfl)) ?_
    refine AWo.buildSlice tbok 32000 [(0, db (pc 3 b k))] (out := [pc 3 b k].map db) rfl rfl (by decide) rfl rfl rfl (by decide) rfl rfl rfl rfl rfl ?_
    refine AWo.append tbok (all := ((List.range (k + 1)).map (pc 3 b)).map db) (news := [pc 3 b k].map db) 33000 rfl rfl rfl rfl (by simp) (by show List.take _ (List.drop 0 _) = _; rw [List.drop_zero]; exact List.take_of_length_le (by simp)) (by (simp; done)) (by decide) rfl rfl rfl (by decide) rfl rfl rfl (by omega) (by omega) (by rfl) (by rw [List.range_succ, List.map_append, List.map_append]; rfl) rfl rfl ?_
    refine yA ?_
    refine zN (zR ?_)
    refine yM ?_
    refine yM ?_
    refine yM ?_
    refine yP (PureOp.idx1 tbok (j := k % 1) rfl rfl rfl rfl (by omega)) ?_
    refine AWo.loadM tbok 0 rfl rfl rfl (by show k % 1 < 1; omega) rfl rfl ?_
    rw [wd_3 k]
    refine yP ((PureOp.sliceD (l := wd 3 k) (h := (b.drop (off 3 k)).length) rfl (.some rfl) .none (tbok.sl _ _ rfl) (tbok.sz _ _ rfl) hfit (Nat.le_refl _)).mono (v' := db (b.drop (off 3 (k + 1)))) (by rw [db_part (Nat.le_refl _) hfit, List.drop_drop, List.take_of_length_le (by rw [List.length_drop, List.length_drop]; omega), off_succ])) ?_
    refine yA ?_
    refine zN (zL (zT (zR ?_)))
    refine yM ?_
    refine yP (pAdd (b := 1)) ?_
    refine yM ?_
    refine yP pL ?_
    refine yP ((PureOp.remN rfl rfl (by decide)).mono (v' := vi .i64 ((k + 1) % 1)) (congrArg (vi .i64) (by omega))) ?_
    refine yA ?_
    refine zN (zT ?_)
    exact ⟨np 3 b.length - (k + 1), [(77000, 33000)], _, by omega, wk [10000, 77000], k + 1, by omega, rfl, rfl⟩
  ·
    have h0 : ¬ 0 < (b.drop (off 3 k)).length := by simpa using hb0
    obtain rfl : k = np 3 b.length := by
      refine Nat.le_antisymm hk (Nat.le_of_not_lt fun h => h0 ?_)
      have := (np_lt hf).1 h
      rw [List.length_drop]; omega
    refine zX (zV (zV (zH (zT (zS ?_)))))
    refine yM ?_
    refine yA ?_
    refine zN (zE ?_)
    exact rq [77000] [.tmp 4] (hb := (OutL.clo rfl (cloM fun _ => rfl) (by intro h; rfl) trivial))
theorem cut4_ctr {b : List Nat} (hf : fits 4 b.length) (hL : b.length < 200000000) : GC Tryz.prog 23 [.int .i64 4, db b] [] [.slice (some ⟨0, 0, none⟩) (np 4 b.length) 0] [⟨(pcs 4 b).map db, true, 1⟩] := by
  have hnp : np 4 b.length ≤ b.length := np_le
  refine gi Tryz.func23 ?_
  refine zS ?_
  refine yA ?_
  refine zN (zS ?_)
  refine yM ?_
  refine yC (values4_ctr) bd51 [] [10000] ?_
  first | refine AWo.pure (PureOp.fldV1 tbok rfl rfl rfl rfl) rfl rfl ?_
  refine yA ?_
  refine zN (zQ (zS ?_))
  refine yM ?_
  refine yP (PureOp.slEqNil Tryz.underlying61 rfl (by decide)) ?_
  refine zN (zF (zK (zT (zS ?_))))
  refine yA ?_
  refine zN (zQ (zS ?_))
  refine yA ?_
  refine zN (zB ?_)
  refine AW.ghost 77000 1 rfl ?_
  refine AW.loopw (fun mm σ => ∃ k, (k ≤ np 4 b.length) ∧ mm = np 4 b.length - k ∧ σ = ⟨(upd (upd (upd (upd emp 1 (db (b.drop (off 4 k)))) 5 (.slice (some ⟨10000, 0, none⟩) 4 0)) 6 (.slice (some ⟨77000, 0, none⟩) k 0)) 7 (vi .i64 (k % 4))), (upd (upd emp 10000 ⟨[31, 31, 31, 3].map (vi .i64), true, 1⟩) 77000 ⟨((List.range k).map (pc 4 b)).map db, true, 1⟩)⟩) (fm := []) (wk [10000, 77000]) ⟨0, Nat.zero_le _, rfl, rfl⟩ ?_
  rintro mm σ ⟨k, hk, rfl, rfl⟩
  refine zQ (zS ?_)
  refine yM ?_
  refine yP pD ?_
  refine yP (pGt (b := 0)) ?_
  refine zN ?_
  refine zA (fun hb0 => ?_) (fun hb0 => ?_)
  ·
    have h0 : 0 < (b.drop (off 4 k)).length := by simpa using hb0
    have hlt : off 4 k < b.length := by rw [List.length_drop] at h0; omega
    have hkn : k < np 4 b.length := (np_lt hf).2 hlt
    have hfit : wd 4 k ≤ (b.drop (off 4 k)).length := by have := off_fit hf (by decide) hlt; rw [List.length_drop]; omega
    refine zK (zT (zQ (zB (zS ?_))))
    refine yM ?_
    refine yM ?_
    refine yM ?_
    refine yM ?_
    refine yP (PureOp.idx1 tbok (j := k % 4) rfl rfl rfl rfl (by omega)) ?_
    refine AWo.loadM tbok 0 rfl rfl rfl (by show k % 4 < 4; omega) rfl rfl ?_
    rw [wd_4 k]
    refine yP ((PureOp.sliceD (l := 0) (h := wd 4 k) rfl .none (.some rfl) (tbok.sl _ _ rfl) (tbok.sz _ _ rfl) (Nat.zero_le _) hfit).mono (v' := db (pc 4 b k)) (by rw [db_part hfit (Nat.zero_le _), List.drop_zero, Nat.sub_zero]; rfl)) ?_
    refine AWo.buildSlice tbok 32000 [(0, db (pc 4 b k))] (out := [pc 4 b k].map db) rfl rfl (by decide) rfl rfl rfl (by decide) rfl rfl rfl rfl rfl ?_
    refine AWo.append tbok (all := ((List.range (k + 1)).map (pc 4 b)).map db) (news := [pc 4 b k].map db) 33000 rfl rfl rfl rfl (by simp) (by show List.take _ (List.drop 0 _) = _; rw [List.drop_zero]; exact List.take_of_length_le (by simp)) (by (simp; done)) (by decide) rfl rfl rfl (by decide) rfl rfl rfl (by omega) (by omega) (by rfl) (by rw [List.range_succ, List.map_append, List.map_append]; rfl) rfl rfl ?_
    refine yA ?_
    refine zN (zR ?_)
    refine yM ?_
    refine yM ?_
    refine yM ?_
    refine yP (PureOp.idx1 tbok (j := k % 4) rfl rfl rfl rfl (by omega)) ?_
    refine AWo.loadM tbok 0 rfl rfl rfl (by show k % 4 < 4; omega) rfl rfl ?_
    rw [wd_4 k]
    refine yP ((PureOp.sliceD (l := wd 4 k) (h := (b.drop (off 4 k)).length) rfl (.some rfl) .none (tbok.sl _ _ rfl) (tbok.sz _ _ rfl) hfit (Nat.le_refl _)).mono (v' := db (b.drop (off 4 (k + 1)))) (by rw [db_part (Nat.le_refl _) hfit, List.drop_drop, List.take_of_length_le (by rw [List.length_drop, List.length_drop]; omega), off_succ])) ?_
    refine yA ?_
    refine zN (zL (zT (zR ?_)))
    refine yM ?_
    refine yP (pAdd (b := 1)) ?_
    refine yM ?_
    refine yP pL ?_
    refine yP ((PureOp.remN rfl rfl (by decide)).mono (v' := vi .i64 ((k + 1) % 4)) (congrArg (vi .i64) (by omega))) ?_
    refine yA ?_
    refine zN (zT ?_)
    exact ⟨np 4 b.length - (k + 1), [(77000, 33000)], _, by omega, wk [10000, 77000], k + 1, by omega, rfl, rfl⟩
  ·
    have h0 : ¬ 0 < (b.drop (off 4 k)).length := by simpa using hb0
    obtain rfl : k = np 4 b.length := by
      refine Nat.le_antisymm hk (Nat.le_of_not_lt fun h => h0 ?_)
      have := (np_lt hf).1 h
      rw [List.length_drop]; omega
    refine zX (zV (zV (zH (zT (zS ?_)))))
    refine yM ?_
    refine yA ?_
    refine zN (zE ?_)
    exact rq [77000] [.tmp 4] (hb := (OutL.clo rfl (cloM fun _ => rfl) (by intro h; rfl) trivial))
theorem cut_ctr {t : Int} {b : List Nat} (hf : fits t b.length) (hL : b.length < 200000000) : GC Tryz.prog 23 [.int .i64 t, db b] [] [.slice (some ⟨0, 0, none⟩) (np t b.length) 0] [⟨(pcs t b).map db, true, 1⟩] := by
  by_cases h1 : t = 1
  · subst h1; exact cut1_ctr hL
  by_cases h2 : t = 2
  · subst h2; exact cut2_ctr hf hL
  by_cases h3 : t = 3
  · subst h3; exact cut3_ctr hf hL
  by_cases h4 : t = 4
  · subst h4; exact cut4_ctr hf hL
  exact cut0_ctr h1 h2 h3 h4 hL
theorem pcs_getD {t : Int} {b : List Nat} {i : Nat} (hi : i < np t b.length) : (pcs t b).getD i [] = pc t b i := by
  rw [pcs, List.getD_eq_getElem?_getD, List.getElem?_map, List.getElem?_range hi]; rfl
def gP (t : Int) (d : List Nat) (i : Nat) : Fp := fp (num 256 (pc t d i))
theorem or8 {a b : Nat} (ha : a < 256) (hb : b < 256) : a ||| b * 2 ^ 8 % 18446744073709551616 = a + 256 * b := by
  rw [Nat.mod_eq_of_lt (by omega), Nat.or_comm, Nat.mul_comm b, ← Nat.two_pow_add_eq_or_of_lt (by omega : a < 2 ^ 8)]
  omega
theorem or16 {a b : Nat} (ha : a < 65536) (hb : b < 4294967296) : a ||| b * 2 ^ 16 % 18446744073709551616 = a + 65536 * b := by
  rw [Nat.mod_eq_of_lt (by omega), Nat.or_comm, Nat.mul_comm b, ← Nat.two_pow_add_eq_or_of_lt (by omega : a < 2 ^ 16)]
  omega
theorem rgt_len {x : Opn} (h : Rgt x) : x.d.length < 200000000 := by
  have h1 := lng_rgt h
  have hi := itC_inv h.1
  unfold lng at h1
  have h2 := szT_le x.t
  split at h1
  · have : x.c.toNat * szT x.t ≤ 1048576 * 96 := Nat.mul_le_mul (by omega) h2
    omega
  · omega
theorem rgt_nat {x : Opn} (h : Rgt x) : ∃ kn tn cn : Nat, x = ⟨kn, tn, cn, x.d⟩ ∧ kn ≤ 3 ∧ tn ≤ 4 ∧ cn ≤ 1048576 := by
  have hi := itC_inv h.1
  obtain ⟨k, t, c, d⟩ := x
  simp only at hi
  exact ⟨k.toNat, t.toNat, c.toNat, by congr 1 <;> omega, by omega, by omega, by omega⟩
theorem tobN_ctr {x : Opn} (hb : bd 256 x.d) (hl : x.d.length < 9223372036854775808) (hx : ¬ Rgt x) : GC Tryz.prog 6 [opV x] [] [.slice (some ⟨0, 0, none⟩) 0 0] [⟨(([] : List Nat)).map (vi .u8), true, 1⟩] := by
  refine gi Tryz.func6 ?_
  refine AW.ghost 77000 1 rfl ?_
  refine zS ?_
  refine AWo.box 2000 1 [.int .i64 x.k, .int .i64 x.t, .int .i64 x.c, db x.d] rfl rfl rfl rfl rfl ?_
  refine yA ?_
  refine zN (zQ (zS ?_))
  refine yLA ?_
  refine AWo.callX (v := .bool false) (opright_ctr hb hl) bd22 [] [] rfl (.cons rfl .nil) rfl (.clo rfl .nil) .nil rfl .nil frN (by decide) (.cons rfl rfl .nil) (congrArg Value.bool (decide_eq_false hx)) rfl rfl rfl ?_
  refine yP (PureOp.not rfl) ?_
  refine zN (zC (zS ?_))
  refine yA ?_
  refine zN (zE (zU ?_))
  exact rq [77000] [.tmp 2]
theorem tobY_ctr {kn tn cn : Nat} {d : List Nat} (hb : bd 256 d) (hk : kn ≤ 3) (ht : tn ≤ 4) (hc : cn ≤ 1048576) (hd : d.length < 200000000) (hl : d.length < 9223372036854775808) (hx : Rgt ⟨kn, tn, cn, d⟩) : GC Tryz.prog 6 [opV (Opn.mk kn tn cn d)] [] [.slice (some ⟨0, 0, none⟩) (6 + d.length) 0] [⟨(([kn % 256, tn % 256, cn % 256, cn / 2 ^ 8 % 256, cn / 2 ^ 16 % 256, cn / 2 ^ 24 % 256] ++ d)).map (vi .u8), true, 1⟩] := by
  refine gi Tryz.func6 ?_
  refine zS ?_
  refine AWo.box 2000 1 [vi .i64 kn, vi .i64 tn, vi .i64 cn, db d] rfl rfl rfl rfl rfl ?_
  refine yA ?_
  refine zN (zQ (zS ?_))
  refine yLA ?_
  refine AWo.callX (v := .bool true) (opright_ctr (x := ⟨kn, tn, cn, d⟩) hb hl) bd22 [] [] rfl (.cons rfl .nil) rfl (.clo rfl .nil) .nil rfl .nil frN (by decide) (.cons rfl rfl .nil) (congrArg Value.bool (decide_eq_true hx)) rfl rfl rfl ?_
  refine yP (PureOp.not rfl) ?_
  refine zN (zF (zK (zT (zS ?_))))
  refine yP pF ?_
  refine yL1 ?_
  refine yP (PureOp.cvtU tbok 256 rfl rfl rfl rfl rfl) ?_
  refine yP pF ?_
  refine yL1 ?_
  refine yP (PureOp.cvtU tbok 256 rfl rfl rfl rfl rfl) ?_
  refine yP pF ?_
  refine yL1 ?_
  refine yP (PureOp.cvtU tbok 256 rfl rfl rfl rfl rfl) ?_
  refine yP pF ?_
  refine yL1 ?_
  refine yP (PureOp.shrN (b := 8) 64 rfl rfl rfl (by decide)) ?_
  refine yP (PureOp.cvtU tbok 256 rfl rfl rfl rfl rfl) ?_
  refine yP pF ?_
  refine yL1 ?_
  refine yP (PureOp.shrN (b := 16) 64 rfl rfl rfl (by decide)) ?_
  refine yP (PureOp.cvtU tbok 256 rfl rfl rfl rfl rfl) ?_
  refine yP pF ?_
  refine yL1 ?_
  refine yP (PureOp.shrN (b := 24) 64 rfl rfl rfl (by decide)) ?_
  refine yP (PureOp.cvtU tbok 256 rfl rfl rfl rfl rfl) ?_
  refine AWo.buildSlice tbok 29000 [(0, vi .u8 (kn % 256)), (1, vi .u8 (tn % 256)), (2, vi .u8 (cn % 256)), (3, vi .u8 (cn / 2 ^ 8 % 256)), (4, vi .u8 (cn / 2 ^ 16 % 256)), (5, vi .u8 (cn / 2 ^ 24 % 256))] (out := [vi .u8 (kn % 256), vi .u8 (tn % 256), vi .u8 (cn % 256), vi .u8 (cn / 2 ^ 8 % 256), vi .u8 (cn / 2 ^ 16 % 256), vi .u8 (cn / 2 ^ 24 % 256)]) rfl rfl (by decide) rfl rfl rfl (by decide) rfl rfl rfl rfl rfl ?_
  refine yA ?_
  refine zN (zS ?_)
  refine yM ?_
  refine yP pF ?_
  refine AWo.loadX tbok 88000 rfl rfl rfl rfl rfl rfl rfl ?_
  refine AWo.append tbok (all := ([kn % 256, tn % 256, cn % 256, cn / 2 ^ 8 % 256, cn / 2 ^ 16 % 256, cn / 2 ^ 24 % 256] ++ d).map (vi .u8)) (news := d.map (vi .u8)) 33000 rfl rfl rfl rfl (by rfl) (by show List.take _ (List.drop 0 _) = _; rw [List.drop_zero]; exact List.take_of_length_le (by simp)) (by (simp; done)) (by decide) rfl rfl rfl (by decide) rfl rfl rfl (by omega) (by omega) (by exact oneM (fun _ => rfl) _) rfl rfl rfl ?_
  refine yA ?_
  refine zN (zE ?_)
  exact rq [33000] [.tmp 2]
theorem tobytes_ctr {x : Opn} (hb : bd 256 x.d) (hl : x.d.length < 9223372036854775808) : GC Tryz.prog 6 [opV x] [] [.slice (some ⟨0, 0, none⟩) (toB x).length 0] [⟨(toB x).map (vi .u8), true, 1⟩] := by
  by_cases hx : Rgt x
  · have hd := rgt_len hx
    obtain ⟨kn, tn, cn, e, hk, ht, hc⟩ := rgt_nat hx
    generalize x.d = d at *
    subst e
    have h := tobY_ctr hb hk ht hc hd hl hx
    have e2 : toB ⟨kn, tn, cn, d⟩ = [kn % 256, tn % 256, cn % 256, cn / 2 ^ 8 % 256, cn / 2 ^ 16 % 256, cn / 2 ^ 24 % 256] ++ d := by
      rw [toB, if_pos hx]; rfl
    rw [e2, List.length_append]
    exact h
  · rw [toB, if_neg hx]
    exact tobN_ctr hb hl hx
theorem tofN_ctr {x : Opn} (hb : bd 256 x.d) (hl : x.d.length < 9223372036854775808) (hx : ¬ Rgt x) : GC Tryz.prog 8 [opV x] [] [.slice (some ⟨0, 0, none⟩) 0 0] [⟨((([] : List Fp).map fe).flatten).map (vi .u64), true, 4⟩] := by
  refine gi Tryz.func8 ?_
  refine AW.ghost 77000 4 rfl ?_
  refine zS ?_
  refine AWo.box 2000 1 [.int .i64 x.k, .int .i64 x.t, .int .i64 x.c, db x.d] rfl rfl rfl rfl rfl ?_
  refine yA ?_
  refine zN (zQ (zS ?_))
  refine yLA ?_
  refine AWo.callX (v := .bool false) (opright_ctr hb hl) bd22 [] [] rfl (.cons rfl .nil) rfl (.clo rfl .nil) .nil rfl .nil frN (by decide) (.cons rfl rfl .nil) (congrArg Value.bool (decide_eq_false hx)) rfl rfl rfl ?_
  refine yP (PureOp.not rfl) ?_
  refine zN (zC (zS ?_))
  refine yA ?_
  refine zN (zE (zU ?_))
  exact rq [77000] [.tmp 2]
theorem tofY_ctr {kn tn cn : Nat} {d : List Nat} (hb : bd 256 d) (hk : kn ≤ 3) (ht : tn ≤ 4) (hc : cn ≤ 1048576) (hd : d.length < 200000000) (hl : d.length < 9223372036854775808) (hx : Rgt ⟨kn, tn, cn, d⟩) : GC Tryz.prog 8 [opV (Opn.mk kn tn cn d)] [] [.slice (some ⟨0, 0, none⟩) (np tn d.length + 1) 0] [⟨(((fp (kn + 256 * tn + 65536 * cn) :: (List.range (np tn d.length)).map (gP tn d)).map fe).flatten).map (vi .u64), true, 4⟩] := by
  have hnp : np tn d.length ≤ d.length := np_le
  refine gi Tryz.func8 ?_
  refine zS ?_
  refine AWo.box 2000 1 [vi .i64 kn, vi .i64 tn, vi .i64 cn, db d] rfl rfl rfl rfl rfl ?_
  refine yA ?_
  refine zN (zQ (zS ?_))
  refine yLA ?_
  refine AWo.callX (v := .bool true) (opright_ctr (x := ⟨kn, tn, cn, d⟩) hb hl) bd22 [] [] rfl (.cons rfl .nil) rfl (.clo rfl .nil) .nil rfl .nil frN (by decide) (.cons rfl rfl .nil) (congrArg Value.bool (decide_eq_true hx)) rfl rfl rfl ?_
  refine yP (PureOp.not rfl) ?_
  refine zN (zF (zK (zT (zS ?_))))
  refine yP pF ?_
  refine yL1 ?_
  refine yP (PureOp.cvtN tbok 18446744073709551616 rfl rfl rfl (by decide) (by decide) (by omega)) ?_
  refine yP pF ?_
  refine yL1 ?_
  refine yP (PureOp.cvtN tbok 18446744073709551616 rfl rfl rfl (by decide) (by decide) (by omega)) ?_
  refine yP (PureOp.shlUge (b := 8) 18446744073709551616 rfl rfl rfl rfl) ?_
  refine yP ((PureOp.orN (a := kn) (b := tn * 2 ^ 8 % 18446744073709551616) 18446744073709551616 rfl rfl (by decide) (by decide) (by omega) (by omega)).mono (v' := vi .u64 (kn + 256 * tn)) (congrArg (vi .u64) (or8 (by omega) (by omega)))) ?_
  refine yP pF ?_
  refine yL1 ?_
  refine yP (PureOp.cvtN tbok 18446744073709551616 rfl rfl rfl (by decide) (by decide) (by omega)) ?_
  refine yP (PureOp.shlUge (b := 16) 18446744073709551616 rfl rfl rfl rfl) ?_
  refine yP ((PureOp.orN (a := kn + 256 * tn) (b := cn * 2 ^ 16 % 18446744073709551616) 18446744073709551616 rfl rfl (by decide) (by decide) (by omega) (by omega)).mono (v' := vi .u64 (kn + 256 * tn + 65536 * cn)) (congrArg (vi .u64) (or16 (by omega) (by omega)))) ?_
  refine yC (fromuF_ctr (v := kn + 256 * tn + 65536 * cn) (by omega)) bd14 [] [] ?_
  refine AWo.buildSlice tbok 24000 [(0, .agg ((fe (fp (kn + 256 * tn + 65536 * cn))).map (vi .u64)).toArray)] (out := [fe (fp (kn + 256 * tn + 65536 * cn))].flatten.map (vi .u64)) rfl rfl (by decide) rfl rfl rfl (by decide) rfl (fillB1 (fe_len _)) rfl rfl rfl ?_
  refine yA ?_
  refine zN (zQ (zS ?_))
  refine yP pF ?_
  refine yL1 ?_
  refine yP pF ?_
  refine yL1 ?_
  refine yC (cut_ctr (t := tn) (b := d) (rgt_fits hx) (by omega)) bd23 [] [29000] ?_ (hnew := (.new (clo_map_ren (cloM fun _ => rfl)) (OkL.clo (cloM fun _ => rfl)) .nil))
  refine yP pL ?_
  refine yM ?_
  refine zN (zB ?_)
  refine AW.loopw (fun mm σ => ∃ i, (i ≤ np tn d.length) ∧ mm = np tn d.length - i ∧ σ = ⟨(upd (upd (upd (upd emp 3 (.slice (some ⟨24000, 0, none⟩) (i + 1) 0)) 28 (.slice (some ⟨29000, 0, none⟩) (np tn d.length) 0)) 29 (vi .i64 (np tn d.length))) 30 (vi .i64 i)), (upd (upd emp 29000 ⟨(pcs tn d).map db, true, 1⟩) 24000 ⟨(((fp (kn + 256 * tn + 65536 * cn) :: (List.range i).map (gP tn d)).map fe).flatten).map (vi .u64), true, 4⟩)⟩) (fm := []) (wk [29000, 24000]) ⟨0, Nat.zero_le _, rfl, rfl⟩ ?_
  rintro mm σ ⟨i, hik, rfl, rfl⟩
  refine zS ?_
  refine yP pLt ?_
  refine zN (zQ ?_)
  refine zA (fun hb0 => ?_) (fun hb0 => ?_)
  ·
    have hi : i < np tn d.length := by simpa using hb0
    refine zK (zT (zQ (zB (zS ?_))))
    refine yP pJ ?_
    refine AWo.loadM tbok [] rfl rfl rfl (by rw [pcs_len]; exact hi) rfl rfl ?_
    rw [pcs_getD hi]
    refine yA ?_
    refine zN (zR ?_)
    refine yM ?_
    refine yM ?_
    refine yC (fromwideFd (b := pc tn d i) (bd_part hb _ _) (by rw [pc_len]; have := wd_le tn i; omega)) bd18 [] [] ?_
    refine AWo.buildSlice tbok 38000 [(0, .agg ((fe (fp (num 256 (pc tn d i)))).map (vi .u64)).toArray)] (out := [fe (fp (num 256 (pc tn d i)))].flatten.map (vi .u64)) rfl rfl (by decide) rfl rfl rfl (by decide) rfl (fillB1 (fe_len _)) rfl rfl rfl ?_
    refine AWo.append tbok (all := (((fp (kn + 256 * tn + 65536 * cn) :: (List.range (i + 1)).map (gP tn d)).map fe).flatten).map (vi .u64)) (news := [fe (fp (num 256 (pc tn d i)))].flatten.map (vi .u64)) 39000 rfl rfl rfl rfl (by rw [FF_len]; simp) (by show List.take _ (List.drop 0 _) = _; rw [List.drop_zero]; exact List.take_of_length_le (by simp)) (by simp; done) (by decide) rfl rfl rfl (by decide) rfl rfl rfl (by omega) (by omega) (oneM (fun _ => rfl) _) (by rw [List.range_succ, List.map_append, ← List.cons_append, List.map_append, List.flatten_append, List.map_append]; rfl) rfl rfl ?_
    refine yA ?_
    refine zN (zL (zT (zR ?_)))
    refine yP (pAdd (b := 1)) ?_
    refine yM ?_
    refine zN (zT ?_)
    exact ⟨np tn d.length - (i + 1), [(24000, 39000)], _, by omega, wk [29000, 24000], i + 1, by omega, rfl, rfl⟩
  ·
    obtain rfl : i = np tn d.length := by simp at hb0; omega
    refine zX (zV (zV (zH (zT (zS ?_)))))
    refine yM ?_
    refine yA ?_
    refine zN (zE ?_)
    exact rq [24000] [.tmp 2]
theorem tofields_ctr {x : Opn} (hb : bd 256 x.d) (hl : x.d.length < 9223372036854775808) : GC Tryz.prog 8 [opV x] [] [.slice (some ⟨0, 0, none⟩) (toF x).length 0] [⟨(((toF x).map fe).flatten).map (vi .u64), true, 4⟩] := by
  by_cases hx : Rgt x
  · have hd := rgt_len hx
    obtain ⟨kn, tn, cn, e, hk, ht, hc⟩ := rgt_nat hx
    generalize x.d = d at *
    subst e
    have h := tofY_ctr hb hk ht hc hd hl hx
    have e2 : toF ⟨kn, tn, cn, d⟩ = (fp (kn + 256 * tn + 65536 * cn) :: (List.range (np tn d.length)).map (gP tn d)) := by
      rw [toF, if_pos hx, pcs, List.map_map]; rfl
    have e3 : (toF ⟨kn, tn, cn, d⟩).length = np tn d.length + 1 := by rw [toF_len hx, Nat.add_comm]
    rw [e3, e2]
    exact h
  · rw [toF, if_neg hx]
    exact tofN_ctr hb hl hx
end Go.Proofs.YtpahdiljpnfkdaaGreat
namespace Go.Proofs.YtpahdiljpnfkdaaGreat
open Go Sim
theorem rgtX : Rgt (⟨1, 1, 2, [1, 2]⟩ : Opn) := by
 refine ⟨rfl, ?_⟩
 rw [if_pos rfl]
 refine ⟨rfl, ?_⟩
 refine ck_ok rfl (fun i _ => ?_)
 rw [vC, if_neg (by decide), if_neg (by decide)]
theorem toBX : toB (⟨1, 1, 2, [1, 2]⟩ : Opn) = [1, 1, 2, 0, 0, 0, 1, 2] := by rw [toB, if_pos rgtX]; rfl
theorem tobX_ctr : GC Tryz.prog 6 [opV (⟨1, 1, 2, [1, 2]⟩ : Opn)] [] [.slice (some ⟨0, 0, none⟩) 8 0] [⟨([1, 1, 2, 0, 0, 0, 1, 2]).map (vi .u8), true, 1⟩] := by
 have h := tobytes_ctr (x := (⟨1, 1, 2, [1, 2]⟩ : Opn)) (fun x hx => by simp at hx; omega) (by decide)
 rw [toBX] at h
 exact h
theorem tofX_ctr : GC Tryz.prog 8 [opV (⟨1, 1, 2, [1, 2]⟩ : Opn)] [] [.slice (some ⟨0, 0, none⟩) 2 0] [⟨(((toF (⟨1, 1, 2, [1, 2]⟩ : Opn)).map fe).flatten).map (vi .u64), true, 4⟩] := by
 have h := tofields_ctr (x := (⟨1, 1, 2, [1, 2]⟩ : Opn)) (fun x hx => by simp at hx; omega) (by decide)
 rw [show (toF (⟨1, 1, 2, [1, 2]⟩ : Opn)).length = 2 by rw [toF_len rgtX]; rfl] at h
 exact h
theorem speaks15_ctr : GC Tryz.prog 5 [] [] [.bool true] [] := by
 refine gi Tryz.func5 ?_
 refine zS ?_
 refine yA ?_
 refine zN (zS ?_)
 refine AWo.buildSliceF tbok 3000 [(0, vi .u8 1), (1, vi .u8 2)] (out := [vi .u8 1, vi .u8 2]) rfl rfl (by decide) rfl rfl rfl (by decide) rfl rfl rfl rfl (fun x hx => by simp at hx; rcases hx with rfl | rfl <;> rfl) rfl rfl ?_
 refine yP ((PureOp.buildStruct [(0, vi .i64 1), (1, vi .i64 1), (2, vi .i64 2), (3, db [1, 2])] pl27.choose_spec.1 zr27 (by decide) pl27.choose_spec.2 rfl rfl).mono (v' := .agg #[vi .i64 1, vi .i64 1, vi .i64 2, db [1, 2]]) rfl) ?_
 refine yN 2000 1 _ ?_
 refine AWo.storeAllN (vs := [vi .i64 1, vi .i64 1, vi .i64 2, db [1, 2]]) tbok rfl rfl rfl rfl rfl rfl rfl rfl ?_
 refine zN ?_
 refine AW.seqD mixed ?_
 refine yLA ?_
 refine yC (tobX_ctr) bd6 [] [6000] ?_ (hargs := (.clo rfl .nil))
 refine AWo.bytesStr tbok ([1, 1, 2, 0, 0, 0, 1, 2]) rfl rfl (List.take_of_length_le (by simp)) (rfl) rfl Tryz.underlying5 Tryz.underlying9 rfl rfl ?_
 refine AWo.buildSlice tbok 8000 [(0, vi .u8 1), (1, vi .u8 1), (2, vi .u8 2), (3, vi .u8 0), (4, vi .u8 0), (5, vi .u8 0), (6, vi .u8 1), (7, vi .u8 2)] (out := [vi .u8 1, vi .u8 1, vi .u8 2, vi .u8 0, vi .u8 0, vi .u8 0, vi .u8 1, vi .u8 2]) rfl rfl (by decide) rfl rfl rfl (by decide) rfl rfl rfl rfl rfl ?_
 refine AWo.bytesStr tbok ([1, 1, 2, 0, 0, 0, 1, 2]) rfl rfl (List.take_of_length_le (by simp)) (rfl) rfl Tryz.underlying5 Tryz.underlying9 rfl rfl ?_
 refine yP (PureOp.sameStr rfl rfl) ?_
 refine yM ?_
 refine yLA ?_
 refine yC (tofX_ctr) bd8 [] [13000] ?_ (hargs := (.clo rfl .nil))
 refine yP pL ?_
 refine yP ((PureOp.eqN (b := 2) rfl rfl).mono (v' := .bool true) (congrArg Value.bool (rfl))) ?_
 refine yP pT ?_
 refine yA ?_
 refine zD (zE ?_)
 exact rq [] [.tmp 0]
end Go.Proofs.YtpahdiljpnfkdaaGreat
