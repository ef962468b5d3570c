/- A modulus is made. -/
import Derived.Test.YtiikffiembcboaaMod4
namespace Go.Proofs.Ytiikffiembcboaa
open Go Sim

def rightB (a : List Nat) : Bool := decide (1 ≤ a.length) && decide (a.length ≤ 16) && a.getD 0 0 % 2 == 1 && a.getD (a.length - 1) 0 != 0 && (decide (1 < a.length) || a.getD 0 0 != 1)

/-- Newton's way to an inverse -/
def ninv (m : Nat) : Nat → Nat
  | 0 => 1
  | i + 1 => ninv m i * ((2 + (18446744073709551616 - m * ninv m i % 18446744073709551616)) % 18446744073709551616) % 18446744073709551616
def ninvR (m : Nat) : Nat := (18446744073709551616 - ninv m 6) % 18446744073709551616

theorem ninv_lt (m i : Nat) : ninv m i < 18446744073709551616 := by
  cases i with
  | zero => show 1 < 18446744073709551616; decide
  | succ i => exact Nat.mod_lt _ (by decide)

theorem cast3 {a b c d : Nat} (h : a * b + c = d) : (a : Int) * b + c = d := by rw [← Int.natCast_mul, ← Int.natCast_add, h]

theorem ninv_step (m x : Nat) : ∃ k : Int, ((x * ((2 + (18446744073709551616 - m * x % 18446744073709551616)) % 18446744073709551616) % 18446744073709551616 : Nat) : Int) = x * (2 - m * x) + 18446744073709551616 * k := by
  have h1 := Nat.div_add_mod (x * ((2 + (18446744073709551616 - m * x % 18446744073709551616)) % 18446744073709551616)) 18446744073709551616
  have h2 := Nat.div_add_mod (2 + (18446744073709551616 - m * x % 18446744073709551616)) 18446744073709551616
  have h3 := Nat.div_add_mod (m * x) 18446744073709551616
  have h4 := Nat.mod_lt (m * x) (show 0 < 18446744073709551616 by decide)
  generalize x * ((2 + (18446744073709551616 - m * x % 18446744073709551616)) % 18446744073709551616) % 18446744073709551616 = x' at *
  generalize x * ((2 + (18446744073709551616 - m * x % 18446744073709551616)) % 18446744073709551616) / 18446744073709551616 = q1 at *
  generalize (2 + (18446744073709551616 - m * x % 18446744073709551616)) % 18446744073709551616 = t at *
  generalize (2 + (18446744073709551616 - m * x % 18446744073709551616)) / 18446744073709551616 = q2 at *
  generalize m * x % 18446744073709551616 = r at *
  generalize m * x / 18446744073709551616 = q3 at *
  refine ⟨x * (q3 + 1 - q2) - q1, ?_⟩
  have e1 : (18446744073709551616 * q1 + x' : Int) = x * t := (cast3 h1).trans (Int.natCast_mul _ _)
  have e2 : (18446744073709551616 * q2 + t : Int) = 2 + (18446744073709551616 - r) := by omega
  have e3 : (18446744073709551616 * q3 + r : Int) = m * x := (cast3 h3).trans (Int.natCast_mul _ _)
  grind

theorem ninv_ok {m : Nat} (h : m % 2 = 1) : ∀ k, k ≤ 6 → ∃ z : Int, (m : Int) * ninv m k = 1 + (2 : Int) ^ (2 ^ k) * z := by
  intro k
  induction k with
  | zero =>
    intro _
    refine ⟨((m / 2 : Nat) : Int), ?_⟩
    simp only [ninv]
    omega
  | succ k ih =>
    intro hk
    obtain ⟨z, hz⟩ := ih (by omega)
    obtain ⟨j, hj⟩ := ninv_step m (ninv m k)
    have e : (ninv m (k + 1) : Int) = ninv m k * (2 - m * ninv m k) + 18446744073709551616 * j := hj
    have hd : ∃ d : Int, (18446744073709551616 : Int) = (2 : Int) ^ (2 ^ (k + 1)) * d := by
      refine ⟨(2 : Int) ^ (64 - 2 ^ (k + 1)), ?_⟩
      have h6 : 2 ^ (k + 1) ≤ 64 := by
        have : 2 ^ (k + 1) ≤ 2 ^ 6 := Nat.pow_le_pow_right (by decide) hk
        omega
      rw [← Int.pow_add, show 2 ^ (k + 1) + (64 - 2 ^ (k + 1)) = 64 by omega]
      rfl
    obtain ⟨d, hd⟩ := hd
    have hs : (2 : Int) ^ (2 ^ (k + 1)) = (2 : Int) ^ (2 ^ k) * (2 : Int) ^ (2 ^ k) := by rw [← Int.pow_add]; congr 1; omega
    refine ⟨m * d * j - z * z, ?_⟩
    rw [e, hd, hs]
    generalize (2 : Int) ^ (2 ^ k) = p at *
    generalize (ninv m k : Int) = x at *
    grind

theorem ninvR_ok {l : List Nat} (hb : bd 18446744073709551616 l) (h : l.getD 0 0 % 2 = 1) : (num 18446744073709551616 l * ninvR (l.getD 0 0) + 1) % 18446744073709551616 = 0 := by
  obtain ⟨z, hz⟩ := ninv_ok h 6 (Nat.le_refl _)
  have hx := ninv_lt (l.getD 0 0) 6
  have hm : l.getD 0 0 = num 18446744073709551616 l % 18446744073709551616 := by rw [num_getD hb (by decide)]; simp
  have h3 := Nat.div_add_mod (num 18446744073709551616 l) 18446744073709551616
  rw [← hm] at h3
  have hx0 : 0 < ninv (l.getD 0 0) 6 := by
    rcases Nat.eq_zero_or_pos (ninv (l.getD 0 0) 6) with h0 | h0
    · rw [h0] at hz
      have : (2 : Int) ^ (2 ^ 6) = 18446744073709551616 := by decide
      rw [this] at hz
      omega
    · exact h0
  have e : ninvR (l.getD 0 0) = 18446744073709551616 - ninv (l.getD 0 0) 6 := by rw [ninvR, Nat.mod_eq_of_lt (by omega)]
  rw [e]
  generalize ninv (l.getD 0 0) 6 = x at *
  generalize l.getD 0 0 = m at *
  generalize num 18446744073709551616 l = N at *
  generalize N / 18446744073709551616 = q at *
  have e2 : (2 : Int) ^ (2 ^ 6) = 18446744073709551616 := by decide
  rw [e2] at hz
  have e4 : ((N * (18446744073709551616 - x) + 1 : Nat) : Int) = 18446744073709551616 * ((N : Int) - q * x - z) := by
    have h5 : ((18446744073709551616 - x : Nat) : Int) = 18446744073709551616 - x := by omega
    have h6 : (N : Int) = 18446744073709551616 * q + m := (cast3 h3).symm
    rw [Int.natCast_add, Int.natCast_mul, h5]
    grind
  omega

theorem right_gt {l : List Nat} (hb : bd 18446744073709551616 l) (h1 : 1 ≤ l.length) (ht : l.getD (l.length - 1) 0 ≠ 0) (hn : ¬ (l.length = 1 ∧ l.getD 0 0 = 1)) : 1 < num 18446744073709551616 l := by
  obtain ⟨x, r, rfl⟩ : ∃ x r, l = x :: r := by cases l with
    | nil => simp at h1
    | cons x r => exact ⟨x, r, rfl⟩
  cases r with
  | nil => simp [num] at *; omega
  | cons y s =>
    have h2 : (x :: y :: s).getD ((x :: y :: s).length - 1) 0 = num 18446744073709551616 (x :: y :: s) / 18446744073709551616 ^ ((x :: y :: s).length - 1) % 18446744073709551616 := num_getD hb (by decide) _
    rw [h2] at ht
    rcases Nat.lt_or_ge 1 (num 18446744073709551616 (x :: y :: s)) with h | h
    · exact h
    · exfalso
      apply ht
      rw [Nat.div_eq_of_lt, Nat.zero_mod]
      refine Nat.lt_of_le_of_lt h ?_
      have : 18446744073709551616 ^ 1 ≤ 18446744073709551616 ^ ((x :: y :: s).length - 1) := Nat.pow_le_pow_right (by decide) (by simp)
      omega

theorem two_next {mw : List Nat} {i : Nat} (hM : MwOk mw) : digs 18446744073709551616 mw.length (2 ^ (i + 1) % num 18446744073709551616 mw) = digs 18446744073709551616 mw.length ((2 * num 18446744073709551616 (digs 18446744073709551616 mw.length (2 ^ i % num 18446744073709551616 mw)) + 0) % num 18446744073709551616 mw) := by
  rw [dnum hM]
  show _ = digs 18446744073709551616 mw.length (2 * (2 ^ i % num 18446744073709551616 mw) % num 18446744073709551616 mw)
  rw [Nat.mul_mod_mod, Nat.pow_succ, Nat.mul_comm]

theorem two_pow {n : Nat} : 2 ^ (128 * n) = 18446744073709551616 ^ n * 18446744073709551616 ^ n := by
  rw [show (18446744073709551616 : Nat) = 2 ^ 64 from by decide, ← Nat.pow_mul, ← Nat.pow_add]
  congr 1
  omega

set_option maxRecDepth 10000 in
theorem lnew_ctr {mw : List Nat} (hbm : bd 18446744073709551616 mw) (h1 : 1 ≤ mw.length) (h16 : mw.length ≤ 16) (hodd : mw.getD 0 0 % 2 = 1) (htop : mw.getD (mw.length - 1) 0 ≠ 0) (hnot : ¬ (mw.length = 1 ∧ mw.getD 0 0 = 1)) : GC Try.prog 52 [.slice (some ⟨0, 0, none⟩) mw.length 0] [⟨mw.map (vi .u64), false, 1⟩] [.pointer (some ⟨1, 0, none⟩), .int .i64 0] [⟨mw.map (vi .u64), false, 1⟩, ⟨[.slice (some ⟨2, 0, none⟩) mw.length 0, vi .u64 (ninvR (mw.getD 0 0)), .slice (some ⟨3, 0, none⟩) mw.length 0], true, 1⟩, ⟨(mw).map (vi .u64), true, 1⟩, ⟨(digs 18446744073709551616 mw.length (18446744073709551616 ^ mw.length * 18446744073709551616 ^ mw.length % num 18446744073709551616 mw)).map (vi .u64), true, 1⟩] := by
  refine GC.intro Try.func52 rfl (by show 1 ≤ 88; decide) (by first | exact Nat.le_refl _ | decide | simp) ?_
  have hm0 : 0 < mw.length := h1
  have hx0 := bd_getD hbm (by decide) 0
  have hml : mw.length ≤ 1000 := by omega
  have hN1 := right_gt hbm h1 htop hnot
  have hN : 0 < num 18446744073709551616 mw := by omega
  refine AW.seqR ?_
  refine AWo.pure (PureOp.assign rfl) rfl rfl ?_
  refine AWo.pure (PureOp.assign rfl) rfl rfl ?_
  refine AWo.nil trivial ?_
  refine AW.seq ?_
  refine AW.seqR ?_
  refine AWo.pure (PureOp.move rfl) rfl rfl ?_
  refine AWo.pure (PureOp.lenS tbok rfl rfl) rfl rfl ?_
  first | refine AWo.pure ((PureOp.ltN (b := 1) rfl rfl).mono (v' := .bool false) (congrArg Value.bool (decide_eq_false (by omega)))) rfl rfl ?_ | refine AWo.pure ((PureOp.bin rfl rfl rfl).mono (v' := .bool false) (congrArg Value.bool (decide_eq_false (by omega)))) rfl rfl ?_
  refine AWo.pure (PureOp.move rfl) rfl rfl ?_
  refine AWo.pure (PureOp.move rfl) rfl rfl ?_
  refine AWo.pure (PureOp.lenS tbok rfl rfl) rfl rfl ?_
  first | refine AWo.pure ((PureOp.gtN (b := 16) rfl rfl).mono (v' := .bool false) (congrArg Value.bool (decide_eq_false (by omega)))) rfl rfl ?_ | refine AWo.pure ((PureOp.bin rfl rfl rfl).mono (v' := .bool false) (congrArg Value.bool (decide_eq_false (by omega)))) rfl rfl ?_
  refine AWo.pure (PureOp.pickF rfl rfl) rfl rfl ?_
  refine AWo.pure (PureOp.move rfl) rfl rfl ?_
  refine AWo.pure (PureOp.move rfl) rfl rfl ?_
  first | refine AWo.pure (PureOp.idx1 (j := 0) tbok rfl rfl rfl rfl (by first | decide | omega)) rfl rfl ?_ | refine AWo.pure (PureOp.idx (j := 0) tbok rfl rfl rfl rfl (by first | decide | omega)) rfl rfl ?_
  refine AWo.loadM tbok 0 rfl rfl rfl (by omega) rfl rfl ?_
  refine AWo.pure ((PureOp.andN 18446744073709551616 rfl rfl (by decide) (by decide) hx0 (by decide)).mono (v' := vi .u64 (mw.getD 0 0 % 2)) (congrArg (vi .u64) (Nat.and_one_is_mod _))) rfl rfl ?_
  first | refine AWo.pure ((PureOp.eqN (b := 0) rfl rfl).mono (v' := .bool false) (by rw [hodd]; rfl)) rfl rfl ?_ | refine AWo.pure ((PureOp.bin rfl rfl rfl).mono (v' := .bool false) (by rw [hodd]; rfl)) rfl rfl ?_
  refine AWo.pure (PureOp.pickF rfl rfl) rfl rfl ?_
  refine AWo.pure (PureOp.move rfl) rfl rfl ?_
  refine AWo.pure (PureOp.move rfl) rfl rfl ?_
  refine AWo.pure (PureOp.move rfl) rfl rfl ?_
  refine AWo.pure (PureOp.lenS tbok rfl rfl) rfl rfl ?_
  first | refine AWo.pure (PureOp.subI (b := 1) rfl rfl (by first | decide | omega) (by first | decide | omega)) rfl rfl ?_ | refine AWo.pure (PureOp.subP rfl rfl (by first | decide | omega)) rfl rfl ?_ | refine AWo.pure (PureOp.bin rfl rfl rfl) rfl rfl ?_
  first | refine AWo.pure (PureOp.idx1 tbok rfl rfl rfl rfl (by first | decide | omega)) rfl rfl ?_ | refine AWo.pure (PureOp.idx tbok rfl rfl rfl rfl (by first | decide | omega)) rfl rfl ?_
  refine AWo.loadM tbok 0 rfl rfl rfl (by omega) rfl rfl ?_
  first | refine AWo.pure ((PureOp.eqN (b := 0) rfl rfl).mono (v' := .bool false) (congrArg Value.bool (beq_eq_false_iff_ne.2 htop))) rfl rfl ?_ | refine AWo.pure ((PureOp.bin rfl rfl rfl).mono (v' := .bool false) (congrArg Value.bool (beq_eq_false_iff_ne.2 htop))) rfl rfl ?_
  refine AWo.pure (PureOp.pickF rfl rfl) rfl rfl ?_
  refine AWo.pure (PureOp.move rfl) rfl rfl ?_
  refine AWo.pure (PureOp.move rfl) rfl rfl ?_
  refine AWo.pure (PureOp.lenS tbok rfl rfl) rfl rfl ?_
  first | refine AWo.pureB (PureOp.eqN (b := 1) rfl rfl) rfl rfl (fun hb0 => ?_) (fun hb0 => ?_) | refine AWo.pureB (PureOp.bin rfl rfl rfl) rfl rfl (fun hb0 => ?_) (fun hb0 => ?_)
  ·
    have hl1 : mw.length = 1 := by simpa using hb0
    refine AWo.pure (PureOp.move rfl) rfl rfl ?_
    refine AWo.pure (PureOp.move rfl) rfl rfl ?_
    first | refine AWo.pure (PureOp.idx1 (j := 0) tbok rfl rfl rfl rfl (by first | decide | omega)) rfl rfl ?_ | refine AWo.pure (PureOp.idx (j := 0) tbok rfl rfl rfl rfl (by first | decide | omega)) rfl rfl ?_
    refine AWo.loadM tbok 0 rfl rfl rfl (by omega) rfl rfl ?_
    first | refine AWo.pure ((PureOp.eqN (b := 1) rfl rfl).mono (v' := .bool false) (congrArg Value.bool (beq_eq_false_iff_ne.2 (fun e => hnot ⟨by assumption, e⟩)))) rfl rfl ?_ | refine AWo.pure ((PureOp.bin rfl rfl rfl).mono (v' := .bool false) (congrArg Value.bool (beq_eq_false_iff_ne.2 (fun e => hnot ⟨by assumption, e⟩)))) rfl rfl ?_
    refine AWo.pure (PureOp.pickT rfl rfl) rfl rfl ?_
    refine AWo.pure (PureOp.pickF rfl rfl) rfl rfl ?_
    refine AWo.nil trivial ?_
    refine AW.condF rfl ?_
    refine AW.skip ?_
    refine thenA_normal ?_
    refine AW.seqR ?_
    refine AWo.pure (PureOp.move rfl) rfl rfl ?_
    refine AWo.callX (clone_ctr (by omega) (by omega)) bd119 [(0, 0)] [43000] rfl (.cons rfl .nil) rfl (.cons rfl rfl .nil) (.flat rfl (by first | exact flatM flat_vi | exact flatM flat_bool | (simp [flatV, flat_vi]; done)) (by intro h; first | exact h | rfl) .nil) rfl (.keep rfl (.new (flat_map_ren (by first | exact flatM flat_vi | exact flatM flat_bool | (simp [flatV, flat_vi]; done))) (OkL.flat (by first | exact flatM flat_vi | exact flatM flat_bool | (simp [flatV, flat_vi]; done))) .nil)) (frC rfl frN) (by decide) (.cons rfl rfl .nil) rfl rfl rfl rfl ?_
    refine AWo.pure ((PureOp.buildStruct [(0, .slice (some ⟨43000, 0, none⟩) mw.length 0)] pl137.choose_spec.1 zr137 (by decide) pl137.choose_spec.2 rfl rfl).mono (v' := .agg #[.slice (some ⟨43000, 0, none⟩) mw.length 0, vi .u64 0, .slice none 0 0]) rfl) rfl rfl ?_
    refine AWo.box 45000 1 [.slice (some ⟨43000, 0, none⟩) mw.length 0, vi .u64 0, .slice none 0 0] rfl rfl rfl rfl rfl ?_
    refine AWo.pure (PureOp.assign rfl) rfl rfl ?_
    refine AWo.nil trivial ?_
    refine AW.seqR ?_
    refine AWo.pure (PureOp.assign rfl) rfl rfl ?_
    refine AWo.nil trivial ?_
    refine AW.seq ?_
    refine AW.seqR ?_
    refine AWo.pure (PureOp.move rfl) rfl rfl ?_
    refine AWo.nil trivial ?_
    refine AW.block ?_
    refine AW.loopw (fun mm σ => ∃ i, (i ≤ 6) ∧ mm = 6 - i ∧ σ = ⟨(upd (upd (upd (upd emp 0 (.slice (some ⟨0, 0, none⟩) mw.length 0)) 4 (.pointer (some ⟨45000, 0, none⟩))) 5 (vi .u64 (ninv (mw.getD 0 0) i))) 45 (vi .i64 i)), (upd (upd (upd emp 0 ⟨mw.map (vi .u64), false, 1⟩) 43000 ⟨mw.map (vi .u64), true, 1⟩) 45000 ⟨[.slice (some ⟨43000, 0, none⟩) mw.length 0, vi .u64 0, .slice none 0 0], true, 1⟩)⟩) (fm := []) ?_ ⟨0, by decide, rfl, rfl⟩ ?_
    ·
      refine Wk.of [0, 43000, 45000] ?_ ?_ ?_ (by decide) rfl
      ·
        refine WkE.upd rfl (by first | exact VR.flat _ rfl | exact VR.eqv (vp_succ _) rfl | exact VR.eqv (vp_succ _).symm rfl | exact VR.eqv (by first | rfl | (congr 1; omega) | (simp; done) | (simp; omega)) rfl) ?_
        refine WkE.upd rfl (by first | exact VR.flat _ rfl | exact VR.eqv (vp_succ _) rfl | exact VR.eqv (vp_succ _).symm rfl | exact VR.eqv (by first | rfl | (congr 1; omega) | (simp; done) | (simp; omega)) rfl) ?_
        refine WkE.upd rfl (.ptr (45000) 0 ⟨_, rfl⟩) ?_
        refine WkE.upd rfl (.slice (0) 0 _ 0 ⟨_, rfl⟩ (by simp) (by simp)) ?_
        exact WkE.emp
      ·
        refine WkM.ren [43000] rfl rfl rfl (dom_all rfl) (fun h => h) ?_
        refine WkM.flatM rfl (by first | rfl | assumption | simp) (fun _ => rfl) (fun h => h) ?_
        refine WkM.flatM rfl (by first | rfl | assumption | simp) (fun _ => rfl) (fun h => h) ?_
        exact WkM.emp
      ·
        repeat (refine dom_upd_mem (by decide) ?_)
        exact dom_emp
    ·
      rintro mm σ ⟨i, hinv, rfl, rfl⟩
      have hnv := ninv_lt (mw.getD 0 0) i
      refine AW.seqR ?_
      first | refine AWo.pure (PureOp.ltN (b := 6) rfl rfl) rfl rfl ?_ | refine AWo.pure (PureOp.bin rfl rfl rfl) rfl rfl ?_
      refine AWo.nil trivial ?_
      refine AW.seq ?_
      refine AW.cond rfl (fun hb1 => ?_) (fun hb1 => ?_)
      ·
        have hi : i < 6 := by simpa using hb1
        refine AW.skip ?_
        refine thenA_normal ?_
        refine AW.seq ?_
        refine AW.block ?_
        refine AW.region ?_
        refine AWo.pure (PureOp.move rfl) rfl rfl ?_
        refine AWo.pure (PureOp.move rfl) rfl rfl ?_
        first | refine AWo.pure (PureOp.idx1 (j := 0) tbok rfl rfl rfl rfl (by first | decide | omega)) rfl rfl ?_ | refine AWo.pure (PureOp.idx (j := 0) tbok rfl rfl rfl rfl (by first | decide | omega)) rfl rfl ?_
        refine AWo.loadM tbok 0 rfl rfl rfl (by omega) rfl rfl ?_
        refine AWo.pure (PureOp.move rfl) rfl rfl ?_
        first | refine AWo.pure (PureOp.mulU 18446744073709551616 rfl rfl rfl rfl) rfl rfl ?_ | refine AWo.pure (PureOp.bin rfl rfl rfl) rfl rfl ?_
        first | refine AWo.pure ((PureOp.subU (a := 2) 18446744073709551616 rfl rfl rfl rfl (by first | decide | omega)).mono (v' := vi .u64 ((2 + (18446744073709551616 - mw.getD 0 0 * ninv (mw.getD 0 0) i % 18446744073709551616)) % 18446744073709551616)) rfl) rfl rfl ?_ | refine AWo.pure ((PureOp.bin rfl rfl rfl).mono (v' := vi .u64 ((2 + (18446744073709551616 - mw.getD 0 0 * ninv (mw.getD 0 0) i % 18446744073709551616)) % 18446744073709551616)) rfl) rfl rfl ?_
        first | refine AWo.pure (PureOp.mulU 18446744073709551616 rfl rfl rfl rfl) rfl rfl ?_ | refine AWo.pure (PureOp.bin rfl rfl rfl) rfl rfl ?_
        refine AWo.pure (PureOp.assign rfl) rfl rfl ?_
        refine AWo.nil trivial ?_
        refine inBlockA_normal ?_
        refine thenA_normal ?_
        refine AW.region ?_
        first | refine AWo.pure (PureOp.addI (b := 1) rfl rfl (by first | decide | omega)) rfl rfl ?_ | refine AWo.pure (PureOp.bin rfl rfl rfl) rfl rfl ?_
        refine AWo.pure (PureOp.move rfl) rfl rfl ?_
        refine AWo.nil trivial ?_
        refine thenA_normal ?_
        refine ⟨6 - (i + 1), [], _, by omega, ?_, i + 1, by omega, rfl, rfl⟩
        refine Wk.of [0, 43000, 45000] ?_ ?_ ?_ (by decide) rfl
        ·
          refine WkE.upd rfl (by first | exact VR.flat _ rfl | exact VR.eqv (vp_succ _) rfl | exact VR.eqv (vp_succ _).symm rfl | exact VR.eqv (by first | rfl | (congr 1; omega) | (simp; done) | (simp; omega)) rfl) ?_
          refine WkE.upd rfl (by first | exact VR.flat _ rfl | exact VR.eqv (vp_succ _) rfl | exact VR.eqv (vp_succ _).symm rfl | exact VR.eqv (by first | rfl | (congr 1; omega) | (simp; done) | (simp; omega)) rfl) ?_
          refine WkE.upd rfl (.ptr (45000) 0 ⟨_, rfl⟩) ?_
          refine WkE.upd rfl (.slice (0) 0 _ 0 ⟨_, rfl⟩ (by simp) (by simp)) ?_
          exact WkE.emp
        ·
          refine WkM.ren [43000] rfl rfl rfl (dom_all rfl) (fun h => h) ?_
          refine WkM.flatM rfl (by first | rfl | assumption | simp) (fun _ => rfl) (fun h => h) ?_
          refine WkM.flatM rfl (by first | rfl | assumption | simp) (fun _ => rfl) (fun h => h) ?_
          exact WkM.emp
        ·
          repeat (refine dom_upd_mem (by decide) ?_)
          exact dom_emp
      ·
        obtain rfl : i = 6 := by simp at hb1; omega
        have hnv := ninv_lt (mw.getD 0 0) 6
        refine AW.exit ?_
        refine thenA_exit ?_
        refine thenA_exit ?_
        refine inBlockA_hit ?_
        refine thenA_normal ?_
        refine AW.seqR ?_
        refine AWo.pure (PureOp.move rfl) rfl rfl ?_
        refine AWo.pure (PureOp.move rfl) rfl rfl ?_
        first | refine AWo.pure ((PureOp.negU 18446744073709551616 rfl rfl rfl (by first | decide | omega)).mono (v' := vi .u64 (ninvR (mw.getD 0 0))) rfl) rfl rfl ?_
        refine AWo.pure (PureOp.nilCheck rfl) rfl rfl ?_
        refine AWo.pure (PureOp.fld tbok rfl rfl rfl (by decide)) rfl rfl ?_
        refine AWo.store1 tbok rfl rfl rfl rfl rfl (by simp) rfl rfl ?_
        refine AWo.nil trivial ?_
        refine AW.seqR ?_
        refine AWo.pure (PureOp.move rfl) rfl rfl ?_
        refine AWo.pure (PureOp.move rfl) rfl rfl ?_
        refine AWo.pure (PureOp.lenS tbok rfl rfl) rfl rfl ?_
        refine AWo.makeI tbok 65000 rfl rfl rfl rfl rfl rfl (by first | decide | omega) (by first | decide | omega) rfl rfl rfl ?_
        refine AWo.pure (PureOp.nilCheck rfl) rfl rfl ?_
        refine AWo.pure (PureOp.fld tbok rfl rfl rfl (by decide)) rfl rfl ?_
        refine AWo.store1 tbok rfl rfl rfl rfl rfl (by simp) rfl rfl ?_
        refine AWo.nil trivial ?_
        refine AW.seqR ?_
        refine AWo.pure (PureOp.move rfl) rfl rfl ?_
        refine AWo.pure (PureOp.nilCheck rfl) rfl rfl ?_
        refine AWo.pure (PureOp.fld tbok rfl rfl rfl (by decide)) rfl rfl ?_
        refine AWo.load tbok rfl rfl rfl rfl rfl rfl ?_
        first | refine AWo.pure (PureOp.idx1 (j := 0) tbok rfl rfl rfl rfl (by first | decide | omega)) rfl rfl ?_ | refine AWo.pure (PureOp.idx (j := 0) tbok rfl rfl rfl rfl (by first | decide | omega)) rfl rfl ?_
        refine AWo.storeM (f := (vi .u64)) (y := 1) tbok rfl rfl rfl rfl (by simp; omega) rfl rfl ?_
        refine AWo.nil trivial ?_
        refine AW.seq ?_
        rw [show (List.replicate mw.length 0).set 0 1 = digs 18446744073709551616 mw.length (2 ^ 0 % num 18446744073709551616 mw) from one_digs hbm (by omega) hN1]
        refine AW.seqR ?_
        refine AWo.pure (PureOp.move rfl) rfl rfl ?_
        refine AWo.pure (PureOp.lenS tbok rfl rfl) rfl rfl ?_
        refine AWo.pure (PureOp.mulI (a := 128) rfl rfl (by omega)) rfl rfl ?_
        refine AWo.pure (PureOp.move rfl) rfl rfl ?_
        refine AWo.nil trivial ?_
        refine AW.block ?_
        refine AW.loopw (fun mm σ => ∃ i, (i ≤ 128 * mw.length) ∧ mm = 128 * mw.length - i ∧ σ = ⟨(upd (upd (upd (upd emp 0 (.slice (some ⟨0, 0, none⟩) mw.length 0)) 4 (.pointer (some ⟨45000, 0, none⟩))) 74 (vi .i64 (128 * mw.length))) 75 (vi .i64 i)), (upd (upd (upd (upd emp 0 ⟨mw.map (vi .u64), false, 1⟩) 43000 ⟨mw.map (vi .u64), true, 1⟩) 45000 ⟨[.slice (some ⟨43000, 0, none⟩) mw.length 0, vi .u64 (ninvR (mw.getD 0 0)), .slice (some ⟨77000, 0, none⟩) mw.length 0], true, 1⟩) 77000 ⟨(digs 18446744073709551616 mw.length (2 ^ i % num 18446744073709551616 mw)).map (vi .u64), true, 1⟩)⟩) (fm := [(77000, 65000)]) ?_ ⟨0, Nat.zero_le _, rfl, rfl⟩ ?_
        ·
          refine Wk.of [0, 43000, 45000, 77000] ?_ ?_ ?_ (by decide) rfl
          ·
            refine WkE.upd rfl (by first | exact VR.flat _ rfl | exact VR.eqv (vp_succ _) rfl | exact VR.eqv (vp_succ _).symm rfl | exact VR.eqv (by first | rfl | (congr 1; omega) | (simp; done) | (simp; omega)) rfl) ?_
            refine WkE.upd rfl (by first | exact VR.flat _ rfl | exact VR.eqv (vp_succ _) rfl | exact VR.eqv (vp_succ _).symm rfl | exact VR.eqv (by first | rfl | (congr 1; omega) | (simp; done) | (simp; omega)) rfl) ?_
            refine WkE.upd rfl (.ptr (45000) 0 ⟨_, rfl⟩) ?_
            refine WkE.upd rfl (.slice (0) 0 _ 0 ⟨_, rfl⟩ (by simp) (by simp)) ?_
            exact WkE.emp
          ·
            refine WkM.flatM rfl (by first | exact two_next ⟨hbm, hm0, hml, hN⟩ | rfl) flat_vi (fun h => h) ?_
            refine WkM.ren [43000, 77000] rfl rfl rfl (dom_all rfl) (fun h => h) ?_
            refine WkM.flatM rfl (by first | rfl | assumption | simp) (fun _ => rfl) (fun h => h) ?_
            refine WkM.flatM rfl (by first | rfl | assumption | simp) (fun _ => rfl) (fun h => h) ?_
            exact WkM.emp
          ·
            repeat (refine dom_upd_mem (by decide) ?_)
            exact dom_emp
        ·
          rintro mm σ ⟨i, hinv, rfl, rfl⟩
          refine AW.seqR ?_
          first | refine AWo.pure (PureOp.ltN rfl rfl) rfl rfl ?_ | refine AWo.pure (PureOp.bin rfl rfl rfl) rfl rfl ?_
          refine AWo.nil trivial ?_
          refine AW.seq ?_
          refine AW.cond rfl (fun hb2 => ?_) (fun hb2 => ?_)
          ·
            have hi : i < 128 * mw.length := by simpa using hb2
            refine AW.skip ?_
            refine thenA_normal ?_
            refine AW.seq ?_
            refine AW.block ?_
            refine AW.region ?_
            refine AWo.pure (PureOp.move rfl) rfl rfl ?_
            refine AWo.pure (PureOp.move rfl) rfl rfl ?_
            refine AWo.pure (PureOp.move rfl) rfl rfl ?_
            refine AWo.pure (PureOp.nilCheck rfl) rfl rfl ?_
            refine AWo.pure (PureOp.fld tbok rfl rfl rfl (by decide)) rfl rfl ?_
            refine AWo.load tbok rfl rfl rfl rfl rfl rfl ?_
            refine AWo.callX (twice_ctr (a := digs 18446744073709551616 mw.length (2 ^ i % num 18446744073709551616 mw)) (c := 0) ⟨hbm, hm0, hml, hN⟩ (digs_bd (by decide) _ _) (digs_len _ _) (by rw [dnum ⟨hbm, hm0, hml, hN⟩]; exact Nat.mod_lt _ hN) (by decide)) bd120 [(45000, 0), (43000, 0), (77000, 0), (77000, 0)] [84000] rfl (.cons rfl (.cons rfl (.cons rfl .nil))) rfl (.cons rfl rfl (.cons rfl rfl (.cons rfl rfl .nil))) (.whole rfl rfl (OkL.all rfl) (by intro h; first | exact h | rfl) (.flat rfl (flatM flat_vi) (by intro h; first | exact h | rfl) (.flat rfl (flatM flat_vi) (by intro h; first | exact h | rfl) (.flat rfl (by first | exact flatM flat_vi | exact flatM flat_bool | (simp [flatV, flat_vi]; done)) (by intro h; first | exact h | rfl) .nil)))) rfl (.keep rfl (.keep rfl (.keep rfl (.keep rfl (.new (flat_map_ren (by first | exact flatM flat_vi | exact flatM flat_bool | (simp [flatV, flat_vi]; done))) (OkL.flat (by first | exact flatM flat_vi | exact flatM flat_bool | (simp [flatV, flat_vi]; done))) .nil))))) (frC rfl frN) (by decide) (.cons rfl rfl .nil) rfl rfl rfl rfl ?_
            refine AWo.pure (PureOp.nilCheck rfl) rfl rfl ?_
            refine AWo.pure (PureOp.fld tbok rfl rfl rfl (by decide)) rfl rfl ?_
            refine AWo.store1 tbok rfl rfl rfl rfl rfl (by simp) rfl rfl ?_
            refine AWo.nil trivial ?_
            refine inBlockA_normal ?_
            refine thenA_normal ?_
            refine AW.region ?_
            first | refine AWo.pure (PureOp.addI (b := 1) rfl rfl (by first | decide | omega)) rfl rfl ?_ | refine AWo.pure (PureOp.bin rfl rfl rfl) rfl rfl ?_
            refine AWo.pure (PureOp.move rfl) rfl rfl ?_
            refine AWo.nil trivial ?_
            refine thenA_normal ?_
            refine ⟨128 * mw.length - (i + 1), [(77000, 84000)], _, by omega, ?_, i + 1, by omega, rfl, rfl⟩
            refine Wk.of [0, 43000, 45000, 77000] ?_ ?_ ?_ (by decide) rfl
            ·
              refine WkE.upd rfl (by first | exact VR.flat _ rfl | exact VR.eqv (vp_succ _) rfl | exact VR.eqv (vp_succ _).symm rfl | exact VR.eqv (by first | rfl | (congr 1; omega) | (simp; done) | (simp; omega)) rfl) ?_
              refine WkE.upd rfl (by first | exact VR.flat _ rfl | exact VR.eqv (vp_succ _) rfl | exact VR.eqv (vp_succ _).symm rfl | exact VR.eqv (by first | rfl | (congr 1; omega) | (simp; done) | (simp; omega)) rfl) ?_
              refine WkE.upd rfl (.ptr (45000) 0 ⟨_, rfl⟩) ?_
              refine WkE.upd rfl (.slice (0) 0 _ 0 ⟨_, rfl⟩ (by simp) (by simp)) ?_
              exact WkE.emp
            ·
              refine WkM.flatM rfl (by first | exact two_next ⟨hbm, hm0, hml, hN⟩ | rfl) flat_vi (fun h => h) ?_
              refine WkM.ren [43000, 77000] rfl rfl rfl (dom_all rfl) (fun h => h) ?_
              refine WkM.flatM rfl (by first | rfl | assumption | simp) (fun _ => rfl) (fun h => h) ?_
              refine WkM.flatM rfl (by first | rfl | assumption | simp) (fun _ => rfl) (fun h => h) ?_
              exact WkM.emp
            ·
              repeat (refine dom_upd_mem (by decide) ?_)
              exact dom_emp
          ·
            have hi : i = 128 * mw.length := by simp at hb2; omega
            rw [show digs 18446744073709551616 mw.length (2 ^ i % num 18446744073709551616 mw) = digs 18446744073709551616 mw.length (18446744073709551616 ^ mw.length * 18446744073709551616 ^ mw.length % num 18446744073709551616 mw) from by rw [hi, two_pow]]
            refine AW.exit ?_
            refine thenA_exit ?_
            refine thenA_exit ?_
            refine inBlockA_hit ?_
            refine thenA_normal ?_
            refine AW.seqR ?_
            refine AWo.pure (PureOp.move rfl) rfl rfl ?_
            refine AWo.pure (PureOp.assign rfl) rfl rfl ?_
            refine AWo.pure (PureOp.assign rfl) rfl rfl ?_
            refine AWo.nil trivial ?_
            refine AW.ret ?_
            refine RetQ.gc [_, _] [45000, 43000, 77000] [.tmp 2, .tmp 3] (.inl rfl) rfl (.tmp rfl (.tmp rfl .nil)) rfl (.cons rfl rfl (.cons rfl rfl .nil)) (OutL.flat rfl (by first | exact flatM flat_vi | exact flatM flat_bool | (simp [flatV, flat_vi]; done)) (by intro h; first | rfl | exact h.elim id fun h => absurd h.1 (by simp)) (OutL.whole rfl rfl (OkL.all rfl) (fun _ => rfl) (OutL.flat rfl (flatM flat_vi) (fun _ => rfl) (OutL.flat rfl (flatM flat_vi) (fun _ => rfl) trivial)))) (by decide) rfl
  ·
    refine AWo.pure (PureOp.move rfl) rfl rfl ?_
    refine AWo.skipped rfl rfl ?_
    refine AWo.skipped rfl rfl ?_
    refine AWo.skipped rfl rfl ?_
    refine AWo.skipped rfl rfl ?_
    refine AWo.pure (PureOp.pickF rfl rfl) rfl rfl ?_
    refine AWo.pure (PureOp.pickF rfl rfl) rfl rfl ?_
    refine AWo.nil trivial ?_
    refine AW.condF rfl ?_
    refine AW.skip ?_
    refine thenA_normal ?_
    refine AW.seqR ?_
    refine AWo.pure (PureOp.move rfl) rfl rfl ?_
    refine AWo.callX (clone_ctr (by omega) (by omega)) bd119 [(0, 0)] [43000] rfl (.cons rfl .nil) rfl (.cons rfl rfl .nil) (.flat rfl (by first | exact flatM flat_vi | exact flatM flat_bool | (simp [flatV, flat_vi]; done)) (by intro h; first | exact h | rfl) .nil) rfl (.keep rfl (.new (flat_map_ren (by first | exact flatM flat_vi | exact flatM flat_bool | (simp [flatV, flat_vi]; done))) (OkL.flat (by first | exact flatM flat_vi | exact flatM flat_bool | (simp [flatV, flat_vi]; done))) .nil)) (frC rfl frN) (by decide) (.cons rfl rfl .nil) rfl rfl rfl rfl ?_
    refine AWo.pure ((PureOp.buildStruct [(0, .slice (some ⟨43000, 0, none⟩) mw.length 0)] pl137.choose_spec.1 zr137 (by decide) pl137.choose_spec.2 rfl rfl).mono (v' := .agg #[.slice (some ⟨43000, 0, none⟩) mw.length 0, vi .u64 0, .slice none 0 0]) rfl) rfl rfl ?_
    refine AWo.box 45000 1 [.slice (some ⟨43000, 0, none⟩) mw.length 0, vi .u64 0, .slice none 0 0] rfl rfl rfl rfl rfl ?_
    refine AWo.pure (PureOp.assign rfl) rfl rfl ?_
    refine AWo.nil trivial ?_
    refine AW.seqR ?_
    refine AWo.pure (PureOp.assign rfl) rfl rfl ?_
    refine AWo.nil trivial ?_
    refine AW.seq ?_
    refine AW.seqR ?_
    refine AWo.pure (PureOp.move rfl) rfl rfl ?_
    refine AWo.nil trivial ?_
    refine AW.block ?_
    refine AW.loopw (fun mm σ => ∃ i, (i ≤ 6) ∧ mm = 6 - i ∧ σ = ⟨(upd (upd (upd (upd emp 0 (.slice (some ⟨0, 0, none⟩) mw.length 0)) 4 (.pointer (some ⟨45000, 0, none⟩))) 5 (vi .u64 (ninv (mw.getD 0 0) i))) 45 (vi .i64 i)), (upd (upd (upd emp 0 ⟨mw.map (vi .u64), false, 1⟩) 43000 ⟨mw.map (vi .u64), true, 1⟩) 45000 ⟨[.slice (some ⟨43000, 0, none⟩) mw.length 0, vi .u64 0, .slice none 0 0], true, 1⟩)⟩) (fm := []) ?_ ⟨0, by decide, rfl, rfl⟩ ?_
    ·
      refine Wk.of [0, 43000, 45000] ?_ ?_ ?_ (by decide) rfl
      ·
        refine WkE.upd rfl (by first | exact VR.flat _ rfl | exact VR.eqv (vp_succ _) rfl | exact VR.eqv (vp_succ _).symm rfl | exact VR.eqv (by first | rfl | (congr 1; omega) | (simp; done) | (simp; omega)) rfl) ?_
        refine WkE.upd rfl (by first | exact VR.flat _ rfl | exact VR.eqv (vp_succ _) rfl | exact VR.eqv (vp_succ _).symm rfl | exact VR.eqv (by first | rfl | (congr 1; omega) | (simp; done) | (simp; omega)) rfl) ?_
        refine WkE.upd rfl (.ptr (45000) 0 ⟨_, rfl⟩) ?_
        refine WkE.upd rfl (.slice (0) 0 _ 0 ⟨_, rfl⟩ (by simp) (by simp)) ?_
        exact WkE.emp
      ·
        refine WkM.ren [43000] rfl rfl rfl (dom_all rfl) (fun h => h) ?_
        refine WkM.flatM rfl (by first | rfl | assumption | simp) (fun _ => rfl) (fun h => h) ?_
        refine WkM.flatM rfl (by first | rfl | assumption | simp) (fun _ => rfl) (fun h => h) ?_
        exact WkM.emp
      ·
        repeat (refine dom_upd_mem (by decide) ?_)
        exact dom_emp
    ·
      rintro mm σ ⟨i, hinv, rfl, rfl⟩
      have hnv := ninv_lt (mw.getD 0 0) i
      refine AW.seqR ?_
      first | refine AWo.pure (PureOp.ltN (b := 6) rfl rfl) rfl rfl ?_ | refine AWo.pure (PureOp.bin rfl rfl rfl) rfl rfl ?_
      refine AWo.nil trivial ?_
      refine AW.seq ?_
      refine AW.cond rfl (fun hb3 => ?_) (fun hb3 => ?_)
      ·
        have hi : i < 6 := by simpa using hb3
        refine AW.skip ?_
        refine thenA_normal ?_
        refine AW.seq ?_
        refine AW.block ?_
        refine AW.region ?_
        refine AWo.pure (PureOp.move rfl) rfl rfl ?_
        refine AWo.pure (PureOp.move rfl) rfl rfl ?_
        first | refine AWo.pure (PureOp.idx1 (j := 0) tbok rfl rfl rfl rfl (by first | decide | omega)) rfl rfl ?_ | refine AWo.pure (PureOp.idx (j := 0) tbok rfl rfl rfl rfl (by first | decide | omega)) rfl rfl ?_
        refine AWo.loadM tbok 0 rfl rfl rfl (by omega) rfl rfl ?_
        refine AWo.pure (PureOp.move rfl) rfl rfl ?_
        first | refine AWo.pure (PureOp.mulU 18446744073709551616 rfl rfl rfl rfl) rfl rfl ?_ | refine AWo.pure (PureOp.bin rfl rfl rfl) rfl rfl ?_
        first | refine AWo.pure ((PureOp.subU (a := 2) 18446744073709551616 rfl rfl rfl rfl (by first | decide | omega)).mono (v' := vi .u64 ((2 + (18446744073709551616 - mw.getD 0 0 * ninv (mw.getD 0 0) i % 18446744073709551616)) % 18446744073709551616)) rfl) rfl rfl ?_ | refine AWo.pure ((PureOp.bin rfl rfl rfl).mono (v' := vi .u64 ((2 + (18446744073709551616 - mw.getD 0 0 * ninv (mw.getD 0 0) i % 18446744073709551616)) % 18446744073709551616)) rfl) rfl rfl ?_
        first | refine AWo.pure (PureOp.mulU 18446744073709551616 rfl rfl rfl rfl) rfl rfl ?_ | refine AWo.pure (PureOp.bin rfl rfl rfl) rfl rfl ?_
        refine AWo.pure (PureOp.assign rfl) rfl rfl ?_
        refine AWo.nil trivial ?_
        refine inBlockA_normal ?_
        refine thenA_normal ?_
        refine AW.region ?_
        first | refine AWo.pure (PureOp.addI (b := 1) rfl rfl (by first | decide | omega)) rfl rfl ?_ | refine AWo.pure (PureOp.bin rfl rfl rfl) rfl rfl ?_
        refine AWo.pure (PureOp.move rfl) rfl rfl ?_
        refine AWo.nil trivial ?_
        refine thenA_normal ?_
        refine ⟨6 - (i + 1), [], _, by omega, ?_, i + 1, by omega, rfl, rfl⟩
        refine Wk.of [0, 43000, 45000] ?_ ?_ ?_ (by decide) rfl
        ·
          refine WkE.upd rfl (by first | exact VR.flat _ rfl | exact VR.eqv (vp_succ _) rfl | exact VR.eqv (vp_succ _).symm rfl | exact VR.eqv (by first | rfl | (congr 1; omega) | (simp; done) | (simp; omega)) rfl) ?_
          refine WkE.upd rfl (by first | exact VR.flat _ rfl | exact VR.eqv (vp_succ _) rfl | exact VR.eqv (vp_succ _).symm rfl | exact VR.eqv (by first | rfl | (congr 1; omega) | (simp; done) | (simp; omega)) rfl) ?_
          refine WkE.upd rfl (.ptr (45000) 0 ⟨_, rfl⟩) ?_
          refine WkE.upd rfl (.slice (0) 0 _ 0 ⟨_, rfl⟩ (by simp) (by simp)) ?_
          exact WkE.emp
        ·
          refine WkM.ren [43000] rfl rfl rfl (dom_all rfl) (fun h => h) ?_
          refine WkM.flatM rfl (by first | rfl | assumption | simp) (fun _ => rfl) (fun h => h) ?_
          refine WkM.flatM rfl (by first | rfl | assumption | simp) (fun _ => rfl) (fun h => h) ?_
          exact WkM.emp
        ·
          repeat (refine dom_upd_mem (by decide) ?_)
          exact dom_emp
      ·
        obtain rfl : i = 6 := by simp at hb3; omega
        have hnv := ninv_lt (mw.getD 0 0) 6
        refine AW.exit ?_
        refine thenA_exit ?_
        refine thenA_exit ?_
        refine inBlockA_hit ?_
        refine thenA_normal ?_
        refine AW.seqR ?_
        refine AWo.pure (PureOp.move rfl) rfl rfl ?_
        refine AWo.pure (PureOp.move rfl) rfl rfl ?_
        first | refine AWo.pure ((PureOp.negU 18446744073709551616 rfl rfl rfl (by first | decide | omega)).mono (v' := vi .u64 (ninvR (mw.getD 0 0))) rfl) rfl rfl ?_
        refine AWo.pure (PureOp.nilCheck rfl) rfl rfl ?_
        refine AWo.pure (PureOp.fld tbok rfl rfl rfl (by decide)) rfl rfl ?_
        refine AWo.store1 tbok rfl rfl rfl rfl rfl (by simp) rfl rfl ?_
        refine AWo.nil trivial ?_
        refine AW.seqR ?_
        refine AWo.pure (PureOp.move rfl) rfl rfl ?_
        refine AWo.pure (PureOp.move rfl) rfl rfl ?_
        refine AWo.pure (PureOp.lenS tbok rfl rfl) rfl rfl ?_
        refine AWo.makeI tbok 65000 rfl rfl rfl rfl rfl rfl (by first | decide | omega) (by first | decide | omega) rfl rfl rfl ?_
        refine AWo.pure (PureOp.nilCheck rfl) rfl rfl ?_
        refine AWo.pure (PureOp.fld tbok rfl rfl rfl (by decide)) rfl rfl ?_
        refine AWo.store1 tbok rfl rfl rfl rfl rfl (by simp) rfl rfl ?_
        refine AWo.nil trivial ?_
        refine AW.seqR ?_
        refine AWo.pure (PureOp.move rfl) rfl rfl ?_
        refine AWo.pure (PureOp.nilCheck rfl) rfl rfl ?_
        refine AWo.pure (PureOp.fld tbok rfl rfl rfl (by decide)) rfl rfl ?_
        refine AWo.load tbok rfl rfl rfl rfl rfl rfl ?_
        first | refine AWo.pure (PureOp.idx1 (j := 0) tbok rfl rfl rfl rfl (by first | decide | omega)) rfl rfl ?_ | refine AWo.pure (PureOp.idx (j := 0) tbok rfl rfl rfl rfl (by first | decide | omega)) rfl rfl ?_
        refine AWo.storeM (f := (vi .u64)) (y := 1) tbok rfl rfl rfl rfl (by simp; omega) rfl rfl ?_
        refine AWo.nil trivial ?_
        refine AW.seq ?_
        rw [show (List.replicate mw.length 0).set 0 1 = digs 18446744073709551616 mw.length (2 ^ 0 % num 18446744073709551616 mw) from one_digs hbm (by omega) hN1]
        refine AW.seqR ?_
        refine AWo.pure (PureOp.move rfl) rfl rfl ?_
        refine AWo.pure (PureOp.lenS tbok rfl rfl) rfl rfl ?_
        refine AWo.pure (PureOp.mulI (a := 128) rfl rfl (by omega)) rfl rfl ?_
        refine AWo.pure (PureOp.move rfl) rfl rfl ?_
        refine AWo.nil trivial ?_
        refine AW.block ?_
        refine AW.loopw (fun mm σ => ∃ i, (i ≤ 128 * mw.length) ∧ mm = 128 * mw.length - i ∧ σ = ⟨(upd (upd (upd (upd emp 0 (.slice (some ⟨0, 0, none⟩) mw.length 0)) 4 (.pointer (some ⟨45000, 0, none⟩))) 74 (vi .i64 (128 * mw.length))) 75 (vi .i64 i)), (upd (upd (upd (upd emp 0 ⟨mw.map (vi .u64), false, 1⟩) 43000 ⟨mw.map (vi .u64), true, 1⟩) 45000 ⟨[.slice (some ⟨43000, 0, none⟩) mw.length 0, vi .u64 (ninvR (mw.getD 0 0)), .slice (some ⟨77000, 0, none⟩) mw.length 0], true, 1⟩) 77000 ⟨(digs 18446744073709551616 mw.length (2 ^ i % num 18446744073709551616 mw)).map (vi .u64), true, 1⟩)⟩) (fm := [(77000, 65000)]) ?_ ⟨0, Nat.zero_le _, rfl, rfl⟩ ?_
        ·
          refine Wk.of [0, 43000, 45000, 77000] ?_ ?_ ?_ (by decide) rfl
          ·
            refine WkE.upd rfl (by first | exact VR.flat _ rfl | exact VR.eqv (vp_succ _) rfl | exact VR.eqv (vp_succ _).symm rfl | exact VR.eqv (by first | rfl | (congr 1; omega) | (simp; done) | (simp; omega)) rfl) ?_
            refine WkE.upd rfl (by first | exact VR.flat _ rfl | exact VR.eqv (vp_succ _) rfl | exact VR.eqv (vp_succ _).symm rfl | exact VR.eqv (by first | rfl | (congr 1; omega) | (simp; done) | (simp; omega)) rfl) ?_
            refine WkE.upd rfl (.ptr (45000) 0 ⟨_, rfl⟩) ?_
            refine WkE.upd rfl (.slice (0) 0 _ 0 ⟨_, rfl⟩ (by simp) (by simp)) ?_
            exact WkE.emp
          ·
            refine WkM.flatM rfl (by first | exact two_next ⟨hbm, hm0, hml, hN⟩ | rfl) flat_vi (fun h => h) ?_
            refine WkM.ren [43000, 77000] rfl rfl rfl (dom_all rfl) (fun h => h) ?_
            refine WkM.flatM rfl (by first | rfl | assumption | simp) (fun _ => rfl) (fun h => h) ?_
            refine WkM.flatM rfl (by first | rfl | assumption | simp) (fun _ => rfl) (fun h => h) ?_
            exact WkM.emp
          ·
            repeat (refine dom_upd_mem (by decide) ?_)
            exact dom_emp
        ·
          rintro mm σ ⟨i, hinv, rfl, rfl⟩
          refine AW.seqR ?_
          first | refine AWo.pure (PureOp.ltN rfl rfl) rfl rfl ?_ | refine AWo.pure (PureOp.bin rfl rfl rfl) rfl rfl ?_
          refine AWo.nil trivial ?_
          refine AW.seq ?_
          refine AW.cond rfl (fun hb4 => ?_) (fun hb4 => ?_)
          ·
            have hi : i < 128 * mw.length := by simpa using hb4
            refine AW.skip ?_
            refine thenA_normal ?_
            refine AW.seq ?_
            refine AW.block ?_
            refine AW.region ?_
            refine AWo.pure (PureOp.move rfl) rfl rfl ?_
            refine AWo.pure (PureOp.move rfl) rfl rfl ?_
            refine AWo.pure (PureOp.move rfl) rfl rfl ?_
            refine AWo.pure (PureOp.nilCheck rfl) rfl rfl ?_
            refine AWo.pure (PureOp.fld tbok rfl rfl rfl (by decide)) rfl rfl ?_
            refine AWo.load tbok rfl rfl rfl rfl rfl rfl ?_
            refine AWo.callX (twice_ctr (a := digs 18446744073709551616 mw.length (2 ^ i % num 18446744073709551616 mw)) (c := 0) ⟨hbm, hm0, hml, hN⟩ (digs_bd (by decide) _ _) (digs_len _ _) (by rw [dnum ⟨hbm, hm0, hml, hN⟩]; exact Nat.mod_lt _ hN) (by decide)) bd120 [(45000, 0), (43000, 0), (77000, 0), (77000, 0)] [84000] rfl (.cons rfl (.cons rfl (.cons rfl .nil))) rfl (.cons rfl rfl (.cons rfl rfl (.cons rfl rfl .nil))) (.whole rfl rfl (OkL.all rfl) (by intro h; first | exact h | rfl) (.flat rfl (flatM flat_vi) (by intro h; first | exact h | rfl) (.flat rfl (flatM flat_vi) (by intro h; first | exact h | rfl) (.flat rfl (by first | exact flatM flat_vi | exact flatM flat_bool | (simp [flatV, flat_vi]; done)) (by intro h; first | exact h | rfl) .nil)))) rfl (.keep rfl (.keep rfl (.keep rfl (.keep rfl (.new (flat_map_ren (by first | exact flatM flat_vi | exact flatM flat_bool | (simp [flatV, flat_vi]; done))) (OkL.flat (by first | exact flatM flat_vi | exact flatM flat_bool | (simp [flatV, flat_vi]; done))) .nil))))) (frC rfl frN) (by decide) (.cons rfl rfl .nil) rfl rfl rfl rfl ?_
            refine AWo.pure (PureOp.nilCheck rfl) rfl rfl ?_
            refine AWo.pure (PureOp.fld tbok rfl rfl rfl (by decide)) rfl rfl ?_
            refine AWo.store1 tbok rfl rfl rfl rfl rfl (by simp) rfl rfl ?_
            refine AWo.nil trivial ?_
            refine inBlockA_normal ?_
            refine thenA_normal ?_
            refine AW.region ?_
            first | refine AWo.pure (PureOp.addI (b := 1) rfl rfl (by first | decide | omega)) rfl rfl ?_ | refine AWo.pure (PureOp.bin rfl rfl rfl) rfl rfl ?_
            refine AWo.pure (PureOp.move rfl) rfl rfl ?_
            refine AWo.nil trivial ?_
            refine thenA_normal ?_
            refine ⟨128 * mw.length - (i + 1), [(77000, 84000)], _, by omega, ?_, i + 1, by omega, rfl, rfl⟩
            refine Wk.of [0, 43000, 45000, 77000] ?_ ?_ ?_ (by decide) rfl
            ·
              refine WkE.upd rfl (by first | exact VR.flat _ rfl | exact VR.eqv (vp_succ _) rfl | exact VR.eqv (vp_succ _).symm rfl | exact VR.eqv (by first | rfl | (congr 1; omega) | (simp; done) | (simp; omega)) rfl) ?_
              refine WkE.upd rfl (by first | exact VR.flat _ rfl | exact VR.eqv (vp_succ _) rfl | exact VR.eqv (vp_succ _).symm rfl | exact VR.eqv (by first | rfl | (congr 1; omega) | (simp; done) | (simp; omega)) rfl) ?_
              refine WkE.upd rfl (.ptr (45000) 0 ⟨_, rfl⟩) ?_
              refine WkE.upd rfl (.slice (0) 0 _ 0 ⟨_, rfl⟩ (by simp) (by simp)) ?_
              exact WkE.emp
            ·
              refine WkM.flatM rfl (by first | exact two_next ⟨hbm, hm0, hml, hN⟩ | rfl) flat_vi (fun h => h) ?_
              refine WkM.ren [43000, 77000] rfl rfl rfl (dom_all rfl) (fun h => h) ?_
              refine WkM.flatM rfl (by first | rfl | assumption | simp) (fun _ => rfl) (fun h => h) ?_
              refine WkM.flatM rfl (by first | rfl | assumption | simp) (fun _ => rfl) (fun h => h) ?_
              exact WkM.emp
            ·
              repeat (refine dom_upd_mem (by decide) ?_)
              exact dom_emp
          ·
            have hi : i = 128 * mw.length := by simp at hb4; omega
            rw [show digs 18446744073709551616 mw.length (2 ^ i % num 18446744073709551616 mw) = digs 18446744073709551616 mw.length (18446744073709551616 ^ mw.length * 18446744073709551616 ^ mw.length % num 18446744073709551616 mw) from by rw [hi, two_pow]]
            refine AW.exit ?_
            refine thenA_exit ?_
            refine thenA_exit ?_
            refine inBlockA_hit ?_
            refine thenA_normal ?_
            refine AW.seqR ?_
            refine AWo.pure (PureOp.move rfl) rfl rfl ?_
            refine AWo.pure (PureOp.assign rfl) rfl rfl ?_
            refine AWo.pure (PureOp.assign rfl) rfl rfl ?_
            refine AWo.nil trivial ?_
            refine AW.ret ?_
            refine RetQ.gc [_, _] [45000, 43000, 77000] [.tmp 2, .tmp 3] (.inl rfl) rfl (.tmp rfl (.tmp rfl .nil)) rfl (.cons rfl rfl (.cons rfl rfl .nil)) (OutL.flat rfl (by first | exact flatM flat_vi | exact flatM flat_bool | (simp [flatV, flat_vi]; done)) (by intro h; first | rfl | exact h.elim id fun h => absurd h.1 (by simp)) (OutL.whole rfl rfl (OkL.all rfl) (fun _ => rfl) (OutL.flat rfl (flatM flat_vi) (fun _ => rfl) (OutL.flat rfl (flatM flat_vi) (fun _ => rfl) trivial)))) (by decide) rfl

set_option maxRecDepth 10000 in
theorem lnewbad_ctr {mw : List Nat} (hbm : bd 18446744073709551616 mw) (hl : mw.length < 1000000) (hbad : ¬ (1 ≤ mw.length ∧ mw.length ≤ 16 ∧ mw.getD 0 0 % 2 = 1 ∧ mw.getD (mw.length - 1) 0 ≠ 0 ∧ ¬ (mw.length = 1 ∧ mw.getD 0 0 = 1))) : GC Try.prog 52 [.slice (some ⟨0, 0, none⟩) mw.length 0] [⟨mw.map (vi .u64), false, 1⟩] [.pointer none, .int .i64 1] [⟨mw.map (vi .u64), false, 1⟩] := by
  refine GC.intro Try.func52 rfl (by show 1 ≤ 88; decide) (by first | exact Nat.le_refl _ | decide | simp) ?_
  have hx0 := bd_getD hbm (by decide) 0
  refine AW.seqR ?_
  refine AWo.pure (PureOp.assign rfl) rfl rfl ?_
  refine AWo.pure (PureOp.assign rfl) rfl rfl ?_
  refine AWo.nil trivial ?_
  refine AW.seq ?_
  refine AW.seqR ?_
  refine AWo.pure (PureOp.move rfl) rfl rfl ?_
  refine AWo.pure (PureOp.lenS tbok rfl rfl) rfl rfl ?_
  first | refine AWo.pureB (PureOp.ltN (b := 1) rfl rfl) rfl rfl (fun hb0 => ?_) (fun hb0 => ?_) | refine AWo.pureB (PureOp.bin rfl rfl rfl) rfl rfl (fun hb0 => ?_) (fun hb0 => ?_)
  ·
    have q1 : mw.length < 1 := by simpa using hb0
    refine AWo.pure (PureOp.move rfl) rfl rfl ?_
    refine AWo.skipped rfl rfl ?_
    refine AWo.skipped rfl rfl ?_
    refine AWo.skipped rfl rfl ?_
    refine AWo.pure (PureOp.pickT rfl rfl) rfl rfl ?_
    refine AWo.pure (PureOp.move rfl) rfl rfl ?_
    refine AWo.skipped rfl rfl ?_
    refine AWo.skipped rfl rfl ?_
    refine AWo.skipped rfl rfl ?_
    refine AWo.skipped rfl rfl ?_
    refine AWo.skipped rfl rfl ?_
    refine AWo.pure (PureOp.pickT rfl rfl) rfl rfl ?_
    refine AWo.pure (PureOp.move rfl) rfl rfl ?_
    refine AWo.skipped rfl rfl ?_
    refine AWo.skipped rfl rfl ?_
    refine AWo.skipped rfl rfl ?_
    refine AWo.skipped rfl rfl ?_
    refine AWo.skipped rfl rfl ?_
    refine AWo.skipped rfl rfl ?_
    refine AWo.skipped rfl rfl ?_
    refine AWo.pure (PureOp.pickT rfl rfl) rfl rfl ?_
    refine AWo.pure (PureOp.move rfl) rfl rfl ?_
    refine AWo.skipped rfl rfl ?_
    refine AWo.skipped rfl rfl ?_
    refine AWo.skipped rfl rfl ?_
    refine AWo.skipped rfl rfl ?_
    refine AWo.skipped rfl rfl ?_
    refine AWo.skipped rfl rfl ?_
    refine AWo.skipped rfl rfl ?_
    refine AWo.skipped rfl rfl ?_
    refine AWo.skipped rfl rfl ?_
    refine AWo.pure (PureOp.pickT rfl rfl) rfl rfl ?_
    refine AWo.nil trivial ?_
    refine AW.condT rfl ?_
    refine AW.seqR ?_
    refine AWo.pure (PureOp.assign rfl) rfl rfl ?_
    refine AWo.pure (PureOp.assign rfl) rfl rfl ?_
    refine AWo.nil trivial ?_
    refine AW.ret ?_
    refine thenA_ret ?_
    refine RetQ.gc [_, _] [] [.tmp 2, .tmp 3] (.inl rfl) rfl (.tmp rfl (.tmp rfl .nil)) rfl (.cons rfl rfl (.cons rfl rfl .nil)) (OutL.flat rfl (by first | exact flatM flat_vi | exact flatM flat_bool | (simp [flatV, flat_vi]; done)) (by intro h; first | rfl | exact h.elim id fun h => absurd h.1 (by simp)) trivial) (by decide) rfl
  ·
    have q1 : ¬ mw.length < 1 := by simpa using hb0
    refine AWo.pure (PureOp.move rfl) rfl rfl ?_
    refine AWo.pure (PureOp.move rfl) rfl rfl ?_
    refine AWo.pure (PureOp.lenS tbok rfl rfl) rfl rfl ?_
    first | refine AWo.pureB (PureOp.gtN (b := 16) rfl rfl) rfl rfl (fun hb1 => ?_) (fun hb1 => ?_) | refine AWo.pureB (PureOp.bin rfl rfl rfl) rfl rfl (fun hb1 => ?_) (fun hb1 => ?_)
    ·
      refine AWo.pure (PureOp.pickF rfl rfl) rfl rfl ?_
      refine AWo.pure (PureOp.move rfl) rfl rfl ?_
      refine AWo.skipped rfl rfl ?_
      refine AWo.skipped rfl rfl ?_
      refine AWo.skipped rfl rfl ?_
      refine AWo.skipped rfl rfl ?_
      refine AWo.skipped rfl rfl ?_
      refine AWo.pure (PureOp.pickT rfl rfl) rfl rfl ?_
      refine AWo.pure (PureOp.move rfl) rfl rfl ?_
      refine AWo.skipped rfl rfl ?_
      refine AWo.skipped rfl rfl ?_
      refine AWo.skipped rfl rfl ?_
      refine AWo.skipped rfl rfl ?_
      refine AWo.skipped rfl rfl ?_
      refine AWo.skipped rfl rfl ?_
      refine AWo.skipped rfl rfl ?_
      refine AWo.pure (PureOp.pickT rfl rfl) rfl rfl ?_
      refine AWo.pure (PureOp.move rfl) rfl rfl ?_
      refine AWo.skipped rfl rfl ?_
      refine AWo.skipped rfl rfl ?_
      refine AWo.skipped rfl rfl ?_
      refine AWo.skipped rfl rfl ?_
      refine AWo.skipped rfl rfl ?_
      refine AWo.skipped rfl rfl ?_
      refine AWo.skipped rfl rfl ?_
      refine AWo.skipped rfl rfl ?_
      refine AWo.skipped rfl rfl ?_
      refine AWo.pure (PureOp.pickT rfl rfl) rfl rfl ?_
      refine AWo.nil trivial ?_
      refine AW.condT rfl ?_
      refine AW.seqR ?_
      refine AWo.pure (PureOp.assign rfl) rfl rfl ?_
      refine AWo.pure (PureOp.assign rfl) rfl rfl ?_
      refine AWo.nil trivial ?_
      refine AW.ret ?_
      refine thenA_ret ?_
      refine RetQ.gc [_, _] [] [.tmp 2, .tmp 3] (.inl rfl) rfl (.tmp rfl (.tmp rfl .nil)) rfl (.cons rfl rfl (.cons rfl rfl .nil)) (OutL.flat rfl (by first | exact flatM flat_vi | exact flatM flat_bool | (simp [flatV, flat_vi]; done)) (by intro h; first | rfl | exact h.elim id fun h => absurd h.1 (by simp)) trivial) (by decide) rfl
    ·
      have q2 : ¬ 16 < mw.length := by simpa using hb1
      refine AWo.pure (PureOp.pickF rfl rfl) rfl rfl ?_
      refine AWo.pure (PureOp.move rfl) rfl rfl ?_
      refine AWo.pure (PureOp.move rfl) rfl rfl ?_
      first | refine AWo.pure (PureOp.idx1 (j := 0) tbok rfl rfl rfl rfl (by first | decide | omega)) rfl rfl ?_ | refine AWo.pure (PureOp.idx (j := 0) tbok rfl rfl rfl rfl (by first | decide | omega)) rfl rfl ?_
      refine AWo.loadM tbok 0 rfl rfl rfl (by omega) rfl rfl ?_
      refine AWo.pure ((PureOp.andN 18446744073709551616 rfl rfl (by decide) (by decide) hx0 (by decide)).mono (v' := vi .u64 (mw.getD 0 0 % 2)) (congrArg (vi .u64) (Nat.and_one_is_mod _))) rfl rfl ?_
      first | refine AWo.pureB (PureOp.eqN (b := 0) rfl rfl) rfl rfl (fun hb2 => ?_) (fun hb2 => ?_) | refine AWo.pureB (PureOp.bin rfl rfl rfl) rfl rfl (fun hb2 => ?_) (fun hb2 => ?_)
      ·
        refine AWo.pure (PureOp.pickF rfl rfl) rfl rfl ?_
        refine AWo.pure (PureOp.move rfl) rfl rfl ?_
        refine AWo.skipped rfl rfl ?_
        refine AWo.skipped rfl rfl ?_
        refine AWo.skipped rfl rfl ?_
        refine AWo.skipped rfl rfl ?_
        refine AWo.skipped rfl rfl ?_
        refine AWo.skipped rfl rfl ?_
        refine AWo.skipped rfl rfl ?_
        refine AWo.pure (PureOp.pickT rfl rfl) rfl rfl ?_
        refine AWo.pure (PureOp.move rfl) rfl rfl ?_
        refine AWo.skipped rfl rfl ?_
        refine AWo.skipped rfl rfl ?_
        refine AWo.skipped rfl rfl ?_
        refine AWo.skipped rfl rfl ?_
        refine AWo.skipped rfl rfl ?_
        refine AWo.skipped rfl rfl ?_
        refine AWo.skipped rfl rfl ?_
        refine AWo.skipped rfl rfl ?_
        refine AWo.skipped rfl rfl ?_
        refine AWo.pure (PureOp.pickT rfl rfl) rfl rfl ?_
        refine AWo.nil trivial ?_
        refine AW.condT rfl ?_
        refine AW.seqR ?_
        refine AWo.pure (PureOp.assign rfl) rfl rfl ?_
        refine AWo.pure (PureOp.assign rfl) rfl rfl ?_
        refine AWo.nil trivial ?_
        refine AW.ret ?_
        refine thenA_ret ?_
        refine RetQ.gc [_, _] [] [.tmp 2, .tmp 3] (.inl rfl) rfl (.tmp rfl (.tmp rfl .nil)) rfl (.cons rfl rfl (.cons rfl rfl .nil)) (OutL.flat rfl (by first | exact flatM flat_vi | exact flatM flat_bool | (simp [flatV, flat_vi]; done)) (by intro h; first | rfl | exact h.elim id fun h => absurd h.1 (by simp)) trivial) (by decide) rfl
      ·
        have q3 : ¬ mw.getD 0 0 % 2 = 0 := by simpa using hb2
        refine AWo.pure (PureOp.pickF rfl rfl) rfl rfl ?_
        refine AWo.pure (PureOp.move rfl) rfl rfl ?_
        refine AWo.pure (PureOp.move rfl) rfl rfl ?_
        refine AWo.pure (PureOp.move rfl) rfl rfl ?_
        refine AWo.pure (PureOp.lenS tbok rfl rfl) rfl rfl ?_
        first | refine AWo.pure (PureOp.subI (b := 1) rfl rfl (by first | decide | omega) (by first | decide | omega)) rfl rfl ?_ | refine AWo.pure (PureOp.subP rfl rfl (by first | decide | omega)) rfl rfl ?_ | refine AWo.pure (PureOp.bin rfl rfl rfl) rfl rfl ?_
        first | refine AWo.pure (PureOp.idx1 tbok rfl rfl rfl rfl (by first | decide | omega)) rfl rfl ?_ | refine AWo.pure (PureOp.idx tbok rfl rfl rfl rfl (by first | decide | omega)) rfl rfl ?_
        refine AWo.loadM tbok 0 rfl rfl rfl (by omega) rfl rfl ?_
        first | refine AWo.pureB (PureOp.eqN (b := 0) rfl rfl) rfl rfl (fun hb3 => ?_) (fun hb3 => ?_) | refine AWo.pureB (PureOp.bin rfl rfl rfl) rfl rfl (fun hb3 => ?_) (fun hb3 => ?_)
        ·
          refine AWo.pure (PureOp.pickF rfl rfl) rfl rfl ?_
          refine AWo.pure (PureOp.move rfl) rfl rfl ?_
          refine AWo.skipped rfl rfl ?_
          refine AWo.skipped rfl rfl ?_
          refine AWo.skipped rfl rfl ?_
          refine AWo.skipped rfl rfl ?_
          refine AWo.skipped rfl rfl ?_
          refine AWo.skipped rfl rfl ?_
          refine AWo.skipped rfl rfl ?_
          refine AWo.skipped rfl rfl ?_
          refine AWo.skipped rfl rfl ?_
          refine AWo.pure (PureOp.pickT rfl rfl) rfl rfl ?_
          refine AWo.nil trivial ?_
          refine AW.condT rfl ?_
          refine AW.seqR ?_
          refine AWo.pure (PureOp.assign rfl) rfl rfl ?_
          refine AWo.pure (PureOp.assign rfl) rfl rfl ?_
          refine AWo.nil trivial ?_
          refine AW.ret ?_
          refine thenA_ret ?_
          refine RetQ.gc [_, _] [] [.tmp 2, .tmp 3] (.inl rfl) rfl (.tmp rfl (.tmp rfl .nil)) rfl (.cons rfl rfl (.cons rfl rfl .nil)) (OutL.flat rfl (by first | exact flatM flat_vi | exact flatM flat_bool | (simp [flatV, flat_vi]; done)) (by intro h; first | rfl | exact h.elim id fun h => absurd h.1 (by simp)) trivial) (by decide) rfl
        ·
          have q4 : ¬ mw.getD (mw.length - 1) 0 = 0 := by simpa using hb3
          refine AWo.pure (PureOp.pickF rfl rfl) rfl rfl ?_
          refine AWo.pure (PureOp.move rfl) rfl rfl ?_
          refine AWo.pure (PureOp.move rfl) rfl rfl ?_
          refine AWo.pure (PureOp.lenS tbok rfl rfl) rfl rfl ?_
          first | refine AWo.pureB (PureOp.eqN (b := 1) rfl rfl) rfl rfl (fun hb4 => ?_) (fun hb4 => ?_) | refine AWo.pureB (PureOp.bin rfl rfl rfl) rfl rfl (fun hb4 => ?_) (fun hb4 => ?_)
          ·
            have q5 : mw.length = 1 := by simpa using hb4
            refine AWo.pure (PureOp.move rfl) rfl rfl ?_
            refine AWo.pure (PureOp.move rfl) rfl rfl ?_
            first | refine AWo.pure (PureOp.idx1 (j := 0) tbok rfl rfl rfl rfl (by first | decide | omega)) rfl rfl ?_ | refine AWo.pure (PureOp.idx (j := 0) tbok rfl rfl rfl rfl (by first | decide | omega)) rfl rfl ?_
            refine AWo.loadM tbok 0 rfl rfl rfl (by omega) rfl rfl ?_
            first | refine AWo.pureB (PureOp.eqN (b := 1) rfl rfl) rfl rfl (fun hb5 => ?_) (fun hb5 => ?_) | refine AWo.pureB (PureOp.bin rfl rfl rfl) rfl rfl (fun hb5 => ?_) (fun hb5 => ?_)
            ·
              refine AWo.pure (PureOp.pickT rfl rfl) rfl rfl ?_
              refine AWo.pure (PureOp.pickF rfl rfl) rfl rfl ?_
              refine AWo.nil trivial ?_
              refine AW.condT rfl ?_
              refine AW.seqR ?_
              refine AWo.pure (PureOp.assign rfl) rfl rfl ?_
              refine AWo.pure (PureOp.assign rfl) rfl rfl ?_
              refine AWo.nil trivial ?_
              refine AW.ret ?_
              refine thenA_ret ?_
              refine RetQ.gc [_, _] [] [.tmp 2, .tmp 3] (.inl rfl) rfl (.tmp rfl (.tmp rfl .nil)) rfl (.cons rfl rfl (.cons rfl rfl .nil)) (OutL.flat rfl (by first | exact flatM flat_vi | exact flatM flat_bool | (simp [flatV, flat_vi]; done)) (by intro h; first | rfl | exact h.elim id fun h => absurd h.1 (by simp)) trivial) (by decide) rfl
            ·
              have q6 : ¬ mw.getD 0 0 = 1 := by simpa using hb5
              exact absurd ⟨by omega, by omega, by omega, q4, fun e => q6 e.2⟩ hbad
          ·
            have q5 : ¬ mw.length = 1 := by simpa using hb4
            exact absurd ⟨by omega, by omega, by omega, q4, fun e => q5 e.1⟩ hbad

set_option maxRecDepth 10000 in
theorem mlen_ctr {mw sq : List Nat} {iv ns : Nat} : GC Try.prog 68 [.pointer (some ⟨0, 0, none⟩)] [⟨[.slice (some ⟨1, 0, none⟩) mw.length 0, vi .u64 iv, .slice (some ⟨2, 0, none⟩) ns 0], false, 1⟩, ⟨(mw).map (vi .u64), false, 1⟩, ⟨(sq).map (vi .u64), false, 1⟩] [vi .i64 (mw.length)] [⟨[.slice (some ⟨1, 0, none⟩) mw.length 0, vi .u64 iv, .slice (some ⟨2, 0, none⟩) ns 0], false, 1⟩, ⟨(mw).map (vi .u64), false, 1⟩, ⟨(sq).map (vi .u64), false, 1⟩] := by
  refine GC.intro Try.func68 rfl (by show 1 ≤ 8; decide) (by first | exact Nat.le_refl _ | decide | simp) ?_
  refine AW.seqR ?_
  refine AWo.pure (PureOp.assign rfl) rfl rfl ?_
  refine AWo.nil trivial ?_
  refine AW.seqR ?_
  refine AWo.pure (PureOp.move rfl) rfl rfl ?_
  refine AWo.pure (PureOp.nilCheck rfl) rfl rfl ?_
  refine AWo.pure (PureOp.fld tbok rfl rfl rfl (by decide)) rfl rfl ?_
  refine AWo.load tbok rfl rfl rfl rfl rfl rfl ?_
  refine AWo.pure (PureOp.lenS tbok rfl rfl) rfl rfl ?_
  refine AWo.pure (PureOp.assign rfl) rfl rfl ?_
  refine AWo.nil trivial ?_
  refine AW.ret ?_
  refine RetQ.gc [_] [] [.tmp 2] (.inl rfl) rfl (.tmp rfl .nil) rfl (.cons rfl rfl .nil) (OutL.whole rfl rfl (OkL.all rfl) (by intro h; first | rfl | exact h.elim id fun h => absurd h.1 (by simp)) (OutL.flat rfl (flatM flat_vi) (by intro h; first | rfl | exact h.elim id fun h => absurd h.1 (by simp)) (OutL.flat rfl (flatM flat_vi) (by intro h; first | rfl | exact h.elim id fun h => absurd h.1 (by simp)) trivial))) (by decide) rfl

set_option maxRecDepth 10000 in
theorem mwords_ctr {mw sq : List Nat} {iv ns : Nat} (h0 : 0 < mw.length) (hl : mw.length ≤ 1000) : GC Try.prog 69 [.pointer (some ⟨0, 0, none⟩)] [⟨[.slice (some ⟨1, 0, none⟩) mw.length 0, vi .u64 iv, .slice (some ⟨2, 0, none⟩) ns 0], false, 1⟩, ⟨(mw).map (vi .u64), false, 1⟩, ⟨(sq).map (vi .u64), false, 1⟩] [.slice (some ⟨3, 0, none⟩) mw.length 0] [⟨[.slice (some ⟨1, 0, none⟩) mw.length 0, vi .u64 iv, .slice (some ⟨2, 0, none⟩) ns 0], false, 1⟩, ⟨(mw).map (vi .u64), false, 1⟩, ⟨(sq).map (vi .u64), false, 1⟩, ⟨mw.map (vi .u64), true, 1⟩] := by
  refine GC.intro Try.func69 rfl (by show 1 ≤ 8; decide) (by first | exact Nat.le_refl _ | decide | simp) ?_
  refine AW.seqR ?_
  refine AWo.pure (PureOp.assign rfl) rfl rfl ?_
  refine AWo.nil trivial ?_
  refine AW.seqR ?_
  refine AWo.pure (PureOp.move rfl) rfl rfl ?_
  refine AWo.pure (PureOp.nilCheck rfl) rfl rfl ?_
  refine AWo.pure (PureOp.fld tbok rfl rfl rfl (by decide)) rfl rfl ?_
  refine AWo.load tbok rfl rfl rfl rfl rfl rfl ?_
  refine AWo.callX (clone_ctr h0 (by omega)) bd119 [(1, 0)] [8000] rfl (.cons rfl .nil) rfl (.cons rfl rfl .nil) (.flat rfl (by first | exact flatM flat_vi | exact flatM flat_bool | (simp [flatV, flat_vi]; done)) (by intro h; first | exact h | rfl) .nil) rfl (.keep rfl (.new (flat_map_ren (by first | exact flatM flat_vi | exact flatM flat_bool | (simp [flatV, flat_vi]; done))) (OkL.flat (by first | exact flatM flat_vi | exact flatM flat_bool | (simp [flatV, flat_vi]; done))) .nil)) (frC rfl frN) (by decide) (.cons rfl rfl .nil) rfl rfl rfl rfl ?_
  refine AWo.pure (PureOp.assign rfl) rfl rfl ?_
  refine AWo.nil trivial ?_
  refine AW.ret ?_
  refine RetQ.gc [_] [8000] [.tmp 2] (.inl rfl) rfl (.tmp rfl .nil) rfl (.cons rfl rfl .nil) (OutL.whole rfl rfl (OkL.all rfl) (by intro h; first | rfl | exact h.elim id fun h => absurd h.1 (by simp)) (OutL.flat rfl (flatM flat_vi) (by intro h; first | rfl | exact h.elim id fun h => absurd h.1 (by simp)) (OutL.flat rfl (flatM flat_vi) (by intro h; first | rfl | exact h.elim id fun h => absurd h.1 (by simp)) (OutL.flat rfl (by first | exact flatM flat_vi | exact flatM flat_bool | (simp [flatV, flat_vi]; done)) (by intro h; first | rfl | exact h.elim id fun h => absurd h.1 (by simp)) trivial)))) (by decide) rfl
end Go.Proofs.Ytiikffiembcboaa
