/- LimbPowers and LimbModulo: what they reckon. -/
import Derived.Test.YtiikffiembcboaaRef4
namespace Go.Proofs.Ytiikffiembcboaa
open Go Sim

theorem rightB_ok {a : List Nat} (h : rightB a = true) : 1 ≤ a.length ∧ a.length ≤ 16 ∧ a.getD 0 0 % 2 = 1 ∧ a.getD (a.length - 1) 0 ≠ 0 ∧ ¬ (a.length = 1 ∧ a.getD 0 0 = 1) := by
  simp only [rightB, Bool.and_eq_true, Bool.or_eq_true, decide_eq_true_eq, beq_iff_eq, bne_iff_ne] at h
  obtain ⟨⟨⟨⟨h1, h2⟩, h3⟩, h4⟩, h5⟩ := h
  refine ⟨h1, h2, h3, h4, fun h => ?_⟩
  rcases h5 with h5 | h5
  · omega
  · exact h5 h.2

theorem rightB_bad {a : List Nat} (h : rightB a = false) : ¬ (1 ≤ a.length ∧ a.length ≤ 16 ∧ a.getD 0 0 % 2 = 1 ∧ a.getD (a.length - 1) 0 ≠ 0 ∧ ¬ (a.length = 1 ∧ a.getD 0 0 = 1)) := by
  rintro ⟨h1, h2, h3, h4, h5⟩
  have : rightB a = true := by
    simp only [rightB, Bool.and_eq_true, Bool.or_eq_true, decide_eq_true_eq, beq_iff_eq, bne_iff_ne]
    refine ⟨⟨⟨⟨h1, h2⟩, h3⟩, h4⟩, ?_⟩
    rcases Nat.lt_or_ge 1 a.length with h6 | h6
    · exact .inl h6
    · exact .inr fun h7 => h5 ⟨by omega, h7⟩
  rw [this] at h
  cases h

theorem dig_room {a : List Nat} (h : bd 18446744073709551616 a) : (D 4294967296 (num 18446744073709551616 a)).length ≤ 2 * a.length := by
  refine (D_len_le (B := 4294967296) (by decide) _ _).2 ?_
  rw [Nat.pow_mul, show (4294967296 : Nat) ^ 2 = 18446744073709551616 from by decide]
  exact num_lt h

theorem len_mono {x y : Nat} (h : x ≤ y) : (D 4294967296 x).length ≤ (D 4294967296 y).length :=
  (D_len_le (B := 4294967296) (by decide) _ _).2 (Nat.lt_of_le_of_lt h ((D_len_le (B := 4294967296) (by decide) y _).1 (Nat.le_refl _)))

theorem sum_room2 {a b N : Nat} (ha : a < N) (hb : b ≤ N) : (D 4294967296 (a + b)).length ≤ (D 4294967296 N).length + 1 := by
  have h1 : N < 4294967296 ^ (D 4294967296 N).length := (D_len_le (B := 4294967296) (by decide) N _).1 (Nat.le_refl _)
  refine (D_len_le (B := 4294967296) (by decide) _ _).2 ?_
  rw [Nat.pow_succ]
  generalize 4294967296 ^ (D 4294967296 N).length = w at *
  omega
theorem sum_room {a b N : Nat} (ha : a < N) (hb : b < N) : (D 4294967296 (a + b)).length ≤ (D 4294967296 N).length + 1 := sum_room2 ha (Nat.le_of_lt hb)

set_option maxRecDepth 10000 in
theorem powers_ctr {mw a e : List Nat} (hmw : bd 18446744073709551616 mw) (ha : bd 18446744073709551616 a) (he : bd 18446744073709551616 e) : GC Try.prog 11 [.slice (some ⟨0, 0, none⟩) mw.length 0, .slice (some ⟨1, 0, none⟩) a.length 0, .slice (some ⟨2, 0, none⟩) e.length 0] [⟨mw.map (vi .u64), false, 1⟩, ⟨a.map (vi .u64), false, 1⟩, ⟨e.map (vi .u64), false, 1⟩] [.bool true] [⟨mw.map (vi .u64), false, 1⟩, ⟨a.map (vi .u64), false, 1⟩, ⟨e.map (vi .u64), false, 1⟩] := by
  refine GC.intro Try.func11 rfl (by show 3 ≤ 58; decide) (by first | exact Nat.le_refl _ | decide | simp) ?_
  refine AW.seqR ?_
  refine AWo.pure (PureOp.assign rfl) rfl rfl ?_
  refine AWo.nil trivial ?_
  refine AW.seq ?_
  refine AW.seqR ?_
  refine AWo.callX (speaks1_ctr) bd50 [] [] rfl .nil rfl .nil .nil rfl .nil frN (by decide) (.cons rfl rfl .nil) rfl rfl rfl rfl ?_
  first | refine AWo.pure ((PureOp.not rfl).mono (v' := .bool false) (congrArg Value.bool (by rfl))) rfl rfl ?_
  refine AWo.pure (PureOp.move rfl) rfl rfl ?_
  refine AWo.pure (PureOp.move rfl) rfl rfl ?_
  refine AWo.pure (PureOp.lenS tbok rfl rfl) rfl rfl ?_
  first | refine AWo.pureB (PureOp.gtN (b := 4) rfl rfl) rfl rfl (fun hb0 => ?_) (fun hb0 => ?_) | refine AWo.pureB (PureOp.bin rfl rfl rfl) rfl rfl (fun hb0 => ?_) (fun hb0 => ?_)
  ·
    refine AWo.pure (PureOp.pickF rfl rfl) rfl rfl ?_
    refine AWo.pure (PureOp.move rfl) rfl rfl ?_
    refine AWo.skipped rfl rfl ?_
    refine AWo.skipped rfl rfl ?_
    refine AWo.skipped rfl rfl ?_
    refine AWo.pure (PureOp.pickT rfl rfl) rfl rfl ?_
    refine AWo.pure (PureOp.move rfl) rfl rfl ?_
    refine AWo.skipped rfl rfl ?_
    refine AWo.skipped rfl rfl ?_
    refine AWo.skipped rfl rfl ?_
    refine AWo.pure (PureOp.pickT rfl rfl) rfl rfl ?_
    refine AWo.pure (PureOp.move rfl) rfl rfl ?_
    refine AWo.skipped rfl rfl ?_
    refine AWo.skipped rfl rfl ?_
    refine AWo.skipped rfl rfl ?_
    refine AWo.pure (PureOp.pickT rfl rfl) rfl rfl ?_
    refine AWo.nil trivial ?_
    refine AW.condT rfl ?_
    refine AW.seqR ?_
    refine AWo.callX (speaks1_ctr) bd50 [] [] rfl .nil rfl .nil .nil rfl .nil frN (by decide) (.cons rfl rfl .nil) rfl rfl rfl rfl ?_
    refine AWo.pure (PureOp.assign rfl) rfl rfl ?_
    refine AWo.nil trivial ?_
    refine AW.ret ?_
    refine thenA_ret ?_
    refine RetQ.gc [_] [] [.tmp 6] (.inl rfl) rfl (.tmp rfl .nil) rfl (.cons rfl rfl .nil) (OutL.flat rfl (flatM flat_vi) (by intro h; exact h.elim id fun h => absurd h.1 (by simp)) (OutL.flat rfl (flatM flat_vi) (by intro h; exact h.elim id fun h => absurd h.1 (by simp)) (OutL.flat rfl (flatM flat_vi) (by intro h; exact h.elim id fun h => absurd h.1 (by simp)) trivial))) (by decide) rfl
  ·
    have hlmw : mw.length ≤ 4 := by simpa using hb0
    refine AWo.pure (PureOp.pickF rfl rfl) rfl rfl ?_
    refine AWo.pure (PureOp.move rfl) rfl rfl ?_
    refine AWo.pure (PureOp.move rfl) rfl rfl ?_
    refine AWo.pure (PureOp.lenS tbok rfl rfl) rfl rfl ?_
    first | refine AWo.pureB (PureOp.gtN (b := 4) rfl rfl) rfl rfl (fun hb1 => ?_) (fun hb1 => ?_) | refine AWo.pureB (PureOp.bin rfl rfl rfl) rfl rfl (fun hb1 => ?_) (fun hb1 => ?_)
    ·
      refine AWo.pure (PureOp.pickF rfl rfl) rfl rfl ?_
      refine AWo.pure (PureOp.move rfl) rfl rfl ?_
      refine AWo.skipped rfl rfl ?_
      refine AWo.skipped rfl rfl ?_
      refine AWo.skipped rfl rfl ?_
      refine AWo.pure (PureOp.pickT rfl rfl) rfl rfl ?_
      refine AWo.pure (PureOp.move rfl) rfl rfl ?_
      refine AWo.skipped rfl rfl ?_
      refine AWo.skipped rfl rfl ?_
      refine AWo.skipped rfl rfl ?_
      refine AWo.pure (PureOp.pickT rfl rfl) rfl rfl ?_
      refine AWo.nil trivial ?_
      refine AW.condT rfl ?_
      refine AW.seqR ?_
      refine AWo.callX (speaks1_ctr) bd50 [] [] rfl .nil rfl .nil .nil rfl .nil frN (by decide) (.cons rfl rfl .nil) rfl rfl rfl rfl ?_
      refine AWo.pure (PureOp.assign rfl) rfl rfl ?_
      refine AWo.nil trivial ?_
      refine AW.ret ?_
      refine thenA_ret ?_
      refine RetQ.gc [_] [] [.tmp 6] (.inl rfl) rfl (.tmp rfl .nil) rfl (.cons rfl rfl .nil) (OutL.flat rfl (flatM flat_vi) (by intro h; exact h.elim id fun h => absurd h.1 (by simp)) (OutL.flat rfl (flatM flat_vi) (by intro h; exact h.elim id fun h => absurd h.1 (by simp)) (OutL.flat rfl (flatM flat_vi) (by intro h; exact h.elim id fun h => absurd h.1 (by simp)) trivial))) (by decide) rfl
    ·
      have hla : a.length ≤ 4 := by simpa using hb1
      refine AWo.pure (PureOp.pickF rfl rfl) rfl rfl ?_
      refine AWo.pure (PureOp.move rfl) rfl rfl ?_
      refine AWo.pure (PureOp.move rfl) rfl rfl ?_
      refine AWo.pure (PureOp.lenS tbok rfl rfl) rfl rfl ?_
      first | refine AWo.pureB (PureOp.gtN (b := 2) rfl rfl) rfl rfl (fun hb2 => ?_) (fun hb2 => ?_) | refine AWo.pureB (PureOp.bin rfl rfl rfl) rfl rfl (fun hb2 => ?_) (fun hb2 => ?_)
      ·
        refine AWo.pure (PureOp.pickF rfl rfl) rfl rfl ?_
        refine AWo.pure (PureOp.move rfl) rfl rfl ?_
        refine AWo.skipped rfl rfl ?_
        refine AWo.skipped rfl rfl ?_
        refine AWo.skipped rfl rfl ?_
        refine AWo.pure (PureOp.pickT rfl rfl) rfl rfl ?_
        refine AWo.nil trivial ?_
        refine AW.condT rfl ?_
        refine AW.seqR ?_
        refine AWo.callX (speaks1_ctr) bd50 [] [] rfl .nil rfl .nil .nil rfl .nil frN (by decide) (.cons rfl rfl .nil) rfl rfl rfl rfl ?_
        refine AWo.pure (PureOp.assign rfl) rfl rfl ?_
        refine AWo.nil trivial ?_
        refine AW.ret ?_
        refine thenA_ret ?_
        refine RetQ.gc [_] [] [.tmp 6] (.inl rfl) rfl (.tmp rfl .nil) rfl (.cons rfl rfl .nil) (OutL.flat rfl (flatM flat_vi) (by intro h; exact h.elim id fun h => absurd h.1 (by simp)) (OutL.flat rfl (flatM flat_vi) (by intro h; exact h.elim id fun h => absurd h.1 (by simp)) (OutL.flat rfl (flatM flat_vi) (by intro h; exact h.elim id fun h => absurd h.1 (by simp)) trivial))) (by decide) rfl
      ·
        have hle : e.length ≤ 2 := by simpa using hb2
        refine AWo.pure (PureOp.pickF rfl rfl) rfl rfl ?_
        refine AWo.pure (PureOp.move rfl) rfl rfl ?_
        refine AWo.pure (PureOp.move rfl) rfl rfl ?_
        refine AWo.callX (right_ctr hmw) bd51 [(0, 0)] [] rfl (.cons rfl .nil) rfl (.cons rfl rfl .nil) (.flat rfl (by first | exact flatM flat_vi | exact flatM flat_bool | (simp [flatV, flat_vi]; done)) (by intro h; first | exact h | rfl) .nil) rfl (.keep rfl .nil) frN (by decide) (.cons rfl rfl .nil) rfl rfl rfl rfl ?_
        first | refine AWo.pureB (PureOp.not rfl) rfl rfl (fun hb3 => ?_) (fun hb3 => ?_)
        ·
          refine AWo.pure (PureOp.pickF rfl rfl) rfl rfl ?_
          refine AWo.nil trivial ?_
          refine AW.condT rfl ?_
          refine AW.seqR ?_
          refine AWo.callX (speaks1_ctr) bd50 [] [] rfl .nil rfl .nil .nil rfl .nil frN (by decide) (.cons rfl rfl .nil) rfl rfl rfl rfl ?_
          refine AWo.pure (PureOp.assign rfl) rfl rfl ?_
          refine AWo.nil trivial ?_
          refine AW.ret ?_
          refine thenA_ret ?_
          refine RetQ.gc [_] [] [.tmp 6] (.inl rfl) rfl (.tmp rfl .nil) rfl (.cons rfl rfl .nil) (OutL.flat rfl (flatM flat_vi) (by intro h; exact h.elim id fun h => absurd h.1 (by simp)) (OutL.flat rfl (flatM flat_vi) (by intro h; exact h.elim id fun h => absurd h.1 (by simp)) (OutL.flat rfl (flatM flat_vi) (by intro h; exact h.elim id fun h => absurd h.1 (by simp)) trivial))) (by decide) rfl
        ·
          have hR : rightB mw = true := by simpa using hb3
          obtain ⟨q1, q2, q3, q4, q5⟩ := rightB_ok hR
          have hN1 := right_gt hmw q1 q4 q5
          have hM : MwOk mw := ⟨hmw, q1, by omega, by omega⟩
          have hiv := ninvR_ok hmw q3
          have hN : 0 < num 18446744073709551616 mw := by omega
          have ra := dig_room ha
          have re := dig_room he
          have rm := dig_room hmw
          refine AWo.pure (PureOp.pickF rfl rfl) rfl rfl ?_
          refine AWo.nil trivial ?_
          refine AW.condF rfl ?_
          refine AW.skip ?_
          refine thenA_normal ?_
          refine AW.seqR ?_
          refine AWo.pure (PureOp.move rfl) rfl rfl ?_
          refine AWo.callX (lnew_ctr hmw q1 q2 q3 q4 q5) bd52 [(0, 0)] [35000, 35001, 35002] rfl (.cons rfl .nil) rfl (.cons rfl rfl .nil) (.flat rfl (by first | exact flatM flat_vi | exact flatM flat_bool | (simp [flatV, flat_vi]; done)) (by intro h; first | exact h | rfl) .nil) rfl (.keep rfl (.new rfl (OkL.all rfl) (.new (flat_map_ren (flatM flat_vi)) (OkL.flat (flatM flat_vi)) (.new (flat_map_ren (flatM flat_vi)) (OkL.flat (flatM flat_vi)) .nil)))) (frC rfl (frC rfl (frC rfl frN))) (by decide) (.cons rfl rfl (.cons rfl rfl .nil)) rfl rfl rfl rfl ?_
          refine AWo.pure (PureOp.move rfl) rfl rfl ?_
          refine AWo.pure (PureOp.extract rfl rfl) rfl rfl ?_
          refine AWo.pure (PureOp.extract rfl rfl) rfl rfl ?_
          refine AWo.pure (PureOp.assign rfl) rfl rfl ?_
          refine AWo.pure (PureOp.assign rfl) rfl rfl ?_
          refine AWo.nil trivial ?_
          refine AW.seq ?_
          refine AW.seqR ?_
          refine AWo.pure (PureOp.move rfl) rfl rfl ?_
          first | refine AWo.pure ((PureOp.neN (b := 0) rfl rfl).mono (v' := .bool false) (congrArg Value.bool (by rfl))) rfl rfl ?_ | refine AWo.pure ((PureOp.bin rfl rfl rfl).mono (v' := .bool false) (congrArg Value.bool (by rfl))) rfl rfl ?_
          refine AWo.pure (PureOp.move rfl) rfl rfl ?_
          refine AWo.pure (PureOp.move rfl) rfl rfl ?_
          first | refine AWo.pure ((PureOp.ptrEqNil Try.underlying80 rfl).mono (v' := .bool false) (congrArg Value.bool (by rfl))) rfl rfl ?_ | refine AWo.pure ((PureOp.nilEqNil Try.underlying80 rfl rfl).mono (v' := .bool false) (congrArg Value.bool (by rfl))) rfl rfl ?_
          refine AWo.pure (PureOp.pickF rfl rfl) rfl rfl ?_
          refine AWo.nil trivial ?_
          refine AW.condF rfl ?_
          refine AW.skip ?_
          refine thenA_normal ?_
          refine AW.seqR ?_
          refine AWo.pure (PureOp.move rfl) rfl rfl ?_
          refine AWo.pure (PureOp.move rfl) rfl rfl ?_
          refine AWo.pure (PureOp.move rfl) rfl rfl ?_
          refine AWo.callX (mexp_ctr hM ha he (by omega) (by omega) hiv hN1) bd54 [(35000, 0), (35001, 0), (35002, 0), (1, 0), (2, 0)] [47000] rfl (.cons rfl (.cons rfl (.cons rfl .nil))) rfl (.cons rfl rfl (.cons rfl rfl (.cons rfl rfl .nil))) (.whole rfl rfl (OkL.all rfl) (by intro h; first | exact h | rfl) (.flat rfl (flatM flat_vi) (by intro h; first | exact h | rfl) (.flat rfl (flatM flat_vi) (by intro h; first | exact h | rfl) (.flat rfl (by first | exact flatM flat_vi | exact flatM flat_bool | (simp [flatV, flat_vi]; done)) (by intro h; first | exact h | rfl) (.flat rfl (by first | exact flatM flat_vi | exact flatM flat_bool | (simp [flatV, flat_vi]; done)) (by intro h; first | exact h | rfl) .nil))))) rfl (.keep rfl (.keep rfl (.keep rfl (.keep rfl (.keep rfl (.new (flat_map_ren (by first | exact flatM flat_vi | exact flatM flat_bool | (simp [flatV, flat_vi]; done))) (OkL.flat (by first | exact flatM flat_vi | exact flatM flat_bool | (simp [flatV, flat_vi]; done))) .nil)))))) (frC rfl frN) (by decide) (.cons rfl rfl .nil) rfl rfl rfl rfl ?_
          refine AWo.pure (PureOp.move rfl) rfl rfl ?_
          refine AWo.callX (digits_ctr ha (by omega)) bd57 [(1, 0)] [49000] rfl (.cons rfl .nil) rfl (.cons rfl rfl .nil) (.flat rfl (by first | exact flatM flat_vi | exact flatM flat_bool | (simp [flatV, flat_vi]; done)) (by intro h; first | exact h | rfl) .nil) rfl (.keep rfl (.new (flat_map_ren (by first | exact flatM flat_vi | exact flatM flat_bool | (simp [flatV, flat_vi]; done))) (OkL.flat (by first | exact flatM flat_vi | exact flatM flat_bool | (simp [flatV, flat_vi]; done))) .nil)) (frC rfl frN) (by decide) (.cons rfl rfl .nil) rfl rfl rfl rfl ?_
          refine AWo.pure (PureOp.move rfl) rfl rfl ?_
          refine AWo.callX (digits_ctr he (by omega)) bd57 [(2, 0)] [51000] rfl (.cons rfl .nil) rfl (.cons rfl rfl .nil) (.flat rfl (by first | exact flatM flat_vi | exact flatM flat_bool | (simp [flatV, flat_vi]; done)) (by intro h; first | exact h | rfl) .nil) rfl (.keep rfl (.new (flat_map_ren (by first | exact flatM flat_vi | exact flatM flat_bool | (simp [flatV, flat_vi]; done))) (OkL.flat (by first | exact flatM flat_vi | exact flatM flat_bool | (simp [flatV, flat_vi]; done))) .nil)) (frC rfl frN) (by decide) (.cons rfl rfl .nil) rfl rfl rfl rfl ?_
          refine AWo.pure (PureOp.move rfl) rfl rfl ?_
          refine AWo.callX (digits_ctr hmw (by omega)) bd57 [(0, 0)] [53000] rfl (.cons rfl .nil) rfl (.cons rfl rfl .nil) (.flat rfl (by first | exact flatM flat_vi | exact flatM flat_bool | (simp [flatV, flat_vi]; done)) (by intro h; first | exact h | rfl) .nil) rfl (.keep rfl (.new (flat_map_ren (by first | exact flatM flat_vi | exact flatM flat_bool | (simp [flatV, flat_vi]; done))) (OkL.flat (by first | exact flatM flat_vi | exact flatM flat_bool | (simp [flatV, flat_vi]; done))) .nil)) (frC rfl frN) (by decide) (.cons rfl rfl .nil) rfl rfl rfl rfl ?_
          refine AWo.callX (expD_ctr (x := num 18446744073709551616 a) (y := num 18446744073709551616 e) (N := num 18446744073709551616 mw) hN (by omega) (by omega) (by omega)) bd56 [(49000, 0), (51000, 0), (53000, 0)] [54000] rfl (.cons rfl (.cons rfl (.cons rfl .nil))) rfl (.cons rfl rfl (.cons rfl rfl (.cons rfl rfl .nil))) (.flat rfl (by first | exact flatM flat_vi | exact flatM flat_bool | (simp [flatV, flat_vi]; done)) (by intro h; first | exact h | rfl) (.flat rfl (by first | exact flatM flat_vi | exact flatM flat_bool | (simp [flatV, flat_vi]; done)) (by intro h; first | exact h | rfl) (.flat rfl (by first | exact flatM flat_vi | exact flatM flat_bool | (simp [flatV, flat_vi]; done)) (by intro h; first | exact h | rfl) .nil))) rfl (.keep rfl (.keep rfl (.keep rfl (.new (flat_map_ren (by first | exact flatM flat_vi | exact flatM flat_bool | (simp [flatV, flat_vi]; done))) (OkL.flat (by first | exact flatM flat_vi | exact flatM flat_bool | (simp [flatV, flat_vi]; done))) .nil)))) (frC rfl frN) (by decide) (.cons rfl rfl .nil) rfl rfl rfl rfl ?_
          refine AWo.pure (PureOp.move rfl) rfl rfl ?_
          refine AWo.pure (PureOp.lenS tbok rfl rfl) rfl rfl ?_
          refine AWo.callX (wordsD_ctr (x := num 18446744073709551616 a ^ num 18446744073709551616 e % num 18446744073709551616 mw) (n := mw.length) (by omega)) bd55 [(54000, 0)] [57000] rfl (.cons rfl (.cons rfl .nil)) rfl (.cons rfl rfl (.cons rfl rfl .nil)) (.flat rfl (by first | exact flatM flat_vi | exact flatM flat_bool | (simp [flatV, flat_vi]; done)) (by intro h; first | exact h | rfl) .nil) rfl (.keep rfl (.new (flat_map_ren (by first | exact flatM flat_vi | exact flatM flat_bool | (simp [flatV, flat_vi]; done))) (OkL.flat (by first | exact flatM flat_vi | exact flatM flat_bool | (simp [flatV, flat_vi]; done))) .nil)) (frC rfl frN) (by decide) (.cons rfl rfl .nil) rfl rfl rfl rfl ?_
          refine AWo.callX (v := .bool true) (same_ctrN (a := digs 18446744073709551616 mw.length (num 18446744073709551616 a ^ num 18446744073709551616 e % num 18446744073709551616 mw)) (b := digs 18446744073709551616 mw.length (num 18446744073709551616 a ^ num 18446744073709551616 e % num 18446744073709551616 mw)) (digs_len _ _) (digs_len _ _) (by rw [digs_len]; omega)) bd53 [(47000, 0), (57000, 0)] [] rfl (.cons rfl (.cons rfl .nil)) rfl (.cons rfl rfl (.cons rfl rfl .nil)) (.flat rfl (by first | exact flatM flat_vi | exact flatM flat_bool | (simp [flatV, flat_vi]; done)) (by intro h; first | exact h | rfl) (.flat rfl (by first | exact flatM flat_vi | exact flatM flat_bool | (simp [flatV, flat_vi]; done)) (by intro h; first | exact h | rfl) .nil)) rfl (.keep rfl (.keep rfl .nil)) frN (by decide) (.cons rfl rfl .nil) (congrArg Value.bool (decide_eq_true (rfl))) rfl rfl rfl ?_
          refine AWo.pure (PureOp.assign rfl) rfl rfl ?_
          refine AWo.nil trivial ?_
          refine AW.ret ?_
          refine RetQ.gc [_] [] [.tmp 6] (.inl rfl) rfl (.tmp rfl .nil) rfl (.cons rfl rfl .nil) (OutL.flat rfl (flatM flat_vi) (by intro h; exact h.elim id fun h => absurd h.1 (by simp)) (OutL.flat rfl (flatM flat_vi) (by intro h; exact h.elim id fun h => absurd h.1 (by simp)) (OutL.flat rfl (flatM flat_vi) (by intro h; exact h.elim id fun h => absurd h.1 (by simp)) trivial))) (by decide) rfl

set_option maxRecDepth 10000 in
theorem modulo_ok {mw a b : List Nat} (hmw : bd 18446744073709551616 mw) (ha : bd 18446744073709551616 a) (hb : bd 18446744073709551616 b) (hR : rightB mw = true) : GC Try.prog 14 [.slice (some ⟨0, 0, none⟩) mw.length 0, .slice (some ⟨1, 0, none⟩) a.length 0, .slice (some ⟨2, 0, none⟩) b.length 0] [⟨mw.map (vi .u64), false, 1⟩, ⟨a.map (vi .u64), false, 1⟩, ⟨b.map (vi .u64), false, 1⟩] [.bool true] [⟨mw.map (vi .u64), false, 1⟩, ⟨a.map (vi .u64), false, 1⟩, ⟨b.map (vi .u64), false, 1⟩] := by
  refine GC.intro Try.func14 rfl (by show 3 ≤ 133; decide) (by first | exact Nat.le_refl _ | decide | simp) ?_
  refine AW.seqR ?_
  refine AWo.pure (PureOp.assign rfl) rfl rfl ?_
  refine AWo.nil trivial ?_
  refine AW.seq ?_
  refine AW.seqR ?_
  refine AWo.callX (speaks1_ctr) bd50 [] [] rfl .nil rfl .nil .nil rfl .nil frN (by decide) (.cons rfl rfl .nil) rfl rfl rfl rfl ?_
  first | refine AWo.pure ((PureOp.not rfl).mono (v' := .bool false) (congrArg Value.bool (by rfl))) rfl rfl ?_
  refine AWo.pure (PureOp.move rfl) rfl rfl ?_
  refine AWo.pure (PureOp.move rfl) rfl rfl ?_
  refine AWo.pure (PureOp.lenS tbok rfl rfl) rfl rfl ?_
  first | refine AWo.pureB (PureOp.gtN (b := 20) rfl rfl) rfl rfl (fun hb0 => ?_) (fun hb0 => ?_) | refine AWo.pureB (PureOp.bin rfl rfl rfl) rfl rfl (fun hb0 => ?_) (fun hb0 => ?_)
  ·
    refine AWo.pure (PureOp.pickF rfl rfl) rfl rfl ?_
    refine AWo.pure (PureOp.move rfl) rfl rfl ?_
    refine AWo.skipped rfl rfl ?_
    refine AWo.skipped rfl rfl ?_
    refine AWo.skipped rfl rfl ?_
    refine AWo.pure (PureOp.pickT rfl rfl) rfl rfl ?_
    refine AWo.pure (PureOp.move rfl) rfl rfl ?_
    refine AWo.skipped rfl rfl ?_
    refine AWo.skipped rfl rfl ?_
    refine AWo.skipped rfl rfl ?_
    refine AWo.pure (PureOp.pickT rfl rfl) rfl rfl ?_
    refine AWo.nil trivial ?_
    refine AW.condT rfl ?_
    refine AW.seqR ?_
    refine AWo.callX (speaks1_ctr) bd50 [] [] rfl .nil rfl .nil .nil rfl .nil frN (by decide) (.cons rfl rfl .nil) rfl rfl rfl rfl ?_
    refine AWo.pure (PureOp.assign rfl) rfl rfl ?_
    refine AWo.nil trivial ?_
    refine AW.ret ?_
    refine thenA_ret ?_
    refine RetQ.gc [_] [] [.tmp 6] (.inl rfl) rfl (.tmp rfl .nil) rfl (.cons rfl rfl .nil) (OutL.flat rfl (flatM flat_vi) (by intro h; exact h.elim id fun h => absurd h.1 (by simp)) (OutL.flat rfl (flatM flat_vi) (by intro h; exact h.elim id fun h => absurd h.1 (by simp)) (OutL.flat rfl (flatM flat_vi) (by intro h; exact h.elim id fun h => absurd h.1 (by simp)) trivial))) (by decide) rfl
  ·
    have hlmw : mw.length ≤ 20 := by simpa using hb0
    refine AWo.pure (PureOp.pickF rfl rfl) rfl rfl ?_
    refine AWo.pure (PureOp.move rfl) rfl rfl ?_
    refine AWo.pure (PureOp.move rfl) rfl rfl ?_
    refine AWo.pure (PureOp.lenS tbok rfl rfl) rfl rfl ?_
    first | refine AWo.pureB (PureOp.gtN (b := 20) rfl rfl) rfl rfl (fun hb1 => ?_) (fun hb1 => ?_) | refine AWo.pureB (PureOp.bin rfl rfl rfl) rfl rfl (fun hb1 => ?_) (fun hb1 => ?_)
    ·
      refine AWo.pure (PureOp.pickF rfl rfl) rfl rfl ?_
      refine AWo.pure (PureOp.move rfl) rfl rfl ?_
      refine AWo.skipped rfl rfl ?_
      refine AWo.skipped rfl rfl ?_
      refine AWo.skipped rfl rfl ?_
      refine AWo.pure (PureOp.pickT rfl rfl) rfl rfl ?_
      refine AWo.nil trivial ?_
      refine AW.condT rfl ?_
      refine AW.seqR ?_
      refine AWo.callX (speaks1_ctr) bd50 [] [] rfl .nil rfl .nil .nil rfl .nil frN (by decide) (.cons rfl rfl .nil) rfl rfl rfl rfl ?_
      refine AWo.pure (PureOp.assign rfl) rfl rfl ?_
      refine AWo.nil trivial ?_
      refine AW.ret ?_
      refine thenA_ret ?_
      refine RetQ.gc [_] [] [.tmp 6] (.inl rfl) rfl (.tmp rfl .nil) rfl (.cons rfl rfl .nil) (OutL.flat rfl (flatM flat_vi) (by intro h; exact h.elim id fun h => absurd h.1 (by simp)) (OutL.flat rfl (flatM flat_vi) (by intro h; exact h.elim id fun h => absurd h.1 (by simp)) (OutL.flat rfl (flatM flat_vi) (by intro h; exact h.elim id fun h => absurd h.1 (by simp)) trivial))) (by decide) rfl
    ·
      have hla : a.length ≤ 20 := by simpa using hb1
      refine AWo.pure (PureOp.pickF rfl rfl) rfl rfl ?_
      refine AWo.pure (PureOp.move rfl) rfl rfl ?_
      refine AWo.pure (PureOp.move rfl) rfl rfl ?_
      refine AWo.pure (PureOp.lenS tbok rfl rfl) rfl rfl ?_
      first | refine AWo.pureB (PureOp.gtN (b := 20) rfl rfl) rfl rfl (fun hb2 => ?_) (fun hb2 => ?_) | refine AWo.pureB (PureOp.bin rfl rfl rfl) rfl rfl (fun hb2 => ?_) (fun hb2 => ?_)
      ·
        refine AWo.pure (PureOp.pickF rfl rfl) rfl rfl ?_
        refine AWo.nil trivial ?_
        refine AW.condT rfl ?_
        refine AW.seqR ?_
        refine AWo.callX (speaks1_ctr) bd50 [] [] rfl .nil rfl .nil .nil rfl .nil frN (by decide) (.cons rfl rfl .nil) rfl rfl rfl rfl ?_
        refine AWo.pure (PureOp.assign rfl) rfl rfl ?_
        refine AWo.nil trivial ?_
        refine AW.ret ?_
        refine thenA_ret ?_
        refine RetQ.gc [_] [] [.tmp 6] (.inl rfl) rfl (.tmp rfl .nil) rfl (.cons rfl rfl .nil) (OutL.flat rfl (flatM flat_vi) (by intro h; exact h.elim id fun h => absurd h.1 (by simp)) (OutL.flat rfl (flatM flat_vi) (by intro h; exact h.elim id fun h => absurd h.1 (by simp)) (OutL.flat rfl (flatM flat_vi) (by intro h; exact h.elim id fun h => absurd h.1 (by simp)) trivial))) (by decide) rfl
      ·
        have hlb : b.length ≤ 20 := by simpa using hb2
        have ra := dig_room ha
        have rb := dig_room hb
        have rm := dig_room hmw
        obtain ⟨q1, q2, q3, q4, q5⟩ := rightB_ok hR
        have hN1 := right_gt hmw q1 q4 q5
        have hM : MwOk mw := ⟨hmw, q1, by omega, by omega⟩
        have hiv := ninvR_ok hmw q3
        have hN : 0 < num 18446744073709551616 mw := by omega
        have hA := Nat.mod_lt (num 18446744073709551616 a) hN
        have hB := Nat.mod_lt (num 18446744073709551616 b) hN
        have lA := low_room hA
        have lB := low_room hB
        have lS := sum_room hA hB
        have lT := sum_room2 hA (Nat.le_refl (num 18446744073709551616 mw))
        have lU : (D 4294967296 (num 18446744073709551616 a % num 18446744073709551616 mw + num 18446744073709551616 mw - num 18446744073709551616 b % num 18446744073709551616 mw)).length ≤ _ := Nat.le_trans (len_mono (Nat.sub_le _ _)) lT
        have lP := mul_room hA hB
        refine AWo.pure (PureOp.pickF rfl rfl) rfl rfl ?_
        refine AWo.nil trivial ?_
        refine AW.condF rfl ?_
        refine AW.skip ?_
        refine thenA_normal ?_
        refine AW.seqR ?_
        refine AWo.pure (PureOp.move rfl) rfl rfl ?_
        refine AWo.callX (lnew_ctr hmw q1 q2 q3 q4 q5) bd52 [(0, 0)] [34000, 34001, 34002] rfl (.cons rfl .nil) rfl (.cons rfl rfl .nil) (.flat rfl (by first | exact flatM flat_vi | exact flatM flat_bool | (simp [flatV, flat_vi]; done)) (by intro h; first | exact h | rfl) .nil) rfl (.keep rfl (.new rfl (OkL.all rfl) (.new (flat_map_ren (flatM flat_vi)) (OkL.flat (flatM flat_vi)) (.new (flat_map_ren (flatM flat_vi)) (OkL.flat (flatM flat_vi)) .nil)))) (frC rfl (frC rfl (frC rfl frN))) (by decide) (.cons rfl rfl (.cons rfl rfl .nil)) rfl rfl rfl rfl ?_
        refine AWo.pure (PureOp.move rfl) rfl rfl ?_
        refine AWo.pure (PureOp.extract rfl rfl) rfl rfl ?_
        refine AWo.pure (PureOp.extract rfl rfl) rfl rfl ?_
        refine AWo.pure (PureOp.assign rfl) rfl rfl ?_
        refine AWo.pure (PureOp.assign rfl) rfl rfl ?_
        refine AWo.nil trivial ?_
        refine AW.seq ?_
        refine AW.seqR ?_
        refine AWo.pure (PureOp.move rfl) rfl rfl ?_
        first | refine AWo.pure ((PureOp.eqN (b := 0) rfl rfl).mono (v' := .bool true) rfl) rfl rfl ?_ | refine AWo.pure ((PureOp.bin rfl rfl rfl).mono (v' := .bool true) rfl) rfl rfl ?_
        refine AWo.pure (PureOp.move rfl) rfl rfl ?_
        refine AWo.callX (right_ctr hmw) bd51 [(0, 0)] [] rfl (.cons rfl .nil) rfl (.cons rfl rfl .nil) (.flat rfl (by first | exact flatM flat_vi | exact flatM flat_bool | (simp [flatV, flat_vi]; done)) (by intro h; first | exact h | rfl) .nil) rfl (.keep rfl .nil) frN (by decide) (.cons rfl rfl .nil) rfl rfl rfl rfl ?_
        first | refine AWo.pure ((PureOp.neqBool Try.underlying4 rfl rfl).mono (v' := .bool false) (congrArg Value.bool (by rw [hR]; rfl))) rfl rfl ?_
        refine AWo.pure (PureOp.move rfl) rfl rfl ?_
        refine AWo.pure (PureOp.move rfl) rfl rfl ?_
        first | refine AWo.pure ((PureOp.ptrNeNil Try.underlying80 rfl).mono (v' := .bool true) rfl) rfl rfl ?_ | refine AWo.pure ((PureOp.nilNeNil Try.underlying80 rfl rfl).mono (v' := .bool true) rfl) rfl rfl ?_
        refine AWo.pure (PureOp.move rfl) rfl rfl ?_
        refine AWo.callX (right_ctr hmw) bd51 [(0, 0)] [] rfl (.cons rfl .nil) rfl (.cons rfl rfl .nil) (.flat rfl (by first | exact flatM flat_vi | exact flatM flat_bool | (simp [flatV, flat_vi]; done)) (by intro h; first | exact h | rfl) .nil) rfl (.keep rfl .nil) frN (by decide) (.cons rfl rfl .nil) rfl rfl rfl rfl ?_
        first | refine AWo.pure ((PureOp.neqBool Try.underlying4 rfl rfl).mono (v' := .bool false) (congrArg Value.bool (by rw [hR]; rfl))) rfl rfl ?_
        refine AWo.pure (PureOp.pickF rfl rfl) rfl rfl ?_
        refine AWo.pure (PureOp.move rfl) rfl rfl ?_
        refine AWo.pure (PureOp.move rfl) rfl rfl ?_
        first | refine AWo.pure ((PureOp.neN (b := 0) rfl rfl).mono (v' := .bool false) (congrArg Value.bool (by rfl))) rfl rfl ?_ | refine AWo.pure ((PureOp.bin rfl rfl rfl).mono (v' := .bool false) (congrArg Value.bool (by rfl))) rfl rfl ?_
        refine AWo.pure (PureOp.move rfl) rfl rfl ?_
        refine AWo.skipped rfl rfl ?_
        refine AWo.skipped rfl rfl ?_
        refine AWo.pure (PureOp.pickF rfl rfl) rfl rfl ?_
        refine AWo.pure (PureOp.pickF rfl rfl) rfl rfl ?_
        refine AWo.nil trivial ?_
        refine AW.condF rfl ?_
        refine AW.skip ?_
        refine thenA_normal ?_
        refine AW.seq ?_
        refine AW.seqR ?_
        refine AWo.pure (PureOp.move rfl) rfl rfl ?_
        first | refine AWo.pure ((PureOp.ptrEqNil Try.underlying80 rfl).mono (v' := .bool false) (congrArg Value.bool (by rfl))) rfl rfl ?_ | refine AWo.pure ((PureOp.nilEqNil Try.underlying80 rfl rfl).mono (v' := .bool false) (congrArg Value.bool (by rfl))) rfl rfl ?_
        refine AWo.nil trivial ?_
        refine AW.condF rfl ?_
        refine AW.skip ?_
        refine thenA_normal ?_
        refine AW.seqR ?_
        refine AWo.pure (PureOp.move rfl) rfl rfl ?_
        refine AWo.callX (digits_ctr hmw (by omega)) bd57 [(0, 0)] [60000] rfl (.cons rfl .nil) rfl (.cons rfl rfl .nil) (.flat rfl (by first | exact flatM flat_vi | exact flatM flat_bool | (simp [flatV, flat_vi]; done)) (by intro h; first | exact h | rfl) .nil) rfl (.keep rfl (.new (flat_map_ren (by first | exact flatM flat_vi | exact flatM flat_bool | (simp [flatV, flat_vi]; done))) (OkL.flat (by first | exact flatM flat_vi | exact flatM flat_bool | (simp [flatV, flat_vi]; done))) .nil)) (frC rfl frN) (by decide) (.cons rfl rfl .nil) rfl rfl rfl rfl ?_
        refine AWo.pure (PureOp.move rfl) rfl rfl ?_
        refine AWo.pure (PureOp.lenS tbok rfl rfl) rfl rfl ?_
        refine AWo.pure (PureOp.assign rfl) rfl rfl ?_
        refine AWo.pure (PureOp.assign rfl) rfl rfl ?_
        refine AWo.nil trivial ?_
        refine AW.seqR ?_
        refine AWo.pure (PureOp.move rfl) rfl rfl ?_
        refine AWo.callX (digits_ctr ha (by omega)) bd57 [(1, 0)] [64000] rfl (.cons rfl .nil) rfl (.cons rfl rfl .nil) (.flat rfl (by first | exact flatM flat_vi | exact flatM flat_bool | (simp [flatV, flat_vi]; done)) (by intro h; first | exact h | rfl) .nil) rfl (.keep rfl (.new (flat_map_ren (by first | exact flatM flat_vi | exact flatM flat_bool | (simp [flatV, flat_vi]; done))) (OkL.flat (by first | exact flatM flat_vi | exact flatM flat_bool | (simp [flatV, flat_vi]; done))) .nil)) (frC rfl frN) (by decide) (.cons rfl rfl .nil) rfl rfl rfl rfl ?_
        refine AWo.pure (PureOp.move rfl) rfl rfl ?_
        refine AWo.callX (modD_ctr (x := num 18446744073709551616 a) (N := num 18446744073709551616 mw) hN (by omega) (by omega)) bd67 [(64000, 0), (60000, 0)] [66000] rfl (.cons rfl (.cons rfl .nil)) rfl (.cons rfl rfl (.cons rfl rfl .nil)) (.flat rfl (by first | exact flatM flat_vi | exact flatM flat_bool | (simp [flatV, flat_vi]; done)) (by intro h; first | exact h | rfl) (.flat rfl (by first | exact flatM flat_vi | exact flatM flat_bool | (simp [flatV, flat_vi]; done)) (by intro h; first | exact h | rfl) .nil)) rfl (.keep rfl (.keep rfl (.new (flat_map_ren (by first | exact flatM flat_vi | exact flatM flat_bool | (simp [flatV, flat_vi]; done))) (OkL.flat (by first | exact flatM flat_vi | exact flatM flat_bool | (simp [flatV, flat_vi]; done))) .nil))) (frC rfl frN) (by decide) (.cons rfl rfl .nil) rfl rfl rfl rfl ?_
        refine AWo.pure (PureOp.move rfl) rfl rfl ?_
        refine AWo.callX (digits_ctr hb (by omega)) bd57 [(2, 0)] [68000] rfl (.cons rfl .nil) rfl (.cons rfl rfl .nil) (.flat rfl (by first | exact flatM flat_vi | exact flatM flat_bool | (simp [flatV, flat_vi]; done)) (by intro h; first | exact h | rfl) .nil) rfl (.keep rfl (.new (flat_map_ren (by first | exact flatM flat_vi | exact flatM flat_bool | (simp [flatV, flat_vi]; done))) (OkL.flat (by first | exact flatM flat_vi | exact flatM flat_bool | (simp [flatV, flat_vi]; done))) .nil)) (frC rfl frN) (by decide) (.cons rfl rfl .nil) rfl rfl rfl rfl ?_
        refine AWo.pure (PureOp.move rfl) rfl rfl ?_
        refine AWo.callX (modD_ctr (x := num 18446744073709551616 b) (N := num 18446744073709551616 mw) hN (by omega) (by omega)) bd67 [(68000, 0), (60000, 0)] [70000] rfl (.cons rfl (.cons rfl .nil)) rfl (.cons rfl rfl (.cons rfl rfl .nil)) (.flat rfl (by first | exact flatM flat_vi | exact flatM flat_bool | (simp [flatV, flat_vi]; done)) (by intro h; first | exact h | rfl) (.flat rfl (by first | exact flatM flat_vi | exact flatM flat_bool | (simp [flatV, flat_vi]; done)) (by intro h; first | exact h | rfl) .nil)) rfl (.keep rfl (.keep rfl (.new (flat_map_ren (by first | exact flatM flat_vi | exact flatM flat_bool | (simp [flatV, flat_vi]; done))) (OkL.flat (by first | exact flatM flat_vi | exact flatM flat_bool | (simp [flatV, flat_vi]; done))) .nil))) (frC rfl frN) (by decide) (.cons rfl rfl .nil) rfl rfl rfl rfl ?_
        refine AWo.pure (PureOp.assign rfl) rfl rfl ?_
        refine AWo.pure (PureOp.assign rfl) rfl rfl ?_
        refine AWo.nil trivial ?_
        refine AW.seq ?_
        refine AW.seqR ?_
        refine AWo.pure (PureOp.move rfl) rfl rfl ?_
        refine AWo.callX (mlen_ctr) bd68 [(34000, 0), (34001, 0), (34002, 0)] [] rfl (.cons rfl .nil) rfl (.cons rfl rfl .nil) (.whole rfl rfl (OkL.all rfl) (by intro h; first | exact h | rfl) (.flat rfl (flatM flat_vi) (by intro h; first | exact h | rfl) (.flat rfl (flatM flat_vi) (by intro h; first | exact h | rfl) .nil))) rfl (.keep rfl (.keep rfl (.keep rfl .nil))) frN (by decide) (.cons rfl rfl .nil) rfl rfl rfl rfl ?_
        refine AWo.pure (PureOp.move rfl) rfl rfl ?_
        first | refine AWo.pure ((PureOp.neN rfl rfl).mono (v' := .bool false) (congrArg Value.bool (by simp))) rfl rfl ?_ | refine AWo.pure ((PureOp.bin rfl rfl rfl).mono (v' := .bool false) (congrArg Value.bool (by simp))) rfl rfl ?_
        refine AWo.pure (PureOp.move rfl) rfl rfl ?_
        refine AWo.pure (PureOp.move rfl) rfl rfl ?_
        refine AWo.callX (mwords_ctr q1 (by omega)) bd69 [(34000, 0), (34001, 0), (34002, 0)] [77000] rfl (.cons rfl .nil) rfl (.cons rfl rfl .nil) (.whole rfl rfl (OkL.all rfl) (by intro h; first | exact h | rfl) (.flat rfl (flatM flat_vi) (by intro h; first | exact h | rfl) (.flat rfl (flatM flat_vi) (by intro h; first | exact h | rfl) .nil))) rfl (.keep rfl (.keep rfl (.keep rfl (.new (flat_map_ren (by first | exact flatM flat_vi | exact flatM flat_bool | (simp [flatV, flat_vi]; done))) (OkL.flat (by first | exact flatM flat_vi | exact flatM flat_bool | (simp [flatV, flat_vi]; done))) .nil)))) (frC rfl frN) (by decide) (.cons rfl rfl .nil) rfl rfl rfl rfl ?_
        refine AWo.pure (PureOp.move rfl) rfl rfl ?_
        refine AWo.callX (v := .bool true) (same_ctrN (a := mw) (b := mw) rfl rfl (by omega)) bd53 [(77000, 0), (0, 0)] [] rfl (.cons rfl (.cons rfl .nil)) rfl (.cons rfl rfl (.cons rfl rfl .nil)) (.flat rfl (by first | exact flatM flat_vi | exact flatM flat_bool | (simp [flatV, flat_vi]; done)) (by intro h; first | exact h | rfl) (.flat rfl (by first | exact flatM flat_vi | exact flatM flat_bool | (simp [flatV, flat_vi]; done)) (by intro h; first | exact h | rfl) .nil)) rfl (.keep rfl (.keep rfl .nil)) frN (by decide) (.cons rfl rfl .nil) (congrArg Value.bool (decide_eq_true (rfl))) rfl rfl rfl ?_
        refine AWo.pure (PureOp.not rfl) rfl rfl ?_
        refine AWo.pure (PureOp.pickF rfl rfl) rfl rfl ?_
        refine AWo.pure (PureOp.move rfl) rfl rfl ?_
        refine AWo.pure (PureOp.move rfl) rfl rfl ?_
        refine AWo.pure (PureOp.move rfl) rfl rfl ?_
        refine AWo.callX (reduce_ctr hM ha (by omega)) bd61 [(34000, 0), (34001, 0), (34002, 0), (1, 0)] [85000] rfl (.cons rfl (.cons rfl .nil)) rfl (.cons rfl rfl (.cons rfl rfl .nil)) (.whole rfl rfl (OkL.all rfl) (by intro h; first | exact h | rfl) (.flat rfl (flatM flat_vi) (by intro h; first | exact h | rfl) (.flat rfl (flatM flat_vi) (by intro h; first | exact h | rfl) (.flat rfl (by first | exact flatM flat_vi | exact flatM flat_bool | (simp [flatV, flat_vi]; done)) (by intro h; first | exact h | rfl) .nil)))) rfl (.keep rfl (.keep rfl (.keep rfl (.keep rfl (.new (flat_map_ren (by first | exact flatM flat_vi | exact flatM flat_bool | (simp [flatV, flat_vi]; done))) (OkL.flat (by first | exact flatM flat_vi | exact flatM flat_bool | (simp [flatV, flat_vi]; done))) .nil))))) (frC rfl frN) (by decide) (.cons rfl rfl .nil) rfl rfl rfl rfl ?_
        refine AWo.pure (PureOp.move rfl) rfl rfl ?_
        refine AWo.pure (PureOp.move rfl) rfl rfl ?_
        refine AWo.callX (wordsD_ctr (x := num 18446744073709551616 a % num 18446744073709551616 mw) (n := mw.length) (by omega)) bd55 [(66000, 0)] [88000] rfl (.cons rfl (.cons rfl .nil)) rfl (.cons rfl rfl (.cons rfl rfl .nil)) (.flat rfl (by first | exact flatM flat_vi | exact flatM flat_bool | (simp [flatV, flat_vi]; done)) (by intro h; first | exact h | rfl) .nil) rfl (.keep rfl (.new (flat_map_ren (by first | exact flatM flat_vi | exact flatM flat_bool | (simp [flatV, flat_vi]; done))) (OkL.flat (by first | exact flatM flat_vi | exact flatM flat_bool | (simp [flatV, flat_vi]; done))) .nil)) (frC rfl frN) (by decide) (.cons rfl rfl .nil) rfl rfl rfl rfl ?_
        refine AWo.callX (v := .bool true) (same_ctrN (a := digs 18446744073709551616 mw.length (num 18446744073709551616 a % num 18446744073709551616 mw)) (b := digs 18446744073709551616 mw.length (num 18446744073709551616 a % num 18446744073709551616 mw)) (digs_len _ _) (digs_len _ _) (by rw [digs_len]; omega)) bd53 [(85000, 0), (88000, 0)] [] rfl (.cons rfl (.cons rfl .nil)) rfl (.cons rfl rfl (.cons rfl rfl .nil)) (.flat rfl (by first | exact flatM flat_vi | exact flatM flat_bool | (simp [flatV, flat_vi]; done)) (by intro h; first | exact h | rfl) (.flat rfl (by first | exact flatM flat_vi | exact flatM flat_bool | (simp [flatV, flat_vi]; done)) (by intro h; first | exact h | rfl) .nil)) rfl (.keep rfl (.keep rfl .nil)) frN (by decide) (.cons rfl rfl .nil) (congrArg Value.bool (decide_eq_true (rfl))) rfl rfl rfl ?_
        refine AWo.pure (PureOp.not rfl) rfl rfl ?_
        refine AWo.pure (PureOp.pickF rfl rfl) rfl rfl ?_
        refine AWo.nil trivial ?_
        refine AW.condF rfl ?_
        refine AW.skip ?_
        refine thenA_normal ?_
        refine AW.seq ?_
        refine AW.seqR ?_
        refine AWo.pure (PureOp.move rfl) rfl rfl ?_
        refine AWo.pure (PureOp.move rfl) rfl rfl ?_
        refine AWo.pure (PureOp.move rfl) rfl rfl ?_
        refine AWo.callX (madd_ctr hM ha hb (by omega) (by omega)) bd58 [(34000, 0), (34001, 0), (34002, 0), (1, 0), (2, 0)] [95000] rfl (.cons rfl (.cons rfl (.cons rfl .nil))) rfl (.cons rfl rfl (.cons rfl rfl (.cons rfl rfl .nil))) (.whole rfl rfl (OkL.all rfl) (by intro h; first | exact h | rfl) (.flat rfl (flatM flat_vi) (by intro h; first | exact h | rfl) (.flat rfl (flatM flat_vi) (by intro h; first | exact h | rfl) (.flat rfl (by first | exact flatM flat_vi | exact flatM flat_bool | (simp [flatV, flat_vi]; done)) (by intro h; first | exact h | rfl) (.flat rfl (by first | exact flatM flat_vi | exact flatM flat_bool | (simp [flatV, flat_vi]; done)) (by intro h; first | exact h | rfl) .nil))))) rfl (.keep rfl (.keep rfl (.keep rfl (.keep rfl (.keep rfl (.new (flat_map_ren (by first | exact flatM flat_vi | exact flatM flat_bool | (simp [flatV, flat_vi]; done))) (OkL.flat (by first | exact flatM flat_vi | exact flatM flat_bool | (simp [flatV, flat_vi]; done))) .nil)))))) (frC rfl frN) (by decide) (.cons rfl rfl .nil) rfl rfl rfl rfl ?_
        refine AWo.pure (PureOp.move rfl) rfl rfl ?_
        refine AWo.pure (PureOp.move rfl) rfl rfl ?_
        refine AWo.callX (addD_ctr (x := num 18446744073709551616 a % num 18446744073709551616 mw) (y := num 18446744073709551616 b % num 18446744073709551616 mw) (by omega) (by omega)) bd70 [(66000, 0), (70000, 0)] [98000] rfl (.cons rfl (.cons rfl .nil)) rfl (.cons rfl rfl (.cons rfl rfl .nil)) (.flat rfl (by first | exact flatM flat_vi | exact flatM flat_bool | (simp [flatV, flat_vi]; done)) (by intro h; first | exact h | rfl) (.flat rfl (by first | exact flatM flat_vi | exact flatM flat_bool | (simp [flatV, flat_vi]; done)) (by intro h; first | exact h | rfl) .nil)) rfl (.keep rfl (.keep rfl (.new (flat_map_ren (by first | exact flatM flat_vi | exact flatM flat_bool | (simp [flatV, flat_vi]; done))) (OkL.flat (by first | exact flatM flat_vi | exact flatM flat_bool | (simp [flatV, flat_vi]; done))) .nil))) (frC rfl frN) (by decide) (.cons rfl rfl .nil) rfl rfl rfl rfl ?_
        refine AWo.pure (PureOp.move rfl) rfl rfl ?_
        refine AWo.callX (modD_ctr (x := num 18446744073709551616 a % num 18446744073709551616 mw + num 18446744073709551616 b % num 18446744073709551616 mw) (N := num 18446744073709551616 mw) hN (by omega) (by omega)) bd67 [(98000, 0), (60000, 0)] [100000] rfl (.cons rfl (.cons rfl .nil)) rfl (.cons rfl rfl (.cons rfl rfl .nil)) (.flat rfl (by first | exact flatM flat_vi | exact flatM flat_bool | (simp [flatV, flat_vi]; done)) (by intro h; first | exact h | rfl) (.flat rfl (by first | exact flatM flat_vi | exact flatM flat_bool | (simp [flatV, flat_vi]; done)) (by intro h; first | exact h | rfl) .nil)) rfl (.keep rfl (.keep rfl (.new (flat_map_ren (by first | exact flatM flat_vi | exact flatM flat_bool | (simp [flatV, flat_vi]; done))) (OkL.flat (by first | exact flatM flat_vi | exact flatM flat_bool | (simp [flatV, flat_vi]; done))) .nil))) (frC rfl frN) (by decide) (.cons rfl rfl .nil) rfl rfl rfl rfl ?_
        refine AWo.pure (PureOp.move rfl) rfl rfl ?_
        refine AWo.callX (wordsD_ctr (x := (num 18446744073709551616 a % num 18446744073709551616 mw + num 18446744073709551616 b % num 18446744073709551616 mw) % num 18446744073709551616 mw) (n := mw.length) (by omega)) bd55 [(100000, 0)] [102000] rfl (.cons rfl (.cons rfl .nil)) rfl (.cons rfl rfl (.cons rfl rfl .nil)) (.flat rfl (by first | exact flatM flat_vi | exact flatM flat_bool | (simp [flatV, flat_vi]; done)) (by intro h; first | exact h | rfl) .nil) rfl (.keep rfl (.new (flat_map_ren (by first | exact flatM flat_vi | exact flatM flat_bool | (simp [flatV, flat_vi]; done))) (OkL.flat (by first | exact flatM flat_vi | exact flatM flat_bool | (simp [flatV, flat_vi]; done))) .nil)) (frC rfl frN) (by decide) (.cons rfl rfl .nil) rfl rfl rfl rfl ?_
        refine AWo.callX (v := .bool true) (same_ctrN (a := digs 18446744073709551616 mw.length ((num 18446744073709551616 a % num 18446744073709551616 mw + num 18446744073709551616 b % num 18446744073709551616 mw) % num 18446744073709551616 mw)) (b := digs 18446744073709551616 mw.length ((num 18446744073709551616 a % num 18446744073709551616 mw + num 18446744073709551616 b % num 18446744073709551616 mw) % num 18446744073709551616 mw)) (digs_len _ _) (digs_len _ _) (by rw [digs_len]; omega)) bd53 [(95000, 0), (102000, 0)] [] rfl (.cons rfl (.cons rfl .nil)) rfl (.cons rfl rfl (.cons rfl rfl .nil)) (.flat rfl (by first | exact flatM flat_vi | exact flatM flat_bool | (simp [flatV, flat_vi]; done)) (by intro h; first | exact h | rfl) (.flat rfl (by first | exact flatM flat_vi | exact flatM flat_bool | (simp [flatV, flat_vi]; done)) (by intro h; first | exact h | rfl) .nil)) rfl (.keep rfl (.keep rfl .nil)) frN (by decide) (.cons rfl rfl .nil) (congrArg Value.bool (decide_eq_true (rfl))) rfl rfl rfl ?_
        refine AWo.pure (PureOp.not rfl) rfl rfl ?_
        refine AWo.pure (PureOp.move rfl) rfl rfl ?_
        refine AWo.pure (PureOp.move rfl) rfl rfl ?_
        refine AWo.pure (PureOp.move rfl) rfl rfl ?_
        refine AWo.pure (PureOp.move rfl) rfl rfl ?_
        refine AWo.callX (msub_ctr hM ha hb (by omega) (by omega)) bd60 [(34000, 0), (34001, 0), (34002, 0), (1, 0), (2, 0)] [109000] rfl (.cons rfl (.cons rfl (.cons rfl .nil))) rfl (.cons rfl rfl (.cons rfl rfl (.cons rfl rfl .nil))) (.whole rfl rfl (OkL.all rfl) (by intro h; first | exact h | rfl) (.flat rfl (flatM flat_vi) (by intro h; first | exact h | rfl) (.flat rfl (flatM flat_vi) (by intro h; first | exact h | rfl) (.flat rfl (by first | exact flatM flat_vi | exact flatM flat_bool | (simp [flatV, flat_vi]; done)) (by intro h; first | exact h | rfl) (.flat rfl (by first | exact flatM flat_vi | exact flatM flat_bool | (simp [flatV, flat_vi]; done)) (by intro h; first | exact h | rfl) .nil))))) rfl (.keep rfl (.keep rfl (.keep rfl (.keep rfl (.keep rfl (.new (flat_map_ren (by first | exact flatM flat_vi | exact flatM flat_bool | (simp [flatV, flat_vi]; done))) (OkL.flat (by first | exact flatM flat_vi | exact flatM flat_bool | (simp [flatV, flat_vi]; done))) .nil)))))) (frC rfl frN) (by decide) (.cons rfl rfl .nil) rfl rfl rfl rfl ?_
        refine AWo.pure (PureOp.move rfl) rfl rfl ?_
        refine AWo.pure (PureOp.move rfl) rfl rfl ?_
        refine AWo.callX (addD_ctr (x := num 18446744073709551616 a % num 18446744073709551616 mw) (y := num 18446744073709551616 mw) (by omega) (by omega)) bd70 [(66000, 0), (60000, 0)] [112000] rfl (.cons rfl (.cons rfl .nil)) rfl (.cons rfl rfl (.cons rfl rfl .nil)) (.flat rfl (by first | exact flatM flat_vi | exact flatM flat_bool | (simp [flatV, flat_vi]; done)) (by intro h; first | exact h | rfl) (.flat rfl (by first | exact flatM flat_vi | exact flatM flat_bool | (simp [flatV, flat_vi]; done)) (by intro h; first | exact h | rfl) .nil)) rfl (.keep rfl (.keep rfl (.new (flat_map_ren (by first | exact flatM flat_vi | exact flatM flat_bool | (simp [flatV, flat_vi]; done))) (OkL.flat (by first | exact flatM flat_vi | exact flatM flat_bool | (simp [flatV, flat_vi]; done))) .nil))) (frC rfl frN) (by decide) (.cons rfl rfl .nil) rfl rfl rfl rfl ?_
        refine AWo.pure (PureOp.move rfl) rfl rfl ?_
        refine AWo.callX (subD_ctr (x := num 18446744073709551616 a % num 18446744073709551616 mw + num 18446744073709551616 mw) (y := num 18446744073709551616 b % num 18446744073709551616 mw) (by omega) (by omega) (by omega)) bd71 [(112000, 0), (70000, 0)] [114000] rfl (.cons rfl (.cons rfl .nil)) rfl (.cons rfl rfl (.cons rfl rfl .nil)) (.flat rfl (by first | exact flatM flat_vi | exact flatM flat_bool | (simp [flatV, flat_vi]; done)) (by intro h; first | exact h | rfl) (.flat rfl (by first | exact flatM flat_vi | exact flatM flat_bool | (simp [flatV, flat_vi]; done)) (by intro h; first | exact h | rfl) .nil)) rfl (.keep rfl (.keep rfl (.new (flat_map_ren (by first | exact flatM flat_vi | exact flatM flat_bool | (simp [flatV, flat_vi]; done))) (OkL.flat (by first | exact flatM flat_vi | exact flatM flat_bool | (simp [flatV, flat_vi]; done))) .nil))) (frC rfl frN) (by decide) (.cons rfl rfl .nil) rfl rfl rfl rfl ?_
        refine AWo.pure (PureOp.move rfl) rfl rfl ?_
        refine AWo.callX (modD_ctr (x := num 18446744073709551616 a % num 18446744073709551616 mw + num 18446744073709551616 mw - num 18446744073709551616 b % num 18446744073709551616 mw) (N := num 18446744073709551616 mw) hN (by omega) (by omega)) bd67 [(114000, 0), (60000, 0)] [116000] rfl (.cons rfl (.cons rfl .nil)) rfl (.cons rfl rfl (.cons rfl rfl .nil)) (.flat rfl (by first | exact flatM flat_vi | exact flatM flat_bool | (simp [flatV, flat_vi]; done)) (by intro h; first | exact h | rfl) (.flat rfl (by first | exact flatM flat_vi | exact flatM flat_bool | (simp [flatV, flat_vi]; done)) (by intro h; first | exact h | rfl) .nil)) rfl (.keep rfl (.keep rfl (.new (flat_map_ren (by first | exact flatM flat_vi | exact flatM flat_bool | (simp [flatV, flat_vi]; done))) (OkL.flat (by first | exact flatM flat_vi | exact flatM flat_bool | (simp [flatV, flat_vi]; done))) .nil))) (frC rfl frN) (by decide) (.cons rfl rfl .nil) rfl rfl rfl rfl ?_
        refine AWo.pure (PureOp.move rfl) rfl rfl ?_
        refine AWo.callX (wordsD_ctr (x := (num 18446744073709551616 a % num 18446744073709551616 mw + num 18446744073709551616 mw - num 18446744073709551616 b % num 18446744073709551616 mw) % num 18446744073709551616 mw) (n := mw.length) (by omega)) bd55 [(116000, 0)] [118000] rfl (.cons rfl (.cons rfl .nil)) rfl (.cons rfl rfl (.cons rfl rfl .nil)) (.flat rfl (by first | exact flatM flat_vi | exact flatM flat_bool | (simp [flatV, flat_vi]; done)) (by intro h; first | exact h | rfl) .nil) rfl (.keep rfl (.new (flat_map_ren (by first | exact flatM flat_vi | exact flatM flat_bool | (simp [flatV, flat_vi]; done))) (OkL.flat (by first | exact flatM flat_vi | exact flatM flat_bool | (simp [flatV, flat_vi]; done))) .nil)) (frC rfl frN) (by decide) (.cons rfl rfl .nil) rfl rfl rfl rfl ?_
        refine AWo.callX (v := .bool true) (same_ctrN (a := digs 18446744073709551616 mw.length ((num 18446744073709551616 a % num 18446744073709551616 mw + (num 18446744073709551616 mw - num 18446744073709551616 b % num 18446744073709551616 mw)) % num 18446744073709551616 mw)) (b := digs 18446744073709551616 mw.length ((num 18446744073709551616 a % num 18446744073709551616 mw + num 18446744073709551616 mw - num 18446744073709551616 b % num 18446744073709551616 mw) % num 18446744073709551616 mw)) (digs_len _ _) (digs_len _ _) (by rw [digs_len]; omega)) bd53 [(109000, 0), (118000, 0)] [] rfl (.cons rfl (.cons rfl .nil)) rfl (.cons rfl rfl (.cons rfl rfl .nil)) (.flat rfl (by first | exact flatM flat_vi | exact flatM flat_bool | (simp [flatV, flat_vi]; done)) (by intro h; first | exact h | rfl) (.flat rfl (by first | exact flatM flat_vi | exact flatM flat_bool | (simp [flatV, flat_vi]; done)) (by intro h; first | exact h | rfl) .nil)) rfl (.keep rfl (.keep rfl .nil)) frN (by decide) (.cons rfl rfl .nil) (congrArg Value.bool (decide_eq_true (by rw [Nat.add_sub_assoc (Nat.le_of_lt hB)]))) rfl rfl rfl ?_
        refine AWo.pure (PureOp.not rfl) rfl rfl ?_
        refine AWo.pure (PureOp.pickF rfl rfl) rfl rfl ?_
        refine AWo.nil trivial ?_
        refine AW.condF rfl ?_
        refine AW.skip ?_
        refine thenA_normal ?_
        refine AW.seqR ?_
        refine AWo.pure (PureOp.move rfl) rfl rfl ?_
        refine AWo.pure (PureOp.move rfl) rfl rfl ?_
        refine AWo.pure (PureOp.move rfl) rfl rfl ?_
        refine AWo.callX (mmul_ctr hM ha hb (by omega) (by omega) hiv) bd59 [(34000, 0), (34001, 0), (34002, 0), (1, 0), (2, 0)] [125000] rfl (.cons rfl (.cons rfl (.cons rfl .nil))) rfl (.cons rfl rfl (.cons rfl rfl (.cons rfl rfl .nil))) (.whole rfl rfl (OkL.all rfl) (by intro h; first | exact h | rfl) (.flat rfl (flatM flat_vi) (by intro h; first | exact h | rfl) (.flat rfl (flatM flat_vi) (by intro h; first | exact h | rfl) (.flat rfl (by first | exact flatM flat_vi | exact flatM flat_bool | (simp [flatV, flat_vi]; done)) (by intro h; first | exact h | rfl) (.flat rfl (by first | exact flatM flat_vi | exact flatM flat_bool | (simp [flatV, flat_vi]; done)) (by intro h; first | exact h | rfl) .nil))))) rfl (.keep rfl (.keep rfl (.keep rfl (.keep rfl (.keep rfl (.new (flat_map_ren (by first | exact flatM flat_vi | exact flatM flat_bool | (simp [flatV, flat_vi]; done))) (OkL.flat (by first | exact flatM flat_vi | exact flatM flat_bool | (simp [flatV, flat_vi]; done))) .nil)))))) (frC rfl frN) (by decide) (.cons rfl rfl .nil) rfl rfl rfl rfl ?_
        refine AWo.pure (PureOp.move rfl) rfl rfl ?_
        refine AWo.pure (PureOp.move rfl) rfl rfl ?_
        refine AWo.callX (mulD_ctr (x := num 18446744073709551616 a % num 18446744073709551616 mw) (y := num 18446744073709551616 b % num 18446744073709551616 mw) (by omega) (by omega)) bd72 [(66000, 0), (70000, 0)] [128000] rfl (.cons rfl (.cons rfl .nil)) rfl (.cons rfl rfl (.cons rfl rfl .nil)) (.flat rfl (by first | exact flatM flat_vi | exact flatM flat_bool | (simp [flatV, flat_vi]; done)) (by intro h; first | exact h | rfl) (.flat rfl (by first | exact flatM flat_vi | exact flatM flat_bool | (simp [flatV, flat_vi]; done)) (by intro h; first | exact h | rfl) .nil)) rfl (.keep rfl (.keep rfl (.new (flat_map_ren (by first | exact flatM flat_vi | exact flatM flat_bool | (simp [flatV, flat_vi]; done))) (OkL.flat (by first | exact flatM flat_vi | exact flatM flat_bool | (simp [flatV, flat_vi]; done))) .nil))) (frC rfl frN) (by decide) (.cons rfl rfl .nil) rfl rfl rfl rfl ?_
        refine AWo.pure (PureOp.move rfl) rfl rfl ?_
        refine AWo.callX (modD_ctr (x := num 18446744073709551616 a % num 18446744073709551616 mw * (num 18446744073709551616 b % num 18446744073709551616 mw)) (N := num 18446744073709551616 mw) hN (by omega) (by omega)) bd67 [(128000, 0), (60000, 0)] [130000] rfl (.cons rfl (.cons rfl .nil)) rfl (.cons rfl rfl (.cons rfl rfl .nil)) (.flat rfl (by first | exact flatM flat_vi | exact flatM flat_bool | (simp [flatV, flat_vi]; done)) (by intro h; first | exact h | rfl) (.flat rfl (by first | exact flatM flat_vi | exact flatM flat_bool | (simp [flatV, flat_vi]; done)) (by intro h; first | exact h | rfl) .nil)) rfl (.keep rfl (.keep rfl (.new (flat_map_ren (by first | exact flatM flat_vi | exact flatM flat_bool | (simp [flatV, flat_vi]; done))) (OkL.flat (by first | exact flatM flat_vi | exact flatM flat_bool | (simp [flatV, flat_vi]; done))) .nil))) (frC rfl frN) (by decide) (.cons rfl rfl .nil) rfl rfl rfl rfl ?_
        refine AWo.pure (PureOp.move rfl) rfl rfl ?_
        refine AWo.callX (wordsD_ctr (x := num 18446744073709551616 a % num 18446744073709551616 mw * (num 18446744073709551616 b % num 18446744073709551616 mw) % num 18446744073709551616 mw) (n := mw.length) (by omega)) bd55 [(130000, 0)] [132000] rfl (.cons rfl (.cons rfl .nil)) rfl (.cons rfl rfl (.cons rfl rfl .nil)) (.flat rfl (by first | exact flatM flat_vi | exact flatM flat_bool | (simp [flatV, flat_vi]; done)) (by intro h; first | exact h | rfl) .nil) rfl (.keep rfl (.new (flat_map_ren (by first | exact flatM flat_vi | exact flatM flat_bool | (simp [flatV, flat_vi]; done))) (OkL.flat (by first | exact flatM flat_vi | exact flatM flat_bool | (simp [flatV, flat_vi]; done))) .nil)) (frC rfl frN) (by decide) (.cons rfl rfl .nil) rfl rfl rfl rfl ?_
        refine AWo.callX (v := .bool true) (same_ctrN (a := digs 18446744073709551616 mw.length (num 18446744073709551616 a * num 18446744073709551616 b % num 18446744073709551616 mw)) (b := digs 18446744073709551616 mw.length (num 18446744073709551616 a % num 18446744073709551616 mw * (num 18446744073709551616 b % num 18446744073709551616 mw) % num 18446744073709551616 mw)) (digs_len _ _) (digs_len _ _) (by rw [digs_len]; omega)) bd53 [(125000, 0), (132000, 0)] [] rfl (.cons rfl (.cons rfl .nil)) rfl (.cons rfl rfl (.cons rfl rfl .nil)) (.flat rfl (by first | exact flatM flat_vi | exact flatM flat_bool | (simp [flatV, flat_vi]; done)) (by intro h; first | exact h | rfl) (.flat rfl (by first | exact flatM flat_vi | exact flatM flat_bool | (simp [flatV, flat_vi]; done)) (by intro h; first | exact h | rfl) .nil)) rfl (.keep rfl (.keep rfl .nil)) frN (by decide) (.cons rfl rfl .nil) (congrArg Value.bool (decide_eq_true (by rw [← Nat.mul_mod]))) rfl rfl rfl ?_
        refine AWo.pure (PureOp.assign rfl) rfl rfl ?_
        refine AWo.nil trivial ?_
        refine AW.ret ?_
        refine RetQ.gc [_] [] [.tmp 6] (.inl rfl) rfl (.tmp rfl .nil) rfl (.cons rfl rfl .nil) (OutL.flat rfl (flatM flat_vi) (by intro h; exact h.elim id fun h => absurd h.1 (by simp)) (OutL.flat rfl (flatM flat_vi) (by intro h; exact h.elim id fun h => absurd h.1 (by simp)) (OutL.flat rfl (flatM flat_vi) (by intro h; exact h.elim id fun h => absurd h.1 (by simp)) trivial))) (by decide) rfl

set_option maxRecDepth 10000 in
theorem modulo_bad {mw a b : List Nat} (hmw : bd 18446744073709551616 mw) (ha : bd 18446744073709551616 a) (hb : bd 18446744073709551616 b) (hR : rightB mw = false) : GC Try.prog 14 [.slice (some ⟨0, 0, none⟩) mw.length 0, .slice (some ⟨1, 0, none⟩) a.length 0, .slice (some ⟨2, 0, none⟩) b.length 0] [⟨mw.map (vi .u64), false, 1⟩, ⟨a.map (vi .u64), false, 1⟩, ⟨b.map (vi .u64), false, 1⟩] [.bool true] [⟨mw.map (vi .u64), false, 1⟩, ⟨a.map (vi .u64), false, 1⟩, ⟨b.map (vi .u64), false, 1⟩] := by
  refine GC.intro Try.func14 rfl (by show 3 ≤ 133; decide) (by first | exact Nat.le_refl _ | decide | simp) ?_
  refine AW.seqR ?_
  refine AWo.pure (PureOp.assign rfl) rfl rfl ?_
  refine AWo.nil trivial ?_
  refine AW.seq ?_
  refine AW.seqR ?_
  refine AWo.callX (speaks1_ctr) bd50 [] [] rfl .nil rfl .nil .nil rfl .nil frN (by decide) (.cons rfl rfl .nil) rfl rfl rfl rfl ?_
  first | refine AWo.pure ((PureOp.not rfl).mono (v' := .bool false) (congrArg Value.bool (by rfl))) rfl rfl ?_
  refine AWo.pure (PureOp.move rfl) rfl rfl ?_
  refine AWo.pure (PureOp.move rfl) rfl rfl ?_
  refine AWo.pure (PureOp.lenS tbok rfl rfl) rfl rfl ?_
  first | refine AWo.pureB (PureOp.gtN (b := 20) rfl rfl) rfl rfl (fun hb0 => ?_) (fun hb0 => ?_) | refine AWo.pureB (PureOp.bin rfl rfl rfl) rfl rfl (fun hb0 => ?_) (fun hb0 => ?_)
  ·
    refine AWo.pure (PureOp.pickF rfl rfl) rfl rfl ?_
    refine AWo.pure (PureOp.move rfl) rfl rfl ?_
    refine AWo.skipped rfl rfl ?_
    refine AWo.skipped rfl rfl ?_
    refine AWo.skipped rfl rfl ?_
    refine AWo.pure (PureOp.pickT rfl rfl) rfl rfl ?_
    refine AWo.pure (PureOp.move rfl) rfl rfl ?_
    refine AWo.skipped rfl rfl ?_
    refine AWo.skipped rfl rfl ?_
    refine AWo.skipped rfl rfl ?_
    refine AWo.pure (PureOp.pickT rfl rfl) rfl rfl ?_
    refine AWo.nil trivial ?_
    refine AW.condT rfl ?_
    refine AW.seqR ?_
    refine AWo.callX (speaks1_ctr) bd50 [] [] rfl .nil rfl .nil .nil rfl .nil frN (by decide) (.cons rfl rfl .nil) rfl rfl rfl rfl ?_
    refine AWo.pure (PureOp.assign rfl) rfl rfl ?_
    refine AWo.nil trivial ?_
    refine AW.ret ?_
    refine thenA_ret ?_
    refine RetQ.gc [_] [] [.tmp 6] (.inl rfl) rfl (.tmp rfl .nil) rfl (.cons rfl rfl .nil) (OutL.flat rfl (flatM flat_vi) (by intro h; exact h.elim id fun h => absurd h.1 (by simp)) (OutL.flat rfl (flatM flat_vi) (by intro h; exact h.elim id fun h => absurd h.1 (by simp)) (OutL.flat rfl (flatM flat_vi) (by intro h; exact h.elim id fun h => absurd h.1 (by simp)) trivial))) (by decide) rfl
  ·
    have hlmw : mw.length ≤ 20 := by simpa using hb0
    refine AWo.pure (PureOp.pickF rfl rfl) rfl rfl ?_
    refine AWo.pure (PureOp.move rfl) rfl rfl ?_
    refine AWo.pure (PureOp.move rfl) rfl rfl ?_
    refine AWo.pure (PureOp.lenS tbok rfl rfl) rfl rfl ?_
    first | refine AWo.pureB (PureOp.gtN (b := 20) rfl rfl) rfl rfl (fun hb1 => ?_) (fun hb1 => ?_) | refine AWo.pureB (PureOp.bin rfl rfl rfl) rfl rfl (fun hb1 => ?_) (fun hb1 => ?_)
    ·
      refine AWo.pure (PureOp.pickF rfl rfl) rfl rfl ?_
      refine AWo.pure (PureOp.move rfl) rfl rfl ?_
      refine AWo.skipped rfl rfl ?_
      refine AWo.skipped rfl rfl ?_
      refine AWo.skipped rfl rfl ?_
      refine AWo.pure (PureOp.pickT rfl rfl) rfl rfl ?_
      refine AWo.nil trivial ?_
      refine AW.condT rfl ?_
      refine AW.seqR ?_
      refine AWo.callX (speaks1_ctr) bd50 [] [] rfl .nil rfl .nil .nil rfl .nil frN (by decide) (.cons rfl rfl .nil) rfl rfl rfl rfl ?_
      refine AWo.pure (PureOp.assign rfl) rfl rfl ?_
      refine AWo.nil trivial ?_
      refine AW.ret ?_
      refine thenA_ret ?_
      refine RetQ.gc [_] [] [.tmp 6] (.inl rfl) rfl (.tmp rfl .nil) rfl (.cons rfl rfl .nil) (OutL.flat rfl (flatM flat_vi) (by intro h; exact h.elim id fun h => absurd h.1 (by simp)) (OutL.flat rfl (flatM flat_vi) (by intro h; exact h.elim id fun h => absurd h.1 (by simp)) (OutL.flat rfl (flatM flat_vi) (by intro h; exact h.elim id fun h => absurd h.1 (by simp)) trivial))) (by decide) rfl
    ·
      have hla : a.length ≤ 20 := by simpa using hb1
      refine AWo.pure (PureOp.pickF rfl rfl) rfl rfl ?_
      refine AWo.pure (PureOp.move rfl) rfl rfl ?_
      refine AWo.pure (PureOp.move rfl) rfl rfl ?_
      refine AWo.pure (PureOp.lenS tbok rfl rfl) rfl rfl ?_
      first | refine AWo.pureB (PureOp.gtN (b := 20) rfl rfl) rfl rfl (fun hb2 => ?_) (fun hb2 => ?_) | refine AWo.pureB (PureOp.bin rfl rfl rfl) rfl rfl (fun hb2 => ?_) (fun hb2 => ?_)
      ·
        refine AWo.pure (PureOp.pickF rfl rfl) rfl rfl ?_
        refine AWo.nil trivial ?_
        refine AW.condT rfl ?_
        refine AW.seqR ?_
        refine AWo.callX (speaks1_ctr) bd50 [] [] rfl .nil rfl .nil .nil rfl .nil frN (by decide) (.cons rfl rfl .nil) rfl rfl rfl rfl ?_
        refine AWo.pure (PureOp.assign rfl) rfl rfl ?_
        refine AWo.nil trivial ?_
        refine AW.ret ?_
        refine thenA_ret ?_
        refine RetQ.gc [_] [] [.tmp 6] (.inl rfl) rfl (.tmp rfl .nil) rfl (.cons rfl rfl .nil) (OutL.flat rfl (flatM flat_vi) (by intro h; exact h.elim id fun h => absurd h.1 (by simp)) (OutL.flat rfl (flatM flat_vi) (by intro h; exact h.elim id fun h => absurd h.1 (by simp)) (OutL.flat rfl (flatM flat_vi) (by intro h; exact h.elim id fun h => absurd h.1 (by simp)) trivial))) (by decide) rfl
      ·
        have hlb : b.length ≤ 20 := by simpa using hb2
        have ra := dig_room ha
        have rb := dig_room hb
        have rm := dig_room hmw
        refine AWo.pure (PureOp.pickF rfl rfl) rfl rfl ?_
        refine AWo.nil trivial ?_
        refine AW.condF rfl ?_
        refine AW.skip ?_
        refine thenA_normal ?_
        refine AW.seqR ?_
        refine AWo.pure (PureOp.move rfl) rfl rfl ?_
        refine AWo.callX (lnewbad_ctr hmw (by omega) (rightB_bad hR)) bd52 [(0, 0)] [] rfl (.cons rfl .nil) rfl (.cons rfl rfl .nil) (.flat rfl (by first | exact flatM flat_vi | exact flatM flat_bool | (simp [flatV, flat_vi]; done)) (by intro h; first | exact h | rfl) .nil) rfl (.keep rfl .nil) frN (by decide) (.cons rfl rfl (.cons rfl rfl .nil)) rfl rfl rfl rfl ?_
        refine AWo.pure (PureOp.move rfl) rfl rfl ?_
        refine AWo.pure (PureOp.extract rfl rfl) rfl rfl ?_
        refine AWo.pure (PureOp.extract rfl rfl) rfl rfl ?_
        refine AWo.pure (PureOp.assign rfl) rfl rfl ?_
        refine AWo.pure (PureOp.assign rfl) rfl rfl ?_
        refine AWo.nil trivial ?_
        refine AW.seq ?_
        refine AW.seqR ?_
        refine AWo.pure (PureOp.move rfl) rfl rfl ?_
        first | refine AWo.pure ((PureOp.eqN (b := 0) rfl rfl).mono (v' := .bool false) (congrArg Value.bool (by rfl))) rfl rfl ?_ | refine AWo.pure ((PureOp.bin rfl rfl rfl).mono (v' := .bool false) (congrArg Value.bool (by rfl))) rfl rfl ?_
        refine AWo.pure (PureOp.move rfl) rfl rfl ?_
        refine AWo.callX (right_ctr hmw) bd51 [(0, 0)] [] rfl (.cons rfl .nil) rfl (.cons rfl rfl .nil) (.flat rfl (by first | exact flatM flat_vi | exact flatM flat_bool | (simp [flatV, flat_vi]; done)) (by intro h; first | exact h | rfl) .nil) rfl (.keep rfl .nil) frN (by decide) (.cons rfl rfl .nil) rfl rfl rfl rfl ?_
        first | refine AWo.pure ((PureOp.neqBool Try.underlying4 rfl rfl).mono (v' := .bool false) (congrArg Value.bool (by rw [hR]; rfl))) rfl rfl ?_
        refine AWo.pure (PureOp.move rfl) rfl rfl ?_
        refine AWo.pure (PureOp.move rfl) rfl rfl ?_
        first | refine AWo.pure ((PureOp.ptrNeNil Try.underlying80 rfl).mono (v' := .bool false) (congrArg Value.bool (by rfl))) rfl rfl ?_ | refine AWo.pure ((PureOp.nilNeNil Try.underlying80 rfl rfl).mono (v' := .bool false) (congrArg Value.bool (by rfl))) rfl rfl ?_
        refine AWo.pure (PureOp.move rfl) rfl rfl ?_
        refine AWo.callX (right_ctr hmw) bd51 [(0, 0)] [] rfl (.cons rfl .nil) rfl (.cons rfl rfl .nil) (.flat rfl (by first | exact flatM flat_vi | exact flatM flat_bool | (simp [flatV, flat_vi]; done)) (by intro h; first | exact h | rfl) .nil) rfl (.keep rfl .nil) frN (by decide) (.cons rfl rfl .nil) rfl rfl rfl rfl ?_
        first | refine AWo.pure ((PureOp.neqBool Try.underlying4 rfl rfl).mono (v' := .bool false) (congrArg Value.bool (by rw [hR]; rfl))) rfl rfl ?_
        refine AWo.pure (PureOp.pickF rfl rfl) rfl rfl ?_
        refine AWo.pure (PureOp.move rfl) rfl rfl ?_
        refine AWo.pure (PureOp.move rfl) rfl rfl ?_
        first | refine AWo.pure ((PureOp.neN (b := 0) rfl rfl).mono (v' := .bool true) rfl) rfl rfl ?_ | refine AWo.pure ((PureOp.bin rfl rfl rfl).mono (v' := .bool true) rfl) rfl rfl ?_
        refine AWo.pure (PureOp.move rfl) rfl rfl ?_
        refine AWo.pure (PureOp.move rfl) rfl rfl ?_
        first | refine AWo.pure ((PureOp.neN (b := 1) rfl rfl).mono (v' := .bool false) (congrArg Value.bool (by rfl))) rfl rfl ?_ | refine AWo.pure ((PureOp.bin rfl rfl rfl).mono (v' := .bool false) (congrArg Value.bool (by rfl))) rfl rfl ?_
        refine AWo.pure (PureOp.pickT rfl rfl) rfl rfl ?_
        refine AWo.pure (PureOp.pickF rfl rfl) rfl rfl ?_
        refine AWo.nil trivial ?_
        refine AW.condF rfl ?_
        refine AW.skip ?_
        refine thenA_normal ?_
        refine AW.seq ?_
        refine AW.seqR ?_
        refine AWo.pure (PureOp.move rfl) rfl rfl ?_
        first | refine AWo.pure ((PureOp.ptrEqNil Try.underlying80 rfl).mono (v' := .bool true) rfl) rfl rfl ?_ | refine AWo.pure ((PureOp.nilEqNil Try.underlying80 rfl rfl).mono (v' := .bool true) rfl) rfl rfl ?_
        refine AWo.nil trivial ?_
        refine AW.condT rfl ?_
        refine AW.seqR ?_
        refine AWo.pure (PureOp.assign rfl) rfl rfl ?_
        refine AWo.nil trivial ?_
        refine AW.ret ?_
        refine thenA_ret ?_
        refine RetQ.gc [_] [] [.tmp 6] (.inl rfl) rfl (.tmp rfl .nil) rfl (.cons rfl rfl .nil) (OutL.flat rfl (flatM flat_vi) (by intro h; exact h.elim id fun h => absurd h.1 (by simp)) (OutL.flat rfl (flatM flat_vi) (by intro h; exact h.elim id fun h => absurd h.1 (by simp)) (OutL.flat rfl (flatM flat_vi) (by intro h; exact h.elim id fun h => absurd h.1 (by simp)) trivial))) (by decide) rfl

theorem modulo_ctr {mw a b : List Nat} (hmw : bd 18446744073709551616 mw) (ha : bd 18446744073709551616 a) (hb : bd 18446744073709551616 b) : GC Try.prog 14 [.slice (some ⟨0, 0, none⟩) mw.length 0, .slice (some ⟨1, 0, none⟩) a.length 0, .slice (some ⟨2, 0, none⟩) b.length 0] [⟨mw.map (vi .u64), false, 1⟩, ⟨a.map (vi .u64), false, 1⟩, ⟨b.map (vi .u64), false, 1⟩] [.bool true] [⟨mw.map (vi .u64), false, 1⟩, ⟨a.map (vi .u64), false, 1⟩, ⟨b.map (vi .u64), false, 1⟩] := by
  cases h : rightB mw with
  | true => exact modulo_ok hmw ha hb h
  | false => exact modulo_bad hmw ha hb h
end Go.Proofs.Ytiikffiembcboaa
