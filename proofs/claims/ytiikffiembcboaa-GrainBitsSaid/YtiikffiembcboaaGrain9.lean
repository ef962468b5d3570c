/- The statement on a source's bits and numbers, as a contract. -/
import Derived.Test.YtiikffiembcboaaGrain8
namespace Go.Proofs.Ytiikffiembcboaa
open Go Sim

theorem cnt_ex (z : Int) : ∃ c : Nat, vi .i64 c = .int .i64 (if (64 : Int) < (if 0 > z then 0 else z) then 64 else (if 0 > z then 0 else z)) ∧ c ≤ 64 := by
  refine ⟨(if (64 : Int) < (if 0 > z then 0 else z) then 64 else (if 0 > z then 0 else z)).toNat, ?_, ?_⟩
  · simp only [vi]
    congr 1
    repeat' split
    all_goals omega
  · repeat' split
    all_goals omega

theorem gpre_next {s : GS} {j : Nat} (hj : j < 64) : (gpre (j + 1) s).1 = if (gnx (gpre j s).2).2 then ((gpre j s).1 * 2 % 18446744073709551616 + 1) % 18446744073709551616 else (gpre j s).1 * 2 % 18446744073709551616 := by
  have h := gpre_lt s (show j ≤ 64 by omega)
  have h1 : 2 ^ j ≤ 2 ^ 63 := Nat.pow_le_pow_right (by decide) (by omega)
  have h2 : (2 : Nat) ^ 63 = 9223372036854775808 := by decide
  have e := gpre_step (gnx (gpre j s).2).2 h hj
  simp only [gpre]
  rw [e]
  split
  · rename_i hh; rw [hh, Bool.toNat_true]; omega
  · rename_i hh; rw [Bool.eq_false_iff.2 hh, Bool.toNat_false]; omega

set_option maxRecDepth 10000 in
theorem bits_good {b w f p : Nat} {zs : List Int} (hb : 1 ≤ b ∧ b ≤ 4095) (hw : 1 ≤ w ∧ w ≤ 4095) (hf : f ≤ 1023) (hp : p ≤ 1023) : GC Try.prog 3 [.agg #[vi .i64 b, vi .i64 w, vi .i64 f, vi .i64 p], .slice (some ⟨0, 0, none⟩) zs.length 0] [⟨zs.map (Value.int .i64), false, 1⟩] [.bool true] [⟨zs.map (Value.int .i64), false, 1⟩] := by
  refine GC.intro Try.func3 rfl (by show 2 ≤ 94; decide) (by first | exact Nat.le_refl _ | decide | simp) ?_
  have hg0 : GG (gnew b w f p) := gnew_gg _ _ _ _
  refine AW.seqR ?_
  refine AWo.box 3000 1 _ rfl rfl rfl rfl rfl ?_
  refine AWo.pure (PureOp.assign rfl) rfl rfl ?_
  refine AWo.nil trivial ?_
  refine AW.seq ?_
  refine AW.seqR ?_
  refine AWo.callX (speaks_ctr) bd27 [] [] rfl .nil rfl .nil .nil rfl .nil frN (by decide) (.cons rfl rfl .nil) rfl rfl rfl rfl ?_
  refine AWo.pure (PureOp.not rfl) rfl rfl ?_
  refine AWo.pure (PureOp.move rfl) rfl rfl ?_
  refine AWo.pure (PureOp.move rfl) rfl rfl ?_
  refine AWo.pure (PureOp.lenS tbok rfl rfl) rfl rfl ?_
  first | refine AWo.pure (PureOp.gtN (b := 40) rfl rfl) rfl rfl ?_ | refine AWo.pure (PureOp.bin rfl rfl rfl) rfl rfl ?_
  refine AWo.pure (PureOp.pickF rfl rfl) rfl rfl ?_
  refine AWo.nil trivial ?_
  refine AW.cond rfl (fun hb0 => ?_) (fun hb0 => ?_)
  ·
    refine AW.seqR ?_
    refine AWo.callX (speaks_ctr) bd27 [] [] rfl .nil rfl .nil .nil rfl .nil frN (by decide) (.cons rfl rfl .nil) rfl rfl rfl rfl ?_
    refine AWo.pure (PureOp.assign rfl) rfl rfl ?_
    refine AWo.nil trivial ?_
    refine AW.ret ?_
    refine thenA_ret ?_
    refine RetQ.gc [_] [] [.tmp 4] (.inl rfl) rfl (.tmp rfl .nil) rfl (.cons rfl rfl .nil) (OutL.flat rfl (by first | exact flatM flat_vi | exact flatM flat_bool | exact srcC_flat | exact flatM (fun _ => rfl)) (by intro h; first | rfl | exact h.elim id fun h => absurd h.1 (by simp)) trivial) (by decide) rfl
  ·
    have hz : zs.length ≤ 40 := by simpa using hb0
    refine AW.skip ?_
    refine thenA_normal ?_
    refine AW.seqR ?_
    first | refine AWo.pure (PureOp.arr1 (j := 0) tbok rfl rfl rfl rfl (by first | decide | omega)) rfl rfl ?_ | refine AWo.pure (PureOp.arr (j := 0) tbok rfl rfl rfl rfl (by first | decide | omega)) rfl rfl ?_
    first | refine AWo.loadM tbok 0 rfl rfl rfl (by first | decide | omega) rfl rfl ?_ | refine AWo.load tbok rfl rfl rfl rfl rfl rfl ?_
    first | refine AWo.pure (PureOp.arr1 (j := 1) tbok rfl rfl rfl rfl (by first | decide | omega)) rfl rfl ?_ | refine AWo.pure (PureOp.arr (j := 1) tbok rfl rfl rfl rfl (by first | decide | omega)) rfl rfl ?_
    first | refine AWo.loadM tbok 0 rfl rfl rfl (by first | decide | omega) rfl rfl ?_ | refine AWo.load tbok rfl rfl rfl rfl rfl rfl ?_
    first | refine AWo.pure (PureOp.arr1 (j := 2) tbok rfl rfl rfl rfl (by first | decide | omega)) rfl rfl ?_ | refine AWo.pure (PureOp.arr (j := 2) tbok rfl rfl rfl rfl (by first | decide | omega)) rfl rfl ?_
    first | refine AWo.loadM tbok 0 rfl rfl rfl (by first | decide | omega) rfl rfl ?_ | refine AWo.load tbok rfl rfl rfl rfl rfl rfl ?_
    first | refine AWo.pure (PureOp.arr1 (j := 3) tbok rfl rfl rfl rfl (by first | decide | omega)) rfl rfl ?_ | refine AWo.pure (PureOp.arr (j := 3) tbok rfl rfl rfl rfl (by first | decide | omega)) rfl rfl ?_
    first | refine AWo.loadM tbok 0 rfl rfl rfl (by first | decide | omega) rfl rfl ?_ | refine AWo.load tbok rfl rfl rfl rfl rfl rfl ?_
    refine AWo.callX (new_ctr hb hw hf hp) bd28 [] [31000] rfl (.cons rfl (.cons rfl (.cons rfl (.cons rfl .nil)))) rfl (.cons rfl rfl (.cons rfl rfl (.cons rfl rfl (.cons rfl rfl .nil)))) .nil rfl (.new (flat_map_ren srcC_flat) (OkL.flat srcC_flat) .nil) (frC rfl frN) (by decide) (.cons rfl rfl (.cons rfl rfl .nil)) rfl rfl rfl rfl ?_
    refine AWo.pure (PureOp.move rfl) rfl rfl ?_
    refine AWo.pure (PureOp.extract rfl rfl) rfl rfl ?_
    refine AWo.pure (PureOp.extract rfl rfl) rfl rfl ?_
    refine AWo.pure (PureOp.assign rfl) rfl rfl ?_
    refine AWo.pure (PureOp.assign rfl) rfl rfl ?_
    refine AWo.nil trivial ?_
    refine AW.seqR ?_
    first | refine AWo.pure (PureOp.arr1 (j := 0) tbok rfl rfl rfl rfl (by first | decide | omega)) rfl rfl ?_ | refine AWo.pure (PureOp.arr (j := 0) tbok rfl rfl rfl rfl (by first | decide | omega)) rfl rfl ?_
    first | refine AWo.loadM tbok 0 rfl rfl rfl (by first | decide | omega) rfl rfl ?_ | refine AWo.load tbok rfl rfl rfl rfl rfl rfl ?_
    first | refine AWo.pure (PureOp.arr1 (j := 1) tbok rfl rfl rfl rfl (by first | decide | omega)) rfl rfl ?_ | refine AWo.pure (PureOp.arr (j := 1) tbok rfl rfl rfl rfl (by first | decide | omega)) rfl rfl ?_
    first | refine AWo.loadM tbok 0 rfl rfl rfl (by first | decide | omega) rfl rfl ?_ | refine AWo.load tbok rfl rfl rfl rfl rfl rfl ?_
    first | refine AWo.pure (PureOp.arr1 (j := 2) tbok rfl rfl rfl rfl (by first | decide | omega)) rfl rfl ?_ | refine AWo.pure (PureOp.arr (j := 2) tbok rfl rfl rfl rfl (by first | decide | omega)) rfl rfl ?_
    first | refine AWo.loadM tbok 0 rfl rfl rfl (by first | decide | omega) rfl rfl ?_ | refine AWo.load tbok rfl rfl rfl rfl rfl rfl ?_
    first | refine AWo.pure (PureOp.arr1 (j := 3) tbok rfl rfl rfl rfl (by first | decide | omega)) rfl rfl ?_ | refine AWo.pure (PureOp.arr (j := 3) tbok rfl rfl rfl rfl (by first | decide | omega)) rfl rfl ?_
    first | refine AWo.loadM tbok 0 rfl rfl rfl (by first | decide | omega) rfl rfl ?_ | refine AWo.load tbok rfl rfl rfl rfl rfl rfl ?_
    refine AWo.callX (newr_ctr hb hw hf hp) bd29 [] [] rfl (.cons rfl (.cons rfl (.cons rfl (.cons rfl .nil)))) rfl (.cons rfl rfl (.cons rfl rfl (.cons rfl rfl (.cons rfl rfl .nil)))) .nil rfl .nil frN (by decide) (.pure (by first | rfl | exact pure_aggM flat_vi | exact pure_aggM flat_bool) (.cons rfl rfl .nil)) rfl rfl rfl rfl ?_
    refine AWo.pure (PureOp.move rfl) rfl rfl ?_
    refine AWo.pure (PureOp.extract rfl rfl) rfl rfl ?_
    refine AWo.pure (PureOp.extract rfl rfl) rfl rfl ?_
    refine AWo.alloc tbok 8000 1 ((List.replicate 80 false).map Value.bool) rfl rfl rfl rfl rfl rfl ?_
    refine AWo.storeAllN tbok rfl rfl rfl rfl (by first | (simp [*]; done) | rfl) (by first | (simp [*]; done) | rfl) (by first | exact oneM (fun _ => rfl) _ | rfl | (simp; done)) rfl ?_
    refine AWo.pure (PureOp.assign rfl) rfl rfl ?_
    refine AWo.nil trivial ?_
    refine AW.seq ?_
    refine AW.seqR ?_
    refine AWo.pure (PureOp.move rfl) rfl rfl ?_
    refine AWo.pure (PureOp.move rfl) rfl rfl ?_
    first | refine AWo.pure (PureOp.neN rfl rfl) rfl rfl ?_ | refine AWo.pure (PureOp.bin rfl rfl rfl) rfl rfl ?_
    refine AWo.pure (PureOp.move rfl) rfl rfl ?_
    refine AWo.pure (PureOp.move rfl) rfl rfl ?_
    first | refine AWo.pure ((PureOp.ptrNeNil Try.underlying25 rfl).mono (v' := .bool true) rfl) rfl rfl ?_ | refine AWo.pure ((PureOp.nilNeNil Try.underlying25 rfl rfl).mono (v' := .bool true) rfl) rfl rfl ?_
    refine AWo.pure (PureOp.move rfl) rfl rfl ?_
    first | refine AWo.pure (PureOp.eqN (b := 0) rfl rfl) rfl rfl ?_ | refine AWo.pure (PureOp.bin rfl rfl rfl) rfl rfl ?_
    refine AWo.pure (PureOp.neqBool Try.underlying4 rfl rfl) rfl rfl ?_
    refine AWo.pure (PureOp.pickF rfl rfl) rfl rfl ?_
    refine AWo.nil trivial ?_
    refine AW.condF rfl ?_
    refine AW.skip ?_
    refine thenA_normal ?_
    refine AW.seq ?_
    refine AW.seqR ?_
    refine AWo.pure (PureOp.move rfl) rfl rfl ?_
    first | refine AWo.pure (PureOp.ptrEqNil Try.underlying25 rfl) rfl rfl ?_ | refine AWo.pure (PureOp.nilEqNil Try.underlying25 rfl rfl) rfl rfl ?_
    refine AWo.nil trivial ?_
    refine AW.condF rfl ?_
    refine AW.skip ?_
    refine thenA_normal ?_
    refine AW.seq ?_
    refine AW.seqR ?_
    refine AWo.pure (PureOp.move rfl) rfl rfl ?_
    refine AWo.pure (PureOp.lenS tbok rfl rfl) rfl rfl ?_
    refine AWo.pure (PureOp.move rfl) rfl rfl ?_
    refine AWo.nil trivial ?_
    refine AW.block ?_
    refine AW.loopw (fun mm σ => ∃ i, ∃ (s : GS), (i ≤ zs.length ∧ GG s) ∧ mm = zs.length - i ∧ σ = ⟨(upd (upd (upd (upd (upd emp 5 (.pointer (some ⟨31000, 0, none⟩))) 7 (.pointer (some ⟨8000, 0, none⟩))) 57 (.slice (some ⟨0, 0, none⟩) zs.length 0)) 58 (vi .i64 zs.length)) 59 (vi .i64 i)), (upd (upd (upd emp 0 ⟨zs.map (Value.int .i64), false, 1⟩) 31000 ⟨srcC s.1 s.2, true, 1⟩) 8000 ⟨(refl s).map Value.bool, true, 1⟩)⟩) (fm := []) ?_ ⟨0, gnew b w f p, ⟨Nat.zero_le _, hg0⟩, rfl, rfl⟩ ?_
    ·
      refine Wk.of [0, 31000, 8000] ?_ ?_ ?_ (by decide) rfl
      ·
        refine WkE.upd rfl (by first | exact VR.flat _ rfl | exact VR.eqv (by first | rfl | (congr 1; omega) | (simp; done) | (simp; omega)) rfl) ?_
        refine WkE.upd rfl (by first | exact VR.flat _ rfl | exact VR.eqv (by first | rfl | (congr 1; omega) | (simp; done) | (simp; omega)) rfl) ?_
        refine WkE.upd rfl (.slice (0) 0 _ 0 ⟨_, rfl⟩ (by simp) (by simp)) ?_
        refine WkE.upd rfl (.ptr (8000) 0 ⟨_, rfl⟩) ?_
        refine WkE.upd rfl (.ptr (31000) 0 ⟨_, rfl⟩) ?_
        exact WkE.emp
      ·
        refine WkM.flatM rfl (by first | rfl | assumption | simp) (fun _ => rfl) (fun h => h) ?_
        refine WkM.refl rfl srcC_flat (fun h => h) ?_
        refine WkM.flat rfl (flatM (fun _ => rfl)) (fun h => h) ?_
        exact WkM.emp
      ·
        repeat (refine dom_upd_mem (by decide) ?_)
        exact dom_emp
    ·
      rintro mm σ ⟨i, s, ⟨hinv, hg⟩, rfl, rfl⟩
      have hl0 := refl_len s
      refine AW.seqR ?_
      first | refine AWo.pure (PureOp.ltN rfl rfl) rfl rfl ?_ | refine AWo.pure (PureOp.bin rfl rfl rfl) rfl rfl ?_
      refine AWo.nil trivial ?_
      refine AW.seq ?_
      refine AW.cond rfl (fun hb1 => ?_) (fun hb1 => ?_)
      ·
        have hi : i < zs.length := by simpa using hb1
        refine AW.skip ?_
        refine thenA_normal ?_
        refine AW.seq ?_
        refine AW.block ?_
        refine AW.seqR ?_
        first | refine AWo.pure (PureOp.idx1 tbok rfl rfl rfl rfl (by first | decide | omega)) rfl rfl ?_ | refine AWo.pure (PureOp.idx tbok rfl rfl rfl rfl (by first | decide | omega)) rfl rfl ?_
        refine AWo.loadM tbok 0 rfl rfl rfl hi rfl rfl ?_
        refine AWo.pure (PureOp.assign rfl) rfl rfl ?_
        refine AWo.nil trivial ?_
        refine AW.seqR ?_
        refine AWo.pure (PureOp.assign rfl) rfl rfl ?_
        refine AWo.pure (PureOp.assign rfl) rfl rfl ?_
        refine AWo.nil trivial ?_
        refine AW.seq ?_
        obtain ⟨c, hc, hc2⟩ := cnt_ex (zs.getD i 0)
        refine AW.seqR ?_
        refine AWo.pure (PureOp.move rfl) rfl rfl ?_
        first | refine AWo.pure (PureOp.maxN rfl rfl) rfl rfl ?_ | refine AWo.pure (PureOp.max rfl rfl) rfl rfl ?_
        refine AWo.pure ((PureOp.min rfl rfl).mono (v' := vi .i64 c) hc.symm) rfl rfl ?_
        refine AWo.pure (PureOp.move rfl) rfl rfl ?_
        refine AWo.nil trivial ?_
        refine AW.block ?_
        refine AW.loopw (fun mm σ => ∃ j, (j ≤ c) ∧ mm = c - j ∧ σ = ⟨(upd (upd (upd (upd (upd (upd (upd (upd (upd emp 5 (.pointer (some ⟨31000, 0, none⟩))) 7 (.pointer (some ⟨8000, 0, none⟩))) 57 (.slice (some ⟨0, 0, none⟩) zs.length 0)) 58 (vi .i64 zs.length)) 59 (vi .i64 i)) 66 (vi .i64 j)) 65 (vi .i64 c)) 11 (vi .u64 (gpre j s).1)) 10 (.int .i64 (zs.getD i 0))), (upd (upd (upd emp 0 ⟨zs.map (Value.int .i64), false, 1⟩) 31000 ⟨srcC s.1 s.2, true, 1⟩) 8000 ⟨(refl (gpre j s).2).map Value.bool, true, 1⟩)⟩) (fm := []) ?_ ⟨0, Nat.zero_le _, rfl, rfl⟩ ?_
        ·
          refine Wk.of [0, 31000, 8000] ?_ ?_ ?_ (by decide) rfl
          ·
            refine WkE.upd rfl (by first | exact VR.flat _ rfl | exact VR.eqv (by first | rfl | (congr 1; omega) | (simp; done) | (simp; omega)) rfl) ?_
            refine WkE.upd rfl (VR.eqv (by first | rfl | (simp only [gpre_next (show j < 64 by omega)]; simp [*])) rfl) ?_
            refine WkE.upd rfl (by first | exact VR.flat _ rfl | exact VR.eqv (by first | rfl | (congr 1; omega) | (simp; done) | (simp; omega)) rfl) ?_
            refine WkE.upd rfl (by first | exact VR.flat _ rfl | exact VR.eqv (by first | rfl | (congr 1; omega) | (simp; done) | (simp; omega)) rfl) ?_
            refine WkE.upd rfl (by first | exact VR.flat _ rfl | exact VR.eqv (by first | rfl | (congr 1; omega) | (simp; done) | (simp; omega)) rfl) ?_
            refine WkE.upd rfl (by first | exact VR.flat _ rfl | exact VR.eqv (by first | rfl | (congr 1; omega) | (simp; done) | (simp; omega)) rfl) ?_
            refine WkE.upd rfl (.slice (0) 0 _ 0 ⟨_, rfl⟩ (by simp) (by simp)) ?_
            refine WkE.upd rfl (.ptr (8000) 0 ⟨_, rfl⟩) ?_
            refine WkE.upd rfl (.ptr (31000) 0 ⟨_, rfl⟩) ?_
            exact WkE.emp
          ·
            refine WkM.flatM rfl (by first | rfl | assumption | simp) (fun _ => rfl) (fun h => h) ?_
            refine WkM.refl rfl srcC_flat (fun h => h) ?_
            refine WkM.flat rfl (flatM (fun _ => rfl)) (fun h => h) ?_
            exact WkM.emp
          ·
            repeat (refine dom_upd_mem (by decide) ?_)
            exact dom_emp
        ·
          rintro mm σ ⟨j, hj, rfl, rfl⟩
          have hl0 := refl_len (gpre j s).2
          have hl1 := refl_len (gnx (gpre j s).2).1
          have hl2 := refl_len (gnx (gpre c s).2).1
          refine AW.seqR ?_
          first | refine AWo.pure (PureOp.ltN rfl rfl) rfl rfl ?_ | refine AWo.pure (PureOp.bin rfl rfl rfl) rfl rfl ?_
          refine AWo.nil trivial ?_
          refine AW.seq ?_
          refine AW.cond rfl (fun hb2 => ?_) (fun hb2 => ?_)
          ·
            have hj : j < c := by simpa using hb2
            refine AW.skip ?_
            refine thenA_normal ?_
            refine AW.seq ?_
            refine AW.block ?_
            refine AW.seqR ?_
            first | refine AWo.loadAll tbok rfl rfl rfl rfl (by first | (simp [*]; done) | rfl) rfl rfl ?_ | refine AWo.loadAgg tbok rfl rfl rfl rfl (by first | decide | omega) rfl rfl rfl ?_
            refine AWo.callX (bitr_ctr (hg.pre j).1 (gnx_eq (hg.pre j))) bd30 [] [] rfl (.cons rfl .nil) rfl (.pure (by first | rfl | exact pure_aggM flat_vi | exact pure_aggM flat_bool) .nil) .nil rfl .nil frN (by decide) (.pure (by first | rfl | exact pure_aggM flat_vi | exact pure_aggM flat_bool) (.cons rfl rfl .nil)) rfl rfl rfl rfl ?_
            refine AWo.pure (PureOp.move rfl) rfl rfl ?_
            refine AWo.pure (PureOp.extract rfl rfl) rfl rfl ?_
            refine AWo.pure (PureOp.extract rfl rfl) rfl rfl ?_
            refine AWo.storeAllN tbok rfl rfl rfl rfl (by first | (simp [*]; done) | rfl) (by first | (simp [*]; done) | rfl) (by first | exact oneM (fun _ => rfl) _ | rfl | (simp; done)) rfl ?_
            refine AWo.pure (PureOp.assign rfl) rfl rfl ?_
            refine AWo.nil trivial ?_
            refine AW.seqR ?_
            refine AWo.pure (PureOp.move rfl) rfl rfl ?_
            first | refine AWo.pure (PureOp.mulU (b := 2) 18446744073709551616 rfl rfl rfl rfl) rfl rfl ?_ | refine AWo.pure (PureOp.bin rfl rfl rfl) rfl rfl ?_
            refine AWo.pure (PureOp.assign rfl) rfl rfl ?_
            refine AWo.nil trivial ?_
            refine AW.seqR ?_
            refine AWo.pure (PureOp.move rfl) rfl rfl ?_
            refine AWo.nil trivial ?_
            refine AW.cond rfl (fun hb3 => ?_) (fun hb3 => ?_)
            ·
              refine AW.region ?_
              refine AWo.pure (PureOp.move rfl) rfl rfl ?_
              first | refine AWo.pure (PureOp.addU (b := 1) 18446744073709551616 rfl rfl rfl rfl) rfl rfl ?_ | refine AWo.pure (PureOp.bin rfl rfl rfl) rfl rfl ?_
              refine AWo.pure (PureOp.assign rfl) rfl rfl ?_
              refine AWo.nil trivial ?_
              refine inBlockA_normal ?_
              refine thenA_normal ?_
              refine AW.region ?_
              first | refine AWo.pure (PureOp.addI (b := 1) rfl rfl (by first | decide | omega)) rfl rfl ?_ | refine AWo.pure (PureOp.bin rfl rfl rfl) rfl rfl ?_
              refine AWo.pure (PureOp.move rfl) rfl rfl ?_
              refine AWo.nil trivial ?_
              refine thenA_normal ?_
              refine ⟨c - (j + 1), [], _, by omega, ?_, j + 1, by omega, rfl, rfl⟩
              refine Wk.of [0, 31000, 8000] ?_ ?_ ?_ (by decide) rfl
              ·
                refine WkE.upd rfl (by first | exact VR.flat _ rfl | exact VR.eqv (by first | rfl | (congr 1; omega) | (simp; done) | (simp; omega)) rfl) ?_
                refine WkE.upd rfl (VR.eqv (by first | rfl | (simp only [gpre_next (show j < 64 by omega)]; simp [*])) rfl) ?_
                refine WkE.upd rfl (by first | exact VR.flat _ rfl | exact VR.eqv (by first | rfl | (congr 1; omega) | (simp; done) | (simp; omega)) rfl) ?_
                refine WkE.upd rfl (by first | exact VR.flat _ rfl | exact VR.eqv (by first | rfl | (congr 1; omega) | (simp; done) | (simp; omega)) rfl) ?_
                refine WkE.upd rfl (by first | exact VR.flat _ rfl | exact VR.eqv (by first | rfl | (congr 1; omega) | (simp; done) | (simp; omega)) rfl) ?_
                refine WkE.upd rfl (by first | exact VR.flat _ rfl | exact VR.eqv (by first | rfl | (congr 1; omega) | (simp; done) | (simp; omega)) rfl) ?_
                refine WkE.upd rfl (.slice (0) 0 _ 0 ⟨_, rfl⟩ (by simp) (by simp)) ?_
                refine WkE.upd rfl (.ptr (8000) 0 ⟨_, rfl⟩) ?_
                refine WkE.upd rfl (.ptr (31000) 0 ⟨_, rfl⟩) ?_
                exact WkE.emp
              ·
                refine WkM.flatM rfl (by first | rfl | assumption | simp) (fun _ => rfl) (fun h => h) ?_
                refine WkM.refl rfl srcC_flat (fun h => h) ?_
                refine WkM.flat rfl (flatM (fun _ => rfl)) (fun h => h) ?_
                exact WkM.emp
              ·
                repeat (refine dom_upd_mem (by decide) ?_)
                exact dom_emp
            ·
              refine AW.skip ?_
              refine inBlockA_normal ?_
              refine thenA_normal ?_
              refine AW.region ?_
              first | refine AWo.pure (PureOp.addI (b := 1) rfl rfl (by first | decide | omega)) rfl rfl ?_ | refine AWo.pure (PureOp.bin rfl rfl rfl) rfl rfl ?_
              refine AWo.pure (PureOp.move rfl) rfl rfl ?_
              refine AWo.nil trivial ?_
              refine thenA_normal ?_
              refine ⟨c - (j + 1), [], _, by omega, ?_, j + 1, by omega, rfl, rfl⟩
              refine Wk.of [0, 31000, 8000] ?_ ?_ ?_ (by decide) rfl
              ·
                refine WkE.upd rfl (by first | exact VR.flat _ rfl | exact VR.eqv (by first | rfl | (congr 1; omega) | (simp; done) | (simp; omega)) rfl) ?_
                refine WkE.upd rfl (VR.eqv (by first | rfl | (simp only [gpre_next (show j < 64 by omega)]; simp [*])) rfl) ?_
                refine WkE.upd rfl (by first | exact VR.flat _ rfl | exact VR.eqv (by first | rfl | (congr 1; omega) | (simp; done) | (simp; omega)) rfl) ?_
                refine WkE.upd rfl (by first | exact VR.flat _ rfl | exact VR.eqv (by first | rfl | (congr 1; omega) | (simp; done) | (simp; omega)) rfl) ?_
                refine WkE.upd rfl (by first | exact VR.flat _ rfl | exact VR.eqv (by first | rfl | (congr 1; omega) | (simp; done) | (simp; omega)) rfl) ?_
                refine WkE.upd rfl (by first | exact VR.flat _ rfl | exact VR.eqv (by first | rfl | (congr 1; omega) | (simp; done) | (simp; omega)) rfl) ?_
                refine WkE.upd rfl (.slice (0) 0 _ 0 ⟨_, rfl⟩ (by simp) (by simp)) ?_
                refine WkE.upd rfl (.ptr (8000) 0 ⟨_, rfl⟩) ?_
                refine WkE.upd rfl (.ptr (31000) 0 ⟨_, rfl⟩) ?_
                exact WkE.emp
              ·
                refine WkM.flatM rfl (by first | rfl | assumption | simp) (fun _ => rfl) (fun h => h) ?_
                refine WkM.refl rfl srcC_flat (fun h => h) ?_
                refine WkM.flat rfl (flatM (fun _ => rfl)) (fun h => h) ?_
                exact WkM.emp
              ·
                repeat (refine dom_upd_mem (by decide) ?_)
                exact dom_emp
          ·
            have hj : c = j := by simp at hb2; omega
            subst hj
            refine AW.exit ?_
            refine thenA_exit ?_
            refine thenA_exit ?_
            refine inBlockA_hit ?_
            refine thenA_normal ?_
            refine AW.seq ?_
            refine AW.seqR ?_
            refine AWo.pure (PureOp.move rfl) rfl rfl ?_
            refine AWo.pure (PureOp.move rfl) rfl rfl ?_
            refine AWo.callX (number_ctr hg hc hc2) bd31 [(31000, 0)] [] rfl (.cons rfl (.cons rfl .nil)) rfl (.cons rfl rfl (.cons rfl rfl .nil)) (.flat rfl srcC_flat (fun h => h) .nil) rfl (.chg rfl rfl (flat_map_ren srcC_flat) (OkL.flat srcC_flat) .nil) frN (by decide) (.cons rfl rfl .nil) rfl rfl rfl rfl ?_
            refine AWo.pure (PureOp.move rfl) rfl rfl ?_
            first | refine AWo.pure ((PureOp.neN rfl rfl).mono (v' := .bool false) (by simp)) rfl rfl ?_ | refine AWo.pure ((PureOp.bin rfl rfl rfl).mono (v' := .bool false) (by simp)) rfl rfl ?_
            refine AWo.nil trivial ?_
            refine AW.condF rfl ?_
            refine AW.skip ?_
            refine thenA_normal ?_
            refine AW.seqR ?_
            first | refine AWo.loadAll tbok rfl rfl rfl rfl (by first | (simp [*]; done) | rfl) rfl rfl ?_ | refine AWo.loadAgg tbok rfl rfl rfl rfl (by first | decide | omega) rfl rfl rfl ?_
            refine AWo.callX (bitr_ctr (hg.pre c).1 (gnx_eq (hg.pre c))) bd30 [] [] rfl (.cons rfl .nil) rfl (.pure (by first | rfl | exact pure_aggM flat_vi | exact pure_aggM flat_bool) .nil) .nil rfl .nil frN (by decide) (.pure (by first | rfl | exact pure_aggM flat_vi | exact pure_aggM flat_bool) (.cons rfl rfl .nil)) rfl rfl rfl rfl ?_
            refine AWo.pure (PureOp.move rfl) rfl rfl ?_
            refine AWo.pure (PureOp.extract rfl rfl) rfl rfl ?_
            refine AWo.pure (PureOp.extract rfl rfl) rfl rfl ?_
            refine AWo.storeAllN tbok rfl rfl rfl rfl (by first | (simp [*]; done) | rfl) (by first | (simp [*]; done) | rfl) (by first | exact oneM (fun _ => rfl) _ | rfl | (simp; done)) rfl ?_
            refine AWo.pure (PureOp.assign rfl) rfl rfl ?_
            refine AWo.nil trivial ?_
            refine AW.seqR ?_
            refine AWo.pure (PureOp.move rfl) rfl rfl ?_
            refine AWo.callX (bit_ctr (hg.pre c).1 (gnx_eq (hg.pre c))) bd32 [(31000, 0)] [] rfl (.cons rfl .nil) rfl (.cons rfl rfl .nil) (.flat rfl srcC_flat (fun h => h) .nil) rfl (.chg rfl rfl (flat_map_ren srcC_flat) (OkL.flat srcC_flat) .nil) frN (by decide) (.cons rfl rfl .nil) rfl rfl rfl rfl ?_
            refine AWo.pure (PureOp.move rfl) rfl rfl ?_
            first | refine AWo.pure ((PureOp.neqBool Try.underlying4 rfl rfl).mono (v' := .bool false) (by simp)) rfl rfl ?_
            refine AWo.nil trivial ?_
            refine AW.condF rfl ?_
            refine AW.skip ?_
            refine inBlockA_normal ?_
            refine thenA_normal ?_
            refine AW.region ?_
            first | refine AWo.pure (PureOp.addI (b := 1) rfl rfl (by first | decide | omega)) rfl rfl ?_ | refine AWo.pure (PureOp.bin rfl rfl rfl) rfl rfl ?_
            refine AWo.pure (PureOp.move rfl) rfl rfl ?_
            refine AWo.nil trivial ?_
            refine thenA_normal ?_
            refine ⟨zs.length - (i + 1), [], _, by omega, ?_, i + 1, _, ⟨by omega, (hg.pre c).nx⟩, rfl, rfl⟩
            refine Wk.of [0, 31000, 8000] ?_ ?_ ?_ (by decide) rfl
            ·
              refine WkE.upd rfl (by first | exact VR.flat _ rfl | exact VR.eqv (by first | rfl | (congr 1; omega) | (simp; done) | (simp; omega)) rfl) ?_
              refine WkE.upd rfl (by first | exact VR.flat _ rfl | exact VR.eqv (by first | rfl | (congr 1; omega) | (simp; done) | (simp; omega)) rfl) ?_
              refine WkE.upd rfl (.slice (0) 0 _ 0 ⟨_, rfl⟩ (by simp) (by simp)) ?_
              refine WkE.upd rfl (.ptr (8000) 0 ⟨_, rfl⟩) ?_
              refine WkE.upd rfl (.ptr (31000) 0 ⟨_, rfl⟩) ?_
              exact WkE.emp
            ·
              refine WkM.flatM rfl (by first | rfl | assumption | simp) (fun _ => rfl) (fun h => h) ?_
              refine WkM.refl rfl srcC_flat (fun h => h) ?_
              refine WkM.flat rfl (flatM (fun _ => rfl)) (fun h => h) ?_
              exact WkM.emp
            ·
              repeat (refine dom_upd_mem (by decide) ?_)
              exact dom_emp
      ·
        refine AW.exit ?_
        refine thenA_exit ?_
        refine thenA_exit ?_
        refine inBlockA_hit ?_
        refine thenA_normal ?_
        refine AW.seqR ?_
        refine AWo.pure (PureOp.assign rfl) rfl rfl ?_
        refine AWo.nil trivial ?_
        refine AW.ret ?_
        refine RetQ.gc [_] [] [.tmp 4] (.inl rfl) rfl (.tmp rfl .nil) rfl (.cons rfl rfl .nil) (OutL.flat rfl (by first | exact flatM flat_vi | exact flatM flat_bool | exact srcC_flat | exact flatM (fun _ => rfl)) (by intro h; first | rfl | exact h.elim id fun h => absurd h.1 (by simp)) trivial) (by decide) rfl

set_option maxRecDepth 10000 in
theorem bits_bad {b w f p : Int} {zs : List Int} (hbad : ¬ (1 ≤ b ∧ b ≤ 4095 ∧ 1 ≤ w ∧ w ≤ 4095 ∧ 0 ≤ f ∧ f ≤ 1023 ∧ 0 ≤ p ∧ p ≤ 1023)) : GC Try.prog 3 [.agg #[.int .i64 b, .int .i64 w, .int .i64 f, .int .i64 p], .slice (some ⟨0, 0, none⟩) zs.length 0] [⟨zs.map (Value.int .i64), false, 1⟩] [.bool true] [⟨zs.map (Value.int .i64), false, 1⟩] := by
  refine GC.intro Try.func3 rfl (by show 2 ≤ 94; decide) (by first | exact Nat.le_refl _ | decide | simp) ?_
  refine AW.seqR ?_
  refine AWo.box 3000 1 _ rfl rfl rfl rfl rfl ?_
  refine AWo.pure (PureOp.assign rfl) rfl rfl ?_
  refine AWo.nil trivial ?_
  refine AW.seq ?_
  refine AW.seqR ?_
  refine AWo.callX (speaks_ctr) bd27 [] [] rfl .nil rfl .nil .nil rfl .nil frN (by decide) (.cons rfl rfl .nil) rfl rfl rfl rfl ?_
  refine AWo.pure (PureOp.not rfl) rfl rfl ?_
  refine AWo.pure (PureOp.move rfl) rfl rfl ?_
  refine AWo.pure (PureOp.move rfl) rfl rfl ?_
  refine AWo.pure (PureOp.lenS tbok rfl rfl) rfl rfl ?_
  first | refine AWo.pure (PureOp.gtN (b := 40) rfl rfl) rfl rfl ?_ | refine AWo.pure (PureOp.bin rfl rfl rfl) rfl rfl ?_
  refine AWo.pure (PureOp.pickF rfl rfl) rfl rfl ?_
  refine AWo.nil trivial ?_
  refine AW.cond rfl (fun hb0 => ?_) (fun hb0 => ?_)
  ·
    refine AW.seqR ?_
    refine AWo.callX (speaks_ctr) bd27 [] [] rfl .nil rfl .nil .nil rfl .nil frN (by decide) (.cons rfl rfl .nil) rfl rfl rfl rfl ?_
    refine AWo.pure (PureOp.assign rfl) rfl rfl ?_
    refine AWo.nil trivial ?_
    refine AW.ret ?_
    refine thenA_ret ?_
    refine RetQ.gc [_] [] [.tmp 4] (.inl rfl) rfl (.tmp rfl .nil) rfl (.cons rfl rfl .nil) (OutL.flat rfl (by first | exact flatM flat_vi | exact flatM flat_bool | exact srcC_flat | exact flatM (fun _ => rfl)) (by intro h; first | rfl | exact h.elim id fun h => absurd h.1 (by simp)) trivial) (by decide) rfl
  ·
    refine AW.skip ?_
    refine thenA_normal ?_
    refine AW.seqR ?_
    first | refine AWo.pure (PureOp.arr1 (j := 0) tbok rfl rfl rfl rfl (by first | decide | omega)) rfl rfl ?_ | refine AWo.pure (PureOp.arr (j := 0) tbok rfl rfl rfl rfl (by first | decide | omega)) rfl rfl ?_
    first | refine AWo.loadM tbok 0 rfl rfl rfl (by first | decide | omega) rfl rfl ?_ | refine AWo.load tbok rfl rfl rfl rfl rfl rfl ?_
    first | refine AWo.pure (PureOp.arr1 (j := 1) tbok rfl rfl rfl rfl (by first | decide | omega)) rfl rfl ?_ | refine AWo.pure (PureOp.arr (j := 1) tbok rfl rfl rfl rfl (by first | decide | omega)) rfl rfl ?_
    first | refine AWo.loadM tbok 0 rfl rfl rfl (by first | decide | omega) rfl rfl ?_ | refine AWo.load tbok rfl rfl rfl rfl rfl rfl ?_
    first | refine AWo.pure (PureOp.arr1 (j := 2) tbok rfl rfl rfl rfl (by first | decide | omega)) rfl rfl ?_ | refine AWo.pure (PureOp.arr (j := 2) tbok rfl rfl rfl rfl (by first | decide | omega)) rfl rfl ?_
    first | refine AWo.loadM tbok 0 rfl rfl rfl (by first | decide | omega) rfl rfl ?_ | refine AWo.load tbok rfl rfl rfl rfl rfl rfl ?_
    first | refine AWo.pure (PureOp.arr1 (j := 3) tbok rfl rfl rfl rfl (by first | decide | omega)) rfl rfl ?_ | refine AWo.pure (PureOp.arr (j := 3) tbok rfl rfl rfl rfl (by first | decide | omega)) rfl rfl ?_
    first | refine AWo.loadM tbok 0 rfl rfl rfl (by first | decide | omega) rfl rfl ?_ | refine AWo.load tbok rfl rfl rfl rfl rfl rfl ?_
    refine AWo.callX (newbad_ctr hbad) bd28 [] [] rfl (.cons rfl (.cons rfl (.cons rfl (.cons rfl .nil)))) rfl (.cons rfl rfl (.cons rfl rfl (.cons rfl rfl (.cons rfl rfl .nil)))) .nil rfl .nil frN (by decide) (.cons rfl rfl (.cons rfl rfl .nil)) rfl rfl rfl rfl ?_
    refine AWo.pure (PureOp.move rfl) rfl rfl ?_
    refine AWo.pure (PureOp.extract rfl rfl) rfl rfl ?_
    refine AWo.pure (PureOp.extract rfl rfl) rfl rfl ?_
    refine AWo.pure (PureOp.assign rfl) rfl rfl ?_
    refine AWo.pure (PureOp.assign rfl) rfl rfl ?_
    refine AWo.nil trivial ?_
    refine AW.seqR ?_
    first | refine AWo.pure (PureOp.arr1 (j := 0) tbok rfl rfl rfl rfl (by first | decide | omega)) rfl rfl ?_ | refine AWo.pure (PureOp.arr (j := 0) tbok rfl rfl rfl rfl (by first | decide | omega)) rfl rfl ?_
    first | refine AWo.loadM tbok 0 rfl rfl rfl (by first | decide | omega) rfl rfl ?_ | refine AWo.load tbok rfl rfl rfl rfl rfl rfl ?_
    first | refine AWo.pure (PureOp.arr1 (j := 1) tbok rfl rfl rfl rfl (by first | decide | omega)) rfl rfl ?_ | refine AWo.pure (PureOp.arr (j := 1) tbok rfl rfl rfl rfl (by first | decide | omega)) rfl rfl ?_
    first | refine AWo.loadM tbok 0 rfl rfl rfl (by first | decide | omega) rfl rfl ?_ | refine AWo.load tbok rfl rfl rfl rfl rfl rfl ?_
    first | refine AWo.pure (PureOp.arr1 (j := 2) tbok rfl rfl rfl rfl (by first | decide | omega)) rfl rfl ?_ | refine AWo.pure (PureOp.arr (j := 2) tbok rfl rfl rfl rfl (by first | decide | omega)) rfl rfl ?_
    first | refine AWo.loadM tbok 0 rfl rfl rfl (by first | decide | omega) rfl rfl ?_ | refine AWo.load tbok rfl rfl rfl rfl rfl rfl ?_
    first | refine AWo.pure (PureOp.arr1 (j := 3) tbok rfl rfl rfl rfl (by first | decide | omega)) rfl rfl ?_ | refine AWo.pure (PureOp.arr (j := 3) tbok rfl rfl rfl rfl (by first | decide | omega)) rfl rfl ?_
    first | refine AWo.loadM tbok 0 rfl rfl rfl (by first | decide | omega) rfl rfl ?_ | refine AWo.load tbok rfl rfl rfl rfl rfl rfl ?_
    refine AWo.callX (newrbad_ctr hbad) bd29 [] [] rfl (.cons rfl (.cons rfl (.cons rfl (.cons rfl .nil)))) rfl (.cons rfl rfl (.cons rfl rfl (.cons rfl rfl (.cons rfl rfl .nil)))) .nil rfl .nil frN (by decide) (.pure (by first | rfl | exact pure_aggM flat_vi | exact pure_aggM flat_bool) (.cons rfl rfl .nil)) rfl rfl rfl rfl ?_
    refine AWo.pure (PureOp.move rfl) rfl rfl ?_
    refine AWo.pure (PureOp.extract rfl rfl) rfl rfl ?_
    refine AWo.pure (PureOp.extract rfl rfl) rfl rfl ?_
    refine AWo.alloc tbok 8000 1 ((List.replicate 80 false).map Value.bool) rfl rfl rfl rfl rfl rfl ?_
    refine AWo.storeAllN tbok rfl rfl rfl rfl (by first | (simp [*]; done) | rfl) (by first | (simp [*]; done) | rfl) (by first | exact oneM (fun _ => rfl) _ | rfl | (simp; done)) rfl ?_
    refine AWo.pure (PureOp.assign rfl) rfl rfl ?_
    refine AWo.nil trivial ?_
    refine AW.seq ?_
    refine AW.seqR ?_
    refine AWo.pure (PureOp.move rfl) rfl rfl ?_
    refine AWo.pure (PureOp.move rfl) rfl rfl ?_
    first | refine AWo.pure (PureOp.neN rfl rfl) rfl rfl ?_ | refine AWo.pure (PureOp.bin rfl rfl rfl) rfl rfl ?_
    refine AWo.pure (PureOp.move rfl) rfl rfl ?_
    refine AWo.pure (PureOp.move rfl) rfl rfl ?_
    first | refine AWo.pure ((PureOp.ptrNeNil Try.underlying25 rfl).mono (v' := .bool false) rfl) rfl rfl ?_ | refine AWo.pure ((PureOp.nilNeNil Try.underlying25 rfl rfl).mono (v' := .bool false) rfl) rfl rfl ?_
    refine AWo.pure (PureOp.move rfl) rfl rfl ?_
    first | refine AWo.pure (PureOp.eqN (b := 0) rfl rfl) rfl rfl ?_ | refine AWo.pure (PureOp.bin rfl rfl rfl) rfl rfl ?_
    refine AWo.pure (PureOp.neqBool Try.underlying4 rfl rfl) rfl rfl ?_
    refine AWo.pure (PureOp.pickF rfl rfl) rfl rfl ?_
    refine AWo.nil trivial ?_
    refine AW.condF rfl ?_
    refine AW.skip ?_
    refine thenA_normal ?_
    refine AW.seq ?_
    refine AW.seqR ?_
    refine AWo.pure (PureOp.move rfl) rfl rfl ?_
    first | refine AWo.pure (PureOp.ptrEqNil Try.underlying25 rfl) rfl rfl ?_ | refine AWo.pure (PureOp.nilEqNil Try.underlying25 rfl rfl) rfl rfl ?_
    refine AWo.nil trivial ?_
    refine AW.condT rfl ?_
    refine AW.seqR ?_
    refine AWo.pure (PureOp.assign rfl) rfl rfl ?_
    refine AWo.nil trivial ?_
    refine AW.ret ?_
    refine thenA_ret ?_
    refine RetQ.gc [_] [] [.tmp 4] (.inl rfl) rfl (.tmp rfl .nil) rfl (.cons rfl rfl .nil) (OutL.flat rfl (by first | exact flatM flat_vi | exact flatM flat_bool | exact srcC_flat | exact flatM (fun _ => rfl)) (by intro h; first | rfl | exact h.elim id fun h => absurd h.1 (by simp)) trivial) (by decide) rfl
end Go.Proofs.Ytiikffiembcboaa
