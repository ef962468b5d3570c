/- What the proof stands on, part 4: the walk of each function, and plain laws of numbers. -/
import Derived.Test.YtbholmgeaklljaaK3
import Derived.Test.YtbholmgeaklljaaRows
import Derived.ProofKit
namespace Go.Proofs.Ytbholmgeaklljaa
open Go Sim
theorem cmpG_ge {a b : Nat} (h : 0 ≤ cmpI a b) : b ≤ a := by
 simp only [cmpI] at h
 split at h
 · omega
 · omega
theorem cmpG_lt {a b : Nat} (h : cmpI a b < 0) : a < b := by
 simp only [cmpI] at h
 split at h
 · assumption
 · split at h <;> omega
theorem cmp8_ctr {a : List Nat} (ha : bd 4294967296 a) (hl : a.length = 8) : GC Try.prog 21 [.slice (some ⟨0, 0, none⟩) 8 0, .slice (some ⟨1, 0, none⟩) pdig.length 0] [⟨a.map (vi .u64), false, 1⟩, ⟨pdig.map (vi .u64), false, 1⟩] [.int .i64 (cmpI (num 4294967296 a) (num 4294967296 pdig))] [⟨a.map (vi .u64), false, 1⟩, ⟨pdig.map (vi .u64), false, 1⟩] := by
  have h := rcmp_ctr (b := pdig) ha pdig_bd (by omega) (by decide)
  rw [hl] at h
  exact h
set_option maxRecDepth 10000 in
theorem elem8_ctr {s : GS} {j : Nat} (hg : GG s) (hj : gok s j) (hmin : ∀ i, i < j → ¬ gok s i) : GC Try.prog 11 [.agg ((refl s).map Value.bool).toArray] [] [.agg ((refl (gad s (254 * (j + 1)))).map Value.bool).toArray, .slice (some ⟨0, 0, none⟩) (D 4294967296 (gv (gad s (254 * j)) 254)).length 0] [⟨(D 4294967296 (gv (gad s (254 * j)) 254)).map (vi .u64), true, 1⟩] := by
  refine GC.intro Try.func11 rfl (by show 1 ≤ 47; decide) (Nat.zero_le _) ?_
  refine AW.seqR ?_
  refine AWo.box 2000 1 ((refl s).map Value.bool) rfl rfl rfl rfl rfl ?_
  refine AWo.alloc tbok 3000 1 ((List.replicate 80 false).map Value.bool) rfl rfl rfl rfl rfl rfl ?_
  refine AWo.pure (PureOp.assign rfl) rfl rfl ?_
  refine AWo.nil trivial ?_
  refine AW.block ?_
  refine AW.loopw (fun mm σ => ∃ i, (i ≤ j) ∧ mm = j - i ∧ σ = ⟨(upd (upd emp 1 (.pointer (some ⟨2000, 0, none⟩))) 2 (.pointer (some ⟨3000, 0, none⟩))), (upd (upd emp 2000 ⟨(refl (gad s (254 * i))).map Value.bool, true, 1⟩) 3000 ⟨(List.replicate 80 false).map Value.bool, true, 1⟩)⟩) (fm := []) ?_ ⟨0, Nat.zero_le _, rfl, rfl⟩ ?_
  ·
    refine Wk.of [2000, 3000] ?_ ?_ ?_ (by decide) rfl
    ·
      refine WkE.upd rfl (.ptr (3000) 0 ⟨_, rfl⟩) ?_
      refine WkE.upd rfl (.ptr (2000) 0 ⟨_, rfl⟩) ?_
      exact WkE.emp
    ·
      refine WkM.flatM rfl (by first | rfl | assumption | simp) (fun _ => rfl) (fun h => h) ?_
      refine WkM.flatM rfl (by first | rfl | assumption | simp) (fun _ => rfl) (fun h => h) ?_
      exact WkM.emp
    ·
      repeat (refine dom_upd_mem (by decide) ?_)
      exact dom_emp
  ·
    rintro mm σ ⟨i, hinv, rfl, rfl⟩
    have hgS : GG (gad s (254 * i)) := hg.gad _
    refine AW.block ?_
    refine AW.seqR ?_
    refine AWo.makeI tbok 9000 rfl rfl rfl rfl rfl rfl (by first | decide | omega) (by first | decide | omega) rfl rfl rfl ?_
    refine AWo.pure (PureOp.assign rfl) rfl rfl ?_
    refine AWo.nil trivial ?_
    refine AW.seq ?_
    refine AW.seqR ?_
    refine AWo.pure (PureOp.assign rfl) rfl rfl ?_
    refine AWo.nil trivial ?_
    refine AW.block ?_
    refine AW.loopw (fun mm σ => ∃ r, ∃ q, ∃ (l : List Nat), (q + r = 254 ∧ l.length = 8 ∧ bd 4294967296 l ∧ BitI (gbits (gad s (254 * i))) r l) ∧ mm = 1 * r ∧ σ = ⟨(upd (upd (upd (upd emp 1 (.pointer (some ⟨2000, 0, none⟩))) 2 (.pointer (some ⟨3000, 0, none⟩))) 4 (.slice (some ⟨9000, 0, none⟩) 8 0)) 5 (vp r)), (upd (upd (upd emp 2000 ⟨(refl (gad (gad s (254 * i)) q)).map Value.bool, true, 1⟩) 3000 ⟨(List.replicate 80 false).map Value.bool, true, 1⟩) 9000 ⟨l.map (vi .u64), true, 1⟩)⟩) (fm := []) ?_ ⟨254, 0, List.replicate 8 0, ⟨rfl, rfl, bd_replicate (by decide) _, bitI_init _⟩, rfl, rfl⟩ ?_
    ·
      refine Wk.of [2000, 3000, 9000] ?_ ?_ ?_ (by decide) rfl
      ·
        refine WkE.upd rfl (by first | exact VR.flat _ rfl | exact VR.eqv (vp_succ _) rfl | exact VR.eqv (vp_succ _).symm rfl | exact VR.eqv (by first | rfl | (congr 1; omega) | (simp; done) | (simp; omega)) rfl) ?_
        refine WkE.upd rfl (.slice (9000) 0 _ 0 ⟨_, rfl⟩ (by simp) (by simp)) ?_
        refine WkE.upd rfl (.ptr (3000) 0 ⟨_, rfl⟩) ?_
        refine WkE.upd rfl (.ptr (2000) 0 ⟨_, rfl⟩) ?_
        exact WkE.emp
      ·
        refine WkM.flatM rfl (by first | rfl | assumption | simp) (fun _ => rfl) (fun h => h) ?_
        refine WkM.flatM rfl (by first | rfl | assumption | simp) (fun _ => rfl) (fun h => h) ?_
        refine WkM.flatM rfl (by first | rfl | assumption | simp) (fun _ => rfl) (fun h => h) ?_
        exact WkM.emp
      ·
        repeat (refine dom_upd_mem (by decide) ?_)
        exact dom_emp
    ·
      rintro mm σ ⟨r, q, l, ⟨hqr, hll, hbl, hI⟩, rfl, rfl⟩
      have hl0 := refl_len (gad (gad s (254 * i)) q)
      have hl1 := refl_len (gnx (gad (gad s (254 * i)) q)).1
      refine AW.seq ?_
      refine AW.seqR ?_
      refine AWo.pure (PureOp.move rfl) rfl rfl ?_
      first | refine AWo.pure (PureOp.geP rfl rfl) rfl rfl ?_ | refine AWo.pure (PureOp.geN (b := 0) rfl rfl) rfl rfl ?_ | refine AWo.pure (PureOp.bin rfl rfl rfl) rfl rfl ?_
      refine AWo.nil trivial ?_
      refine AW.cond rfl (fun hb0 => ?_) (fun hb0 => ?_)
      ·
        have hp0 : 0 < r := by simpa using hb0
        obtain ⟨r, rfl⟩ : ∃ q, r = q + 1 := ⟨r - 1, by omega⟩
        rw [vp_succ]
        have hx := bitI_lt hqr hI
        have hM : 4294967296 = 4294967296 := rfl
        have hl2 : (l.set (r / 32) (l.getD (r / 32) 0 * 2)).getD (r / 32) 0 = l.getD (r / 32) 0 * 2 := getD_set_self (by omega)
        have hl3 : (l.set (r / 32) (l.getD (r / 32) 0 * 2)).length = 8 := by simp [hll]
        refine AW.skip ?_
        refine thenA_normal ?_
        refine AW.seq ?_
        refine AW.block ?_
        refine AW.seqR ?_
        first | refine AWo.loadAll tbok rfl rfl rfl rfl (by first | (simp [*]; done) | rfl) rfl rfl ?_ | refine AWo.loadAgg tbok rfl rfl rfl rfl (by first | decide | omega) rfl rfl rfl ?_
        refine AWo.callX (bitr_ctr (hgS.gad q).1 (gnx_eq (hgS.gad q))) bd20 [] [] rfl (.cons rfl .nil) rfl (.pure (by first | rfl | exact pure_aggM flat_vi | exact pure_aggM flat_bool) .nil) .nil rfl .nil frN (by decide) (.pure (by first | rfl | exact pure_aggM flat_vi | exact pure_aggM flat_bool) (.cons rfl rfl .nil)) rfl rfl rfl rfl ?_
        refine AWo.pure (PureOp.move rfl) rfl rfl ?_
        refine AWo.pure (PureOp.extract rfl rfl) rfl rfl ?_
        refine AWo.pure (PureOp.extract rfl rfl) rfl rfl ?_
        refine AWo.alloc tbok 7000 1 ((List.replicate 80 false).map Value.bool) rfl rfl rfl rfl rfl rfl ?_
        refine AWo.storeAllN tbok rfl rfl rfl rfl (by first | (simp [*]; done) | rfl) (by first | (simp [*]; done) | rfl) (by first | exact oneM (fun _ => rfl) _ | rfl | (simp; done)) rfl ?_
        refine AWo.pure (PureOp.assign rfl) rfl rfl ?_
        refine AWo.nil trivial ?_
        refine AW.seqR ?_
        first | refine AWo.loadAll tbok rfl rfl rfl rfl (by first | (simp [*]; done) | rfl) rfl rfl ?_ | refine AWo.loadAgg tbok rfl rfl rfl rfl (by first | decide | omega) rfl rfl rfl ?_
        refine AWo.storeAllN tbok rfl rfl rfl rfl (by first | (simp [*]; done) | rfl) (by first | (simp [*]; done) | rfl) (by first | exact oneM (fun _ => rfl) _ | rfl | (simp; done)) rfl ?_
        refine AWo.nil trivial ?_
        refine AW.seqR ?_
        refine AWo.pure (PureOp.move rfl) rfl rfl ?_
        refine AWo.pure (PureOp.move rfl) rfl rfl ?_
        first | refine AWo.pure ((PureOp.quoN (b := 32) 9223372036854775808 rfl rfl (by decide) (by decide) (by first | decide | omega) (by first | decide | omega)).mono (v' := vi .i64 (r / 32)) rfl) rfl rfl ?_ | refine AWo.pure ((PureOp.quo rfl rfl (by first | decide | omega)).mono (v' := vi .i64 (r / 32)) rfl) rfl rfl ?_
        refine AWo.pure (PureOp.move rfl) rfl rfl ?_
        refine AWo.pure (PureOp.move rfl) rfl rfl ?_
        first | refine AWo.pure ((PureOp.quoN (b := 32) 9223372036854775808 rfl rfl (by decide) (by decide) (by first | decide | omega) (by first | decide | omega)).mono (v' := vi .i64 (r / 32)) rfl) rfl rfl ?_ | refine AWo.pure ((PureOp.quo rfl rfl (by first | decide | omega)).mono (v' := vi .i64 (r / 32)) rfl) rfl rfl ?_
        first | refine AWo.pure (PureOp.idx1 tbok rfl rfl rfl rfl (by first | decide | omega)) rfl rfl ?_ | refine AWo.pure (PureOp.idx tbok rfl rfl rfl rfl (by first | decide | omega)) rfl rfl ?_
        first | refine AWo.loadM tbok 0 rfl rfl rfl (by first | decide | omega) rfl rfl ?_ | refine AWo.load tbok rfl rfl rfl rfl rfl rfl ?_
        first | refine AWo.pure ((PureOp.mulU (b := 2) 18446744073709551616 rfl rfl rfl rfl).mono (v' := vi .u64 (l.getD (r / 32) 0 * 2)) (congrArg (vi .u64) (Nat.mod_eq_of_lt (by omega)))) rfl rfl ?_ | refine AWo.pure ((PureOp.bin rfl rfl rfl).mono (v' := vi .u64 (l.getD (r / 32) 0 * 2)) (congrArg (vi .u64) (Nat.mod_eq_of_lt (by omega)))) rfl rfl ?_
        first | refine AWo.pure (PureOp.idx1 tbok rfl rfl rfl rfl (by first | decide | omega)) rfl rfl ?_ | refine AWo.pure (PureOp.idx tbok rfl rfl rfl rfl (by first | decide | omega)) rfl rfl ?_
        first | refine AWo.storeM (f := (vi .u64)) tbok rfl rfl rfl rfl (by first | decide | omega) rfl rfl ?_ | refine AWo.store tbok rfl rfl rfl rfl rfl (by first | decide | (simp; omega)) rfl rfl rfl ?_
        refine AWo.nil trivial ?_
        refine AW.seqR ?_
        refine AWo.pure (PureOp.move rfl) rfl rfl ?_
        refine AWo.nil trivial ?_
        refine AW.cond rfl (fun hb1 => ?_) (fun hb1 => ?_)
        ·
          have hbt : (gnx (gad (gad s (254 * i)) q)).2 = true := by simpa using hb1
          rw [hbt, Bool.toNat_true] at hx
          refine AW.region ?_
          refine AWo.pure (PureOp.move rfl) rfl rfl ?_
          refine AWo.pure (PureOp.move rfl) rfl rfl ?_
          first | refine AWo.pure ((PureOp.quoN (b := 32) 9223372036854775808 rfl rfl (by decide) (by decide) (by first | decide | omega) (by first | decide | omega)).mono (v' := vi .i64 (r / 32)) rfl) rfl rfl ?_ | refine AWo.pure ((PureOp.quo rfl rfl (by first | decide | omega)).mono (v' := vi .i64 (r / 32)) rfl) rfl rfl ?_
          refine AWo.pure (PureOp.move rfl) rfl rfl ?_
          refine AWo.pure (PureOp.move rfl) rfl rfl ?_
          first | refine AWo.pure ((PureOp.quoN (b := 32) 9223372036854775808 rfl rfl (by decide) (by decide) (by first | decide | omega) (by first | decide | omega)).mono (v' := vi .i64 (r / 32)) rfl) rfl rfl ?_ | refine AWo.pure ((PureOp.quo rfl rfl (by first | decide | omega)).mono (v' := vi .i64 (r / 32)) rfl) rfl rfl ?_
          first | refine AWo.pure (PureOp.idx1 tbok rfl rfl rfl rfl (by first | decide | omega)) rfl rfl ?_ | refine AWo.pure (PureOp.idx tbok rfl rfl rfl rfl (by first | decide | omega)) rfl rfl ?_
          first | refine AWo.loadM tbok 0 rfl rfl rfl (by first | decide | omega) rfl rfl ?_ | refine AWo.load tbok rfl rfl rfl rfl rfl rfl ?_
          first | refine AWo.pure ((PureOp.addU (b := 1) 18446744073709551616 rfl rfl rfl rfl).mono (v' := vi .u64 (l.getD (r / 32) 0 * 2 + 1)) (congrArg (vi .u64) (by rw [hl2]; exact Nat.mod_eq_of_lt (by omega)))) rfl rfl ?_ | refine AWo.pure ((PureOp.bin rfl rfl rfl).mono (v' := vi .u64 (l.getD (r / 32) 0 * 2 + 1)) (congrArg (vi .u64) (by rw [hl2]; exact Nat.mod_eq_of_lt (by omega)))) rfl rfl ?_
          first | refine AWo.pure (PureOp.idx1 tbok rfl rfl rfl rfl (by first | decide | omega)) rfl rfl ?_ | refine AWo.pure (PureOp.idx tbok rfl rfl rfl rfl (by first | decide | omega)) rfl rfl ?_
          first | refine AWo.storeM (f := (vi .u64)) tbok rfl rfl rfl rfl (by first | decide | omega) rfl rfl ?_ | refine AWo.store tbok rfl rfl rfl rfl rfl (by first | decide | (simp; omega)) rfl rfl rfl ?_
          refine AWo.nil trivial ?_
          refine inBlockA_normal ?_
          refine thenA_normal ?_
          refine AW.region ?_
          refine AWo.pure (PureOp.move rfl) rfl rfl ?_
          first | refine AWo.pure (PureOp.subI (b := 1) rfl rfl (by first | decide | omega) (by first | decide | omega)) rfl rfl ?_ | refine AWo.pure (PureOp.subP rfl rfl (by first | decide | omega)) rfl rfl ?_ | refine AWo.pure (PureOp.bin rfl rfl rfl) rfl rfl ?_
          refine AWo.pure (PureOp.assign rfl) rfl rfl ?_
          refine AWo.nil trivial ?_
          refine thenA_normal ?_
          refine ⟨1 * r, [], _, by omega, ?_, r, q + 1, (l.set (r / 32) (l.getD (r / 32) 0 * 2)).set (r / 32) (l.getD (r / 32) 0 * 2 + 1), ⟨by omega, by simp [hll], bd_set (bd_set hbl (by omega)) (by omega), bitI_one hqr hll hI hbt⟩, rfl, rfl⟩
          refine Wk.of [2000, 3000, 9000] ?_ ?_ ?_ (by decide) rfl
          ·
            refine WkE.upd rfl (by first | exact VR.flat _ rfl | exact VR.eqv (vp_succ _) rfl | exact VR.eqv (vp_succ _).symm rfl | exact VR.eqv (by first | rfl | (congr 1; omega) | (simp; done) | (simp; omega)) rfl) ?_
            refine WkE.upd rfl (.slice (9000) 0 _ 0 ⟨_, rfl⟩ (by simp) (by simp)) ?_
            refine WkE.upd rfl (.ptr (3000) 0 ⟨_, rfl⟩) ?_
            refine WkE.upd rfl (.ptr (2000) 0 ⟨_, rfl⟩) ?_
            exact WkE.emp
          ·
            refine WkM.flatM rfl (by first | rfl | assumption | simp) (fun _ => rfl) (fun h => h) ?_
            refine WkM.flatM rfl (by first | rfl | assumption | simp) (fun _ => rfl) (fun h => h) ?_
            refine WkM.flatM rfl (by first | rfl | assumption | simp) (fun _ => rfl) (fun h => h) ?_
            exact WkM.emp
          ·
            repeat (refine dom_upd_mem (by decide) ?_)
            exact dom_emp
        ·
          have hbt : (gnx (gad (gad s (254 * i)) q)).2 = false := by simpa using hb1
          rw [hbt, Bool.toNat_false] at hx
          refine AW.skip ?_
          refine inBlockA_normal ?_
          refine thenA_normal ?_
          refine AW.region ?_
          refine AWo.pure (PureOp.move rfl) rfl rfl ?_
          first | refine AWo.pure (PureOp.subI (b := 1) rfl rfl (by first | decide | omega) (by first | decide | omega)) rfl rfl ?_ | refine AWo.pure (PureOp.subP rfl rfl (by first | decide | omega)) rfl rfl ?_ | refine AWo.pure (PureOp.bin rfl rfl rfl) rfl rfl ?_
          refine AWo.pure (PureOp.assign rfl) rfl rfl ?_
          refine AWo.nil trivial ?_
          refine thenA_normal ?_
          refine ⟨1 * r, [], _, by omega, ?_, r, q + 1, l.set (r / 32) (l.getD (r / 32) 0 * 2), ⟨by omega, by simp [hll], bd_set hbl (by omega), bitI_nil hqr hll hI hbt⟩, rfl, rfl⟩
          refine Wk.of [2000, 3000, 9000] ?_ ?_ ?_ (by decide) rfl
          ·
            refine WkE.upd rfl (by first | exact VR.flat _ rfl | exact VR.eqv (vp_succ _) rfl | exact VR.eqv (vp_succ _).symm rfl | exact VR.eqv (by first | rfl | (congr 1; omega) | (simp; done) | (simp; omega)) rfl) ?_
            refine WkE.upd rfl (.slice (9000) 0 _ 0 ⟨_, rfl⟩ (by simp) (by simp)) ?_
            refine WkE.upd rfl (.ptr (3000) 0 ⟨_, rfl⟩) ?_
            refine WkE.upd rfl (.ptr (2000) 0 ⟨_, rfl⟩) ?_
            exact WkE.emp
          ·
            refine WkM.flatM rfl (by first | rfl | assumption | simp) (fun _ => rfl) (fun h => h) ?_
            refine WkM.flatM rfl (by first | rfl | assumption | simp) (fun _ => rfl) (fun h => h) ?_
            refine WkM.flatM rfl (by first | rfl | assumption | simp) (fun _ => rfl) (fun h => h) ?_
            exact WkM.emp
          ·
            repeat (refine dom_upd_mem (by decide) ?_)
            exact dom_emp
      ·
        obtain rfl : r = 0 := by simpa using hb0
        obtain rfl : q = 254 := by omega
        have hnl : num 4294967296 l = gv (gad s (254 * i)) 254 := bitI_end hll hI
        rw [gad_add s (254 * i) 254, show 254 * i + 254 = 254 * (i + 1) by omega]
        have hl4 := refl_len (gad s (254 * (i + 1)))
        refine AW.exit ?_
        refine thenA_exit ?_
        refine thenA_exit ?_
        refine inBlockA_hit ?_
        refine thenA_normal ?_
        refine AW.seqR ?_
        refine AWo.pure (PureOp.move rfl) rfl rfl ?_
        refine AWo.callX (p02_ctr) bd22 [] [42000] rfl .nil rfl .nil .nil rfl (.new (flat_map_ren (by first | exact flatM flat_vi | exact flatM flat_bool | exact flatM (fun _ => rfl))) (OkL.flat (by first | exact flatM flat_vi | exact flatM flat_bool | exact flatM (fun _ => rfl))) .nil) (frC rfl frN) (by decide) (.cons rfl rfl .nil) rfl rfl rfl rfl ?_
        refine AWo.callX (cmp8_ctr hbl hll) bd21 [(9000, 0), (42000, 0)] [] rfl (.cons rfl (.cons rfl .nil)) rfl (.cons rfl rfl (.cons rfl rfl .nil)) (.flat rfl (by first | exact flatM flat_vi | exact flatM flat_bool | exact flatM (fun _ => rfl)) (by intro h; first | exact h | rfl) (.flat rfl (by first | exact flatM flat_vi | exact flatM flat_bool | exact flatM (fun _ => rfl)) (by intro h; first | exact h | rfl) .nil)) rfl (.keep rfl (.keep rfl .nil)) frN (by decide) (.cons rfl rfl .nil) rfl rfl rfl rfl ?_
        first | refine AWo.pure (PureOp.ltN (b := 0) rfl rfl) rfl rfl ?_ | refine AWo.pure (PureOp.bin rfl rfl rfl) rfl rfl ?_
        refine AWo.nil trivial ?_
        refine AW.cond rfl (fun hb2 => ?_) (fun hb2 => ?_)
        ·
          have hlt := cmpG_lt (by simpa [pdig_num] using hb2)
          rw [hnl] at hlt
          obtain rfl : i = j := by
            rcases Nat.lt_or_ge i j with h | h
            · exact absurd hlt (hmin i h)
            · omega
          have hv := hnl
          refine AW.seqD mixed ?_
          first | refine AWo.loadAll tbok rfl rfl rfl rfl (by first | (simp [*]; done) | rfl) rfl rfl ?_ | refine AWo.loadAgg tbok rfl rfl rfl rfl (by first | decide | omega) rfl rfl rfl ?_
          refine AWo.pure (PureOp.move rfl) rfl rfl ?_
          refine AWo.callX (trim_ctr (a := l) hbl hv hll (by omega)) bd23 [(9000, 0)] [] rfl (.cons rfl .nil) rfl (.cons rfl rfl .nil) (.flat rfl (by first | exact flatM flat_vi | exact flatM flat_bool | exact flatM (fun _ => rfl)) (by intro h; first | exact h | rfl) .nil) rfl (.keep rfl .nil) frN (by decide) (.cons rfl rfl .nil) rfl rfl rfl rfl ?_
          refine AWo.storeAllN tbok rfl rfl rfl rfl (by first | (simp [*]; done) | rfl) (by first | (simp [*]; done) | rfl) (by first | exact oneM (fun _ => rfl) _ | rfl | (simp; done)) rfl ?_
          refine AWo.pure (PureOp.assign rfl) rfl rfl ?_
          refine AWo.nil (by kernel_rfl) ?_
          refine AW.ret ?_
          refine inBlockA_ret ?_
          refine thenA_ret ?_
          refine inBlockA_ret ?_
          refine RetQ.gc [_, _] [9000] [.cell 2 38, .tmp 3] (.inl rfl) rfl (.val (RVal.cellAll tbok rfl rfl rfl rfl (by first | (simp [*]; done) | rfl)) (.tmp rfl .nil)) rfl (.pure (by first | rfl | exact pure_aggM flat_vi | exact pure_aggM flat_bool) (.cons rfl rfl .nil)) (OutL.part rfl (dpart (by decide) hbl hnl) (flatM flat_vi) (fun _ => rfl) (dpart_len (by decide) hbl hnl) trivial) (by decide) rfl
        ·
          have hge := cmpG_ge (by simpa [pdig_num] using hb2)
          rw [hnl] at hge
          have hij : i ≠ j := fun e => by
            have h2 : gv (gad s (254 * j)) 254 < 21888242871839275222246405745257275088548364400416034343698204186575808495617 := hj
            rw [← e] at h2
            omega
          refine AW.skip ?_
          refine inBlockA_normal ?_
          refine thenA_normal ?_
          refine ⟨j - (i + 1), [], _, by omega, ?_, i + 1, by omega, rfl, rfl⟩
          refine Wk.of [2000, 3000] ?_ ?_ ?_ (by decide) rfl
          ·
            refine WkE.upd rfl (.ptr (3000) 0 ⟨_, rfl⟩) ?_
            refine WkE.upd rfl (.ptr (2000) 0 ⟨_, rfl⟩) ?_
            exact WkE.emp
          ·
            refine WkM.flatM rfl (by first | rfl | assumption | simp) (fun _ => rfl) (fun h => h) ?_
            refine WkM.flatM rfl (by first | rfl | assumption | simp) (fun _ => rfl) (fun h => h) ?_
            exact WkM.emp
          ·
            repeat (refine dom_upd_mem (by decide) ?_)
            exact dom_emp
end Go.Proofs.Ytbholmgeaklljaa
namespace Go.Proofs.Ytbholmgeaklljaa
open Go Sim
theorem new8S_ctr {b w f p : Nat} {s : GS} (hb : 1 ≤ b ∧ b ≤ 4095) (hw : 1 ≤ w ∧ w ≤ 4095) (hf : f ≤ 1023) (hp : p ≤ 1023) (h : s = gnew b w f p) : GC Try.prog 10 [vi .i64 b, vi .i64 w, vi .i64 f, vi .i64 p] [] [.agg ((refl s).map Value.bool).toArray, .int .i64 0] [] := by
  subst h; exact newr_ctr hb hw hf hp
theorem elem8V_ctr {s t : GS} {j v : Nat} (hg : GG s) (hj : gok s j) (hmin : ∀ i, i < j → ¬ gok s i) (ht : t = gad s (254 * (j + 1))) (hv : v = gv (gad s (254 * j)) 254) : GC Try.prog 11 [.agg ((refl s).map Value.bool).toArray] [] [.agg ((refl t).map Value.bool).toArray, .slice (some ⟨0, 0, none⟩) (D 4294967296 v).length 0] [⟨(D 4294967296 v).map (vi .u64), true, 1⟩] := by
  have h := elem8_ctr hg hj hmin
  rw [← ht, ← hv] at h
  exact h
theorem elementV_ctr {s t : GS} {j v : Nat} (hg : GG s) (hj : gok s j) (hmin : ∀ i, i < j → ¬ gok s i) (ht : t = gad s (254 * (j + 1))) (hv : v = gv (gad s (254 * j)) 254) : GC Try.prog 8 [.pointer (some ⟨0, 0, none⟩)] [⟨srcC s.1 s.2, true, 1⟩] [.agg ((fel v).map (vi .u64)).toArray] [⟨srcC t.1 t.2, true, 1⟩] := by
  have h := element_ctr hg hj hmin
  rw [← ht, ← hv] at h
  exact h
set_option maxRecDepth 10000 in
theorem elems_good {b w f p a : Nat} (hb : 1 ≤ b ∧ b ≤ 4095) (hw : 1 ≤ w ∧ w ≤ 4095) (hf : f ≤ 1023) (hp : p ≤ 1023) (ha : a < 256) : GC Try.prog 4 [.agg #[vi .i64 b, vi .i64 w, vi .i64 f, vi .i64 p], vi .u8 a] [] [.bool true] [] := by
  refine GC.intro Try.func4 rfl (by show 2 ≤ 68; decide) (by first | exact Nat.le_refl _ | decide | simp) ?_
  obtain ⟨s0, hs0⟩ : ∃ s, s = gnew b w f p := ⟨_, rfl⟩
  have hg0 : GG s0 := hs0 ▸ gnew_gg _ _ _ _
  have hlz := refl_len s0
  refine AW.seqR ?_
  refine AWo.box 3000 1 _ rfl rfl rfl rfl rfl ?_
  refine AWo.pure (PureOp.assign rfl) rfl rfl ?_
  refine AWo.nil trivial ?_
  refine AW.seq ?_
  refine AW.seqR ?_
  refine AWo.callX (speaks_ctr) bd5 [] [] rfl .nil rfl .nil .nil rfl .nil frN (by decide) (.cons rfl rfl .nil) rfl rfl rfl rfl ?_
  refine AWo.pure (PureOp.not rfl) rfl rfl ?_
  refine AWo.nil trivial ?_
  refine AW.condF rfl ?_
  refine AW.skip ?_
  refine thenA_normal ?_
  refine AW.seqR ?_
  first | refine AWo.pure (PureOp.arr1 (j := 0) tbok rfl rfl rfl rfl (by first | decide | omega)) rfl rfl ?_ | refine AWo.pure (PureOp.arr (j := 0) tbok rfl rfl rfl rfl (by first | decide | omega)) rfl rfl ?_
  first | refine AWo.loadM tbok 0 rfl rfl rfl (by first | decide | omega) rfl rfl ?_ | refine AWo.load tbok rfl rfl rfl rfl rfl rfl ?_
  first | refine AWo.pure (PureOp.arr1 (j := 1) tbok rfl rfl rfl rfl (by first | decide | omega)) rfl rfl ?_ | refine AWo.pure (PureOp.arr (j := 1) tbok rfl rfl rfl rfl (by first | decide | omega)) rfl rfl ?_
  first | refine AWo.loadM tbok 0 rfl rfl rfl (by first | decide | omega) rfl rfl ?_ | refine AWo.load tbok rfl rfl rfl rfl rfl rfl ?_
  first | refine AWo.pure (PureOp.arr1 (j := 2) tbok rfl rfl rfl rfl (by first | decide | omega)) rfl rfl ?_ | refine AWo.pure (PureOp.arr (j := 2) tbok rfl rfl rfl rfl (by first | decide | omega)) rfl rfl ?_
  first | refine AWo.loadM tbok 0 rfl rfl rfl (by first | decide | omega) rfl rfl ?_ | refine AWo.load tbok rfl rfl rfl rfl rfl rfl ?_
  first | refine AWo.pure (PureOp.arr1 (j := 3) tbok rfl rfl rfl rfl (by first | decide | omega)) rfl rfl ?_ | refine AWo.pure (PureOp.arr (j := 3) tbok rfl rfl rfl rfl (by first | decide | omega)) rfl rfl ?_
  first | refine AWo.loadM tbok 0 rfl rfl rfl (by first | decide | omega) rfl rfl ?_ | refine AWo.load tbok rfl rfl rfl rfl rfl rfl ?_
  refine AWo.callX (newS_ctr hb hw hf hp hs0) bd6 [] [23000] rfl (.cons rfl (.cons rfl (.cons rfl (.cons rfl .nil)))) rfl (.cons rfl rfl (.cons rfl rfl (.cons rfl rfl (.cons rfl rfl .nil)))) .nil rfl (.new (flat_map_ren srcC_flat) (OkL.flat srcC_flat) .nil) (frC rfl frN) (by decide) (.cons rfl rfl (.cons rfl rfl .nil)) rfl rfl rfl rfl ?_
  refine AWo.pure (PureOp.move rfl) rfl rfl ?_
  refine AWo.pure (PureOp.extract rfl rfl) rfl rfl ?_
  refine AWo.pure (PureOp.extract rfl rfl) rfl rfl ?_
  refine AWo.pure (PureOp.assign rfl) rfl rfl ?_
  refine AWo.pure (PureOp.assign rfl) rfl rfl ?_
  refine AWo.nil trivial ?_
  refine AW.seqR ?_
  first | refine AWo.pure (PureOp.arr1 (j := 0) tbok rfl rfl rfl rfl (by first | decide | omega)) rfl rfl ?_ | refine AWo.pure (PureOp.arr (j := 0) tbok rfl rfl rfl rfl (by first | decide | omega)) rfl rfl ?_
  first | refine AWo.loadM tbok 0 rfl rfl rfl (by first | decide | omega) rfl rfl ?_ | refine AWo.load tbok rfl rfl rfl rfl rfl rfl ?_
  first | refine AWo.pure (PureOp.arr1 (j := 1) tbok rfl rfl rfl rfl (by first | decide | omega)) rfl rfl ?_ | refine AWo.pure (PureOp.arr (j := 1) tbok rfl rfl rfl rfl (by first | decide | omega)) rfl rfl ?_
  first | refine AWo.loadM tbok 0 rfl rfl rfl (by first | decide | omega) rfl rfl ?_ | refine AWo.load tbok rfl rfl rfl rfl rfl rfl ?_
  first | refine AWo.pure (PureOp.arr1 (j := 2) tbok rfl rfl rfl rfl (by first | decide | omega)) rfl rfl ?_ | refine AWo.pure (PureOp.arr (j := 2) tbok rfl rfl rfl rfl (by first | decide | omega)) rfl rfl ?_
  first | refine AWo.loadM tbok 0 rfl rfl rfl (by first | decide | omega) rfl rfl ?_ | refine AWo.load tbok rfl rfl rfl rfl rfl rfl ?_
  first | refine AWo.pure (PureOp.arr1 (j := 3) tbok rfl rfl rfl rfl (by first | decide | omega)) rfl rfl ?_ | refine AWo.pure (PureOp.arr (j := 3) tbok rfl rfl rfl rfl (by first | decide | omega)) rfl rfl ?_
  first | refine AWo.loadM tbok 0 rfl rfl rfl (by first | decide | omega) rfl rfl ?_ | refine AWo.load tbok rfl rfl rfl rfl rfl rfl ?_
  refine AWo.callX (new8S_ctr hb hw hf hp hs0) bd10 [] [] rfl (.cons rfl (.cons rfl (.cons rfl (.cons rfl .nil)))) rfl (.cons rfl rfl (.cons rfl rfl (.cons rfl rfl (.cons rfl rfl .nil)))) .nil rfl .nil frN (by decide) (.pure (by first | rfl | exact pure_aggM flat_vi | exact pure_aggM flat_bool) (.cons rfl rfl .nil)) rfl rfl rfl rfl ?_
  refine AWo.pure (PureOp.move rfl) rfl rfl ?_
  refine AWo.pure (PureOp.extract rfl rfl) rfl rfl ?_
  refine AWo.pure (PureOp.extract rfl rfl) rfl rfl ?_
  refine AWo.alloc tbok 8000 1 ((List.replicate 80 false).map Value.bool) rfl rfl rfl rfl rfl rfl ?_
  refine AWo.storeAllN tbok rfl rfl rfl rfl (by first | (simp [*]; done) | rfl) (by first | (simp [*]; done) | rfl) (by first | exact oneM (fun _ => rfl) _ | rfl | (simp; done)) rfl ?_
  refine AWo.pure (PureOp.assign rfl) rfl rfl ?_
  refine AWo.nil trivial ?_
  refine AW.seq ?_
  refine AW.seqR ?_
  refine AWo.pure (PureOp.move rfl) rfl rfl ?_
  first | refine AWo.pure (PureOp.neN (b := 0) rfl rfl) rfl rfl ?_ | refine AWo.pure (PureOp.bin rfl rfl rfl) rfl rfl ?_
  refine AWo.nil trivial ?_
  refine AW.condF rfl ?_
  refine AW.skip ?_
  refine thenA_normal ?_
  refine AW.seq ?_
  refine AW.seqR ?_
  refine AWo.pure (PureOp.move rfl) rfl rfl ?_
  first | refine AWo.pure (PureOp.neN (b := 0) rfl rfl) rfl rfl ?_ | refine AWo.pure (PureOp.bin rfl rfl rfl) rfl rfl ?_
  refine AWo.pure (PureOp.move rfl) rfl rfl ?_
  refine AWo.pure (PureOp.move rfl) rfl rfl ?_
  first | refine AWo.pure (PureOp.ptrEqNil Try.underlying25 rfl) rfl rfl ?_ | refine AWo.pure (PureOp.nilEqNil Try.underlying25 rfl rfl) rfl rfl ?_
  refine AWo.pure (PureOp.pickF rfl rfl) rfl rfl ?_
  refine AWo.nil trivial ?_
  refine AW.condF rfl ?_
  refine AW.skip ?_
  refine thenA_normal ?_
  refine AW.seq ?_
  refine AW.seqR ?_
  refine AWo.pure (PureOp.move rfl) rfl rfl ?_
  first | refine AWo.pure (PureOp.cvtN tbok 9223372036854775808 rfl rfl rfl (by decide) (by decide) (by first | decide | omega)) rfl rfl ?_ | refine AWo.pure (PureOp.cvt tbok rfl rfl rfl) rfl rfl ?_
  first | refine AWo.pure ((PureOp.remN (b := 7) rfl rfl (by first | decide | omega)).mono (v' := vi .i64 (a % 7)) rfl) rfl rfl ?_ | refine AWo.pure ((PureOp.rem rfl rfl (by first | decide | omega)).mono (v' := vi .i64 (a % 7)) rfl) rfl rfl ?_
  refine AWo.pure (PureOp.move rfl) rfl rfl ?_
  refine AWo.nil trivial ?_
  refine AW.block ?_
  refine AW.loopw (fun mm σ => ∃ i, ∃ (s : GS), (i ≤ a % 7 ∧ GG s) ∧ mm = a % 7 - i ∧ σ = ⟨(upd (upd (upd (upd emp 5 (.pointer (some ⟨23000, 0, none⟩))) 7 (.pointer (some ⟨8000, 0, none⟩))) 53 (vi .i64 (a % 7))) 54 (vi .i64 i)), (upd (upd emp 23000 ⟨srcC s.1 s.2, true, 1⟩) 8000 ⟨(refl s).map Value.bool, true, 1⟩)⟩) (fm := []) ?_ ⟨0, s0, ⟨Nat.zero_le _, hg0⟩, rfl, rfl⟩ ?_
  ·
    refine Wk.of [23000, 8000] ?_ ?_ ?_ (by decide) rfl
    ·
      refine WkE.upd rfl (by first | exact VR.flat _ rfl | exact VR.eqv (vp_succ _) rfl | exact VR.eqv (vp_succ _).symm rfl | exact VR.eqv (by first | rfl | (congr 1; omega) | (simp; done) | (simp; omega)) rfl) ?_
      refine WkE.upd rfl (by first | exact VR.flat _ rfl | exact VR.eqv (vp_succ _) rfl | exact VR.eqv (vp_succ _).symm rfl | exact VR.eqv (by first | rfl | (congr 1; omega) | (simp; done) | (simp; omega)) rfl) ?_
      refine WkE.upd rfl (.ptr (8000) 0 ⟨_, rfl⟩) ?_
      refine WkE.upd rfl (.ptr (23000) 0 ⟨_, rfl⟩) ?_
      exact WkE.emp
    ·
      refine WkM.flatM rfl (by first | rfl | assumption | simp) (fun _ => rfl) (fun h => h) ?_
      refine WkM.refl rfl srcC_flat (fun h => h) ?_
      exact WkM.emp
    ·
      repeat (refine dom_upd_mem (by decide) ?_)
      exact dom_emp
  ·
    rintro mm σ ⟨i, s, ⟨hinv, hgS⟩, rfl, rfl⟩
    obtain ⟨j, hj, hmin⟩ := gok_least hgS
    have hl0 := refl_len s
    obtain ⟨t, ht⟩ : ∃ t, t = (gad s (254 * (j + 1))) := ⟨_, rfl⟩
    obtain ⟨v, hv⟩ : ∃ v, v = gv (gad s (254 * j)) 254 := ⟨_, rfl⟩
    have hvP : v < 21888242871839275222246405745257275088548364400416034343698204186575808495617 := hv ▸ hj
    have hl1 := refl_len t
    have hgT : GG t := ht ▸ hgS.gad _
    refine AW.seqR ?_
    first | refine AWo.pure (PureOp.ltN rfl rfl) rfl rfl ?_ | refine AWo.pure (PureOp.bin rfl rfl rfl) rfl rfl ?_
    refine AWo.nil trivial ?_
    refine AW.seq ?_
    refine AW.cond rfl (fun hb0 => ?_) (fun hb0 => ?_)
    ·
      have hi : i < a % 7 := by simpa using hb0
      refine AW.skip ?_
      refine thenA_normal ?_
      refine AW.seq ?_
      refine AW.block ?_
      refine AW.seqR ?_
      first | refine AWo.loadAll tbok rfl rfl rfl rfl (by first | (simp [*]; done) | rfl) rfl rfl ?_ | refine AWo.loadAgg tbok rfl rfl rfl rfl (by first | decide | omega) rfl rfl rfl ?_
      refine AWo.callX (elem8V_ctr hgS hj hmin ht hv) bd11 [] [59000] rfl (.cons rfl .nil) rfl (.pure (by first | rfl | exact pure_aggM flat_vi | exact pure_aggM flat_bool) .nil) .nil rfl (.new (flat_map_ren (by first | exact flatM flat_vi | exact flatM flat_bool | exact flatM (fun _ => rfl))) (OkL.flat (by first | exact flatM flat_vi | exact flatM flat_bool | exact flatM (fun _ => rfl))) .nil) (frC rfl frN) (by decide) (.pure (by first | rfl | exact pure_aggM flat_vi | exact pure_aggM flat_bool) (.cons rfl rfl .nil)) rfl rfl rfl rfl ?_
      refine AWo.pure (PureOp.move rfl) rfl rfl ?_
      refine AWo.pure (PureOp.extract rfl rfl) rfl rfl ?_
      refine AWo.pure (PureOp.extract rfl rfl) rfl rfl ?_
      refine AWo.alloc tbok 10000 1 ((List.replicate 80 false).map Value.bool) rfl rfl rfl rfl rfl rfl ?_
      refine AWo.storeAllN tbok rfl rfl rfl rfl (by first | (simp [*]; done) | rfl) (by first | (simp [*]; done) | rfl) (by first | exact oneM (fun _ => rfl) _ | rfl | (simp; done)) rfl ?_
      refine AWo.pure (PureOp.assign rfl) rfl rfl ?_
      refine AWo.nil trivial ?_
      refine AW.seqR ?_
      first | refine AWo.loadAll tbok rfl rfl rfl rfl (by first | (simp [*]; done) | rfl) rfl rfl ?_ | refine AWo.loadAgg tbok rfl rfl rfl rfl (by first | decide | omega) rfl rfl rfl ?_
      refine AWo.storeAllN tbok rfl rfl rfl rfl (by first | (simp [*]; done) | rfl) (by first | (simp [*]; done) | rfl) (by first | exact oneM (fun _ => rfl) _ | rfl | (simp; done)) rfl ?_
      refine AWo.nil trivial ?_
      refine AW.seqR ?_
      refine AWo.pure (PureOp.move rfl) rfl rfl ?_
      refine AWo.callX (elementV_ctr hgS hj hmin ht hv) bd8 [(23000, 0)] [] rfl (.cons rfl .nil) rfl (.cons rfl rfl .nil) (.flat rfl srcC_flat (by intro h; first | exact h | rfl) .nil) rfl (.chg rfl rfl (flat_map_ren srcC_flat) (OkL.flat srcC_flat) .nil) frN (by decide) (.pure (by first | rfl | exact pure_aggM flat_vi | exact pure_aggM flat_bool) .nil) rfl rfl rfl rfl ?_
      refine AWo.pure (PureOp.move rfl) rfl rfl ?_
      refine AWo.callX (isT_ctr (v := v) hvP) bd12 [(59000, 0)] [] rfl (.cons rfl (.cons rfl .nil)) rfl (.pure (by first | rfl | exact pure_aggM flat_vi | exact pure_aggM flat_bool) (.cons rfl rfl .nil)) (.flat rfl (by first | exact flatM flat_vi | exact flatM flat_bool | exact flatM (fun _ => rfl)) (by intro h; first | exact h | rfl) .nil) rfl (.keep rfl .nil) frN (by decide) (.cons rfl rfl .nil) rfl rfl rfl rfl ?_
      refine AWo.pure (PureOp.not rfl) rfl rfl ?_
      refine AWo.nil trivial ?_
      refine AW.condF rfl ?_
      refine AW.skip ?_
      refine inBlockA_normal ?_
      refine thenA_normal ?_
      refine AW.region ?_
      first | refine AWo.pure (PureOp.addI (b := 1) rfl rfl (by first | decide | omega)) rfl rfl ?_ | refine AWo.pure (PureOp.bin rfl rfl rfl) rfl rfl ?_
      refine AWo.pure (PureOp.move rfl) rfl rfl ?_
      refine AWo.nil trivial ?_
      refine thenA_normal ?_
      refine ⟨a % 7 - (i + 1), [], _, by omega, ?_, i + 1, t, ⟨by omega, hgT⟩, rfl, rfl⟩
      refine Wk.of [23000, 8000] ?_ ?_ ?_ (by decide) rfl
      ·
        refine WkE.upd rfl (by first | exact VR.flat _ rfl | exact VR.eqv (vp_succ _) rfl | exact VR.eqv (vp_succ _).symm rfl | exact VR.eqv (by first | rfl | (congr 1; omega) | (simp; done) | (simp; omega)) rfl) ?_
        refine WkE.upd rfl (by first | exact VR.flat _ rfl | exact VR.eqv (vp_succ _) rfl | exact VR.eqv (vp_succ _).symm rfl | exact VR.eqv (by first | rfl | (congr 1; omega) | (simp; done) | (simp; omega)) rfl) ?_
        refine WkE.upd rfl (.ptr (8000) 0 ⟨_, rfl⟩) ?_
        refine WkE.upd rfl (.ptr (23000) 0 ⟨_, rfl⟩) ?_
        exact WkE.emp
      ·
        refine WkM.flatM rfl (by first | rfl | assumption | simp) (fun _ => rfl) (fun h => h) ?_
        refine WkM.refl rfl srcC_flat (fun h => h) ?_
        exact WkM.emp
      ·
        repeat (refine dom_upd_mem (by decide) ?_)
        exact dom_emp
    ·
      refine AW.exit ?_
      refine thenA_exit ?_
      refine thenA_exit ?_
      refine inBlockA_hit ?_
      refine thenA_normal ?_
      refine AW.seqR ?_
      refine AWo.pure (PureOp.assign rfl) rfl rfl ?_
      refine AWo.nil trivial ?_
      refine AW.ret ?_
      refine RetQ.gc [_] [] [.tmp 4] (.inl rfl) rfl (.tmp rfl .nil) rfl (.cons rfl rfl .nil) trivial (by decide) rfl
set_option maxRecDepth 10000 in
theorem elems_bad {b w f p : Int} {a : Nat} (hbad : ¬ (1 ≤ b ∧ b ≤ 4095 ∧ 1 ≤ w ∧ w ≤ 4095 ∧ 0 ≤ f ∧ f ≤ 1023 ∧ 0 ≤ p ∧ p ≤ 1023)) : GC Try.prog 4 [.agg #[.int .i64 b, .int .i64 w, .int .i64 f, .int .i64 p], vi .u8 a] [] [.bool true] [] := by
  refine GC.intro Try.func4 rfl (by show 2 ≤ 68; decide) (by first | exact Nat.le_refl _ | decide | simp) ?_
  refine AW.seqR ?_
  refine AWo.box 3000 1 _ rfl rfl rfl rfl rfl ?_
  refine AWo.pure (PureOp.assign rfl) rfl rfl ?_
  refine AWo.nil trivial ?_
  refine AW.seq ?_
  refine AW.seqR ?_
  refine AWo.callX (speaks_ctr) bd5 [] [] rfl .nil rfl .nil .nil rfl .nil frN (by decide) (.cons rfl rfl .nil) rfl rfl rfl rfl ?_
  refine AWo.pure (PureOp.not rfl) rfl rfl ?_
  refine AWo.nil trivial ?_
  refine AW.condF rfl ?_
  refine AW.skip ?_
  refine thenA_normal ?_
  refine AW.seqR ?_
  first | refine AWo.pure (PureOp.arr1 (j := 0) tbok rfl rfl rfl rfl (by first | decide | omega)) rfl rfl ?_ | refine AWo.pure (PureOp.arr (j := 0) tbok rfl rfl rfl rfl (by first | decide | omega)) rfl rfl ?_
  first | refine AWo.loadM tbok 0 rfl rfl rfl (by first | decide | omega) rfl rfl ?_ | refine AWo.load tbok rfl rfl rfl rfl rfl rfl ?_
  first | refine AWo.pure (PureOp.arr1 (j := 1) tbok rfl rfl rfl rfl (by first | decide | omega)) rfl rfl ?_ | refine AWo.pure (PureOp.arr (j := 1) tbok rfl rfl rfl rfl (by first | decide | omega)) rfl rfl ?_
  first | refine AWo.loadM tbok 0 rfl rfl rfl (by first | decide | omega) rfl rfl ?_ | refine AWo.load tbok rfl rfl rfl rfl rfl rfl ?_
  first | refine AWo.pure (PureOp.arr1 (j := 2) tbok rfl rfl rfl rfl (by first | decide | omega)) rfl rfl ?_ | refine AWo.pure (PureOp.arr (j := 2) tbok rfl rfl rfl rfl (by first | decide | omega)) rfl rfl ?_
  first | refine AWo.loadM tbok 0 rfl rfl rfl (by first | decide | omega) rfl rfl ?_ | refine AWo.load tbok rfl rfl rfl rfl rfl rfl ?_
  first | refine AWo.pure (PureOp.arr1 (j := 3) tbok rfl rfl rfl rfl (by first | decide | omega)) rfl rfl ?_ | refine AWo.pure (PureOp.arr (j := 3) tbok rfl rfl rfl rfl (by first | decide | omega)) rfl rfl ?_
  first | refine AWo.loadM tbok 0 rfl rfl rfl (by first | decide | omega) rfl rfl ?_ | refine AWo.load tbok rfl rfl rfl rfl rfl rfl ?_
  refine AWo.callX (newbad_ctr hbad) bd6 [] [] rfl (.cons rfl (.cons rfl (.cons rfl (.cons rfl .nil)))) rfl (.cons rfl rfl (.cons rfl rfl (.cons rfl rfl (.cons rfl rfl .nil)))) .nil rfl .nil frN (by decide) (.cons rfl rfl (.cons rfl rfl .nil)) rfl rfl rfl rfl ?_
  refine AWo.pure (PureOp.move rfl) rfl rfl ?_
  refine AWo.pure (PureOp.extract rfl rfl) rfl rfl ?_
  refine AWo.pure (PureOp.extract rfl rfl) rfl rfl ?_
  refine AWo.pure (PureOp.assign rfl) rfl rfl ?_
  refine AWo.pure (PureOp.assign rfl) rfl rfl ?_
  refine AWo.nil trivial ?_
  refine AW.seqR ?_
  first | refine AWo.pure (PureOp.arr1 (j := 0) tbok rfl rfl rfl rfl (by first | decide | omega)) rfl rfl ?_ | refine AWo.pure (PureOp.arr (j := 0) tbok rfl rfl rfl rfl (by first | decide | omega)) rfl rfl ?_
  first | refine AWo.loadM tbok 0 rfl rfl rfl (by first | decide | omega) rfl rfl ?_ | refine AWo.load tbok rfl rfl rfl rfl rfl rfl ?_
  first | refine AWo.pure (PureOp.arr1 (j := 1) tbok rfl rfl rfl rfl (by first | decide | omega)) rfl rfl ?_ | refine AWo.pure (PureOp.arr (j := 1) tbok rfl rfl rfl rfl (by first | decide | omega)) rfl rfl ?_
  first | refine AWo.loadM tbok 0 rfl rfl rfl (by first | decide | omega) rfl rfl ?_ | refine AWo.load tbok rfl rfl rfl rfl rfl rfl ?_
  first | refine AWo.pure (PureOp.arr1 (j := 2) tbok rfl rfl rfl rfl (by first | decide | omega)) rfl rfl ?_ | refine AWo.pure (PureOp.arr (j := 2) tbok rfl rfl rfl rfl (by first | decide | omega)) rfl rfl ?_
  first | refine AWo.loadM tbok 0 rfl rfl rfl (by first | decide | omega) rfl rfl ?_ | refine AWo.load tbok rfl rfl rfl rfl rfl rfl ?_
  first | refine AWo.pure (PureOp.arr1 (j := 3) tbok rfl rfl rfl rfl (by first | decide | omega)) rfl rfl ?_ | refine AWo.pure (PureOp.arr (j := 3) tbok rfl rfl rfl rfl (by first | decide | omega)) rfl rfl ?_
  first | refine AWo.loadM tbok 0 rfl rfl rfl (by first | decide | omega) rfl rfl ?_ | refine AWo.load tbok rfl rfl rfl rfl rfl rfl ?_
  refine AWo.callX (newrbad_ctr hbad) bd10 [] [] rfl (.cons rfl (.cons rfl (.cons rfl (.cons rfl .nil)))) rfl (.cons rfl rfl (.cons rfl rfl (.cons rfl rfl (.cons rfl rfl .nil)))) .nil rfl .nil frN (by decide) (.pure (by first | rfl | exact pure_aggM flat_vi | exact pure_aggM flat_bool) (.cons rfl rfl .nil)) rfl rfl rfl rfl ?_
  refine AWo.pure (PureOp.move rfl) rfl rfl ?_
  refine AWo.pure (PureOp.extract rfl rfl) rfl rfl ?_
  refine AWo.pure (PureOp.extract rfl rfl) rfl rfl ?_
  refine AWo.alloc tbok 8000 1 ((List.replicate 80 false).map Value.bool) rfl rfl rfl rfl rfl rfl ?_
  refine AWo.storeAllN tbok rfl rfl rfl rfl (by first | (simp [*]; done) | rfl) (by first | (simp [*]; done) | rfl) (by first | exact oneM (fun _ => rfl) _ | rfl | (simp; done)) rfl ?_
  refine AWo.pure (PureOp.assign rfl) rfl rfl ?_
  refine AWo.nil trivial ?_
  refine AW.seq ?_
  refine AW.seqR ?_
  refine AWo.pure (PureOp.move rfl) rfl rfl ?_
  first | refine AWo.pure (PureOp.neN (b := 0) rfl rfl) rfl rfl ?_ | refine AWo.pure (PureOp.bin rfl rfl rfl) rfl rfl ?_
  refine AWo.nil trivial ?_
  refine AW.condT rfl ?_
  refine AW.seqR ?_
  refine AWo.pure (PureOp.move rfl) rfl rfl ?_
  first | refine AWo.pure (PureOp.eqN (b := 1) rfl rfl) rfl rfl ?_ | refine AWo.pure (PureOp.bin rfl rfl rfl) rfl rfl ?_
  refine AWo.pure (PureOp.move rfl) rfl rfl ?_
  refine AWo.pure (PureOp.move rfl) rfl rfl ?_
  first | refine AWo.pure (PureOp.ptrEqNil Try.underlying25 rfl) rfl rfl ?_ | refine AWo.pure (PureOp.nilEqNil Try.underlying25 rfl rfl) rfl rfl ?_
  refine AWo.pure (PureOp.pickT rfl rfl) rfl rfl ?_
  refine AWo.pure (PureOp.assign rfl) rfl rfl ?_
  refine AWo.nil trivial ?_
  refine AW.ret ?_
  refine thenA_ret ?_
  refine RetQ.gc [_] [] [.tmp 4] (.inl rfl) rfl (.tmp rfl .nil) rfl (.cons rfl rfl .nil) trivial (by decide) rfl
end Go.Proofs.Ytbholmgeaklljaa
namespace Go.Proofs.Ytbholmgeaklljaa
open Go
namespace Head
set_option maxRecDepth 100000 in
theorem words : ∃ l, Try.prog.initOrder = String.ofList l ∧ (behindMainWord (wordsSigns l)).head? = some "cut".toList := ⟨_, rfl, by kernel_rfl⟩
theorem head_of {P : Program} (h : ∃ l, P.initOrder = String.ofList l ∧ (behindMainWord (wordsSigns l)).head? = some "cut".toList) :
    ∃ rest, behindMainWord (wordsSigns P.initOrder.toList) = "cut".toList :: rest := by
  obtain ⟨l, h, hh⟩ := h
  rw [h, String.toList_ofList]
  cases hb : behindMainWord (wordsSigns l) with
  | nil => rw [hb] at hh; cases hh
  | cons c r => rw [hb] at hh; simp only [List.head?_cons, Option.some.injEq] at hh; exact ⟨r, by rw [hh]⟩
theorem cut_words : (liftWords.all fun s => !("cut".toList == s.toList)) = true := by decide +kernel
theorem strip_cut (rest : List (List Char)) : stripLifts liftWords ("cut".toList :: rest) = ([], "cut".toList :: rest) := by
  have key : ∀ o : List String, (o.all fun s => !("cut".toList == s.toList)) = true → stripLifts o ("cut".toList :: rest) = ([], "cut".toList :: rest) := by
    intro o
    induction o with
    | nil => intro _; rfl
    | cons s o ih =>
      intro h
      simp only [List.all_cons, Bool.and_eq_true, Bool.not_eq_true'] at h
      rw [stripLifts, if_neg (by rw [h.1]; exact Bool.false_ne_true)]
      exact ih h.2
  exact key liftWords cut_words
theorem mayEnter_of {P : Program} {rest : List (List Char)} (hr : behindMainWord (wordsSigns P.initOrder.toList) = "cut".toList :: rest) (e1 : P.laysLater = false) (e2 : P.bearsReflect = false) (e3 : P.doorFits [] = true) : P.mayEnter = true := by
  unfold Program.mayEnter
  rw [hr]
  simp only [strip_cut, e1, e2, e3]
  simp
theorem headLifts_of {P : Program} {rest : List (List Char)} (hr : behindMainWord (wordsSigns P.initOrder.toList) = "cut".toList :: rest) : P.headLifts = [] := by
  unfold Program.headLifts
  rw [hr, strip_cut]
  simp
theorem cut_ne : ("cut".toList == "carried".toList) = false ∧ ("cut".toList == "gc".toList) = false ∧ ("cut".toList == "spec".toList) = false := by decide +kernel
theorem liftsFinal_of {P : Program} {rest : List (List Char)} (hr : behindMainWord (wordsSigns P.initOrder.toList) = "cut".toList :: rest) : P.liftsFinal = false := by
  unfold Program.liftsFinal
  rw [hr, headLifts_of hr]
  simp
theorem make_of {P : Program} {rest : List (List Char)} (hr : behindMainWord (wordsSigns P.initOrder.toList) = "cut".toList :: rest) : P.make = some .cut := by
  unfold Program.make
  rw [hr]
  simp only [cut_ne.2.1, cut_ne.2.2, beq_self_eq_true]
  simp
theorem laysLater : Try.prog.laysLater = false := by kernel_rfl
theorem bearsReflect : Try.prog.bearsReflect = false := by kernel_rfl
theorem doorFits : Try.prog.doorFits [] = true := by kernel_rfl
theorem mayEnter : Try.prog.mayEnter = true := let ⟨_, hr⟩ := head_of words; mayEnter_of hr laysLater bearsReflect doorFits
theorem liftsFinal : Try.prog.liftsFinal = false := let ⟨_, hr⟩ := head_of words; liftsFinal_of hr
theorem make_cut : Try.prog.make = some .cut := let ⟨_, hr⟩ := head_of words; make_of hr
theorem band {a b : Bool} (ha : a = true) (hb : b = true) : (a && b) = true := by rw [ha, hb]; rfl
end Head
end Go.Proofs.Ytbholmgeaklljaa
