/- The field's words: the prime, sums, differences. -/
import Derived.Test.YtiikffiembcboaaMont
namespace Go.Proofs.Ytiikffiembcboaa
open Go Sim

def pinv : Nat → Nat
  | 0 => 1
  | i + 1 => pinv i * ((2 + (18446744073709551616 - 4891460686036598785 * pinv i % 18446744073709551616)) % 18446744073709551616) % 18446744073709551616

theorem pinv_lt (i : Nat) : pinv i < 18446744073709551616 := by
  cases i with
  | zero => decide
  | succ i => exact Nat.mod_lt _ (by decide)

theorem below_ge {a : List Nat} (_ : bd 18446744073709551616 a) (_ : a.length = 4) (h : 21888242871839275222246405745257275088548364400416034343698204186575808495617 ≤ num 18446744073709551616 a) (h2 : num 18446744073709551616 a < 2 * 21888242871839275222246405745257275088548364400416034343698204186575808495617) : digs 18446744073709551616 4 (num 18446744073709551616 a % 21888242871839275222246405745257275088548364400416034343698204186575808495617) = digs 18446744073709551616 4 (num 18446744073709551616 a + 18446744073709551616 ^ 4 - 21888242871839275222246405745257275088548364400416034343698204186575808495617) := by
  refine num_inj (digs_bd (by decide) _ _) (digs_bd (by decide) _ _) (by simp [digs_len]) ?_
  rw [num_digs, num_digs]
  omega

theorem below_lt {a : List Nat} (ha : bd 18446744073709551616 a) (hl : a.length = 4) (h : num 18446744073709551616 a < 21888242871839275222246405745257275088548364400416034343698204186575808495617) : digs 18446744073709551616 4 (num 18446744073709551616 a % 21888242871839275222246405745257275088548364400416034343698204186575808495617) = a := by
  rw [Nat.mod_eq_of_lt h, ← hl, digs_num ha]

set_option maxRecDepth 10000 in
theorem prime_ctr : GC Try.prog 136 [] [] [.agg ((digs 18446744073709551616 4 21888242871839275222246405745257275088548364400416034343698204186575808495617).map (vi .u64)).toArray] [] := by
  refine GC.intro Try.func136 rfl (by show 0 ≤ 2; decide) (by first | exact Nat.le_refl _ | decide | simp) ?_
  refine AW.seqR ?_
  refine AWo.alloc tbok 1000 1 ((List.replicate 4 0).map (vi .u64)) rfl rfl rfl rfl rfl rfl ?_
  refine AWo.nil trivial ?_
  refine AW.seqR ?_
  refine AWo.pure ((PureOp.buildArr tbok [(0, .int .u64 4891460686036598785), (1, .int .u64 2896914383306846353), (2, .int .u64 13281191951274694749), (3, .int .u64 3486998266802970665)] rfl rfl rfl (by decide) rfl rfl).mono (v' := .agg ((digs 18446744073709551616 4 21888242871839275222246405745257275088548364400416034343698204186575808495617).map (vi .u64)).toArray) (by kernel_rfl)) rfl rfl ?_
  refine AWo.storeAllN tbok rfl rfl rfl rfl (by first | (simp [*]; done) | rfl) (by first | (simp [*]; done) | rfl) (by first | exact oneM (fun _ => rfl) _ | rfl | (simp; done)) rfl ?_
  refine AWo.nil trivial ?_
  refine AW.ret ?_
  refine RetQ.gc [_] [] [.cell 0 48] (.inl rfl) rfl (.val (RVal.cellAll tbok rfl rfl rfl rfl (by first | (simp [*]; done) | rfl)) .nil) rfl (.pure (by first | rfl | exact pure_aggM flat_vi | exact pure_aggM flat_bool) .nil) trivial (by decide) rfl

set_option maxRecDepth 10000 in
theorem inverse_ctr : GC Try.prog 150 [] [] [vi .u64 (14042775128853446655)] [] := by
  refine GC.intro Try.func150 rfl (by show 0 ≤ 16; decide) (by first | exact Nat.le_refl _ | decide | simp) ?_
  refine AW.seqR ?_
  refine AWo.pure (PureOp.assign rfl) rfl rfl ?_
  refine AWo.nil trivial ?_
  refine AW.seqR ?_
  refine AWo.callX (prime_ctr) bd136 [] [] rfl .nil rfl .nil .nil rfl .nil frN (by decide) (.pure (by first | rfl | exact pure_aggM flat_vi | exact pure_aggM flat_bool) .nil) rfl rfl rfl rfl ?_
  refine AWo.pure ((PureOp.idxVM (j := 0) tbok 0 rfl rfl rfl rfl rfl (by decide) (digs_len _ _)).mono (v' := vi .u64 4891460686036598785) (by kernel_rfl)) rfl rfl ?_
  refine AWo.pure (PureOp.assign rfl) rfl rfl ?_
  refine AWo.pure (PureOp.assign rfl) rfl rfl ?_
  refine AWo.nil trivial ?_
  refine AW.seq ?_
  refine AW.seqR ?_
  refine AWo.pure (PureOp.move rfl) rfl rfl ?_
  refine AWo.nil trivial ?_
  refine AW.block ?_
  refine AW.loopw (fun mm σ => ∃ i, (i ≤ 6) ∧ mm = 6 - i ∧ σ = ⟨(upd (upd (upd emp 1 (vi .u64 4891460686036598785)) 2 (vi .u64 (pinv i))) 5 (vi .i64 i)), emp⟩) (fm := []) ?_ ⟨0, by decide, rfl, rfl⟩ ?_
  ·
    refine Wk.of [] ?_ ?_ ?_ (by decide) rfl
    ·
      refine WkE.upd rfl (by first | exact VR.flat _ rfl | exact VR.eqv (vp_succ _) rfl | exact VR.eqv (vp_succ _).symm rfl | exact VR.eqv (by first | rfl | (congr 1; omega) | (simp; done) | (simp; omega)) rfl) ?_
      refine WkE.upd rfl (by first | exact VR.flat _ rfl | exact VR.eqv (vp_succ _) rfl | exact VR.eqv (vp_succ _).symm rfl | exact VR.eqv (by first | rfl | (congr 1; omega) | (simp; done) | (simp; omega)) rfl) ?_
      refine WkE.upd rfl (by first | exact VR.flat _ rfl | exact VR.eqv (vp_succ _) rfl | exact VR.eqv (vp_succ _).symm rfl | exact VR.eqv (by first | rfl | (congr 1; omega) | (simp; done) | (simp; omega)) rfl) ?_
      exact WkE.emp
    ·
      exact WkM.emp
    ·
      repeat (refine dom_upd_mem (by decide) ?_)
      exact dom_emp
  ·
    rintro mm σ ⟨i, hinv, rfl, rfl⟩
    have hpv := pinv_lt i
    refine AW.seqR ?_
    first | refine AWo.pure (PureOp.ltN (b := 6) rfl rfl) rfl rfl ?_ | refine AWo.pure (PureOp.bin rfl rfl rfl) rfl rfl ?_
    refine AWo.nil trivial ?_
    refine AW.seq ?_
    refine AW.cond rfl (fun hb0 => ?_) (fun hb0 => ?_)
    ·
      have hi : i < 6 := by simpa using hb0
      refine AW.skip ?_
      refine thenA_normal ?_
      refine AW.seq ?_
      refine AW.block ?_
      refine AW.region ?_
      refine AWo.pure (PureOp.move rfl) rfl rfl ?_
      refine AWo.pure (PureOp.move rfl) rfl rfl ?_
      refine AWo.pure (PureOp.move rfl) rfl rfl ?_
      first | refine AWo.pure (PureOp.mulU 18446744073709551616 rfl rfl rfl rfl) rfl rfl ?_ | refine AWo.pure (PureOp.bin rfl rfl rfl) rfl rfl ?_
      first | refine AWo.pure (PureOp.subU (a := 2) 18446744073709551616 rfl rfl rfl rfl (by first | decide | omega)) rfl rfl ?_ | refine AWo.pure (PureOp.bin rfl rfl rfl) rfl rfl ?_
      first | refine AWo.pure (PureOp.mulU 18446744073709551616 rfl rfl rfl rfl) rfl rfl ?_ | refine AWo.pure (PureOp.bin rfl rfl rfl) rfl rfl ?_
      refine AWo.pure (PureOp.assign rfl) rfl rfl ?_
      refine AWo.nil trivial ?_
      refine inBlockA_normal ?_
      refine thenA_normal ?_
      refine AW.region ?_
      first | refine AWo.pure (PureOp.addI (b := 1) rfl rfl (by first | decide | omega)) rfl rfl ?_ | refine AWo.pure (PureOp.bin rfl rfl rfl) rfl rfl ?_
      refine AWo.pure (PureOp.move rfl) rfl rfl ?_
      refine AWo.nil trivial ?_
      refine thenA_normal ?_
      refine ⟨6 - (i + 1), [], _, by omega, ?_, i + 1, by omega, rfl, rfl⟩
      refine Wk.of [] ?_ ?_ ?_ (by decide) rfl
      ·
        refine WkE.upd rfl (by first | exact VR.flat _ rfl | exact VR.eqv (vp_succ _) rfl | exact VR.eqv (vp_succ _).symm rfl | exact VR.eqv (by first | rfl | (congr 1; omega) | (simp; done) | (simp; omega)) rfl) ?_
        refine WkE.upd rfl (by first | exact VR.flat _ rfl | exact VR.eqv (vp_succ _) rfl | exact VR.eqv (vp_succ _).symm rfl | exact VR.eqv (by first | rfl | (congr 1; omega) | (simp; done) | (simp; omega)) rfl) ?_
        refine WkE.upd rfl (by first | exact VR.flat _ rfl | exact VR.eqv (vp_succ _) rfl | exact VR.eqv (vp_succ _).symm rfl | exact VR.eqv (by first | rfl | (congr 1; omega) | (simp; done) | (simp; omega)) rfl) ?_
        exact WkE.emp
      ·
        exact WkM.emp
      ·
        repeat (refine dom_upd_mem (by decide) ?_)
        exact dom_emp
    ·
      obtain rfl : i = 6 := by simp at hb0; omega
      refine AW.exit ?_
      refine thenA_exit ?_
      refine thenA_exit ?_
      refine inBlockA_hit ?_
      refine thenA_normal ?_
      refine AW.seqR ?_
      refine AWo.pure (PureOp.move rfl) rfl rfl ?_
      first | refine AWo.pure ((PureOp.negU 18446744073709551616 rfl rfl rfl (by first | decide | omega)).mono (v' := vi .u64 14042775128853446655) (by kernel_rfl)) rfl rfl ?_
      refine AWo.pure (PureOp.assign rfl) rfl rfl ?_
      refine AWo.nil trivial ?_
      refine AW.ret ?_
      refine RetQ.gc [_] [] [.tmp 0] (.inl rfl) rfl (.tmp rfl .nil) rfl (.cons rfl rfl .nil) trivial (by decide) rfl

set_option maxRecDepth 10000 in
theorem plus_ctr {a b : List Nat} (ha : bd 18446744073709551616 a) (hb : bd 18446744073709551616 b) (hla : a.length = 4) (hlb : b.length = 4) : GC Try.prog 139 [.agg ((a).map (vi .u64)).toArray, .agg ((b).map (vi .u64)).toArray] [] [.agg ((digs 18446744073709551616 4 (num 18446744073709551616 a + num 18446744073709551616 b)).map (vi .u64)).toArray] [] := by
  refine GC.intro Try.func139 rfl (by show 2 ≤ 25; decide) (by first | exact Nat.le_refl _ | decide | simp) ?_
  have hpa := num_lt ha
  rw [hla] at hpa
  have hpb := num_lt hb
  rw [hlb] at hpb
  refine AW.seqR ?_
  refine AWo.box 3000 1 (a.map (vi .u64)) rfl rfl rfl rfl rfl ?_
  refine AWo.box 4000 1 (b.map (vi .u64)) rfl rfl rfl rfl rfl ?_
  refine AWo.alloc tbok 5000 1 ((List.replicate 4 0).map (vi .u64)) rfl rfl rfl rfl rfl rfl ?_
  refine AWo.nil trivial ?_
  refine AW.seqR ?_
  refine AWo.pure (PureOp.assign rfl) rfl rfl ?_
  refine AWo.nil trivial ?_
  refine AW.seq ?_
  refine AW.seqR ?_
  refine AWo.pure (PureOp.move rfl) rfl rfl ?_
  refine AWo.nil trivial ?_
  refine AW.block ?_
  refine AW.loopw (fun mm σ => ∃ i, ∃ (l : List Nat), ∃ c, (i ≤ 4 ∧ l.length = 4 ∧ bd 18446744073709551616 l ∧ c ≤ 1 ∧ num 18446744073709551616 (l.take i) + 18446744073709551616 ^ i * c = num 18446744073709551616 a % 18446744073709551616 ^ i + num 18446744073709551616 b % 18446744073709551616 ^ i) ∧ mm = 4 - i ∧ σ = ⟨(upd (upd (upd (upd (upd emp 2 (.pointer (some ⟨3000, 0, none⟩))) 3 (.pointer (some ⟨4000, 0, none⟩))) 4 (.pointer (some ⟨5000, 0, none⟩))) 5 (vi .u64 c)) 7 (vi .i64 i)), (upd (upd (upd emp 3000 ⟨a.map (vi .u64), true, 1⟩) 4000 ⟨b.map (vi .u64), true, 1⟩) 5000 ⟨l.map (vi .u64), true, 1⟩)⟩) (fm := []) ?_ ⟨0, List.replicate 4 0, 0, ⟨Nat.zero_le _, by simp, bd_replicate (by decide) _, by omega, by simp [num, Nat.mod_one]⟩, rfl, rfl⟩ ?_
  ·
    refine Wk.of [3000, 4000, 5000] ?_ ?_ ?_ (by decide) rfl
    ·
      refine WkE.upd rfl (by first | exact VR.flat _ rfl | exact VR.eqv (vp_succ _) rfl | exact VR.eqv (vp_succ _).symm rfl | exact VR.eqv (by first | rfl | (congr 1; omega) | (simp; done) | (simp; omega)) rfl) ?_
      refine WkE.upd rfl (by first | exact VR.flat _ rfl | exact VR.eqv (vp_succ _) rfl | exact VR.eqv (vp_succ _).symm rfl | exact VR.eqv (by first | rfl | (congr 1; omega) | (simp; done) | (simp; omega)) rfl) ?_
      refine WkE.upd rfl (.ptr (5000) 0 ⟨_, rfl⟩) ?_
      refine WkE.upd rfl (.ptr (4000) 0 ⟨_, rfl⟩) ?_
      refine WkE.upd rfl (.ptr (3000) 0 ⟨_, rfl⟩) ?_
      exact WkE.emp
    ·
      refine WkM.flatM rfl (by first | rfl | assumption | simp) (fun _ => rfl) (fun h => h) ?_
      refine WkM.flatM rfl (by first | rfl | assumption | simp) (fun _ => rfl) (fun h => h) ?_
      refine WkM.flatM rfl (by first | rfl | assumption | simp) (fun _ => rfl) (fun h => h) ?_
      exact WkM.emp
    ·
      repeat (refine dom_upd_mem (by decide) ?_)
      exact dom_emp
  ·
    rintro mm σ ⟨i, l, c, ⟨hi0, hl2, hbl, hc, hnl⟩, rfl, rfl⟩
    have hx := bd_getD ha (by decide) i
    have hy := bd_getD hb (by decide) i
    refine AW.seqR ?_
    first | refine AWo.pure (PureOp.ltN (b := 4) rfl rfl) rfl rfl ?_ | refine AWo.pure (PureOp.bin rfl rfl rfl) rfl rfl ?_
    refine AWo.nil trivial ?_
    refine AW.seq ?_
    refine AW.cond rfl (fun hb0 => ?_) (fun hb0 => ?_)
    ·
      have hi : i < 4 := by simpa using hb0
      refine AW.skip ?_
      refine thenA_normal ?_
      refine AW.seq ?_
      refine AW.block ?_
      refine AW.seqR ?_
      refine AWo.pure (PureOp.move rfl) rfl rfl ?_
      refine AWo.pure (PureOp.assign rfl) rfl rfl ?_
      refine AWo.nil trivial ?_
      refine AW.draw mixed ?_
      refine AWo.pure (PureOp.move rfl) rfl rfl ?_
      refine AWo.pure (PureOp.move rfl) rfl rfl ?_
      first | refine AWo.pure (PureOp.arr1 tbok rfl rfl rfl rfl (by first | decide | omega)) rfl rfl ?_ | refine AWo.pure (PureOp.arr tbok rfl rfl rfl rfl (by first | decide | omega)) rfl rfl ?_
      first | refine AWo.loadM tbok 0 rfl rfl rfl (by first | decide | omega) rfl rfl ?_ | refine AWo.load tbok rfl rfl rfl rfl rfl rfl ?_
      refine AWo.pure (PureOp.move rfl) rfl rfl ?_
      first | refine AWo.pure (PureOp.arr1 tbok rfl rfl rfl rfl (by first | decide | omega)) rfl rfl ?_ | refine AWo.pure (PureOp.arr tbok rfl rfl rfl rfl (by first | decide | omega)) rfl rfl ?_
      first | refine AWo.loadM tbok 0 rfl rfl rfl (by first | decide | omega) rfl rfl ?_ | refine AWo.load tbok rfl rfl rfl rfl rfl rfl ?_
      refine AWo.pure (PureOp.move rfl) rfl rfl ?_
      refine AWo.pure (add64 rfl rfl (by first | decide | omega)) rfl rfl ?_
      refine AWo.pure (PureOp.move rfl) rfl rfl ?_
      refine AWo.pure (PureOp.extract rfl rfl) rfl rfl ?_
      refine AWo.pure (PureOp.extract rfl rfl) rfl rfl ?_
      first | refine AWo.pure (PureOp.arr1 tbok rfl rfl rfl rfl (by first | decide | omega)) rfl rfl ?_ | refine AWo.pure (PureOp.arr tbok rfl rfl rfl rfl (by first | decide | omega)) rfl rfl ?_
      first | refine AWo.storeM (f := (vi .u64)) tbok rfl rfl rfl rfl (by first | decide | omega) rfl rfl ?_ | refine AWo.store tbok rfl rfl rfl rfl rfl (by first | decide | (simp; omega)) rfl rfl rfl ?_
      refine AWo.pure (PureOp.assign rfl) rfl rfl ?_
      refine AWo.nil (by kernel_rfl) ?_
      refine inBlockA_normal ?_
      refine thenA_normal ?_
      refine AW.region ?_
      first | refine AWo.pure (PureOp.addI (b := 1) rfl rfl (by first | decide | omega)) rfl rfl ?_ | refine AWo.pure (PureOp.bin rfl rfl rfl) rfl rfl ?_
      refine AWo.pure (PureOp.move rfl) rfl rfl ?_
      refine AWo.nil trivial ?_
      refine thenA_normal ?_
      refine ⟨4 - (i + 1), [], _, by omega, ?_, i + 1, l.set i ((a.getD i 0 + b.getD i 0 + c) % 18446744073709551616), (a.getD i 0 + b.getD i 0 + c) / 18446744073709551616, ⟨by omega, by simp [hl2], bd_set hbl (Nat.mod_lt _ (by decide)), by omega, by rw [take_set_succ (by omega)]; exact add_step (by simp [hl2]; omega) hnl (num_getD ha (by decide) i) (num_getD hb (by decide) i)⟩, rfl, rfl⟩
      refine Wk.of [3000, 4000, 5000] ?_ ?_ ?_ (by decide) rfl
      ·
        refine WkE.upd rfl (by first | exact VR.flat _ rfl | exact VR.eqv (vp_succ _) rfl | exact VR.eqv (vp_succ _).symm rfl | exact VR.eqv (by first | rfl | (congr 1; omega) | (simp; done) | (simp; omega)) rfl) ?_
        refine WkE.upd rfl (by first | exact VR.flat _ rfl | exact VR.eqv (vp_succ _) rfl | exact VR.eqv (vp_succ _).symm rfl | exact VR.eqv (by first | rfl | (congr 1; omega) | (simp; done) | (simp; omega)) rfl) ?_
        refine WkE.upd rfl (.ptr (5000) 0 ⟨_, rfl⟩) ?_
        refine WkE.upd rfl (.ptr (4000) 0 ⟨_, rfl⟩) ?_
        refine WkE.upd rfl (.ptr (3000) 0 ⟨_, rfl⟩) ?_
        exact WkE.emp
      ·
        refine WkM.flatM rfl (by first | rfl | assumption | simp) (fun _ => rfl) (fun h => h) ?_
        refine WkM.flatM rfl (by first | rfl | assumption | simp) (fun _ => rfl) (fun h => h) ?_
        refine WkM.flatM rfl (by first | rfl | assumption | simp) (fun _ => rfl) (fun h => h) ?_
        exact WkM.emp
      ·
        repeat (refine dom_upd_mem (by decide) ?_)
        exact dom_emp
    ·
      obtain rfl : i = 4 := by simp at hb0; omega
      obtain ⟨e1, e2⟩ := sumL_end (by decide) hbl hl2 hnl hpa hpb
      subst e1
      have hd4 := digs_len (B := 18446744073709551616) 4 (num 18446744073709551616 a + num 18446744073709551616 b)
      refine AW.exit ?_
      refine thenA_exit ?_
      refine thenA_exit ?_
      refine inBlockA_hit ?_
      refine thenA_normal ?_
      refine AW.seqR ?_
      first | refine AWo.loadAll tbok rfl rfl rfl rfl (by first | (simp [*]; done) | rfl) rfl rfl ?_ | refine AWo.loadAgg tbok rfl rfl rfl rfl (by first | decide | omega) rfl rfl rfl ?_
      refine AWo.storeAllN tbok rfl rfl rfl rfl (by first | (simp [*]; done) | rfl) (by first | (simp [*]; done) | rfl) (by first | exact oneM (fun _ => rfl) _ | rfl | (simp; done)) rfl ?_
      refine AWo.nil trivial ?_
      refine AW.ret ?_
      refine RetQ.gc [_] [] [.cell 4 48] (.inl rfl) rfl (.val (RVal.cellAll tbok rfl rfl rfl rfl (by first | (simp [*]; done) | rfl)) .nil) rfl (.pure (by first | rfl | exact pure_aggM flat_vi | exact pure_aggM flat_bool) .nil) trivial (by decide) rfl

set_option maxRecDepth 10000 in
theorem borrow_ctr {a b : List Nat} (ha : bd 18446744073709551616 a) (hb : bd 18446744073709551616 b) (hla : a.length = 4) (hlb : b.length = 4) : GC Try.prog 140 [.agg ((a).map (vi .u64)).toArray, .agg ((b).map (vi .u64)).toArray] [] [.agg ((digs 18446744073709551616 4 (num 18446744073709551616 a + 18446744073709551616 ^ 4 - num 18446744073709551616 b)).map (vi .u64)).toArray, vi .u64 (if num 18446744073709551616 a < num 18446744073709551616 b then 1 else 0)] [] := by
  refine GC.intro Try.func140 rfl (by show 2 ≤ 26; decide) (by first | exact Nat.le_refl _ | decide | simp) ?_
  have hpa := num_lt ha
  rw [hla] at hpa
  have hpb := num_lt hb
  rw [hlb] at hpb
  refine AW.seqR ?_
  refine AWo.box 3000 1 (a.map (vi .u64)) rfl rfl rfl rfl rfl ?_
  refine AWo.box 4000 1 (b.map (vi .u64)) rfl rfl rfl rfl rfl ?_
  refine AWo.alloc tbok 5000 1 ((List.replicate 4 0).map (vi .u64)) rfl rfl rfl rfl rfl rfl ?_
  refine AWo.pure (PureOp.assign rfl) rfl rfl ?_
  refine AWo.nil trivial ?_
  refine AW.seq ?_
  refine AW.seqR ?_
  refine AWo.pure (PureOp.move rfl) rfl rfl ?_
  refine AWo.nil trivial ?_
  refine AW.block ?_
  refine AW.loopw (fun mm σ => ∃ i, ∃ (l : List Nat), ∃ c, (i ≤ 4 ∧ l.length = 4 ∧ bd 18446744073709551616 l ∧ c ≤ 1 ∧ num 18446744073709551616 (l.take i) + num 18446744073709551616 b % 18446744073709551616 ^ i = num 18446744073709551616 a % 18446744073709551616 ^ i + 18446744073709551616 ^ i * c) ∧ mm = 4 - i ∧ σ = ⟨(upd (upd (upd (upd (upd emp 2 (.pointer (some ⟨3000, 0, none⟩))) 3 (.pointer (some ⟨4000, 0, none⟩))) 4 (.pointer (some ⟨5000, 0, none⟩))) 5 (vi .u64 c)) 7 (vi .i64 i)), (upd (upd (upd emp 3000 ⟨a.map (vi .u64), true, 1⟩) 4000 ⟨b.map (vi .u64), true, 1⟩) 5000 ⟨l.map (vi .u64), true, 1⟩)⟩) (fm := []) ?_ ⟨0, List.replicate 4 0, 0, ⟨Nat.zero_le _, by simp, bd_replicate (by decide) _, by omega, by simp [num, Nat.mod_one]⟩, rfl, rfl⟩ ?_
  ·
    refine Wk.of [3000, 4000, 5000] ?_ ?_ ?_ (by decide) rfl
    ·
      refine WkE.upd rfl (by first | exact VR.flat _ rfl | exact VR.eqv (vp_succ _) rfl | exact VR.eqv (vp_succ _).symm rfl | exact VR.eqv (by first | rfl | (congr 1; omega) | (simp; done) | (simp; omega)) rfl) ?_
      refine WkE.upd rfl (by first | exact VR.flat _ rfl | exact VR.eqv (vp_succ _) rfl | exact VR.eqv (vp_succ _).symm rfl | exact VR.eqv (by first | rfl | (congr 1; omega) | (simp; done) | (simp; omega)) rfl) ?_
      refine WkE.upd rfl (.ptr (5000) 0 ⟨_, rfl⟩) ?_
      refine WkE.upd rfl (.ptr (4000) 0 ⟨_, rfl⟩) ?_
      refine WkE.upd rfl (.ptr (3000) 0 ⟨_, rfl⟩) ?_
      exact WkE.emp
    ·
      refine WkM.flatM rfl (by first | rfl | assumption | simp) (fun _ => rfl) (fun h => h) ?_
      refine WkM.flatM rfl (by first | rfl | assumption | simp) (fun _ => rfl) (fun h => h) ?_
      refine WkM.flatM rfl (by first | rfl | assumption | simp) (fun _ => rfl) (fun h => h) ?_
      exact WkM.emp
    ·
      repeat (refine dom_upd_mem (by decide) ?_)
      exact dom_emp
  ·
    rintro mm σ ⟨i, l, c, ⟨hi0, hl2, hbl, hc, hnl⟩, rfl, rfl⟩
    have hx := bd_getD ha (by decide) i
    have hy := bd_getD hb (by decide) i
    refine AW.seqR ?_
    first | refine AWo.pure (PureOp.ltN (b := 4) rfl rfl) rfl rfl ?_ | refine AWo.pure (PureOp.bin rfl rfl rfl) rfl rfl ?_
    refine AWo.nil trivial ?_
    refine AW.seq ?_
    refine AW.cond rfl (fun hb0 => ?_) (fun hb0 => ?_)
    ·
      have hi : i < 4 := by simpa using hb0
      refine AW.skip ?_
      refine thenA_normal ?_
      refine AW.seq ?_
      refine AW.block ?_
      refine AW.seqR ?_
      refine AWo.pure (PureOp.move rfl) rfl rfl ?_
      refine AWo.pure (PureOp.assign rfl) rfl rfl ?_
      refine AWo.nil trivial ?_
      refine AW.draw mixed ?_
      refine AWo.pure (PureOp.move rfl) rfl rfl ?_
      refine AWo.pure (PureOp.move rfl) rfl rfl ?_
      first | refine AWo.pure (PureOp.arr1 tbok rfl rfl rfl rfl (by first | decide | omega)) rfl rfl ?_ | refine AWo.pure (PureOp.arr tbok rfl rfl rfl rfl (by first | decide | omega)) rfl rfl ?_
      first | refine AWo.loadM tbok 0 rfl rfl rfl (by first | decide | omega) rfl rfl ?_ | refine AWo.load tbok rfl rfl rfl rfl rfl rfl ?_
      refine AWo.pure (PureOp.move rfl) rfl rfl ?_
      first | refine AWo.pure (PureOp.arr1 tbok rfl rfl rfl rfl (by first | decide | omega)) rfl rfl ?_ | refine AWo.pure (PureOp.arr tbok rfl rfl rfl rfl (by first | decide | omega)) rfl rfl ?_
      first | refine AWo.loadM tbok 0 rfl rfl rfl (by first | decide | omega) rfl rfl ?_ | refine AWo.load tbok rfl rfl rfl rfl rfl rfl ?_
      refine AWo.pure (PureOp.move rfl) rfl rfl ?_
      refine AWo.pure (sub64 rfl rfl (by first | decide | omega)) rfl rfl ?_
      refine AWo.pure (PureOp.move rfl) rfl rfl ?_
      refine AWo.pure (PureOp.extract rfl rfl) rfl rfl ?_
      refine AWo.pure (PureOp.extract rfl rfl) rfl rfl ?_
      first | refine AWo.pure (PureOp.arr1 tbok rfl rfl rfl rfl (by first | decide | omega)) rfl rfl ?_ | refine AWo.pure (PureOp.arr tbok rfl rfl rfl rfl (by first | decide | omega)) rfl rfl ?_
      first | refine AWo.storeM (f := (vi .u64)) tbok rfl rfl rfl rfl (by first | decide | omega) rfl rfl ?_ | refine AWo.store tbok rfl rfl rfl rfl rfl (by first | decide | (simp; omega)) rfl rfl rfl ?_
      refine AWo.pure (PureOp.assign rfl) rfl rfl ?_
      refine AWo.nil (by kernel_rfl) ?_
      refine inBlockA_normal ?_
      refine thenA_normal ?_
      refine AW.region ?_
      first | refine AWo.pure (PureOp.addI (b := 1) rfl rfl (by first | decide | omega)) rfl rfl ?_ | refine AWo.pure (PureOp.bin rfl rfl rfl) rfl rfl ?_
      refine AWo.pure (PureOp.move rfl) rfl rfl ?_
      refine AWo.nil trivial ?_
      refine thenA_normal ?_
      refine ⟨4 - (i + 1), [], _, by omega, ?_, i + 1, l.set i ((a.getD i 0 + 18446744073709551616 - b.getD i 0 - c) % 18446744073709551616), (if a.getD i 0 < b.getD i 0 + c then 1 else 0), ⟨by omega, by simp [hl2], bd_set hbl (Nat.mod_lt _ (by decide)), by split <;> omega, by rw [take_set_succ (by omega)]; exact dif_step (by simp [hl2]; omega) hnl (num_getD ha (by decide) i) (num_getD hb (by decide) i) hx hy hc⟩, rfl, rfl⟩
      refine Wk.of [3000, 4000, 5000] ?_ ?_ ?_ (by decide) rfl
      ·
        refine WkE.upd rfl (by first | exact VR.flat _ rfl | exact VR.eqv (vp_succ _) rfl | exact VR.eqv (vp_succ _).symm rfl | exact VR.eqv (by first | rfl | (congr 1; omega) | (simp; done) | (simp; omega)) rfl) ?_
        refine WkE.upd rfl (by first | exact VR.flat _ rfl | exact VR.eqv (vp_succ _) rfl | exact VR.eqv (vp_succ _).symm rfl | exact VR.eqv (by first | rfl | (congr 1; omega) | (simp; done) | (simp; omega)) rfl) ?_
        refine WkE.upd rfl (.ptr (5000) 0 ⟨_, rfl⟩) ?_
        refine WkE.upd rfl (.ptr (4000) 0 ⟨_, rfl⟩) ?_
        refine WkE.upd rfl (.ptr (3000) 0 ⟨_, rfl⟩) ?_
        exact WkE.emp
      ·
        refine WkM.flatM rfl (by first | rfl | assumption | simp) (fun _ => rfl) (fun h => h) ?_
        refine WkM.flatM rfl (by first | rfl | assumption | simp) (fun _ => rfl) (fun h => h) ?_
        refine WkM.flatM rfl (by first | rfl | assumption | simp) (fun _ => rfl) (fun h => h) ?_
        exact WkM.emp
      ·
        repeat (refine dom_upd_mem (by decide) ?_)
        exact dom_emp
    ·
      obtain rfl : i = 4 := by simp at hb0; omega
      obtain ⟨e1, e2⟩ := difL_end (by decide) hbl hl2 hnl hpa hpb hc
      subst e1; subst e2
      have hd4 := digs_len (B := 18446744073709551616) 4 (num 18446744073709551616 a + 18446744073709551616 ^ 4 - num 18446744073709551616 b)
      refine AW.exit ?_
      refine thenA_exit ?_
      refine thenA_exit ?_
      refine inBlockA_hit ?_
      refine thenA_normal ?_
      refine AW.seqR ?_
      first | refine AWo.loadAll tbok rfl rfl rfl rfl (by first | (simp [*]; done) | rfl) rfl rfl ?_ | refine AWo.loadAgg tbok rfl rfl rfl rfl (by first | decide | omega) rfl rfl rfl ?_
      refine AWo.pure (PureOp.move rfl) rfl rfl ?_
      refine AWo.storeAllN tbok rfl rfl rfl rfl (by first | (simp [*]; done) | rfl) (by first | (simp [*]; done) | rfl) (by first | exact oneM (fun _ => rfl) _ | rfl | (simp; done)) rfl ?_
      refine AWo.pure (PureOp.assign rfl) rfl rfl ?_
      refine AWo.nil trivial ?_
      refine AW.ret ?_
      refine RetQ.gc [_, _] [] [.cell 4 48, .tmp 5] (.inl rfl) rfl (.val (RVal.cellAll tbok rfl rfl rfl rfl (by first | (simp [*]; done) | rfl)) (.tmp rfl .nil)) rfl (.pure (by first | rfl | exact pure_aggM flat_vi | exact pure_aggM flat_bool) (.cons rfl rfl .nil)) trivial (by decide) rfl

set_option maxRecDepth 10000 in
theorem below_ctr {a : List Nat} (ha : bd 18446744073709551616 a) (hla : a.length = 4) (hlt2 : num 18446744073709551616 a < 2 * 21888242871839275222246405745257275088548364400416034343698204186575808495617) : GC Try.prog 138 [.agg ((a).map (vi .u64)).toArray] [] [.agg ((digs 18446744073709551616 4 (num 18446744073709551616 a % 21888242871839275222246405745257275088548364400416034343698204186575808495617)).map (vi .u64)).toArray] [] := by
  refine GC.intro Try.func138 rfl (by show 1 ≤ 15; decide) (by first | exact Nat.le_refl _ | decide | simp) ?_
  have hpa := num_lt ha
  rw [hla] at hpa
  have hnp : num 18446744073709551616 (digs 18446744073709551616 4 21888242871839275222246405745257275088548364400416034343698204186575808495617) = 21888242871839275222246405745257275088548364400416034343698204186575808495617 := num_digs_lt (by decide)
  have hbp := digs_bd (B := 18446744073709551616) (by decide) 4 21888242871839275222246405745257275088548364400416034343698204186575808495617
  have hlp := digs_len (B := 18446744073709551616) 4 21888242871839275222246405745257275088548364400416034343698204186575808495617
  have hd4 := digs_len (B := 18446744073709551616) 4 (num 18446744073709551616 a + 18446744073709551616 ^ 4 - 21888242871839275222246405745257275088548364400416034343698204186575808495617)
  refine AW.seqR ?_
  refine AWo.box 2000 1 (a.map (vi .u64)) rfl rfl rfl rfl rfl ?_
  refine AWo.alloc tbok 3000 1 ((List.replicate 4 0).map (vi .u64)) rfl rfl rfl rfl rfl rfl ?_
  refine AWo.nil trivial ?_
  refine AW.seq ?_
  refine AW.seqD mixed ?_
  first | refine AWo.loadAll tbok rfl rfl rfl rfl (by first | (simp [*]; done) | rfl) rfl rfl ?_ | refine AWo.loadAgg tbok rfl rfl rfl rfl (by first | decide | omega) rfl rfl rfl ?_
  refine AWo.callX (prime_ctr) bd136 [] [] rfl .nil rfl .nil .nil rfl .nil frN (by decide) (.pure (by first | rfl | exact pure_aggM flat_vi | exact pure_aggM flat_bool) .nil) rfl rfl rfl rfl ?_
  refine AWo.callX (borrow_ctr (b := digs 18446744073709551616 4 21888242871839275222246405745257275088548364400416034343698204186575808495617) ha hbp hla hlp) bd140 [] [] rfl (.cons rfl (.cons rfl .nil)) rfl (.pure (by first | rfl | exact pure_aggM flat_vi | exact pure_aggM flat_bool) (.pure (by first | rfl | exact pure_aggM flat_vi | exact pure_aggM flat_bool) .nil)) .nil rfl .nil frN (by decide) (.pure (by first | rfl | exact pure_aggM flat_vi | exact pure_aggM flat_bool) (.cons rfl rfl .nil)) rfl rfl rfl rfl ?_
  refine AWo.pure (PureOp.move rfl) rfl rfl ?_
  first | refine AWo.pure ((PureOp.extract rfl rfl).mono (v' := .agg ((digs 18446744073709551616 4 (num 18446744073709551616 a + 18446744073709551616 ^ 4 - 21888242871839275222246405745257275088548364400416034343698204186575808495617)).map (vi .u64)).toArray) (by rw [hnp]; rfl)) rfl rfl ?_
  first | refine AWo.pure ((PureOp.extract rfl rfl).mono (v' := vi .u64 (if num 18446744073709551616 a < 21888242871839275222246405745257275088548364400416034343698204186575808495617 then 1 else 0)) (by rw [hnp]; rfl)) rfl rfl ?_
  refine AWo.alloc tbok 4000 1 ((List.replicate 4 0).map (vi .u64)) rfl rfl rfl rfl rfl rfl ?_
  refine AWo.storeAllN tbok rfl rfl rfl rfl (by first | (simp [*]; done) | rfl) (by first | (simp [*]; done) | rfl) (by first | exact oneM (fun _ => rfl) _ | rfl | (simp; done)) rfl ?_
  refine AWo.pure (PureOp.assign rfl) rfl rfl ?_
  refine AWo.nil (by kernel_rfl) ?_
  refine AW.seqR ?_
  refine AWo.pure (PureOp.move rfl) rfl rfl ?_
  first | refine AWo.pure (PureOp.eqN (b := 0) rfl rfl) rfl rfl ?_ | refine AWo.pure (PureOp.bin rfl rfl rfl) rfl rfl ?_
  refine AWo.nil trivial ?_
  refine AW.cond rfl (fun hb0 => ?_) (fun hb0 => ?_)
  ·
    have hge : 21888242871839275222246405745257275088548364400416034343698204186575808495617 ≤ num 18446744073709551616 a := by
      rcases Nat.lt_or_ge (num 18446744073709551616 a) 21888242871839275222246405745257275088548364400416034343698204186575808495617 with h | h
      · rw [if_pos h] at hb0; simp at hb0
      · exact h
    refine AW.seqR ?_
    first | refine AWo.loadAll tbok rfl rfl rfl rfl (by first | (simp [*]; done) | rfl) rfl rfl ?_ | refine AWo.loadAgg tbok rfl rfl rfl rfl (by first | decide | omega) rfl rfl rfl ?_
    refine AWo.storeAllN tbok rfl rfl rfl rfl (by first | (simp [*]; done) | rfl) (by first | (simp [*]; done) | rfl) (by first | exact oneM (fun _ => rfl) _ | rfl | (simp; done)) rfl ?_
    refine AWo.nil trivial ?_
    refine AW.ret ?_
    refine thenA_ret ?_
    first | rw [below_ge ha hla hge hlt2] | rw [below_lt ha hla hlt]
    refine RetQ.gc [_] [] [.cell 2 48] (.inl rfl) rfl (.val (RVal.cellAll tbok rfl rfl rfl rfl (by first | (simp [*]; done) | rfl)) .nil) rfl (.pure (pure_aggM flat_vi) .nil) trivial (by decide) rfl
  ·
    have hlt : num 18446744073709551616 a < 21888242871839275222246405745257275088548364400416034343698204186575808495617 := by
      rcases Nat.lt_or_ge (num 18446744073709551616 a) 21888242871839275222246405745257275088548364400416034343698204186575808495617 with h | h
      · exact h
      · rw [if_neg (by omega)] at hb0; simp at hb0
    refine AW.skip ?_
    refine thenA_normal ?_
    refine AW.seqR ?_
    first | refine AWo.loadAll tbok rfl rfl rfl rfl (by first | (simp [*]; done) | rfl) rfl rfl ?_ | refine AWo.loadAgg tbok rfl rfl rfl rfl (by first | decide | omega) rfl rfl rfl ?_
    refine AWo.storeAllN tbok rfl rfl rfl rfl (by first | (simp [*]; done) | rfl) (by first | (simp [*]; done) | rfl) (by first | exact oneM (fun _ => rfl) _ | rfl | (simp; done)) rfl ?_
    refine AWo.nil trivial ?_
    refine AW.ret ?_
    first | rw [below_ge ha hla hge hlt2] | rw [below_lt ha hla hlt]
    refine RetQ.gc [_] [] [.cell 2 48] (.inl rfl) rfl (.val (RVal.cellAll tbok rfl rfl rfl rfl (by first | (simp [*]; done) | rfl)) .nil) rfl (.pure (pure_aggM flat_vi) .nil) trivial (by decide) rfl
end Go.Proofs.Ytiikffiembcboaa
