/- The field's products. -/
import Derived.Test.YtiikffiembcboaaField1
namespace Go.Proofs.Ytiikffiembcboaa
open Go Sim

theorem mont_init {l q : List Nat} {k : Nat} (hl : bd 18446744073709551616 l) (hq : bd 18446744073709551616 q) (hi : (num 18446744073709551616 q * 14042775128853446655 + 1) % 18446744073709551616 = 0) (hk : k = l.getD 0 0 * 14042775128853446655 % 18446744073709551616) :
    18446744073709551616 * num 18446744073709551616 (l.take (1 - 1)) + (l.getD 0 0 + k * q.getD 0 0 + 0) / 18446744073709551616 * 18446744073709551616 ^ 1 = num 18446744073709551616 l % 18446744073709551616 ^ 1 + k * num 18446744073709551616 (q.take 1) := by
  have e1 : l.getD 0 0 = num 18446744073709551616 l % 18446744073709551616 := by rw [num_getD hl (by decide)]; simp
  have e2 : q.getD 0 0 = num 18446744073709551616 q % 18446744073709551616 := by rw [num_getD hq (by decide)]; simp
  have e3 : num 18446744073709551616 (q.take 1) = num 18446744073709551616 q % 18446744073709551616 := by rw [num_take hq, Nat.pow_one]
  have h := mont_low (by decide) hi (t := num 18446744073709551616 l) (k := k) (by rw [hk, e1])
  rw [e3, e1, e2, Nat.pow_one, Nat.add_zero]
  have h2 := Nat.mod_add_div (num 18446744073709551616 l % 18446744073709551616 + k * (num 18446744073709551616 q % 18446744073709551616)) 18446744073709551616
  rw [h, Nat.zero_add] at h2
  simp only [Nat.sub_self, List.take_zero, num, Nat.mul_zero, Nat.zero_add]
  rw [Nat.mul_comm]
  exact h2

set_option maxRecDepth 10000 in
theorem product_ctr {a b : List Nat} {r : Nat} (ha : bd 18446744073709551616 a) (hb : bd 18446744073709551616 b) (hla : a.length = 4) (hlb : b.length = 4) (hpb : num 18446744073709551616 b < 21888242871839275222246405745257275088548364400416034343698204186575808495617) (hr : r < 21888242871839275222246405745257275088548364400416034343698204186575808495617) (h : r * 18446744073709551616 ^ 4 % 21888242871839275222246405745257275088548364400416034343698204186575808495617 = num 18446744073709551616 a * num 18446744073709551616 b % 21888242871839275222246405745257275088548364400416034343698204186575808495617) : GC Try.prog 137 [.agg ((a).map (vi .u64)).toArray, .agg ((b).map (vi .u64)).toArray] [] [.agg ((digs 18446744073709551616 4 r).map (vi .u64)).toArray] [] := by
  refine GC.intro Try.func137 rfl (by show 2 ≤ 91; decide) (by first | exact Nat.le_refl _ | decide | simp) ?_
  have hbp := digs_bd (B := 18446744073709551616) (by decide) 4 21888242871839275222246405745257275088548364400416034343698204186575808495617
  have hlp := digs_len (B := 18446744073709551616) 4 21888242871839275222246405745257275088548364400416034343698204186575808495617
  have hnp : num 18446744073709551616 (digs 18446744073709551616 4 21888242871839275222246405745257275088548364400416034343698204186575808495617) = 21888242871839275222246405745257275088548364400416034343698204186575808495617 := num_digs_lt (by decide)
  have hd4 := digs_len (B := 18446744073709551616) 4 r
  have hq4 : (digs 18446744073709551616 4 21888242871839275222246405745257275088548364400416034343698204186575808495617).take 4 = digs 18446744073709551616 4 21888242871839275222246405745257275088548364400416034343698204186575808495617 := List.take_of_length_le (by rw [digs_len]; exact Nat.le_refl _)
  have hb4 : b.take 4 = b := List.take_of_length_le (by rw [hlb]; exact Nat.le_refl _)
  refine AW.seqR ?_
  refine AWo.box 3000 1 (a.map (vi .u64)) rfl rfl rfl rfl rfl ?_
  refine AWo.box 4000 1 (b.map (vi .u64)) rfl rfl rfl rfl rfl ?_
  refine AWo.alloc tbok 5000 1 ((List.replicate 4 0).map (vi .u64)) rfl rfl rfl rfl rfl rfl ?_
  refine AWo.nil trivial ?_
  refine AW.seqR ?_
  refine AWo.callX (prime_ctr) bd136 [] [] rfl .nil rfl .nil .nil rfl .nil frN (by decide) (.pure (by first | rfl | exact pure_aggM flat_vi | exact pure_aggM flat_bool) .nil) rfl rfl rfl rfl ?_
  refine AWo.callX (inverse_ctr) bd150 [] [] rfl .nil rfl .nil .nil rfl .nil frN (by decide) (.cons rfl rfl .nil) rfl rfl rfl rfl ?_
  refine AWo.alloc tbok 6000 1 ((List.replicate 4 0).map (vi .u64)) rfl rfl rfl rfl rfl rfl ?_
  refine AWo.storeAllN tbok rfl rfl rfl rfl (by first | (simp [*]; done) | rfl) (by first | (simp [*]; done) | rfl) (by first | exact oneM (fun _ => rfl) _ | rfl | (simp; done)) rfl ?_
  refine AWo.pure (PureOp.assign rfl) rfl rfl ?_
  refine AWo.nil trivial ?_
  refine AW.seqR ?_
  refine AWo.alloc tbok 8000 1 ((List.replicate 5 0).map (vi .u64)) rfl rfl rfl rfl rfl rfl ?_
  refine AWo.nil trivial ?_
  refine AW.seq ?_
  refine AW.seqR ?_
  first | refine AWo.loadAll tbok rfl rfl rfl rfl (by first | (simp [*]; done) | rfl) rfl rfl ?_ | refine AWo.loadAgg tbok rfl rfl rfl rfl (by first | decide | omega) rfl rfl rfl ?_
  refine AWo.pure (PureOp.move rfl) rfl rfl ?_
  refine AWo.nil trivial ?_
  refine AW.block ?_
  refine AW.loopw (fun mm σ => ∃ i, ∃ (l : List Nat), (i ≤ 4 ∧ l.length = 5 ∧ bd 18446744073709551616 l ∧ num 18446744073709551616 l < 2 * 21888242871839275222246405745257275088548364400416034343698204186575808495617 ∧ num 18446744073709551616 l * 18446744073709551616 ^ i % 21888242871839275222246405745257275088548364400416034343698204186575808495617 = num 18446744073709551616 (a.take i) * num 18446744073709551616 b % 21888242871839275222246405745257275088548364400416034343698204186575808495617) ∧ mm = 4 - i ∧ σ = ⟨(upd (upd (upd (upd (upd (upd (upd (upd emp 2 (.pointer (some ⟨3000, 0, none⟩))) 3 (.pointer (some ⟨4000, 0, none⟩))) 4 (.pointer (some ⟨5000, 0, none⟩))) 5 (.pointer (some ⟨6000, 0, none⟩))) 6 (vi .u64 14042775128853446655)) 7 (.pointer (some ⟨8000, 0, none⟩))) 17 (.agg (a.map (vi .u64)).toArray)) 18 (vi .i64 i)), (upd (upd (upd (upd (upd emp 3000 ⟨a.map (vi .u64), true, 1⟩) 4000 ⟨b.map (vi .u64), true, 1⟩) 5000 ⟨(List.replicate 4 0).map (vi .u64), true, 1⟩) 6000 ⟨(digs 18446744073709551616 4 21888242871839275222246405745257275088548364400416034343698204186575808495617).map (vi .u64), true, 1⟩) 8000 ⟨l.map (vi .u64), true, 1⟩)⟩) (fm := []) ?_ ⟨0, List.replicate 5 0, ⟨Nat.zero_le _, by simp, bd_replicate (by decide) _, by rw [num_replicate]; decide, by simp [num, num_replicate]⟩, rfl, rfl⟩ ?_
  ·
    refine Wk.of [3000, 4000, 5000, 6000, 8000] ?_ ?_ ?_ (by decide) rfl
    ·
      refine WkE.upd rfl (by first | exact VR.flat _ rfl | exact VR.eqv (vp_succ _) rfl | exact VR.eqv (vp_succ _).symm rfl | exact VR.eqv (by first | rfl | (congr 1; omega) | (simp; done) | (simp; omega)) rfl) ?_
      refine WkE.upd rfl (by first | exact VR.pure rfl | exact VR.aggM flat_vi | exact VR.aggM flat_bool) ?_
      refine WkE.upd rfl (.ptr (8000) 0 ⟨_, rfl⟩) ?_
      refine WkE.upd rfl (by first | exact VR.flat _ rfl | exact VR.eqv (vp_succ _) rfl | exact VR.eqv (vp_succ _).symm rfl | exact VR.eqv (by first | rfl | (congr 1; omega) | (simp; done) | (simp; omega)) rfl) ?_
      refine WkE.upd rfl (.ptr (6000) 0 ⟨_, rfl⟩) ?_
      refine WkE.upd rfl (.ptr (5000) 0 ⟨_, rfl⟩) ?_
      refine WkE.upd rfl (.ptr (4000) 0 ⟨_, rfl⟩) ?_
      refine WkE.upd rfl (.ptr (3000) 0 ⟨_, rfl⟩) ?_
      exact WkE.emp
    ·
      refine WkM.flatM rfl (by first | rfl | assumption | simp) (fun _ => rfl) (fun h => h) ?_
      refine WkM.flatM rfl (by first | rfl | assumption | simp) (fun _ => rfl) (fun h => h) ?_
      refine WkM.flatM rfl (by first | rfl | assumption | simp) (fun _ => rfl) (fun h => h) ?_
      refine WkM.flatM rfl (by first | rfl | assumption | simp) (fun _ => rfl) (fun h => h) ?_
      refine WkM.flatM rfl (by first | rfl | assumption | simp) (fun _ => rfl) (fun h => h) ?_
      exact WkM.emp
    ·
      repeat (refine dom_upd_mem (by decide) ?_)
      exact dom_emp
  ·
    rintro mm σ ⟨i, l, ⟨hi0, hl2, hbl, hT, hTm⟩, rfl, rfl⟩
    refine AW.seqR ?_
    first | refine AWo.pure (PureOp.ltN (b := 4) rfl rfl) rfl rfl ?_ | refine AWo.pure (PureOp.bin rfl rfl rfl) rfl rfl ?_
    refine AWo.nil trivial ?_
    refine AW.seq ?_
    refine AW.cond rfl (fun hb0 => ?_) (fun hb0 => ?_)
    ·
      have hi : i < 4 := by simpa using hb0
      have hxa := bd_getD ha (by decide) i
      refine AW.skip ?_
      refine thenA_normal ?_
      refine AW.seq ?_
      refine AW.block ?_
      refine AW.seqR ?_
      first | refine AWo.pure (PureOp.idxVM tbok 0 rfl rfl rfl rfl rfl (by first | decide | omega) (by first | (simp [*]; done) | rfl)) rfl rfl ?_ | refine AWo.pure (PureOp.idxV tbok rfl rfl rfl rfl rfl (by first | decide | omega) rfl) rfl rfl ?_
      refine AWo.pure (PureOp.assign rfl) rfl rfl ?_
      refine AWo.nil trivial ?_
      refine AW.seqR ?_
      refine AWo.pure (PureOp.assign rfl) rfl rfl ?_
      refine AWo.nil trivial ?_
      refine AW.seq ?_
      refine AW.seqR ?_
      first | refine AWo.loadAll tbok rfl rfl rfl rfl (by first | (simp [*]; done) | rfl) rfl rfl ?_ | refine AWo.loadAgg tbok rfl rfl rfl rfl (by first | decide | omega) rfl rfl rfl ?_
      refine AWo.pure (PureOp.move rfl) rfl rfl ?_
      refine AWo.nil trivial ?_
      refine AW.block ?_
      refine AW.loopw (fun mm σ => ∃ j, ∃ (l2 : List Nat), ∃ c, (j ≤ 4 ∧ l2.length = 5 ∧ bd 18446744073709551616 l2 ∧ c < 18446744073709551616 ∧ num 18446744073709551616 l2 + c * 18446744073709551616 ^ j = num 18446744073709551616 l + a.getD i 0 * num 18446744073709551616 (b.take j) ∧ (∀ k, j ≤ k → l2.getD k 0 = l.getD k 0)) ∧ mm = 4 - j ∧ σ = ⟨(upd (upd (upd (upd (upd (upd (upd (upd (upd (upd (upd (upd emp 2 (.pointer (some ⟨3000, 0, none⟩))) 3 (.pointer (some ⟨4000, 0, none⟩))) 4 (.pointer (some ⟨5000, 0, none⟩))) 5 (.pointer (some ⟨6000, 0, none⟩))) 6 (vi .u64 14042775128853446655)) 7 (.pointer (some ⟨8000, 0, none⟩))) 17 (.agg (a.map (vi .u64)).toArray)) 18 (vi .i64 i)) 9 (vi .u64 (a.getD i 0))) 10 (vi .u64 c)) 21 (.agg (b.map (vi .u64)).toArray)) 22 (vi .i64 j)), (upd (upd (upd (upd (upd emp 3000 ⟨a.map (vi .u64), true, 1⟩) 4000 ⟨b.map (vi .u64), true, 1⟩) 5000 ⟨(List.replicate 4 0).map (vi .u64), true, 1⟩) 6000 ⟨(digs 18446744073709551616 4 21888242871839275222246405745257275088548364400416034343698204186575808495617).map (vi .u64), true, 1⟩) 8000 ⟨l2.map (vi .u64), true, 1⟩)⟩) (fm := []) ?_ ⟨0, l, 0, ⟨by omega, hl2, hbl, by decide, by simp [num], fun _ _ => rfl⟩, rfl, rfl⟩ ?_
      ·
        refine Wk.of [3000, 4000, 5000, 6000, 8000] ?_ ?_ ?_ (by decide) rfl
        ·
          refine WkE.upd rfl (by first | exact VR.flat _ rfl | exact VR.eqv (vp_succ _) rfl | exact VR.eqv (vp_succ _).symm rfl | exact VR.eqv (by first | rfl | (congr 1; omega) | (simp; done) | (simp; omega)) rfl) ?_
          refine WkE.upd rfl (by first | exact VR.pure rfl | exact VR.aggM flat_vi | exact VR.aggM flat_bool) ?_
          refine WkE.upd rfl (by first | exact VR.flat _ rfl | exact VR.eqv (vp_succ _) rfl | exact VR.eqv (vp_succ _).symm rfl | exact VR.eqv (by first | rfl | (congr 1; omega) | (simp; done) | (simp; omega)) rfl) ?_
          refine WkE.upd rfl (by first | exact VR.flat _ rfl | exact VR.eqv (vp_succ _) rfl | exact VR.eqv (vp_succ _).symm rfl | exact VR.eqv (by first | rfl | (congr 1; omega) | (simp; done) | (simp; omega)) rfl) ?_
          refine WkE.upd rfl (by first | exact VR.flat _ rfl | exact VR.eqv (vp_succ _) rfl | exact VR.eqv (vp_succ _).symm rfl | exact VR.eqv (by first | rfl | (congr 1; omega) | (simp; done) | (simp; omega)) rfl) ?_
          refine WkE.upd rfl (by first | exact VR.pure rfl | exact VR.aggM flat_vi | exact VR.aggM flat_bool) ?_
          refine WkE.upd rfl (.ptr (8000) 0 ⟨_, rfl⟩) ?_
          refine WkE.upd rfl (by first | exact VR.flat _ rfl | exact VR.eqv (vp_succ _) rfl | exact VR.eqv (vp_succ _).symm rfl | exact VR.eqv (by first | rfl | (congr 1; omega) | (simp; done) | (simp; omega)) rfl) ?_
          refine WkE.upd rfl (.ptr (6000) 0 ⟨_, rfl⟩) ?_
          refine WkE.upd rfl (.ptr (5000) 0 ⟨_, rfl⟩) ?_
          refine WkE.upd rfl (.ptr (4000) 0 ⟨_, rfl⟩) ?_
          refine WkE.upd rfl (.ptr (3000) 0 ⟨_, rfl⟩) ?_
          exact WkE.emp
        ·
          refine WkM.flatM rfl (by first | rfl | assumption | simp) (fun _ => rfl) (fun h => h) ?_
          refine WkM.flatM rfl (by first | rfl | assumption | simp) (fun _ => rfl) (fun h => h) ?_
          refine WkM.flatM rfl (by first | rfl | assumption | simp) (fun _ => rfl) (fun h => h) ?_
          refine WkM.flatM rfl (by first | rfl | assumption | simp) (fun _ => rfl) (fun h => h) ?_
          refine WkM.flatM rfl (by first | rfl | assumption | simp) (fun _ => rfl) (fun h => h) ?_
          exact WkM.emp
        ·
          repeat (refine dom_upd_mem (by decide) ?_)
          exact dom_emp
      ·
        rintro mm σ ⟨j, l2, c, ⟨hj0, hk2, hbk, hc, hnk, hzk⟩, rfl, rfl⟩
        have hx := bd_getD ha (by decide) i
        have hy := bd_getD hb (by decide) j
        have he := bd_getD hbk (by decide) j
        have hlt := mad_lt he hx hy hc
        refine AW.seqR ?_
        first | refine AWo.pure (PureOp.ltN (b := 4) rfl rfl) rfl rfl ?_ | refine AWo.pure (PureOp.bin rfl rfl rfl) rfl rfl ?_
        refine AWo.nil trivial ?_
        refine AW.seq ?_
        refine AW.cond rfl (fun hb1 => ?_) (fun hb1 => ?_)
        ·
          have hj : j < 4 := by simpa using hb1
          refine AW.skip ?_
          refine thenA_normal ?_
          refine AW.seq ?_
          refine AW.block ?_
          refine AW.seqR ?_
          refine AWo.pure (PureOp.move rfl) rfl rfl ?_
          first | refine AWo.pure (PureOp.idxVM tbok 0 rfl rfl rfl rfl rfl (by first | decide | omega) (by first | (simp [*]; done) | rfl)) rfl rfl ?_ | refine AWo.pure (PureOp.idxV tbok rfl rfl rfl rfl rfl (by first | decide | omega) rfl) rfl rfl ?_
          refine AWo.pure (PureOp.assign rfl) rfl rfl ?_
          refine AWo.pure (PureOp.assign rfl) rfl rfl ?_
          refine AWo.nil trivial ?_
          refine AW.region ?_
          refine AWo.pure (PureOp.move rfl) rfl rfl ?_
          refine AWo.pure (PureOp.move rfl) rfl rfl ?_
          first | refine AWo.pure (PureOp.arr1 tbok rfl rfl rfl rfl (by first | decide | omega)) rfl rfl ?_ | refine AWo.pure (PureOp.arr tbok rfl rfl rfl rfl (by first | decide | omega)) rfl rfl ?_
          first | refine AWo.loadM tbok 0 rfl rfl rfl (by first | decide | omega) rfl rfl ?_ | refine AWo.load tbok rfl rfl rfl rfl rfl rfl ?_
          refine AWo.pure (PureOp.move rfl) rfl rfl ?_
          refine AWo.pure (PureOp.move rfl) rfl rfl ?_
          refine AWo.pure (PureOp.move rfl) rfl rfl ?_
          refine AWo.callX (line_ctr (by first | assumption | omega) (by first | assumption | omega) (by first | assumption | omega) (by first | assumption | omega)) bd151 [] [] rfl (.cons rfl (.cons rfl (.cons rfl (.cons rfl .nil)))) rfl (.cons rfl rfl (.cons rfl rfl (.cons rfl rfl (.cons rfl rfl .nil)))) .nil rfl .nil frN (by decide) (.cons rfl rfl (.cons rfl rfl .nil)) rfl rfl rfl rfl ?_
          refine AWo.pure (PureOp.move rfl) rfl rfl ?_
          refine AWo.pure (PureOp.extract rfl rfl) rfl rfl ?_
          refine AWo.pure (PureOp.extract rfl rfl) rfl rfl ?_
          first | refine AWo.pure (PureOp.arr1 tbok rfl rfl rfl rfl (by first | decide | omega)) rfl rfl ?_ | refine AWo.pure (PureOp.arr tbok rfl rfl rfl rfl (by first | decide | omega)) rfl rfl ?_
          first | refine AWo.storeM (f := (vi .u64)) tbok rfl rfl rfl rfl (by first | decide | omega) rfl rfl ?_ | refine AWo.store tbok rfl rfl rfl rfl rfl (by first | decide | (simp; omega)) rfl rfl rfl ?_
          refine AWo.pure (PureOp.assign rfl) rfl rfl ?_
          refine AWo.nil trivial ?_
          refine inBlockA_normal ?_
          refine thenA_normal ?_
          refine AW.region ?_
          first | refine AWo.pure (PureOp.addI (b := 1) rfl rfl (by first | decide | omega)) rfl rfl ?_ | refine AWo.pure (PureOp.bin rfl rfl rfl) rfl rfl ?_
          refine AWo.pure (PureOp.move rfl) rfl rfl ?_
          refine AWo.nil trivial ?_
          refine thenA_normal ?_
          refine ⟨4 - (j + 1), [], _, by omega, ?_, j + 1, l2.set j ((l2.getD j 0 + a.getD i 0 * b.getD j 0 + c) % 18446744073709551616), (l2.getD j 0 + a.getD i 0 * b.getD j 0 + c) / 18446744073709551616, ⟨by omega, by simp [hk2], bd_set hbk (Nat.mod_lt _ (by decide)), Nat.div_lt_of_lt_mul hlt, mad_step (by omega) hnk rfl, fun k hk => by rw [getD_set (by omega)]; exact hzk k (by omega)⟩, rfl, rfl⟩
          refine Wk.of [3000, 4000, 5000, 6000, 8000] ?_ ?_ ?_ (by decide) rfl
          ·
            refine WkE.upd rfl (by first | exact VR.flat _ rfl | exact VR.eqv (vp_succ _) rfl | exact VR.eqv (vp_succ _).symm rfl | exact VR.eqv (by first | rfl | (congr 1; omega) | (simp; done) | (simp; omega)) rfl) ?_
            refine WkE.upd rfl (by first | exact VR.pure rfl | exact VR.aggM flat_vi | exact VR.aggM flat_bool) ?_
            refine WkE.upd rfl (by first | exact VR.flat _ rfl | exact VR.eqv (vp_succ _) rfl | exact VR.eqv (vp_succ _).symm rfl | exact VR.eqv (by first | rfl | (congr 1; omega) | (simp; done) | (simp; omega)) rfl) ?_
            refine WkE.upd rfl (by first | exact VR.flat _ rfl | exact VR.eqv (vp_succ _) rfl | exact VR.eqv (vp_succ _).symm rfl | exact VR.eqv (by first | rfl | (congr 1; omega) | (simp; done) | (simp; omega)) rfl) ?_
            refine WkE.upd rfl (by first | exact VR.flat _ rfl | exact VR.eqv (vp_succ _) rfl | exact VR.eqv (vp_succ _).symm rfl | exact VR.eqv (by first | rfl | (congr 1; omega) | (simp; done) | (simp; omega)) rfl) ?_
            refine WkE.upd rfl (by first | exact VR.pure rfl | exact VR.aggM flat_vi | exact VR.aggM flat_bool) ?_
            refine WkE.upd rfl (.ptr (8000) 0 ⟨_, rfl⟩) ?_
            refine WkE.upd rfl (by first | exact VR.flat _ rfl | exact VR.eqv (vp_succ _) rfl | exact VR.eqv (vp_succ _).symm rfl | exact VR.eqv (by first | rfl | (congr 1; omega) | (simp; done) | (simp; omega)) rfl) ?_
            refine WkE.upd rfl (.ptr (6000) 0 ⟨_, rfl⟩) ?_
            refine WkE.upd rfl (.ptr (5000) 0 ⟨_, rfl⟩) ?_
            refine WkE.upd rfl (.ptr (4000) 0 ⟨_, rfl⟩) ?_
            refine WkE.upd rfl (.ptr (3000) 0 ⟨_, rfl⟩) ?_
            exact WkE.emp
          ·
            refine WkM.flatM rfl (by first | rfl | assumption | simp) (fun _ => rfl) (fun h => h) ?_
            refine WkM.flatM rfl (by first | rfl | assumption | simp) (fun _ => rfl) (fun h => h) ?_
            refine WkM.flatM rfl (by first | rfl | assumption | simp) (fun _ => rfl) (fun h => h) ?_
            refine WkM.flatM rfl (by first | rfl | assumption | simp) (fun _ => rfl) (fun h => h) ?_
            refine WkM.flatM rfl (by first | rfl | assumption | simp) (fun _ => rfl) (fun h => h) ?_
            exact WkM.emp
          ·
            repeat (refine dom_upd_mem (by decide) ?_)
            exact dom_emp
        ·
          obtain rfl : j = 4 := by simp at hb1; omega
          rw [hb4] at hnk
          have h40 : l2.getD 4 0 = 0 := by
            rw [hzk 4 (Nat.le_refl _), num_getD hbl (by decide), Nat.div_eq_of_lt (by omega)]
          refine AW.exit ?_
          refine thenA_exit ?_
          refine thenA_exit ?_
          refine inBlockA_hit ?_
          refine thenA_normal ?_
          refine AW.seqR ?_
          first | refine AWo.pure (PureOp.arr1 (j := 4) tbok rfl rfl rfl rfl (by first | decide | omega)) rfl rfl ?_ | refine AWo.pure (PureOp.arr (j := 4) tbok rfl rfl rfl rfl (by first | decide | omega)) rfl rfl ?_
          first | refine AWo.loadM tbok 0 rfl rfl rfl (by first | decide | omega) rfl rfl ?_ | refine AWo.load tbok rfl rfl rfl rfl rfl rfl ?_
          refine AWo.pure (PureOp.move rfl) rfl rfl ?_
          first | refine AWo.pure ((PureOp.addU 18446744073709551616 rfl rfl rfl rfl).mono (v' := vi .u64 c) (congrArg (vi .u64) (by rw [h40, Nat.zero_add, Nat.mod_eq_of_lt hc]))) rfl rfl ?_ | refine AWo.pure ((PureOp.bin rfl rfl rfl).mono (v' := vi .u64 c) (congrArg (vi .u64) (by rw [h40, Nat.zero_add, Nat.mod_eq_of_lt hc]))) rfl rfl ?_
          first | refine AWo.pure (PureOp.arr1 (j := 4) tbok rfl rfl rfl rfl (by first | decide | omega)) rfl rfl ?_ | refine AWo.pure (PureOp.arr (j := 4) tbok rfl rfl rfl rfl (by first | decide | omega)) rfl rfl ?_
          first | refine AWo.storeM (f := (vi .u64)) tbok rfl rfl rfl rfl (by first | decide | omega) rfl rfl ?_ | refine AWo.store tbok rfl rfl rfl rfl rfl (by first | decide | (simp; omega)) rfl rfl rfl ?_
          refine AWo.nil trivial ?_
          obtain ⟨l3, hl3⟩ : ∃ l3, l3 = l2.set 4 c := ⟨_, rfl⟩
          rw [← hl3]
          have hb3 : bd 18446744073709551616 l3 := by rw [hl3]; exact bd_set hbk hc
          have hk3 : l3.length = 5 := by rw [hl3]; simp [hk2]
          have hS : num 18446744073709551616 l3 = num 18446744073709551616 l + a.getD i 0 * num 18446744073709551616 b := by
            have := num_set (B := 18446744073709551616) (l := l2) (k := 4) (v := c) (by omega)
            rw [h40, Nat.zero_mul, Nat.add_zero] at this
            rw [hl3, this, hnk]
          refine AW.seqR ?_
          first | refine AWo.pure (PureOp.arr1 (j := 0) tbok rfl rfl rfl rfl (by first | decide | omega)) rfl rfl ?_ | refine AWo.pure (PureOp.arr (j := 0) tbok rfl rfl rfl rfl (by first | decide | omega)) rfl rfl ?_
          first | refine AWo.loadM tbok 0 rfl rfl rfl (by first | decide | omega) rfl rfl ?_ | refine AWo.load tbok rfl rfl rfl rfl rfl rfl ?_
          refine AWo.pure (PureOp.move rfl) rfl rfl ?_
          refine AWo.pure (PureOp.mulU 18446744073709551616 rfl rfl rfl rfl) rfl rfl ?_
          refine AWo.pure (PureOp.assign rfl) rfl rfl ?_
          refine AWo.nil trivial ?_
          obtain ⟨k, hkk⟩ : ∃ k, k = l3.getD 0 0 * 14042775128853446655 % 18446744073709551616 := ⟨_, rfl⟩
          rw [← hkk]
          have hk : k < 18446744073709551616 := by rw [hkk]; exact Nat.mod_lt _ (by decide)
          refine AW.seqR ?_
          first | refine AWo.pure (PureOp.arr1 (j := 0) tbok rfl rfl rfl rfl (by first | decide | omega)) rfl rfl ?_ | refine AWo.pure (PureOp.arr (j := 0) tbok rfl rfl rfl rfl (by first | decide | omega)) rfl rfl ?_
          first | refine AWo.loadM tbok 0 rfl rfl rfl (by first | decide | omega) rfl rfl ?_ | refine AWo.load tbok rfl rfl rfl rfl rfl rfl ?_
          refine AWo.pure (PureOp.move rfl) rfl rfl ?_
          first | refine AWo.pure (PureOp.arr1 (j := 0) tbok rfl rfl rfl rfl (by first | decide | omega)) rfl rfl ?_ | refine AWo.pure (PureOp.arr (j := 0) tbok rfl rfl rfl rfl (by first | decide | omega)) rfl rfl ?_
          first | refine AWo.loadM tbok 0 rfl rfl rfl (by first | decide | omega) rfl rfl ?_ | refine AWo.load tbok rfl rfl rfl rfl rfl rfl ?_
          refine AWo.callX (line_ctr (c := 0) (bd_getD hb3 (by decide) 0) hk (bd_getD hbp (by decide) 0) (by decide)) bd151 [] [] rfl (.cons rfl (.cons rfl (.cons rfl (.cons rfl .nil)))) rfl (.cons rfl rfl (.cons rfl rfl (.cons rfl rfl (.cons rfl rfl .nil)))) .nil rfl .nil frN (by decide) (.cons rfl rfl (.cons rfl rfl .nil)) rfl rfl rfl rfl ?_
          refine AWo.pure (PureOp.move rfl) rfl rfl ?_
          refine AWo.pure (PureOp.extract rfl rfl) rfl rfl ?_
          refine AWo.pure (PureOp.extract rfl rfl) rfl rfl ?_
          refine AWo.pure (PureOp.assign rfl) rfl rfl ?_
          refine AWo.nil trivial ?_
          refine AW.seq ?_
          refine AW.seqR ?_
          refine AWo.pure (PureOp.assign rfl) rfl rfl ?_
          refine AWo.nil trivial ?_
          refine AW.block ?_
          refine AW.loopw (fun mm σ => ∃ j, ∃ (u : List Nat), ∃ c, ((1 ≤ j ∧ j ≤ 4) ∧ u.length = 5 ∧ bd 18446744073709551616 u ∧ c < 18446744073709551616 ∧ 18446744073709551616 * num 18446744073709551616 (u.take (j - 1)) + c * 18446744073709551616 ^ j = num 18446744073709551616 l3 % 18446744073709551616 ^ j + k * num 18446744073709551616 ((digs 18446744073709551616 4 21888242871839275222246405745257275088548364400416034343698204186575808495617).take j) ∧ (∀ m, j ≤ m → u.getD m 0 = num 18446744073709551616 l3 / 18446744073709551616 ^ m % 18446744073709551616)) ∧ mm = 4 - j ∧ σ = ⟨(upd (upd (upd (upd (upd (upd (upd (upd (upd (upd (upd emp 2 (.pointer (some ⟨3000, 0, none⟩))) 3 (.pointer (some ⟨4000, 0, none⟩))) 4 (.pointer (some ⟨5000, 0, none⟩))) 5 (.pointer (some ⟨6000, 0, none⟩))) 6 (vi .u64 14042775128853446655)) 7 (.pointer (some ⟨8000, 0, none⟩))) 17 (.agg (a.map (vi .u64)).toArray)) 18 (vi .i64 i)) 10 (vi .u64 c)) 13 (vi .u64 k)) 14 (vi .i64 j)), (upd (upd (upd (upd (upd emp 3000 ⟨a.map (vi .u64), true, 1⟩) 4000 ⟨b.map (vi .u64), true, 1⟩) 5000 ⟨(List.replicate 4 0).map (vi .u64), true, 1⟩) 6000 ⟨(digs 18446744073709551616 4 21888242871839275222246405745257275088548364400416034343698204186575808495617).map (vi .u64), true, 1⟩) 8000 ⟨u.map (vi .u64), true, 1⟩)⟩) (fm := []) ?_ ⟨1, l3, (l3.getD 0 0 + k * (digs 18446744073709551616 4 21888242871839275222246405745257275088548364400416034343698204186575808495617).getD 0 0 + 0) / 18446744073709551616, ⟨⟨by omega, by omega⟩, hk3, hb3, Nat.div_lt_of_lt_mul (mad_lt (bd_getD hb3 (by decide) 0) hk (bd_getD hbp (by decide) 0) (by decide)), mont_init hb3 hbp (by rw [hnp]) hkk, fun m _ => num_getD hb3 (by decide) m⟩, rfl, rfl⟩ ?_
          ·
            refine Wk.of [3000, 4000, 5000, 6000, 8000] ?_ ?_ ?_ (by decide) rfl
            ·
              refine WkE.upd rfl (by first | exact VR.flat _ rfl | exact VR.eqv (vp_succ _) rfl | exact VR.eqv (vp_succ _).symm rfl | exact VR.eqv (by first | rfl | (congr 1; omega) | (simp; done) | (simp; omega)) rfl) ?_
              refine WkE.upd rfl (by first | exact VR.flat _ rfl | exact VR.eqv (vp_succ _) rfl | exact VR.eqv (vp_succ _).symm rfl | exact VR.eqv (by first | rfl | (congr 1; omega) | (simp; done) | (simp; omega)) rfl) ?_
              refine WkE.upd rfl (by first | exact VR.flat _ rfl | exact VR.eqv (vp_succ _) rfl | exact VR.eqv (vp_succ _).symm rfl | exact VR.eqv (by first | rfl | (congr 1; omega) | (simp; done) | (simp; omega)) rfl) ?_
              refine WkE.upd rfl (by first | exact VR.flat _ rfl | exact VR.eqv (vp_succ _) rfl | exact VR.eqv (vp_succ _).symm rfl | exact VR.eqv (by first | rfl | (congr 1; omega) | (simp; done) | (simp; omega)) rfl) ?_
              refine WkE.upd rfl (by first | exact VR.pure rfl | exact VR.aggM flat_vi | exact VR.aggM flat_bool) ?_
              refine WkE.upd rfl (.ptr (8000) 0 ⟨_, rfl⟩) ?_
              refine WkE.upd rfl (by first | exact VR.flat _ rfl | exact VR.eqv (vp_succ _) rfl | exact VR.eqv (vp_succ _).symm rfl | exact VR.eqv (by first | rfl | (congr 1; omega) | (simp; done) | (simp; omega)) rfl) ?_
              refine WkE.upd rfl (.ptr (6000) 0 ⟨_, rfl⟩) ?_
              refine WkE.upd rfl (.ptr (5000) 0 ⟨_, rfl⟩) ?_
              refine WkE.upd rfl (.ptr (4000) 0 ⟨_, rfl⟩) ?_
              refine WkE.upd rfl (.ptr (3000) 0 ⟨_, rfl⟩) ?_
              exact WkE.emp
            ·
              refine WkM.flatM rfl (by first | rfl | assumption | simp) (fun _ => rfl) (fun h => h) ?_
              refine WkM.flatM rfl (by first | rfl | assumption | simp) (fun _ => rfl) (fun h => h) ?_
              refine WkM.flatM rfl (by first | rfl | assumption | simp) (fun _ => rfl) (fun h => h) ?_
              refine WkM.flatM rfl (by first | rfl | assumption | simp) (fun _ => rfl) (fun h => h) ?_
              refine WkM.flatM rfl (by first | rfl | assumption | simp) (fun _ => rfl) (fun h => h) ?_
              exact WkM.emp
            ·
              repeat (refine dom_upd_mem (by decide) ?_)
              exact dom_emp
          ·
            rintro mm σ ⟨j, u, c, ⟨⟨hj1, hj0⟩, hku, hbu, hc, hred, hum⟩, rfl, rfl⟩
            have he := bd_getD hbu (by decide) j
            have hq := bd_getD hbp (by decide) j
            have hlt2 := mad_lt he hk hq hc
            have hu4 := bd_getD hbu (by decide) 4
            refine AW.seq ?_
            refine AW.seqR ?_
            refine AWo.pure (PureOp.move rfl) rfl rfl ?_
            first | refine AWo.pure (PureOp.ltN (b := 4) rfl rfl) rfl rfl ?_ | refine AWo.pure (PureOp.bin rfl rfl rfl) rfl rfl ?_
            refine AWo.nil trivial ?_
            refine AW.cond rfl (fun hb2 => ?_) (fun hb2 => ?_)
            ·
              have hj : j < 4 := by simpa using hb2
              refine AW.skip ?_
              refine thenA_normal ?_
              refine AW.seq ?_
              refine AW.block ?_
              refine AW.draw mixed ?_
              refine AWo.pure (PureOp.move rfl) rfl rfl ?_
              first | refine AWo.pure (PureOp.subI (b := 1) rfl rfl (by first | decide | omega) (by first | decide | omega)) rfl rfl ?_ | refine AWo.pure (PureOp.subP rfl rfl (by first | decide | omega)) rfl rfl ?_ | refine AWo.pure (PureOp.bin rfl rfl rfl) rfl rfl ?_
              refine AWo.pure (PureOp.move rfl) rfl rfl ?_
              first | refine AWo.pure (PureOp.arr1 tbok rfl rfl rfl rfl (by first | decide | omega)) rfl rfl ?_ | refine AWo.pure (PureOp.arr tbok rfl rfl rfl rfl (by first | decide | omega)) rfl rfl ?_
              first | refine AWo.loadM tbok 0 rfl rfl rfl (by first | decide | omega) rfl rfl ?_ | refine AWo.load tbok rfl rfl rfl rfl rfl rfl ?_
              refine AWo.pure (PureOp.move rfl) rfl rfl ?_
              refine AWo.pure (PureOp.move rfl) rfl rfl ?_
              first | refine AWo.pure (PureOp.arr1 tbok rfl rfl rfl rfl (by first | decide | omega)) rfl rfl ?_ | refine AWo.pure (PureOp.arr tbok rfl rfl rfl rfl (by first | decide | omega)) rfl rfl ?_
              first | refine AWo.loadM tbok 0 rfl rfl rfl (by first | decide | omega) rfl rfl ?_ | refine AWo.load tbok rfl rfl rfl rfl rfl rfl ?_
              refine AWo.pure (PureOp.move rfl) rfl rfl ?_
              refine AWo.callX (line_ctr (by first | assumption | omega) (by first | assumption | omega) (by first | assumption | omega) (by first | assumption | omega)) bd151 [] [] rfl (.cons rfl (.cons rfl (.cons rfl (.cons rfl .nil)))) rfl (.cons rfl rfl (.cons rfl rfl (.cons rfl rfl (.cons rfl rfl .nil)))) .nil rfl .nil frN (by decide) (.cons rfl rfl (.cons rfl rfl .nil)) rfl rfl rfl rfl ?_
              refine AWo.pure (PureOp.move rfl) rfl rfl ?_
              refine AWo.pure (PureOp.extract rfl rfl) rfl rfl ?_
              refine AWo.pure (PureOp.extract rfl rfl) rfl rfl ?_
              first | refine AWo.pure (PureOp.arr1 tbok rfl rfl rfl rfl (by first | decide | omega)) rfl rfl ?_ | refine AWo.pure (PureOp.arr tbok rfl rfl rfl rfl (by first | decide | omega)) rfl rfl ?_
              first | refine AWo.storeM (f := (vi .u64)) tbok rfl rfl rfl rfl (by first | decide | omega) rfl rfl ?_ | refine AWo.store tbok rfl rfl rfl rfl rfl (by first | decide | (simp; omega)) rfl rfl rfl ?_
              refine AWo.pure (PureOp.assign rfl) rfl rfl ?_
              refine AWo.nil (by kernel_rfl) ?_
              refine inBlockA_normal ?_
              refine thenA_normal ?_
              refine AW.region ?_
              refine AWo.pure (PureOp.move rfl) rfl rfl ?_
              first | refine AWo.pure (PureOp.addI (b := 1) rfl rfl (by first | decide | omega)) rfl rfl ?_ | refine AWo.pure (PureOp.bin rfl rfl rfl) rfl rfl ?_
              refine AWo.pure (PureOp.assign rfl) rfl rfl ?_
              refine AWo.nil trivial ?_
              refine thenA_normal ?_
              refine ⟨4 - (j + 1), [], _, by omega, ?_, j + 1, u.set (j - 1) ((u.getD j 0 + k * (digs 18446744073709551616 4 21888242871839275222246405745257275088548364400416034343698204186575808495617).getD j 0 + c) % 18446744073709551616), (u.getD j 0 + k * (digs 18446744073709551616 4 21888242871839275222246405745257275088548364400416034343698204186575808495617).getD j 0 + c) / 18446744073709551616, ⟨⟨by omega, by omega⟩, by simp [hku], bd_set hbu (Nat.mod_lt _ (by decide)), Nat.div_lt_of_lt_mul hlt2, red_step (by omega) (by omega) hred rfl (hum j (Nat.le_refl _)), fun m hm => by rw [getD_set (by omega)]; exact hum m (by omega)⟩, rfl, rfl⟩
              refine Wk.of [3000, 4000, 5000, 6000, 8000] ?_ ?_ ?_ (by decide) rfl
              ·
                refine WkE.upd rfl (by first | exact VR.flat _ rfl | exact VR.eqv (vp_succ _) rfl | exact VR.eqv (vp_succ _).symm rfl | exact VR.eqv (by first | rfl | (congr 1; omega) | (simp; done) | (simp; omega)) rfl) ?_
                refine WkE.upd rfl (by first | exact VR.flat _ rfl | exact VR.eqv (vp_succ _) rfl | exact VR.eqv (vp_succ _).symm rfl | exact VR.eqv (by first | rfl | (congr 1; omega) | (simp; done) | (simp; omega)) rfl) ?_
                refine WkE.upd rfl (by first | exact VR.flat _ rfl | exact VR.eqv (vp_succ _) rfl | exact VR.eqv (vp_succ _).symm rfl | exact VR.eqv (by first | rfl | (congr 1; omega) | (simp; done) | (simp; omega)) rfl) ?_
                refine WkE.upd rfl (by first | exact VR.flat _ rfl | exact VR.eqv (vp_succ _) rfl | exact VR.eqv (vp_succ _).symm rfl | exact VR.eqv (by first | rfl | (congr 1; omega) | (simp; done) | (simp; omega)) rfl) ?_
                refine WkE.upd rfl (by first | exact VR.pure rfl | exact VR.aggM flat_vi | exact VR.aggM flat_bool) ?_
                refine WkE.upd rfl (.ptr (8000) 0 ⟨_, rfl⟩) ?_
                refine WkE.upd rfl (by first | exact VR.flat _ rfl | exact VR.eqv (vp_succ _) rfl | exact VR.eqv (vp_succ _).symm rfl | exact VR.eqv (by first | rfl | (congr 1; omega) | (simp; done) | (simp; omega)) rfl) ?_
                refine WkE.upd rfl (.ptr (6000) 0 ⟨_, rfl⟩) ?_
                refine WkE.upd rfl (.ptr (5000) 0 ⟨_, rfl⟩) ?_
                refine WkE.upd rfl (.ptr (4000) 0 ⟨_, rfl⟩) ?_
                refine WkE.upd rfl (.ptr (3000) 0 ⟨_, rfl⟩) ?_
                exact WkE.emp
              ·
                refine WkM.flatM rfl (by first | rfl | assumption | simp) (fun _ => rfl) (fun h => h) ?_
                refine WkM.flatM rfl (by first | rfl | assumption | simp) (fun _ => rfl) (fun h => h) ?_
                refine WkM.flatM rfl (by first | rfl | assumption | simp) (fun _ => rfl) (fun h => h) ?_
                refine WkM.flatM rfl (by first | rfl | assumption | simp) (fun _ => rfl) (fun h => h) ?_
                refine WkM.flatM rfl (by first | rfl | assumption | simp) (fun _ => rfl) (fun h => h) ?_
                exact WkM.emp
              ·
                repeat (refine dom_upd_mem (by decide) ?_)
                exact dom_emp
            ·
              obtain rfl : j = 4 := by simp at hb2; omega
              rw [hq4, hnp] at hred
              have hfin := red_end (n := 3) hku hred (by
                rw [hum 4 (Nat.le_refl _), Nat.mod_eq_of_lt]
                have := num_lt hb3
                rw [hk3] at this
                omega)
              rw [hS] at hfin
              have hdv : (u.getD 4 0 + c) / 18446744073709551616 < 18446744073709551616 := Nat.div_lt_of_lt_mul (Nat.lt_of_lt_of_le (Nat.add_lt_add hu4 hc) (by decide))
              refine AW.exit ?_
              refine thenA_exit ?_
              refine thenA_exit ?_
              refine inBlockA_hit ?_
              refine thenA_normal ?_
              refine AW.seqR ?_
              first | refine AWo.pure (PureOp.arr1 (j := 4) tbok rfl rfl rfl rfl (by first | decide | omega)) rfl rfl ?_ | refine AWo.pure (PureOp.arr (j := 4) tbok rfl rfl rfl rfl (by first | decide | omega)) rfl rfl ?_
              first | refine AWo.loadM tbok 0 rfl rfl rfl (by first | decide | omega) rfl rfl ?_ | refine AWo.load tbok rfl rfl rfl rfl rfl rfl ?_
              refine AWo.pure (PureOp.move rfl) rfl rfl ?_
              refine AWo.pure (add64 (c := 0) rfl rfl (by decide)) rfl rfl ?_
              refine AWo.pure (PureOp.move rfl) rfl rfl ?_
              refine AWo.pure (PureOp.extract rfl rfl) rfl rfl ?_
              refine AWo.pure (PureOp.extract rfl rfl) rfl rfl ?_
              first | refine AWo.pure (PureOp.arr1 (j := 3) tbok rfl rfl rfl rfl (by first | decide | omega)) rfl rfl ?_ | refine AWo.pure (PureOp.arr (j := 3) tbok rfl rfl rfl rfl (by first | decide | omega)) rfl rfl ?_
              first | refine AWo.storeM (f := (vi .u64)) tbok rfl rfl rfl rfl (by first | decide | omega) rfl rfl ?_ | refine AWo.store tbok rfl rfl rfl rfl rfl (by first | decide | (simp; omega)) rfl rfl rfl ?_
              refine AWo.pure (PureOp.assign rfl) rfl rfl ?_
              refine AWo.nil trivial ?_
              refine AW.region ?_
              refine AWo.pure (PureOp.move rfl) rfl rfl ?_
              first | refine AWo.pure (PureOp.arr1 (j := 4) tbok rfl rfl rfl rfl (by first | decide | omega)) rfl rfl ?_ | refine AWo.pure (PureOp.arr (j := 4) tbok rfl rfl rfl rfl (by first | decide | omega)) rfl rfl ?_
              refine AWo.storeM (f := (vi .u64)) tbok rfl rfl rfl rfl (by simp [hku]) rfl rfl ?_
              refine AWo.nil trivial ?_
              refine inBlockA_normal ?_
              refine thenA_normal ?_
              refine AW.region ?_
              first | refine AWo.pure (PureOp.addI (b := 1) rfl rfl (by first | decide | omega)) rfl rfl ?_ | refine AWo.pure (PureOp.bin rfl rfl rfl) rfl rfl ?_
              refine AWo.pure (PureOp.move rfl) rfl rfl ?_
              refine AWo.nil trivial ?_
              refine thenA_normal ?_
              refine ⟨4 - (i + 1), [], _, by omega, ?_, i + 1, (u.set 3 ((u.getD 4 0 + c) % 18446744073709551616)).set 4 ((u.getD 4 0 + c) / 18446744073709551616), ⟨by omega, by simp [hku], bd_set (bd_set hbu (Nat.mod_lt _ (by decide))) hdv, mont_lt hfin hT hxa hpb hk, by rw [num_take_succ]; exact mont_mod hfin hTm⟩, rfl, rfl⟩
              refine Wk.of [3000, 4000, 5000, 6000, 8000] ?_ ?_ ?_ (by decide) rfl
              ·
                refine WkE.upd rfl (by first | exact VR.flat _ rfl | exact VR.eqv (vp_succ _) rfl | exact VR.eqv (vp_succ _).symm rfl | exact VR.eqv (by first | rfl | (congr 1; omega) | (simp; done) | (simp; omega)) rfl) ?_
                refine WkE.upd rfl (by first | exact VR.pure rfl | exact VR.aggM flat_vi | exact VR.aggM flat_bool) ?_
                refine WkE.upd rfl (.ptr (8000) 0 ⟨_, rfl⟩) ?_
                refine WkE.upd rfl (by first | exact VR.flat _ rfl | exact VR.eqv (vp_succ _) rfl | exact VR.eqv (vp_succ _).symm rfl | exact VR.eqv (by first | rfl | (congr 1; omega) | (simp; done) | (simp; omega)) rfl) ?_
                refine WkE.upd rfl (.ptr (6000) 0 ⟨_, rfl⟩) ?_
                refine WkE.upd rfl (.ptr (5000) 0 ⟨_, rfl⟩) ?_
                refine WkE.upd rfl (.ptr (4000) 0 ⟨_, rfl⟩) ?_
                refine WkE.upd rfl (.ptr (3000) 0 ⟨_, rfl⟩) ?_
                exact WkE.emp
              ·
                refine WkM.flatM rfl (by first | rfl | assumption | simp) (fun _ => rfl) (fun h => h) ?_
                refine WkM.flatM rfl (by first | rfl | assumption | simp) (fun _ => rfl) (fun h => h) ?_
                refine WkM.flatM rfl (by first | rfl | assumption | simp) (fun _ => rfl) (fun h => h) ?_
                refine WkM.flatM rfl (by first | rfl | assumption | simp) (fun _ => rfl) (fun h => h) ?_
                refine WkM.flatM rfl (by first | rfl | assumption | simp) (fun _ => rfl) (fun h => h) ?_
                exact WkM.emp
              ·
                repeat (refine dom_upd_mem (by decide) ?_)
                exact dom_emp
    ·
      obtain rfl : i = 4 := by simp at hb0; omega
      refine AW.exit ?_
      refine thenA_exit ?_
      refine thenA_exit ?_
      refine inBlockA_hit ?_
      refine thenA_normal ?_
      have hT4 : num 18446744073709551616 (l.take 4) = num 18446744073709551616 l := by rw [num_take hbl, Nat.mod_eq_of_lt (by omega)]
      have hres : num 18446744073709551616 (l.take 4) % 21888242871839275222246405745257275088548364400416034343698204186575808495617 = r := by
        rw [hT4]
        refine mont_uniq (R := 18446744073709551616 ^ 4) (by decide) (Nat.mod_lt _ (by decide)) hr ?_
        rw [Nat.mod_mul_mod, hTm, h, ← hla, take_all]
      refine AW.seqR ?_
      refine AWo.sliceA tbok rfl .none (.some rfl) rfl rfl rfl rfl (by first | decide | omega | (simp; done) | (simp; omega)) (by first | decide | omega | (simp; done) | (simp; omega)) (.inl rfl) (by first | decide | omega | (simp; done) | (simp; omega)) rfl rfl rfl ?_
      refine AWo.pure (PureOp.toArrT tbok rfl rfl (by first | decide | omega) (by first | decide | omega)) rfl rfl ?_
      refine AWo.loadAgg tbok (vs := (l.take 4).map (vi .u64)) rfl rfl rfl rfl (by simp [hl2]) (by simp [List.map_take]) rfl rfl ?_
      refine AWo.callX (below_ctr (a := l.take 4) (bd_take hbl 4) (by simp [hl2]) (by rw [hT4]; exact hT)) bd138 [] [] rfl (.cons rfl .nil) rfl (.pure (by first | rfl | exact pure_aggM flat_vi | exact pure_aggM flat_bool) .nil) .nil rfl .nil frN (by decide) (.pure (by first | rfl | exact pure_aggM flat_vi | exact pure_aggM flat_bool) .nil) rfl rfl rfl rfl ?_
      refine AWo.storeAllN tbok rfl rfl rfl rfl (by first | (simp [*]; done) | rfl) (by first | (simp [*]; done) | rfl) (by first | exact oneM (fun _ => rfl) _ | rfl | (simp; done)) rfl ?_
      refine AWo.nil trivial ?_
      refine AW.ret ?_
      rw [hres]
      refine RetQ.gc [_] [] [.cell 4 48] (.inl rfl) rfl (.val (RVal.cellAll tbok rfl rfl rfl rfl (by first | (simp [*]; done) | rfl)) .nil) rfl (.pure (by first | rfl | exact pure_aggM flat_vi | exact pure_aggM flat_bool) .nil) trivial (by decide) rfl
end Go.Proofs.Ytiikffiembcboaa
