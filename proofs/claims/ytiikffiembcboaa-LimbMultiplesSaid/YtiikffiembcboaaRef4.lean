/- The document's powers; what may be a modulus. -/
import Derived.Test.YtiikffiembcboaaRef3
namespace Go.Proofs.Ytiikffiembcboaa
open Go Sim

theorem bitD_ctr {x i : Nat} (hi : i < 100000000000) : GC Try.prog 122 [.slice (some ⟨0, 0, none⟩) (D 4294967296 x).length 0, vi .i64 (i)] [⟨(D 4294967296 x).map (vi .u64), false, 1⟩] [vi .u64 (x / 2 ^ i % 2)] [⟨(D 4294967296 x).map (vi .u64), false, 1⟩] := by
  have h := rbit_ctr (a := D 4294967296 x) (i := i) (bd_D (by decide) _) hi
  simp only [num_D (show 2 ≤ 4294967296 by decide)] at h
  exact h
theorem bitsD_ctr {x : Nat} (hl : (D 4294967296 x).length < 100000000) : GC Try.prog 76 [.slice (some ⟨0, 0, none⟩) (D 4294967296 x).length 0] [⟨(D 4294967296 x).map (vi .u64), false, 1⟩] [vi .i64 (blen x)] [⟨(D 4294967296 x).map (vi .u64), false, 1⟩] := by
  have h := rbits_ctr (a := D 4294967296 x) (bd_D (by decide) _) hl
  simp only [num_D (show 2 ≤ 4294967296 by decide)] at h
  exact h
theorem wordsD_ctr {x n : Nat} (hn : n < 100000000) : GC Try.prog 55 [.slice (some ⟨0, 0, none⟩) (D 4294967296 x).length 0, vi .i64 (n)] [⟨(D 4294967296 x).map (vi .u64), false, 1⟩] [.slice (some ⟨1, 0, none⟩) n 0] [⟨(D 4294967296 x).map (vi .u64), false, 1⟩, ⟨(digs 18446744073709551616 n x).map (vi .u64), true, 1⟩] := by
  have h := words_ctr (a := D 4294967296 x) (n := n) (bd_D (by decide) _) hn
  simp only [num_D (show 2 ≤ 4294967296 by decide), digs_len] at h
  exact h
theorem modOne_ctr {N : Nat} (hN : 0 < N) (hlN : (D 4294967296 N).length < 1000000) : GC Try.prog 67 [.slice (some ⟨0, 0, none⟩) ([1]).length 0, .slice (some ⟨1, 0, none⟩) (D 4294967296 N).length 0] [⟨([1]).map (vi .u64), false, 1⟩, ⟨(D 4294967296 N).map (vi .u64), false, 1⟩] [.slice (some ⟨2, 0, none⟩) (D 4294967296 (1 % N)).length 0] [⟨([1]).map (vi .u64), false, 1⟩, ⟨(D 4294967296 N).map (vi .u64), false, 1⟩, ⟨(D 4294967296 (1 % N)).map (vi .u64), true, 1⟩] := by
  have h := modD_ctr (x := 1) hN (by rw [show D 4294967296 1 = [1] from rfl]; decide) hlN
  rw [show D 4294967296 1 = [1] from rfl] at h
  exact h

theorem mul_room {a b N : Nat} (ha : a < N) (hb : b < N) : (D 4294967296 (a * b)).length ≤ 2 * (D 4294967296 N).length := by
  have h1 : N < 4294967296 ^ (D 4294967296 N).length := (D_len_le (B := 4294967296) (by decide) N _).1 (Nat.le_refl _)
  refine (D_len_le (B := 4294967296) (by decide) _ _).2 ?_
  rw [Nat.two_mul, Nat.pow_add]
  exact Nat.mul_lt_mul'' (Nat.lt_trans ha h1) (Nat.lt_trans hb h1)

theorem low_room {a N : Nat} (ha : a < N) : (D 4294967296 a).length ≤ (D 4294967296 N).length :=
  (D_len_le (B := 4294967296) (by decide) _ _).2 (Nat.lt_trans ha ((D_len_le (B := 4294967296) (by decide) N _).1 (Nat.le_refl _)))

theorem exp_top (y : Nat) : y / 2 ^ (32 * (D 4294967296 y).length) = 0 := by
  have h1 : y < 4294967296 ^ (D 4294967296 y).length := (D_len_le (B := 4294967296) (by decide) y _).1 (Nat.le_refl _)
  rw [Nat.pow_mul, show (2 : Nat) ^ 32 = 4294967296 from by decide, Nat.div_eq_of_lt h1]

theorem exp_odd {x y z r N : Nat} (hz : z = x ^ (y / 2 ^ (r + 1)) % N) (hb : y / 2 ^ r % 2 = 1) : z * z % N * (x % N) % N = x ^ (y / 2 ^ r) % N := by
  rw [pow_odd hb, hz]
  generalize x ^ (y / 2 ^ (r + 1)) = p
  rw [← Nat.mul_mod p p N, ← Nat.mul_mod]

theorem exp_even {x y z r N : Nat} (hz : z = x ^ (y / 2 ^ (r + 1)) % N) (hb : ¬ y / 2 ^ r % 2 = 1) : z * z % N = x ^ (y / 2 ^ r) % N := by
  rw [pow_even hb, hz, ← Nat.mul_mod]

set_option maxRecDepth 10000 in
theorem expD_ctr {x y N : Nat} (hN : 0 < N) (hlx : (D 4294967296 x).length < 1000000) (hly : (D 4294967296 y).length < 1000000) (hlN : (D 4294967296 N).length < 400000) : GC Try.prog 56 [.slice (some ⟨0, 0, none⟩) (D 4294967296 x).length 0, .slice (some ⟨1, 0, none⟩) (D 4294967296 y).length 0, .slice (some ⟨2, 0, none⟩) (D 4294967296 N).length 0] [⟨(D 4294967296 x).map (vi .u64), false, 1⟩, ⟨(D 4294967296 y).map (vi .u64), false, 1⟩, ⟨(D 4294967296 N).map (vi .u64), false, 1⟩] [.slice (some ⟨3, 0, none⟩) (D 4294967296 (x ^ y % N)).length 0] [⟨(D 4294967296 x).map (vi .u64), false, 1⟩, ⟨(D 4294967296 y).map (vi .u64), false, 1⟩, ⟨(D 4294967296 N).map (vi .u64), false, 1⟩, ⟨(D 4294967296 (x ^ y % N)).map (vi .u64), true, 1⟩] := by
  refine GC.intro Try.func56 rfl (by show 3 ≤ 38; decide) (by first | exact Nat.le_refl _ | decide | simp) ?_
  have hL : ∀ a b, a < N → b < N → (D 4294967296 (a * b)).length < 1000000 := fun a b ha hb => by have := mul_room ha hb; omega
  have hl1 : ∀ a, a < N → (D 4294967296 a).length < 1000000 := fun a ha => by have := low_room ha; omega
  refine AW.seqR ?_
  refine AWo.pure (PureOp.assign rfl) rfl rfl ?_
  refine AWo.nil trivial ?_
  refine AW.seqR ?_
  refine AWo.buildSlice tbok 10000 [(0, vi .u64 1)] (out := [vi .u64 1]) rfl rfl (by decide) rfl rfl rfl (by decide) rfl rfl rfl rfl rfl ?_
  refine AWo.pure (PureOp.move rfl) rfl rfl ?_
  refine AWo.callX (modOne_ctr hN (by omega)) bd67 [(10000, 0), (2, 0)] [12000] rfl (.cons rfl (.cons rfl .nil)) rfl (.cons rfl rfl (.cons rfl rfl .nil)) (.flat rfl (by first | exact flatM flat_vi | exact flatM flat_bool | (simp [flatV, flat_vi]; done)) (by intro h; first | exact h | rfl) (.flat rfl (by first | exact flatM flat_vi | exact flatM flat_bool | (simp [flatV, flat_vi]; done)) (by intro h; first | exact h | rfl) .nil)) rfl (.keep rfl (.keep rfl (.new (flat_map_ren (by first | exact flatM flat_vi | exact flatM flat_bool | (simp [flatV, flat_vi]; done))) (OkL.flat (by first | exact flatM flat_vi | exact flatM flat_bool | (simp [flatV, flat_vi]; done))) .nil))) (frC rfl frN) (by decide) (.cons rfl rfl .nil) rfl rfl rfl rfl ?_
  refine AWo.pure (PureOp.assign rfl) rfl rfl ?_
  refine AWo.nil trivial ?_
  refine AW.seqR ?_
  refine AWo.pure (PureOp.move rfl) rfl rfl ?_
  refine AWo.pure (PureOp.move rfl) rfl rfl ?_
  refine AWo.callX (modD_ctr hN hlx (by omega)) bd67 [(0, 0), (2, 0)] [15000] rfl (.cons rfl (.cons rfl .nil)) rfl (.cons rfl rfl (.cons rfl rfl .nil)) (.flat rfl (by first | exact flatM flat_vi | exact flatM flat_bool | (simp [flatV, flat_vi]; done)) (by intro h; first | exact h | rfl) (.flat rfl (by first | exact flatM flat_vi | exact flatM flat_bool | (simp [flatV, flat_vi]; done)) (by intro h; first | exact h | rfl) .nil)) rfl (.keep rfl (.keep rfl (.new (flat_map_ren (by first | exact flatM flat_vi | exact flatM flat_bool | (simp [flatV, flat_vi]; done))) (OkL.flat (by first | exact flatM flat_vi | exact flatM flat_bool | (simp [flatV, flat_vi]; done))) .nil))) (frC rfl frN) (by decide) (.cons rfl rfl .nil) rfl rfl rfl rfl ?_
  refine AWo.pure (PureOp.assign rfl) rfl rfl ?_
  refine AWo.nil trivial ?_
  refine AW.seq ?_
  refine AW.seqR ?_
  refine AWo.pure (PureOp.move rfl) rfl rfl ?_
  refine AWo.pure (PureOp.lenS tbok rfl rfl) rfl rfl ?_
  first | refine AWo.pure (PureOp.mulI (a := 32) rfl rfl (by first | decide | omega)) rfl rfl ?_ | refine AWo.pure (PureOp.bin rfl rfl rfl) rfl rfl ?_
  first | refine AWo.pure ((PureOp.subI (b := 1) rfl rfl (by first | decide | omega) (by first | decide | omega)).mono (v' := vp (32 * (D 4294967296 y).length)) (by first | rfl | (simp only [vp, vi]; congr 1; omega))) rfl rfl ?_ | refine AWo.pure ((PureOp.subP rfl rfl (by first | decide | omega)).mono (v' := vp (32 * (D 4294967296 y).length)) (by first | rfl | (simp only [vp, vi]; congr 1; omega))) rfl rfl ?_ | refine AWo.pure ((PureOp.bin rfl rfl rfl).mono (v' := vp (32 * (D 4294967296 y).length)) (by first | rfl | (simp only [vp, vi]; congr 1; omega))) rfl rfl ?_
  refine AWo.pure (PureOp.assign rfl) rfl rfl ?_
  refine AWo.nil trivial ?_
  refine AW.block ?_
  refine AW.loopw (fun mm σ => ∃ z, ∃ r, (r ≤ 32 * (D 4294967296 y).length ∧ z = x ^ (y / 2 ^ r) % N) ∧ mm = 1 * r ∧ σ = ⟨(upd (upd (upd (upd (upd emp 0 (.slice (some ⟨15000, 0, none⟩) (D 4294967296 (x % N)).length 0)) 1 (.slice (some ⟨1, 0, none⟩) (D 4294967296 y).length 0)) 2 (.slice (some ⟨2, 0, none⟩) (D 4294967296 N).length 0)) 7 (.slice (some ⟨77000, 0, none⟩) (D 4294967296 z).length 0)) 8 (vp r)), (upd (upd (upd (upd (upd emp 0 ⟨(D 4294967296 (x)).map (vi .u64), false, 1⟩) 1 ⟨(D 4294967296 (y)).map (vi .u64), false, 1⟩) 2 ⟨(D 4294967296 (N)).map (vi .u64), false, 1⟩) 15000 ⟨(D 4294967296 (x % N)).map (vi .u64), true, 1⟩) 77000 ⟨(D 4294967296 (z)).map (vi .u64), true, 1⟩)⟩) (fm := [(77000, 12000)]) ?_ ⟨1 % N, 32 * (D 4294967296 y).length, ⟨Nat.le_refl _, by rw [exp_top]; rfl⟩, rfl, rfl⟩ ?_
  ·
    refine Wk.of [0, 1, 2, 15000, 77000] ?_ ?_ ?_ (by decide) rfl
    ·
      refine WkE.upd rfl (by first | exact VR.flat _ rfl | exact VR.eqv (vp_succ _) rfl | exact VR.eqv (vp_succ _).symm rfl | exact VR.eqv (by first | rfl | (congr 1; omega) | (simp; done) | (simp; omega)) rfl) ?_
      refine WkE.upd rfl (.slice (77000) 0 _ 0 ⟨_, rfl⟩ (by simp) (by simp)) ?_
      refine WkE.upd rfl (.slice (2) 0 _ 0 ⟨_, rfl⟩ (by simp) (by simp)) ?_
      refine WkE.upd rfl (.slice (1) 0 _ 0 ⟨_, rfl⟩ (by simp) (by simp)) ?_
      refine WkE.upd rfl (.slice (15000) 0 _ 0 ⟨_, rfl⟩ (by simp) (by simp)) ?_
      exact WkE.emp
    ·
      refine WkM.flatM rfl (by first | rfl | assumption | simp) (fun _ => rfl) (fun h => h) ?_
      refine WkM.flatM rfl (by first | rfl | assumption | simp) (fun _ => rfl) (fun h => h) ?_
      refine WkM.flatM rfl (by first | rfl | assumption | simp) (fun _ => rfl) (fun h => h) ?_
      refine WkM.flatM rfl (by first | rfl | assumption | simp) (fun _ => rfl) (fun h => h) ?_
      refine WkM.flatM rfl (by first | rfl | assumption | simp) (fun _ => rfl) (fun h => h) ?_
      exact WkM.emp
    ·
      repeat (refine dom_upd_mem (by decide) ?_)
      exact dom_emp
  ·
    rintro mm σ ⟨z, r, ⟨hr0, hz⟩, rfl, rfl⟩
    refine AW.seq ?_
    refine AW.seqR ?_
    refine AWo.pure (PureOp.move rfl) rfl rfl ?_
    first | refine AWo.pure (PureOp.geP rfl rfl) rfl rfl ?_ | refine AWo.pure (PureOp.geN (b := 0) rfl rfl) rfl rfl ?_ | refine AWo.pure (PureOp.bin rfl rfl rfl) rfl rfl ?_
    refine AWo.nil trivial ?_
    refine AW.cond rfl (fun hb0 => ?_) (fun hb0 => ?_)
    ·
      have hp0 : 0 < r := by simpa using hb0
      obtain ⟨r, rfl⟩ : ∃ q, r = q + 1 := ⟨r - 1, by omega⟩
      rw [vp_succ]
      have hzN : z < N := by rw [hz]; exact Nat.mod_lt _ hN
      refine AW.skip ?_
      refine thenA_normal ?_
      refine AW.seq ?_
      refine AW.block ?_
      refine AW.seqR ?_
      refine AWo.pure (PureOp.move rfl) rfl rfl ?_
      refine AWo.pure (PureOp.move rfl) rfl rfl ?_
      refine AWo.callX (mulD_ctr (x := z) (y := z) (Nat.lt_trans (hl1 _ hzN) (by decide)) (Nat.lt_trans (hl1 _ hzN) (by decide))) bd72 [(77000, 0), (77000, 0)] [26000] rfl (.cons rfl (.cons rfl .nil)) rfl (.cons rfl rfl (.cons rfl rfl .nil)) (.flat rfl (by first | exact flatM flat_vi | exact flatM flat_bool | (simp [flatV, flat_vi]; done)) (by intro h; first | exact h | rfl) (.flat rfl (by first | exact flatM flat_vi | exact flatM flat_bool | (simp [flatV, flat_vi]; done)) (by intro h; first | exact h | rfl) .nil)) rfl (.keep rfl (.keep rfl (.new (flat_map_ren (by first | exact flatM flat_vi | exact flatM flat_bool | (simp [flatV, flat_vi]; done))) (OkL.flat (by first | exact flatM flat_vi | exact flatM flat_bool | (simp [flatV, flat_vi]; done))) .nil))) (frC rfl frN) (by decide) (.cons rfl rfl .nil) rfl rfl rfl rfl ?_
      refine AWo.pure (PureOp.move rfl) rfl rfl ?_
      refine AWo.callX (modD_ctr (x := z * z) hN (hL _ _ hzN hzN) (by omega)) bd67 [(26000, 0), (2, 0)] [28000] rfl (.cons rfl (.cons rfl .nil)) rfl (.cons rfl rfl (.cons rfl rfl .nil)) (.flat rfl (by first | exact flatM flat_vi | exact flatM flat_bool | (simp [flatV, flat_vi]; done)) (by intro h; first | exact h | rfl) (.flat rfl (by first | exact flatM flat_vi | exact flatM flat_bool | (simp [flatV, flat_vi]; done)) (by intro h; first | exact h | rfl) .nil)) rfl (.keep rfl (.keep rfl (.new (flat_map_ren (by first | exact flatM flat_vi | exact flatM flat_bool | (simp [flatV, flat_vi]; done))) (OkL.flat (by first | exact flatM flat_vi | exact flatM flat_bool | (simp [flatV, flat_vi]; done))) .nil))) (frC rfl frN) (by decide) (.cons rfl rfl .nil) rfl rfl rfl rfl ?_
      refine AWo.pure (PureOp.assign rfl) rfl rfl ?_
      refine AWo.nil trivial ?_
      refine AW.seqR ?_
      refine AWo.pure (PureOp.move rfl) rfl rfl ?_
      refine AWo.pure (PureOp.move rfl) rfl rfl ?_
      refine AWo.callX (bitD_ctr (x := y) (i := r) (by omega)) bd122 [(1, 0)] [] rfl (.cons rfl (.cons rfl .nil)) rfl (.cons rfl rfl (.cons rfl rfl .nil)) (.flat rfl (by first | exact flatM flat_vi | exact flatM flat_bool | (simp [flatV, flat_vi]; done)) (by intro h; first | exact h | rfl) .nil) rfl (.keep rfl .nil) frN (by decide) (.cons rfl rfl .nil) rfl rfl rfl rfl ?_
      first | refine AWo.pure (PureOp.eqN (b := 1) rfl rfl) rfl rfl ?_ | refine AWo.pure (PureOp.bin rfl rfl rfl) rfl rfl ?_
      refine AWo.nil trivial ?_
      refine AW.cond rfl (fun hb1 => ?_) (fun hb1 => ?_)
      ·
        have hb : y / 2 ^ r % 2 = 1 := by simpa using hb1
        refine AW.region ?_
        refine AWo.pure (PureOp.move rfl) rfl rfl ?_
        refine AWo.pure (PureOp.move rfl) rfl rfl ?_
        refine AWo.callX (mulD_ctr (x := z * z % N) (y := x % N) (Nat.lt_trans (hl1 _ (Nat.mod_lt _ hN)) (by decide)) (Nat.lt_trans (hl1 _ (Nat.mod_lt _ hN)) (by decide))) bd72 [(28000, 0), (15000, 0)] [35000] rfl (.cons rfl (.cons rfl .nil)) rfl (.cons rfl rfl (.cons rfl rfl .nil)) (.flat rfl (by first | exact flatM flat_vi | exact flatM flat_bool | (simp [flatV, flat_vi]; done)) (by intro h; first | exact h | rfl) (.flat rfl (by first | exact flatM flat_vi | exact flatM flat_bool | (simp [flatV, flat_vi]; done)) (by intro h; first | exact h | rfl) .nil)) rfl (.keep rfl (.keep rfl (.new (flat_map_ren (by first | exact flatM flat_vi | exact flatM flat_bool | (simp [flatV, flat_vi]; done))) (OkL.flat (by first | exact flatM flat_vi | exact flatM flat_bool | (simp [flatV, flat_vi]; done))) .nil))) (frC rfl frN) (by decide) (.cons rfl rfl .nil) rfl rfl rfl rfl ?_
        refine AWo.pure (PureOp.move rfl) rfl rfl ?_
        refine AWo.callX (modD_ctr (x := z * z % N * (x % N)) hN (hL _ _ (Nat.mod_lt _ hN) (Nat.mod_lt _ hN)) (by omega)) bd67 [(35000, 0), (2, 0)] [37000] rfl (.cons rfl (.cons rfl .nil)) rfl (.cons rfl rfl (.cons rfl rfl .nil)) (.flat rfl (by first | exact flatM flat_vi | exact flatM flat_bool | (simp [flatV, flat_vi]; done)) (by intro h; first | exact h | rfl) (.flat rfl (by first | exact flatM flat_vi | exact flatM flat_bool | (simp [flatV, flat_vi]; done)) (by intro h; first | exact h | rfl) .nil)) rfl (.keep rfl (.keep rfl (.new (flat_map_ren (by first | exact flatM flat_vi | exact flatM flat_bool | (simp [flatV, flat_vi]; done))) (OkL.flat (by first | exact flatM flat_vi | exact flatM flat_bool | (simp [flatV, flat_vi]; done))) .nil))) (frC rfl frN) (by decide) (.cons rfl rfl .nil) rfl rfl rfl rfl ?_
        refine AWo.pure (PureOp.assign rfl) rfl rfl ?_
        refine AWo.nil trivial ?_
        refine inBlockA_normal ?_
        refine thenA_normal ?_
        refine AW.region ?_
        refine AWo.pure (PureOp.move rfl) rfl rfl ?_
        first | refine AWo.pure (PureOp.subI (b := 1) rfl rfl (by first | decide | omega) (by first | decide | omega)) rfl rfl ?_ | refine AWo.pure (PureOp.subP rfl rfl (by first | decide | omega)) rfl rfl ?_ | refine AWo.pure (PureOp.bin rfl rfl rfl) rfl rfl ?_
        refine AWo.pure (PureOp.assign rfl) rfl rfl ?_
        refine AWo.nil trivial ?_
        refine thenA_normal ?_
        refine ⟨1 * r, [(77000, 37000)], _, by omega, ?_, z * z % N * (x % N) % N, r, ⟨by omega, exp_odd hz hb⟩, rfl, rfl⟩
        refine Wk.of [0, 1, 2, 15000, 77000] ?_ ?_ ?_ (by decide) rfl
        ·
          refine WkE.upd rfl (by first | exact VR.flat _ rfl | exact VR.eqv (vp_succ _) rfl | exact VR.eqv (vp_succ _).symm rfl | exact VR.eqv (by first | rfl | (congr 1; omega) | (simp; done) | (simp; omega)) rfl) ?_
          refine WkE.upd rfl (.slice (77000) 0 _ 0 ⟨_, rfl⟩ (by simp) (by simp)) ?_
          refine WkE.upd rfl (.slice (2) 0 _ 0 ⟨_, rfl⟩ (by simp) (by simp)) ?_
          refine WkE.upd rfl (.slice (1) 0 _ 0 ⟨_, rfl⟩ (by simp) (by simp)) ?_
          refine WkE.upd rfl (.slice (15000) 0 _ 0 ⟨_, rfl⟩ (by simp) (by simp)) ?_
          exact WkE.emp
        ·
          refine WkM.flatM rfl (by first | rfl | assumption | simp) (fun _ => rfl) (fun h => h) ?_
          refine WkM.flatM rfl (by first | rfl | assumption | simp) (fun _ => rfl) (fun h => h) ?_
          refine WkM.flatM rfl (by first | rfl | assumption | simp) (fun _ => rfl) (fun h => h) ?_
          refine WkM.flatM rfl (by first | rfl | assumption | simp) (fun _ => rfl) (fun h => h) ?_
          refine WkM.flatM rfl (by first | rfl | assumption | simp) (fun _ => rfl) (fun h => h) ?_
          exact WkM.emp
        ·
          repeat (refine dom_upd_mem (by decide) ?_)
          exact dom_emp
      ·
        have hb : ¬ y / 2 ^ r % 2 = 1 := by simpa using hb1
        refine AW.skip ?_
        refine inBlockA_normal ?_
        refine thenA_normal ?_
        refine AW.region ?_
        refine AWo.pure (PureOp.move rfl) rfl rfl ?_
        first | refine AWo.pure (PureOp.subI (b := 1) rfl rfl (by first | decide | omega) (by first | decide | omega)) rfl rfl ?_ | refine AWo.pure (PureOp.subP rfl rfl (by first | decide | omega)) rfl rfl ?_ | refine AWo.pure (PureOp.bin rfl rfl rfl) rfl rfl ?_
        refine AWo.pure (PureOp.assign rfl) rfl rfl ?_
        refine AWo.nil trivial ?_
        refine thenA_normal ?_
        refine ⟨1 * r, [(77000, 28000)], _, by omega, ?_, z * z % N, r, ⟨by omega, exp_even hz hb⟩, rfl, rfl⟩
        refine Wk.of [0, 1, 2, 15000, 77000] ?_ ?_ ?_ (by decide) rfl
        ·
          refine WkE.upd rfl (by first | exact VR.flat _ rfl | exact VR.eqv (vp_succ _) rfl | exact VR.eqv (vp_succ _).symm rfl | exact VR.eqv (by first | rfl | (congr 1; omega) | (simp; done) | (simp; omega)) rfl) ?_
          refine WkE.upd rfl (.slice (77000) 0 _ 0 ⟨_, rfl⟩ (by simp) (by simp)) ?_
          refine WkE.upd rfl (.slice (2) 0 _ 0 ⟨_, rfl⟩ (by simp) (by simp)) ?_
          refine WkE.upd rfl (.slice (1) 0 _ 0 ⟨_, rfl⟩ (by simp) (by simp)) ?_
          refine WkE.upd rfl (.slice (15000) 0 _ 0 ⟨_, rfl⟩ (by simp) (by simp)) ?_
          exact WkE.emp
        ·
          refine WkM.flatM rfl (by first | rfl | assumption | simp) (fun _ => rfl) (fun h => h) ?_
          refine WkM.flatM rfl (by first | rfl | assumption | simp) (fun _ => rfl) (fun h => h) ?_
          refine WkM.flatM rfl (by first | rfl | assumption | simp) (fun _ => rfl) (fun h => h) ?_
          refine WkM.flatM rfl (by first | rfl | assumption | simp) (fun _ => rfl) (fun h => h) ?_
          refine WkM.flatM rfl (by first | rfl | assumption | simp) (fun _ => rfl) (fun h => h) ?_
          exact WkM.emp
        ·
          repeat (refine dom_upd_mem (by decide) ?_)
          exact dom_emp
    ·
      obtain rfl : r = 0 := by simpa using hb0
      rw [Nat.pow_zero, Nat.div_one] at hz
      subst hz
      refine AW.exit ?_
      refine thenA_exit ?_
      refine thenA_exit ?_
      refine inBlockA_hit ?_
      refine thenA_normal ?_
      refine AW.seqR ?_
      refine AWo.pure (PureOp.move rfl) rfl rfl ?_
      refine AWo.pure (PureOp.assign rfl) rfl rfl ?_
      refine AWo.nil trivial ?_
      refine AW.ret ?_
      refine RetQ.gc [_] [77000] [.tmp 6] (.inl rfl) rfl (.tmp rfl .nil) rfl (.cons rfl rfl .nil) (OutL.flat rfl (by first | exact flatM flat_vi | exact flatM flat_bool | (simp [flatV, flat_vi]; done)) (by intro h; first | rfl | exact h.elim id fun h => absurd h.1 (by simp)) (OutL.flat rfl (by first | exact flatM flat_vi | exact flatM flat_bool | (simp [flatV, flat_vi]; done)) (by intro h; first | rfl | exact h.elim id fun h => absurd h.1 (by simp)) (OutL.flat rfl (by first | exact flatM flat_vi | exact flatM flat_bool | (simp [flatV, flat_vi]; done)) (by intro h; first | rfl | exact h.elim id fun h => absurd h.1 (by simp)) (OutL.flat rfl (by first | exact flatM flat_vi | exact flatM flat_bool | (simp [flatV, flat_vi]; done)) (by intro h; first | rfl | exact h.elim id fun h => absurd h.1 (by simp)) trivial)))) (by decide) rfl

set_option maxRecDepth 10000 in
theorem right_ctr {a : List Nat} (ha : bd 18446744073709551616 a) : GC Try.prog 51 [.slice (some ⟨0, 0, none⟩) a.length 0] [⟨a.map (vi .u64), false, 1⟩] [.bool (rightB a)] [⟨a.map (vi .u64), false, 1⟩] := by
  refine GC.intro Try.func51 rfl (by show 1 ≤ 38; decide) (by first | exact Nat.le_refl _ | decide | simp) ?_
  have hx0 := bd_getD ha (by decide) 0
  refine AW.seqR ?_
  refine AWo.pure (PureOp.assign rfl) rfl rfl ?_
  refine AWo.nil trivial ?_
  refine AW.seqR ?_
  refine AWo.pure (PureOp.move rfl) rfl rfl ?_
  refine AWo.pure (PureOp.lenS tbok rfl rfl) rfl rfl ?_
  first | refine AWo.pureB (PureOp.geP rfl rfl) rfl rfl (fun hb0 => ?_) (fun hb0 => ?_) | refine AWo.pureB (PureOp.geN (b := 1) rfl rfl) rfl rfl (fun hb0 => ?_) (fun hb0 => ?_) | refine AWo.pureB (PureOp.bin rfl rfl rfl) rfl rfl (fun hb0 => ?_) (fun hb0 => ?_)
  ·
    have q1 : 1 ≤ a.length := by simpa using hb0
    refine AWo.pure (PureOp.move rfl) rfl rfl ?_
    refine AWo.pure (PureOp.move rfl) rfl rfl ?_
    refine AWo.pure (PureOp.lenS tbok rfl rfl) rfl rfl ?_
    first | refine AWo.pureB (PureOp.leN (b := 16) rfl rfl) rfl rfl (fun hb1 => ?_) (fun hb1 => ?_) | refine AWo.pureB (PureOp.bin rfl rfl rfl) rfl rfl (fun hb1 => ?_) (fun hb1 => ?_)
    ·
      have q2 : a.length ≤ 16 := by simpa using hb1
      refine AWo.pure (PureOp.pickT rfl rfl) rfl rfl ?_
      refine AWo.pure (PureOp.move rfl) rfl rfl ?_
      refine AWo.pure (PureOp.move rfl) rfl rfl ?_
      first | refine AWo.pure (PureOp.idx1 (j := 0) tbok rfl rfl rfl rfl (by first | decide | omega)) rfl rfl ?_ | refine AWo.pure (PureOp.idx (j := 0) tbok rfl rfl rfl rfl (by first | decide | omega)) rfl rfl ?_
      refine AWo.loadM tbok 0 rfl rfl rfl (by omega) rfl rfl ?_
      first | refine AWo.pure (PureOp.remN (b := 2) rfl rfl (by first | decide | omega)) rfl rfl ?_ | refine AWo.pure (PureOp.rem rfl rfl (by first | decide | omega)) rfl rfl ?_
      first | refine AWo.pureB (PureOp.eqN (b := 1) rfl rfl) rfl rfl (fun hb2 => ?_) (fun hb2 => ?_) | refine AWo.pureB (PureOp.bin rfl rfl rfl) rfl rfl (fun hb2 => ?_) (fun hb2 => ?_)
      ·
        have q3 : a.getD 0 0 % 2 = 1 := by simpa using hb2
        refine AWo.pure (PureOp.pickT rfl rfl) rfl rfl ?_
        refine AWo.pure (PureOp.move rfl) rfl rfl ?_
        refine AWo.pure (PureOp.move rfl) rfl rfl ?_
        refine AWo.pure (PureOp.move rfl) rfl rfl ?_
        refine AWo.pure (PureOp.lenS tbok rfl rfl) rfl rfl ?_
        first | refine AWo.pure (PureOp.subI (b := 1) rfl rfl (by first | decide | omega) (by first | decide | omega)) rfl rfl ?_ | refine AWo.pure (PureOp.subP rfl rfl (by first | decide | omega)) rfl rfl ?_ | refine AWo.pure (PureOp.bin rfl rfl rfl) rfl rfl ?_
        first | refine AWo.pure (PureOp.idx1 tbok rfl rfl rfl rfl (by first | decide | omega)) rfl rfl ?_ | refine AWo.pure (PureOp.idx tbok rfl rfl rfl rfl (by first | decide | omega)) rfl rfl ?_
        refine AWo.loadM tbok 0 rfl rfl rfl (by omega) rfl rfl ?_
        first | refine AWo.pureB (PureOp.neN (b := 0) rfl rfl) rfl rfl (fun hb3 => ?_) (fun hb3 => ?_) | refine AWo.pureB (PureOp.bin rfl rfl rfl) rfl rfl (fun hb3 => ?_) (fun hb3 => ?_)
        ·
          have q4 : a.getD (a.length - 1) 0 ≠ 0 := by simpa using hb3
          refine AWo.pure (PureOp.pickT rfl rfl) rfl rfl ?_
          refine AWo.pure (PureOp.move rfl) rfl rfl ?_
          refine AWo.pure (PureOp.move rfl) rfl rfl ?_
          refine AWo.pure (PureOp.lenS tbok rfl rfl) rfl rfl ?_
          first | refine AWo.pureB (PureOp.gtN (b := 1) rfl rfl) rfl rfl (fun hb4 => ?_) (fun hb4 => ?_) | refine AWo.pureB (PureOp.bin rfl rfl rfl) rfl rfl (fun hb4 => ?_) (fun hb4 => ?_)
          ·
            have q5 : 1 < a.length := by simpa using hb4
            refine AWo.pure (PureOp.move rfl) rfl rfl ?_
            refine AWo.skipped rfl rfl ?_
            refine AWo.skipped rfl rfl ?_
            refine AWo.skipped rfl rfl ?_
            refine AWo.skipped rfl rfl ?_
            refine AWo.pure (PureOp.pickT rfl rfl) rfl rfl ?_
            refine AWo.pure (PureOp.pickT rfl rfl) rfl rfl ?_
            refine AWo.pure (PureOp.assign rfl) rfl rfl ?_
            refine AWo.nil trivial ?_
            refine AW.ret ?_
            refine RetQ.gc [_] [] [.tmp 2] (.inl rfl) rfl (.tmp rfl .nil) rfl (.cons rfl (congrArg Value.bool (by first | (rw [rightB, decide_eq_true (by omega : 1 ≤ a.length)]; simp_all; done) | (simp [rightB, *]; done) | (simp [rightB, *]; intro _; exact ⟨by simpa using q3, by simpa using q4⟩))) .nil) (OutL.flat rfl (flatM flat_vi) (by intro h; exact h.elim id fun h => absurd h.1 (by simp)) trivial) (by decide) rfl
          ·
            have q5 : ¬ 1 < a.length := by simpa using hb4
            refine AWo.pure (PureOp.move rfl) rfl rfl ?_
            refine AWo.pure (PureOp.move rfl) rfl rfl ?_
            first | refine AWo.pure (PureOp.idx1 (j := 0) tbok rfl rfl rfl rfl (by first | decide | omega)) rfl rfl ?_ | refine AWo.pure (PureOp.idx (j := 0) tbok rfl rfl rfl rfl (by first | decide | omega)) rfl rfl ?_
            refine AWo.loadM tbok 0 rfl rfl rfl (by omega) rfl rfl ?_
            first | refine AWo.pure (PureOp.neN (b := 1) rfl rfl) rfl rfl ?_ | refine AWo.pure (PureOp.bin rfl rfl rfl) rfl rfl ?_
            refine AWo.pure (PureOp.pickF rfl rfl) rfl rfl ?_
            refine AWo.pure (PureOp.pickT rfl rfl) rfl rfl ?_
            refine AWo.pure (PureOp.assign rfl) rfl rfl ?_
            refine AWo.nil trivial ?_
            refine AW.ret ?_
            refine RetQ.gc [_] [] [.tmp 2] (.inl rfl) rfl (.tmp rfl .nil) rfl (.cons rfl (congrArg Value.bool (by first | (rw [rightB, decide_eq_true (by omega : 1 ≤ a.length)]; simp_all; done) | (simp [rightB, *]; done) | (simp [rightB, *]; intro _; exact ⟨by simpa using q3, by simpa using q4⟩))) .nil) (OutL.flat rfl (flatM flat_vi) (by intro h; exact h.elim id fun h => absurd h.1 (by simp)) trivial) (by decide) rfl
        ·
          have q4 : a.getD (a.length - 1) 0 = 0 := by simpa using hb3
          refine AWo.pure (PureOp.pickT rfl rfl) rfl rfl ?_
          refine AWo.pure (PureOp.move rfl) rfl rfl ?_
          refine AWo.skipped rfl rfl ?_
          refine AWo.skipped rfl rfl ?_
          refine AWo.skipped rfl rfl ?_
          refine AWo.skipped rfl rfl ?_
          refine AWo.skipped rfl rfl ?_
          refine AWo.skipped rfl rfl ?_
          refine AWo.skipped rfl rfl ?_
          refine AWo.skipped rfl rfl ?_
          refine AWo.skipped rfl rfl ?_
          refine AWo.pure (PureOp.pickF rfl rfl) rfl rfl ?_
          refine AWo.pure (PureOp.assign rfl) rfl rfl ?_
          refine AWo.nil trivial ?_
          refine AW.ret ?_
          refine RetQ.gc [_] [] [.tmp 2] (.inl rfl) rfl (.tmp rfl .nil) rfl (.cons rfl (congrArg Value.bool (by first | (rw [rightB, decide_eq_true (by omega : 1 ≤ a.length)]; simp_all; done) | (simp [rightB, *]; done) | (simp [rightB, *]; intro _; exact ⟨by simpa using q3, by simpa using q4⟩))) .nil) (OutL.flat rfl (flatM flat_vi) (by intro h; exact h.elim id fun h => absurd h.1 (by simp)) trivial) (by decide) rfl
      ·
        have q3 : ¬ a.getD 0 0 % 2 = 1 := by simpa using hb2
        refine AWo.pure (PureOp.pickT rfl rfl) rfl rfl ?_
        refine AWo.pure (PureOp.move rfl) rfl rfl ?_
        refine AWo.skipped rfl rfl ?_
        refine AWo.skipped rfl rfl ?_
        refine AWo.skipped rfl rfl ?_
        refine AWo.skipped rfl rfl ?_
        refine AWo.skipped rfl rfl ?_
        refine AWo.skipped rfl rfl ?_
        refine AWo.skipped rfl rfl ?_
        refine AWo.pure (PureOp.pickF rfl rfl) rfl rfl ?_
        refine AWo.pure (PureOp.move rfl) rfl rfl ?_
        refine AWo.skipped rfl rfl ?_
        refine AWo.skipped rfl rfl ?_
        refine AWo.skipped rfl rfl ?_
        refine AWo.skipped rfl rfl ?_
        refine AWo.skipped rfl rfl ?_
        refine AWo.skipped rfl rfl ?_
        refine AWo.skipped rfl rfl ?_
        refine AWo.skipped rfl rfl ?_
        refine AWo.skipped rfl rfl ?_
        refine AWo.pure (PureOp.pickF rfl rfl) rfl rfl ?_
        refine AWo.pure (PureOp.assign rfl) rfl rfl ?_
        refine AWo.nil trivial ?_
        refine AW.ret ?_
        refine RetQ.gc [_] [] [.tmp 2] (.inl rfl) rfl (.tmp rfl .nil) rfl (.cons rfl (congrArg Value.bool (by first | (rw [rightB, decide_eq_true (by omega : 1 ≤ a.length)]; simp_all; done) | (simp [rightB, *]; done) | (simp [rightB, *]; intro _; exact ⟨by simpa using q3, by simpa using q4⟩))) .nil) (OutL.flat rfl (flatM flat_vi) (by intro h; exact h.elim id fun h => absurd h.1 (by simp)) trivial) (by decide) rfl
    ·
      have q2 : ¬ a.length ≤ 16 := by simpa using hb1
      refine AWo.pure (PureOp.pickT rfl rfl) rfl rfl ?_
      refine AWo.pure (PureOp.move rfl) rfl rfl ?_
      refine AWo.skipped rfl rfl ?_
      refine AWo.skipped rfl rfl ?_
      refine AWo.skipped rfl rfl ?_
      refine AWo.skipped rfl rfl ?_
      refine AWo.skipped rfl rfl ?_
      refine AWo.pure (PureOp.pickF rfl rfl) rfl rfl ?_
      refine AWo.pure (PureOp.move rfl) rfl rfl ?_
      refine AWo.skipped rfl rfl ?_
      refine AWo.skipped rfl rfl ?_
      refine AWo.skipped rfl rfl ?_
      refine AWo.skipped rfl rfl ?_
      refine AWo.skipped rfl rfl ?_
      refine AWo.skipped rfl rfl ?_
      refine AWo.skipped rfl rfl ?_
      refine AWo.pure (PureOp.pickF rfl rfl) rfl rfl ?_
      refine AWo.pure (PureOp.move rfl) rfl rfl ?_
      refine AWo.skipped rfl rfl ?_
      refine AWo.skipped rfl rfl ?_
      refine AWo.skipped rfl rfl ?_
      refine AWo.skipped rfl rfl ?_
      refine AWo.skipped rfl rfl ?_
      refine AWo.skipped rfl rfl ?_
      refine AWo.skipped rfl rfl ?_
      refine AWo.skipped rfl rfl ?_
      refine AWo.skipped rfl rfl ?_
      refine AWo.pure (PureOp.pickF rfl rfl) rfl rfl ?_
      refine AWo.pure (PureOp.assign rfl) rfl rfl ?_
      refine AWo.nil trivial ?_
      refine AW.ret ?_
      refine RetQ.gc [_] [] [.tmp 2] (.inl rfl) rfl (.tmp rfl .nil) rfl (.cons rfl (congrArg Value.bool (by first | (rw [rightB, decide_eq_true (by omega : 1 ≤ a.length)]; simp_all; done) | (simp [rightB, *]; done) | (simp [rightB, *]; intro _; exact ⟨by simpa using q3, by simpa using q4⟩))) .nil) (OutL.flat rfl (flatM flat_vi) (by intro h; exact h.elim id fun h => absurd h.1 (by simp)) trivial) (by decide) rfl
  ·
    have q1 : ¬ 1 ≤ a.length := by simpa using hb0
    refine AWo.pure (PureOp.move rfl) rfl rfl ?_
    refine AWo.skipped rfl rfl ?_
    refine AWo.skipped rfl rfl ?_
    refine AWo.skipped rfl rfl ?_
    refine AWo.pure (PureOp.pickF rfl rfl) rfl rfl ?_
    refine AWo.pure (PureOp.move rfl) rfl rfl ?_
    refine AWo.skipped rfl rfl ?_
    refine AWo.skipped rfl rfl ?_
    refine AWo.skipped rfl rfl ?_
    refine AWo.skipped rfl rfl ?_
    refine AWo.skipped rfl rfl ?_
    refine AWo.pure (PureOp.pickF rfl rfl) rfl rfl ?_
    refine AWo.pure (PureOp.move rfl) rfl rfl ?_
    refine AWo.skipped rfl rfl ?_
    refine AWo.skipped rfl rfl ?_
    refine AWo.skipped rfl rfl ?_
    refine AWo.skipped rfl rfl ?_
    refine AWo.skipped rfl rfl ?_
    refine AWo.skipped rfl rfl ?_
    refine AWo.skipped rfl rfl ?_
    refine AWo.pure (PureOp.pickF rfl rfl) rfl rfl ?_
    refine AWo.pure (PureOp.move rfl) rfl rfl ?_
    refine AWo.skipped rfl rfl ?_
    refine AWo.skipped rfl rfl ?_
    refine AWo.skipped rfl rfl ?_
    refine AWo.skipped rfl rfl ?_
    refine AWo.skipped rfl rfl ?_
    refine AWo.skipped rfl rfl ?_
    refine AWo.skipped rfl rfl ?_
    refine AWo.skipped rfl rfl ?_
    refine AWo.skipped rfl rfl ?_
    refine AWo.pure (PureOp.pickF rfl rfl) rfl rfl ?_
    refine AWo.pure (PureOp.assign rfl) rfl rfl ?_
    refine AWo.nil trivial ?_
    refine AW.ret ?_
    refine RetQ.gc [_] [] [.tmp 2] (.inl rfl) rfl (.tmp rfl .nil) rfl (.cons rfl (congrArg Value.bool (by first | (rw [rightB, decide_eq_true (by omega : 1 ≤ a.length)]; simp_all; done) | (simp [rightB, *]; done) | (simp [rightB, *]; intro _; exact ⟨by simpa using q3, by simpa using q4⟩))) .nil) (OutL.flat rfl (flatM flat_vi) (by intro h; exact h.elim id fun h => absurd h.1 (by simp)) trivial) (by decide) rfl
end Go.Proofs.Ytiikffiembcboaa
