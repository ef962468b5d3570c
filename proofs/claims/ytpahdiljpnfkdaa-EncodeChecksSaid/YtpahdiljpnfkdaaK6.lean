/- What the proof stands on, part 6: the walk of each function, and plain laws of numbers. -/
import Derived.Test.YtpahdiljpnfkdaaK5
import Derived.Test.YtpahdiljpnfkdaaRows
import Derived.ProofKit
namespace Go.Proofs.Ytpahdiljpnfkdaa
open Go Sim
theorem coll_ctr {b : List Nat} {c : Nat} (hc : 1 ≤ c) (hc2 : c < 1000000) (hx : b.length < 1000000000) : GC Try.prog 141 [.func (.func 155) #[] #[.pointer (some ⟨0, 0, none⟩), .pointer (some ⟨1, 0, none⟩)]] [⟨[db b], false, 1⟩, ⟨[vi .i64 c], false, 1⟩] [.slice (some ⟨2, 0, none⟩) (chL c b (chunkN c b.length)).length 0] [⟨[db b], false, 1⟩, ⟨[vi .i64 c], false, 1⟩, ⟨(chL c b (chunkN c b.length)).map db, true, 1⟩] := by
  refine GC.intro Try.func141 rfl (by show 1 ≤ 5; decide) (by first | exact Nat.le_refl _ | decide | simp) ?_
  refine AW.seqR ?_
  refine AWo.pure (PureOp.assign rfl) rfl rfl ?_
  refine AWo.nil trivial ?_
  refine AW.seqR ?_
  refine AWo.pure (PureOp.move rfl) rfl rfl ?_
  refine AWo.callX (appseq_ctr hc hc2 hx) bd154 [(0, 0), (1, 0)] [5000] rfl (.cons rfl (.cons rfl .nil)) rfl (.cons rfl rfl (.cons rfl rfl .nil)) (.clo rfl (cloM (f := db) (l := [b]) fun _ => rfl) (by intro h; first | exact h | rfl) (.flat rfl (flat1 rfl) (by intro h; first | exact h | rfl) .nil)) rfl (.keep rfl (.keep rfl (.new (clo_map_ren (cloM fun _ => rfl)) (OkL.clo (cloM fun _ => rfl)) .nil))) (frC rfl frN) (by decide) (.cons rfl rfl .nil) rfl rfl rfl rfl ?_
  refine AWo.pure (PureOp.assign rfl) rfl rfl ?_
  refine AWo.nil trivial ?_
  refine AW.ret ?_
  exact rq [5000] [.tmp 2] (hb := OutL.clo (c := [b].map db) rfl (cloM fun _ => rfl) (by intro h; exact h.elim id fun h => absurd h.1 (by simp)) (OutL.flat rfl (flat1 rfl) (by intro h; exact h.elim id fun h => absurd h.1 (by simp)) (OutL.clo rfl (cloM fun _ => rfl) (fun _ => rfl) trivial)))
theorem pcs_ch {t : Int} {b : List Nat} (h2 : t ≠ 2) (h3 : t ≠ 3) (h4 : t ≠ 4) : pcs t b = chL 31 b (chunkN 31 b.length) := by
  unfold pcs chL chunkN np
  rw [if_neg h2, if_neg h3, if_neg h4]
  refine List.map_congr_left fun i _ => ?_
  rw [pc, off, wd, if_neg h2, if_neg h3, if_neg h4, if_neg h2, if_neg h3, if_neg h4]
theorem wd_2 (k : Nat) : [8].getD (k % 1) 0 = wd 2 k := by rw [Nat.mod_one]; rfl
theorem wd_3 (k : Nat) : [32].getD (k % 1) 0 = wd 3 k := by rw [Nat.mod_one]; rfl
theorem wd_4 (k : Nat) : [31, 31, 31, 3].getD (k % 4) 0 = wd 4 k := by
  rw [show wd 4 k = if k % 4 = 3 then 3 else 31 from rfl]
  have h5 : k % 4 = 0 ∨ k % 4 = 1 ∨ k % 4 = 2 ∨ k % 4 = 3 := by omega
  rcases h5 with h5 | h5 | h5 | h5 <;> rw [h5] <;> rfl
theorem np_le {t : Int} {L : Nat} : np t L ≤ L := by unfold np; split <;> (try split) <;> (try split) <;> omega
theorem cut1_ctr {b : List Nat} (hL : b.length < 200000000) : GC Try.prog 118 [.int .i64 1, db b] [] [.slice (some ⟨0, 0, none⟩) (np 1 b.length) 0] [⟨(pcs 1 b).map db, true, 1⟩] := by
  refine GC.intro Try.func118 rfl (by show 2 ≤ 40; decide) (by first | exact Nat.le_refl _ | decide | simp) ?_
  have hp := pcs_ch (t := 1) (b := b) (by decide) (by decide) (by decide)
  have hn : np 1 b.length = (chL 31 b (chunkN 31 b.length)).length := by rw [← hp, pcs_len]
  rw [hn, hp]
  refine AW.seqR ?_
  refine AWo.pure (PureOp.assign rfl) rfl rfl ?_
  refine AWo.nil trivial ?_
  refine AW.seqR ?_
  refine AWo.pure (PureOp.move rfl) rfl rfl ?_
  refine AWo.callX (values1_ctr) bd113 [] [] rfl (.cons rfl .nil) rfl (.cons rfl rfl .nil) .nil rfl .nil frN (by decide) (.cons rfl rfl .nil) rfl rfl rfl rfl ?_
  first | refine AWo.pure (PureOp.fldV1 tbok rfl rfl rfl rfl) rfl rfl ?_
  refine AWo.pure (PureOp.assign rfl) rfl rfl ?_
  refine AWo.nil trivial ?_
  refine AW.seq ?_
  refine AW.seqR ?_
  refine AWo.pure (PureOp.move rfl) rfl rfl ?_
  refine yP (PureOp.nilEqNilS Try.underlying129 rfl) ?_
  refine AWo.nil trivial ?_
  refine AW.condT rfl ?_
  refine AW.seqR ?_
  refine AWo.pure (PureOp.move rfl) rfl rfl ?_
  refine AWo.callX (chunkwD_ctr (b := b) (c := 31) (by decide)) bd142 [] [15000, 15001] rfl (.cons rfl (.cons rfl .nil)) rfl (.cons rfl rfl (.cons rfl rfl .nil)) .nil rfl (.new (clo_map_ren (l := [b].map db) (cloM fun _ => rfl)) (OkL.clo (l := [b].map db) (cloM fun _ => rfl)) (.new (flat_map_ren (flat1 rfl)) (OkL.flat (flat1 rfl)) .nil)) (frC rfl (frC rfl frN)) (by decide) (.cons rfl rfl .nil) rfl rfl rfl rfl ?_
  refine AWo.callX (coll_ctr (b := b) (c := 31) (by decide) (by decide) (by omega)) bd141 [(15000, 0), (15001, 0)] [16000] rfl (.cons rfl .nil) rfl (.cons rfl rfl .nil) (.clo rfl (cloM (f := db) (l := [b]) fun _ => rfl) (by intro h; first | exact h | rfl) (.flat rfl (flat1 rfl) (by intro h; first | exact h | rfl) .nil)) rfl (.keep rfl (.keep rfl (.new (clo_map_ren (cloM fun _ => rfl)) (OkL.clo (cloM fun _ => rfl)) .nil))) (frC rfl frN) (by decide) (.cons rfl rfl .nil) rfl rfl rfl rfl ?_
  refine AWo.pure (PureOp.assign rfl) rfl rfl ?_
  refine AWo.nil trivial ?_
  refine AW.ret ?_
  refine thenA_ret ?_
  refine RetQ.gc [_] [16000] [.tmp 4] (.inl rfl) rfl (.tmp rfl .nil) rfl (.cons rfl rfl .nil) (OutL.clo rfl (cloM fun _ => rfl) (by intro h; first | rfl | exact h.elim id fun h => absurd h.1 (by simp)) trivial) (by decide) rfl
theorem cut0_ctr {t : Int} {b : List Nat} (h1 : t ≠ 1) (h2 : t ≠ 2) (h3 : t ≠ 3) (h4 : t ≠ 4) (hL : b.length < 200000000) : GC Try.prog 118 [.int .i64 t, db b] [] [.slice (some ⟨0, 0, none⟩) (np t b.length) 0] [⟨(pcs t b).map db, true, 1⟩] := by
  refine GC.intro Try.func118 rfl (by show 2 ≤ 40; decide) (by first | exact Nat.le_refl _ | decide | simp) ?_
  have hp := pcs_ch (t := t) (b := b) h2 h3 h4
  have hn : np t b.length = (chL 31 b (chunkN 31 b.length)).length := by rw [← hp, pcs_len]
  rw [hn, hp]
  refine AW.seqR ?_
  refine AWo.pure (PureOp.assign rfl) rfl rfl ?_
  refine AWo.nil trivial ?_
  refine AW.seqR ?_
  refine AWo.pure (PureOp.move rfl) rfl rfl ?_
  refine AWo.callX (values0_ctr h1 h2 h3 h4) bd113 [] [] rfl (.cons rfl .nil) rfl (.cons rfl rfl .nil) .nil rfl .nil frN (by decide) (.cons rfl rfl .nil) rfl rfl rfl rfl ?_
  first | refine AWo.pure (PureOp.fldV1 tbok rfl rfl rfl rfl) rfl rfl ?_
  refine AWo.pure (PureOp.assign rfl) rfl rfl ?_
  refine AWo.nil trivial ?_
  refine AW.seq ?_
  refine AW.seqR ?_
  refine AWo.pure (PureOp.move rfl) rfl rfl ?_
  refine yP (PureOp.nilEqNilS Try.underlying129 rfl) ?_
  refine AWo.nil trivial ?_
  refine AW.condT rfl ?_
  refine AW.seqR ?_
  refine AWo.pure (PureOp.move rfl) rfl rfl ?_
  refine AWo.callX (chunkwD_ctr (b := b) (c := 31) (by decide)) bd142 [] [15000, 15001] rfl (.cons rfl (.cons rfl .nil)) rfl (.cons rfl rfl (.cons rfl rfl .nil)) .nil rfl (.new (clo_map_ren (l := [b].map db) (cloM fun _ => rfl)) (OkL.clo (l := [b].map db) (cloM fun _ => rfl)) (.new (flat_map_ren (flat1 rfl)) (OkL.flat (flat1 rfl)) .nil)) (frC rfl (frC rfl frN)) (by decide) (.cons rfl rfl .nil) rfl rfl rfl rfl ?_
  refine AWo.callX (coll_ctr (b := b) (c := 31) (by decide) (by decide) (by omega)) bd141 [(15000, 0), (15001, 0)] [16000] rfl (.cons rfl .nil) rfl (.cons rfl rfl .nil) (.clo rfl (cloM (f := db) (l := [b]) fun _ => rfl) (by intro h; first | exact h | rfl) (.flat rfl (flat1 rfl) (by intro h; first | exact h | rfl) .nil)) rfl (.keep rfl (.keep rfl (.new (clo_map_ren (cloM fun _ => rfl)) (OkL.clo (cloM fun _ => rfl)) .nil))) (frC rfl frN) (by decide) (.cons rfl rfl .nil) rfl rfl rfl rfl ?_
  refine AWo.pure (PureOp.assign rfl) rfl rfl ?_
  refine AWo.nil trivial ?_
  refine AW.ret ?_
  refine thenA_ret ?_
  refine RetQ.gc [_] [16000] [.tmp 4] (.inl rfl) rfl (.tmp rfl .nil) rfl (.cons rfl rfl .nil) (OutL.clo rfl (cloM fun _ => rfl) (by intro h; first | rfl | exact h.elim id fun h => absurd h.1 (by simp)) trivial) (by decide) rfl
theorem cut2_ctr {b : List Nat} (hf : fits 2 b.length) (hL : b.length < 200000000) : GC Try.prog 118 [.int .i64 2, db b] [] [.slice (some ⟨0, 0, none⟩) (np 2 b.length) 0] [⟨(pcs 2 b).map db, true, 1⟩] := by
  have hnp : np 2 b.length ≤ b.length := np_le
  refine GC.intro Try.func118 rfl (by show 2 ≤ 40; decide) (by first | exact Nat.le_refl _ | decide | simp) ?_
  refine AW.seqR ?_
  refine AWo.pure (PureOp.assign rfl) rfl rfl ?_
  refine AWo.nil trivial ?_
  refine AW.seqR ?_
  refine AWo.pure (PureOp.move rfl) rfl rfl ?_
  refine AWo.callX (values2_ctr) bd113 [] [10000] rfl (.cons rfl .nil) rfl (.cons rfl rfl .nil) .nil rfl (.new (flat_map_ren (by first | exact flatM flat_vi | exact flatM flat_bool | (simp [flatV, flat_vi]; done))) (OkL.flat (by first | exact flatM flat_vi | exact flatM flat_bool | (simp [flatV, flat_vi]; done))) .nil) (frC rfl frN) (by decide) (.cons rfl rfl .nil) rfl rfl rfl rfl ?_
  first | refine AWo.pure (PureOp.fldV1 tbok rfl rfl rfl rfl) rfl rfl ?_
  refine AWo.pure (PureOp.assign rfl) rfl rfl ?_
  refine AWo.nil trivial ?_
  refine AW.seq ?_
  refine AW.seqR ?_
  refine AWo.pure (PureOp.move rfl) rfl rfl ?_
  refine yP (PureOp.slEqNil Try.underlying129 rfl (by decide)) ?_
  refine AWo.nil trivial ?_
  refine AW.condF rfl ?_
  refine AW.skip ?_
  refine thenA_normal ?_
  refine AW.seqR ?_
  refine AWo.pure (PureOp.assign rfl) rfl rfl ?_
  refine AWo.nil trivial ?_
  refine AW.seq ?_
  refine AW.seqR ?_
  refine AWo.pure (PureOp.assign rfl) rfl rfl ?_
  refine AWo.nil trivial ?_
  refine AW.block ?_
  refine AW.ghost 77000 1 rfl ?_
  refine AW.loopw (fun mm σ => ∃ k, (k ≤ np 2 b.length) ∧ mm = np 2 b.length - k ∧ σ = ⟨(upd (upd (upd (upd emp 1 (db (b.drop (off 2 k)))) 5 (.slice (some ⟨10000, 0, none⟩) 1 0)) 6 (.slice (some ⟨77000, 0, none⟩) k 0)) 7 (vi .i64 (k % 1))), (upd (upd emp 10000 ⟨[8].map (vi .i64), true, 1⟩) 77000 ⟨((List.range k).map (pc 2 b)).map db, true, 1⟩)⟩) (fm := []) ?_ ⟨0, Nat.zero_le _, rfl, rfl⟩ ?_
  ·
    refine Wk.of [10000, 77000] ?_ ?_ ?_ (by decide) rfl
    ·
      refine WkE.upd rfl (by first | exact VR.flat _ rfl | exact VR.eqv (vp_succ _) rfl | exact VR.eqv (vp_succ _).symm rfl | exact VR.eqv (by first | rfl | (congr 1; omega) | (simp; done) | (simp; omega)) rfl) ?_
      refine WkE.upd rfl (by first | exact .nilS _ (by simp) | exact .slice (77000) 0 _ 0 ⟨_, rfl⟩ (by simp) (by simp)) ?_
      refine WkE.upd rfl (.slice (10000) 0 _ 0 ⟨_, rfl⟩ (by simp) (by simp)) ?_
      refine WkE.upd rfl (clo_refl (by simp) rfl) ?_
      exact WkE.emp
    ·
      refine WkM.cloM rfl rfl (fun _ => rfl) (fun h => h) ?_
      refine WkM.flat rfl (flatM flat_vi) (fun h => h) ?_
      exact WkM.emp
    ·
      repeat (refine dom_upd_mem (by decide) ?_)
      exact dom_emp
  ·
    rintro mm σ ⟨k, hk, rfl, rfl⟩
    refine AW.seq ?_
    refine AW.seqR ?_
    refine AWo.pure (PureOp.move rfl) rfl rfl ?_
    first | refine AWo.pure (PureOp.lenS tbok rfl rfl) rfl rfl ?_ | refine AWo.pure (PureOp.lenD tbok rfl rfl) rfl rfl ?_
    first | refine AWo.pure (PureOp.gtN (b := 0) rfl rfl) rfl rfl ?_ | refine AWo.pure (PureOp.bin rfl rfl rfl) rfl rfl ?_
    refine AWo.nil trivial ?_
    refine AW.cond rfl (fun hb0 => ?_) (fun hb0 => ?_)
    ·
      have h0 : 0 < (b.drop (off 2 k)).length := by simpa using hb0
      have hlt : off 2 k < b.length := by rw [List.length_drop] at h0; omega
      have hkn : k < np 2 b.length := (np_lt hf).2 hlt
      have hfit : wd 2 k ≤ (b.drop (off 2 k)).length := by have := off_fit hf (by decide) hlt; rw [List.length_drop]; omega
      refine AW.skip ?_
      refine thenA_normal ?_
      refine AW.seq ?_
      refine AW.block ?_
      refine AW.seqR ?_
      refine AWo.pure (PureOp.move rfl) rfl rfl ?_
      refine AWo.pure (PureOp.move rfl) rfl rfl ?_
      refine AWo.pure (PureOp.move rfl) rfl rfl ?_
      refine AWo.pure (PureOp.move rfl) rfl rfl ?_
      refine yP (PureOp.idx1 tbok (j := k % 1) rfl rfl rfl rfl (by omega)) ?_
      refine AWo.loadM tbok 0 rfl rfl rfl (by show k % 1 < 1; omega) rfl rfl ?_
      rw [wd_2 k]
      refine yP ((PureOp.sliceD (l := 0) (h := wd 2 k) rfl .none (.some rfl) (tbok.sl _ _ rfl) (tbok.sz _ _ rfl) (Nat.zero_le _) hfit).mono (v' := db (pc 2 b k)) (by rw [db_part hfit (Nat.zero_le _), List.drop_zero, Nat.sub_zero]; rfl)) ?_
      refine AWo.buildSlice tbok 32000 [(0, db (pc 2 b k))] (out := [pc 2 b k].map db) rfl rfl (by decide) rfl rfl rfl (by decide) rfl rfl rfl rfl rfl ?_
      refine AWo.append tbok (all := ((List.range (k + 1)).map (pc 2 b)).map db) (news := [pc 2 b k].map db) 33000 rfl rfl rfl rfl (by simp) (by show List.take _ (List.drop 0 _) = _; rw [List.drop_zero]; exact List.take_of_length_le (by simp)) (by first | decide | (simp; done) | (simp; omega)) (by decide) rfl rfl rfl (by first | decide | exact Nat.one_ne_zero) rfl rfl rfl (by first | decide | omega) (by first | decide | omega) (by rfl) (by rw [List.range_succ, List.map_append, List.map_append]; rfl) rfl rfl ?_
      refine AWo.pure (PureOp.assign rfl) rfl rfl ?_
      refine AWo.nil trivial ?_
      refine AW.region ?_
      refine AWo.pure (PureOp.move rfl) rfl rfl ?_
      refine AWo.pure (PureOp.move rfl) rfl rfl ?_
      refine AWo.pure (PureOp.move rfl) rfl rfl ?_
      refine yP (PureOp.idx1 tbok (j := k % 1) rfl rfl rfl rfl (by omega)) ?_
      refine AWo.loadM tbok 0 rfl rfl rfl (by show k % 1 < 1; omega) rfl rfl ?_
      rw [wd_2 k]
      refine yP ((PureOp.sliceD (l := wd 2 k) (h := (b.drop (off 2 k)).length) rfl (.some rfl) .none (tbok.sl _ _ rfl) (tbok.sz _ _ rfl) hfit (Nat.le_refl _)).mono (v' := db (b.drop (off 2 (k + 1)))) (by rw [db_part (Nat.le_refl _) hfit, List.drop_drop, List.take_of_length_le (by rw [List.length_drop, List.length_drop]; omega), off_succ])) ?_
      refine AWo.pure (PureOp.assign rfl) rfl rfl ?_
      refine AWo.nil trivial ?_
      refine inBlockA_normal ?_
      refine thenA_normal ?_
      refine AW.region ?_
      refine AWo.pure (PureOp.move rfl) rfl rfl ?_
      first | refine AWo.pure (PureOp.addI (b := 1) rfl rfl (by first | decide | omega)) rfl rfl ?_ | refine AWo.pure (PureOp.bin rfl rfl rfl) rfl rfl ?_
      refine AWo.pure (PureOp.move rfl) rfl rfl ?_
      first | refine AWo.pure (PureOp.lenS tbok rfl rfl) rfl rfl ?_ | refine AWo.pure (PureOp.lenD tbok rfl rfl) rfl rfl ?_
      first | refine AWo.pure ((PureOp.remN rfl rfl (by first | decide | omega)).mono (v' := vi .i64 ((k + 1) % 1)) (congrArg (vi .i64) (by omega))) rfl rfl ?_ | refine AWo.pure ((PureOp.rem rfl rfl (by first | decide | omega)).mono (v' := vi .i64 ((k + 1) % 1)) (congrArg (vi .i64) (by omega))) rfl rfl ?_
      refine AWo.pure (PureOp.assign rfl) rfl rfl ?_
      refine AWo.nil trivial ?_
      refine thenA_normal ?_
      refine ⟨np 2 b.length - (k + 1), [(77000, 33000)], _, by omega, ?_, k + 1, by omega, rfl, rfl⟩
      refine Wk.of [10000, 77000] ?_ ?_ ?_ (by decide) rfl
      ·
        refine WkE.upd rfl (by first | exact VR.flat _ rfl | exact VR.eqv (vp_succ _) rfl | exact VR.eqv (vp_succ _).symm rfl | exact VR.eqv (by first | rfl | (congr 1; omega) | (simp; done) | (simp; omega)) rfl) ?_
        refine WkE.upd rfl (by first | exact .nilS _ (by simp) | exact .slice (77000) 0 _ 0 ⟨_, rfl⟩ (by simp) (by simp)) ?_
        refine WkE.upd rfl (.slice (10000) 0 _ 0 ⟨_, rfl⟩ (by simp) (by simp)) ?_
        refine WkE.upd rfl (clo_refl (by simp) rfl) ?_
        exact WkE.emp
      ·
        refine WkM.cloM rfl rfl (fun _ => rfl) (fun h => h) ?_
        refine WkM.flat rfl (flatM flat_vi) (fun h => h) ?_
        exact WkM.emp
      ·
        repeat (refine dom_upd_mem (by decide) ?_)
        exact dom_emp
    ·
      have h0 : ¬ 0 < (b.drop (off 2 k)).length := by simpa using hb0
      obtain rfl : k = np 2 b.length := by
        refine Nat.le_antisymm hk (Nat.le_of_not_lt fun h => h0 ?_)
        have := (np_lt hf).1 h
        rw [List.length_drop]; omega
      refine AW.exit ?_
      refine thenA_exit ?_
      refine thenA_exit ?_
      refine inBlockA_hit ?_
      refine thenA_normal ?_
      refine AW.seqR ?_
      refine AWo.pure (PureOp.move rfl) rfl rfl ?_
      refine AWo.pure (PureOp.assign rfl) rfl rfl ?_
      refine AWo.nil trivial ?_
      refine AW.ret ?_
      refine RetQ.gc [_] [77000] [.tmp 4] (.inl rfl) rfl (.tmp rfl .nil) rfl (.cons rfl rfl .nil) (OutL.clo rfl (cloM fun _ => rfl) (by intro h; first | rfl | exact h.elim id fun h => absurd h.1 (by simp)) trivial) (by decide) rfl
theorem cut3_ctr {b : List Nat} (hf : fits 3 b.length) (hL : b.length < 200000000) : GC Try.prog 118 [.int .i64 3, db b] [] [.slice (some ⟨0, 0, none⟩) (np 3 b.length) 0] [⟨(pcs 3 b).map db, true, 1⟩] := by
  have hnp : np 3 b.length ≤ b.length := np_le
  refine GC.intro Try.func118 rfl (by show 2 ≤ 40; decide) (by first | exact Nat.le_refl _ | decide | simp) ?_
  refine AW.seqR ?_
  refine AWo.pure (PureOp.assign rfl) rfl rfl ?_
  refine AWo.nil trivial ?_
  refine AW.seqR ?_
  refine AWo.pure (PureOp.move rfl) rfl rfl ?_
  refine AWo.callX (values3_ctr) bd113 [] [10000] rfl (.cons rfl .nil) rfl (.cons rfl rfl .nil) .nil rfl (.new (flat_map_ren (by first | exact flatM flat_vi | exact flatM flat_bool | (simp [flatV, flat_vi]; done))) (OkL.flat (by first | exact flatM flat_vi | exact flatM flat_bool | (simp [flatV, flat_vi]; done))) .nil) (frC rfl frN) (by decide) (.cons rfl rfl .nil) rfl rfl rfl rfl ?_
  first | refine AWo.pure (PureOp.fldV1 tbok rfl rfl rfl rfl) rfl rfl ?_
  refine AWo.pure (PureOp.assign rfl) rfl rfl ?_
  refine AWo.nil trivial ?_
  refine AW.seq ?_
  refine AW.seqR ?_
  refine AWo.pure (PureOp.move rfl) rfl rfl ?_
  refine yP (PureOp.slEqNil Try.underlying129 rfl (by decide)) ?_
  refine AWo.nil trivial ?_
  refine AW.condF rfl ?_
  refine AW.skip ?_
  refine thenA_normal ?_
  refine AW.seqR ?_
  refine AWo.pure (PureOp.assign rfl) rfl rfl ?_
  refine AWo.nil trivial ?_
  refine AW.seq ?_
  refine AW.seqR ?_
  refine AWo.pure (PureOp.assign rfl) rfl rfl ?_
  refine AWo.nil trivial ?_
  refine AW.block ?_
  refine AW.ghost 77000 1 rfl ?_
  refine AW.loopw (fun mm σ => ∃ k, (k ≤ np 3 b.length) ∧ mm = np 3 b.length - k ∧ σ = ⟨(upd (upd (upd (upd emp 1 (db (b.drop (off 3 k)))) 5 (.slice (some ⟨10000, 0, none⟩) 1 0)) 6 (.slice (some ⟨77000, 0, none⟩) k 0)) 7 (vi .i64 (k % 1))), (upd (upd emp 10000 ⟨[32].map (vi .i64), true, 1⟩) 77000 ⟨((List.range k).map (pc 3 b)).map db, true, 1⟩)⟩) (fm := []) ?_ ⟨0, Nat.zero_le _, rfl, rfl⟩ ?_
  ·
    refine Wk.of [10000, 77000] ?_ ?_ ?_ (by decide) rfl
    ·
      refine WkE.upd rfl (by first | exact VR.flat _ rfl | exact VR.eqv (vp_succ _) rfl | exact VR.eqv (vp_succ _).symm rfl | exact VR.eqv (by first | rfl | (congr 1; omega) | (simp; done) | (simp; omega)) rfl) ?_
      refine WkE.upd rfl (by first | exact .nilS _ (by simp) | exact .slice (77000) 0 _ 0 ⟨_, rfl⟩ (by simp) (by simp)) ?_
      refine WkE.upd rfl (.slice (10000) 0 _ 0 ⟨_, rfl⟩ (by simp) (by simp)) ?_
      refine WkE.upd rfl (clo_refl (by simp) rfl) ?_
      exact WkE.emp
    ·
      refine WkM.cloM rfl rfl (fun _ => rfl) (fun h => h) ?_
      refine WkM.flat rfl (flatM flat_vi) (fun h => h) ?_
      exact WkM.emp
    ·
      repeat (refine dom_upd_mem (by decide) ?_)
      exact dom_emp
  ·
    rintro mm σ ⟨k, hk, rfl, rfl⟩
    refine AW.seq ?_
    refine AW.seqR ?_
    refine AWo.pure (PureOp.move rfl) rfl rfl ?_
    first | refine AWo.pure (PureOp.lenS tbok rfl rfl) rfl rfl ?_ | refine AWo.pure (PureOp.lenD tbok rfl rfl) rfl rfl ?_
    first | refine AWo.pure (PureOp.gtN (b := 0) rfl rfl) rfl rfl ?_ | refine AWo.pure (PureOp.bin rfl rfl rfl) rfl rfl ?_
    refine AWo.nil trivial ?_
    refine AW.cond rfl (fun hb0 => ?_) (fun hb0 => ?_)
    ·
      have h0 : 0 < (b.drop (off 3 k)).length := by simpa using hb0
      have hlt : off 3 k < b.length := by rw [List.length_drop] at h0; omega
      have hkn : k < np 3 b.length := (np_lt hf).2 hlt
      have hfit : wd 3 k ≤ (b.drop (off 3 k)).length := by have := off_fit hf (by decide) hlt; rw [List.length_drop]; omega
      refine AW.skip ?_
      refine thenA_normal ?_
      refine AW.seq ?_
      refine AW.block ?_
      refine AW.seqR ?_
      refine AWo.pure (PureOp.move rfl) rfl rfl ?_
      refine AWo.pure (PureOp.move rfl) rfl rfl ?_
      refine AWo.pure (PureOp.move rfl) rfl rfl ?_
      refine AWo.pure (PureOp.move rfl) rfl rfl ?_
      refine yP (PureOp.idx1 tbok (j := k % 1) rfl rfl rfl rfl (by omega)) ?_
      refine AWo.loadM tbok 0 rfl rfl rfl (by show k % 1 < 1; omega) rfl rfl ?_
      rw [wd_3 k]
      refine yP ((PureOp.sliceD (l := 0) (h := wd 3 k) rfl .none (.some rfl) (tbok.sl _ _ rfl) (tbok.sz _ _ rfl) (Nat.zero_le _) hfit).mono (v' := db (pc 3 b k)) (by rw [db_part hfit (Nat.zero_le _), List.drop_zero, Nat.sub_zero]; rfl)) ?_
      refine AWo.buildSlice tbok 32000 [(0, db (pc 3 b k))] (out := [pc 3 b k].map db) rfl rfl (by decide) rfl rfl rfl (by decide) rfl rfl rfl rfl rfl ?_
      refine AWo.append tbok (all := ((List.range (k + 1)).map (pc 3 b)).map db) (news := [pc 3 b k].map db) 33000 rfl rfl rfl rfl (by simp) (by show List.take _ (List.drop 0 _) = _; rw [List.drop_zero]; exact List.take_of_length_le (by simp)) (by first | decide | (simp; done) | (simp; omega)) (by decide) rfl rfl rfl (by first | decide | exact Nat.one_ne_zero) rfl rfl rfl (by first | decide | omega) (by first | decide | omega) (by rfl) (by rw [List.range_succ, List.map_append, List.map_append]; rfl) rfl rfl ?_
      refine AWo.pure (PureOp.assign rfl) rfl rfl ?_
      refine AWo.nil trivial ?_
      refine AW.region ?_
      refine AWo.pure (PureOp.move rfl) rfl rfl ?_
      refine AWo.pure (PureOp.move rfl) rfl rfl ?_
      refine AWo.pure (PureOp.move rfl) rfl rfl ?_
      refine yP (PureOp.idx1 tbok (j := k % 1) rfl rfl rfl rfl (by omega)) ?_
      refine AWo.loadM tbok 0 rfl rfl rfl (by show k % 1 < 1; omega) rfl rfl ?_
      rw [wd_3 k]
      refine yP ((PureOp.sliceD (l := wd 3 k) (h := (b.drop (off 3 k)).length) rfl (.some rfl) .none (tbok.sl _ _ rfl) (tbok.sz _ _ rfl) hfit (Nat.le_refl _)).mono (v' := db (b.drop (off 3 (k + 1)))) (by rw [db_part (Nat.le_refl _) hfit, List.drop_drop, List.take_of_length_le (by rw [List.length_drop, List.length_drop]; omega), off_succ])) ?_
      refine AWo.pure (PureOp.assign rfl) rfl rfl ?_
      refine AWo.nil trivial ?_
      refine inBlockA_normal ?_
      refine thenA_normal ?_
      refine AW.region ?_
      refine AWo.pure (PureOp.move rfl) rfl rfl ?_
      first | refine AWo.pure (PureOp.addI (b := 1) rfl rfl (by first | decide | omega)) rfl rfl ?_ | refine AWo.pure (PureOp.bin rfl rfl rfl) rfl rfl ?_
      refine AWo.pure (PureOp.move rfl) rfl rfl ?_
      first | refine AWo.pure (PureOp.lenS tbok rfl rfl) rfl rfl ?_ | refine AWo.pure (PureOp.lenD tbok rfl rfl) rfl rfl ?_
      first | refine AWo.pure ((PureOp.remN rfl rfl (by first | decide | omega)).mono (v' := vi .i64 ((k + 1) % 1)) (congrArg (vi .i64) (by omega))) rfl rfl ?_ | refine AWo.pure ((PureOp.rem rfl rfl (by first | decide | omega)).mono (v' := vi .i64 ((k + 1) % 1)) (congrArg (vi .i64) (by omega))) rfl rfl ?_
      refine AWo.pure (PureOp.assign rfl) rfl rfl ?_
      refine AWo.nil trivial ?_
      refine thenA_normal ?_
      refine ⟨np 3 b.length - (k + 1), [(77000, 33000)], _, by omega, ?_, k + 1, by omega, rfl, rfl⟩
      refine Wk.of [10000, 77000] ?_ ?_ ?_ (by decide) rfl
      ·
        refine WkE.upd rfl (by first | exact VR.flat _ rfl | exact VR.eqv (vp_succ _) rfl | exact VR.eqv (vp_succ _).symm rfl | exact VR.eqv (by first | rfl | (congr 1; omega) | (simp; done) | (simp; omega)) rfl) ?_
        refine WkE.upd rfl (by first | exact .nilS _ (by simp) | exact .slice (77000) 0 _ 0 ⟨_, rfl⟩ (by simp) (by simp)) ?_
        refine WkE.upd rfl (.slice (10000) 0 _ 0 ⟨_, rfl⟩ (by simp) (by simp)) ?_
        refine WkE.upd rfl (clo_refl (by simp) rfl) ?_
        exact WkE.emp
      ·
        refine WkM.cloM rfl rfl (fun _ => rfl) (fun h => h) ?_
        refine WkM.flat rfl (flatM flat_vi) (fun h => h) ?_
        exact WkM.emp
      ·
        repeat (refine dom_upd_mem (by decide) ?_)
        exact dom_emp
    ·
      have h0 : ¬ 0 < (b.drop (off 3 k)).length := by simpa using hb0
      obtain rfl : k = np 3 b.length := by
        refine Nat.le_antisymm hk (Nat.le_of_not_lt fun h => h0 ?_)
        have := (np_lt hf).1 h
        rw [List.length_drop]; omega
      refine AW.exit ?_
      refine thenA_exit ?_
      refine thenA_exit ?_
      refine inBlockA_hit ?_
      refine thenA_normal ?_
      refine AW.seqR ?_
      refine AWo.pure (PureOp.move rfl) rfl rfl ?_
      refine AWo.pure (PureOp.assign rfl) rfl rfl ?_
      refine AWo.nil trivial ?_
      refine AW.ret ?_
      refine RetQ.gc [_] [77000] [.tmp 4] (.inl rfl) rfl (.tmp rfl .nil) rfl (.cons rfl rfl .nil) (OutL.clo rfl (cloM fun _ => rfl) (by intro h; first | rfl | exact h.elim id fun h => absurd h.1 (by simp)) trivial) (by decide) rfl
theorem cut4_ctr {b : List Nat} (hf : fits 4 b.length) (hL : b.length < 200000000) : GC Try.prog 118 [.int .i64 4, db b] [] [.slice (some ⟨0, 0, none⟩) (np 4 b.length) 0] [⟨(pcs 4 b).map db, true, 1⟩] := by
  have hnp : np 4 b.length ≤ b.length := np_le
  refine GC.intro Try.func118 rfl (by show 2 ≤ 40; decide) (by first | exact Nat.le_refl _ | decide | simp) ?_
  refine AW.seqR ?_
  refine AWo.pure (PureOp.assign rfl) rfl rfl ?_
  refine AWo.nil trivial ?_
  refine AW.seqR ?_
  refine AWo.pure (PureOp.move rfl) rfl rfl ?_
  refine AWo.callX (values4_ctr) bd113 [] [10000] rfl (.cons rfl .nil) rfl (.cons rfl rfl .nil) .nil rfl (.new (flat_map_ren (by first | exact flatM flat_vi | exact flatM flat_bool | (simp [flatV, flat_vi]; done))) (OkL.flat (by first | exact flatM flat_vi | exact flatM flat_bool | (simp [flatV, flat_vi]; done))) .nil) (frC rfl frN) (by decide) (.cons rfl rfl .nil) rfl rfl rfl rfl ?_
  first | refine AWo.pure (PureOp.fldV1 tbok rfl rfl rfl rfl) rfl rfl ?_
  refine AWo.pure (PureOp.assign rfl) rfl rfl ?_
  refine AWo.nil trivial ?_
  refine AW.seq ?_
  refine AW.seqR ?_
  refine AWo.pure (PureOp.move rfl) rfl rfl ?_
  refine yP (PureOp.slEqNil Try.underlying129 rfl (by decide)) ?_
  refine AWo.nil trivial ?_
  refine AW.condF rfl ?_
  refine AW.skip ?_
  refine thenA_normal ?_
  refine AW.seqR ?_
  refine AWo.pure (PureOp.assign rfl) rfl rfl ?_
  refine AWo.nil trivial ?_
  refine AW.seq ?_
  refine AW.seqR ?_
  refine AWo.pure (PureOp.assign rfl) rfl rfl ?_
  refine AWo.nil trivial ?_
  refine AW.block ?_
  refine AW.ghost 77000 1 rfl ?_
  refine AW.loopw (fun mm σ => ∃ k, (k ≤ np 4 b.length) ∧ mm = np 4 b.length - k ∧ σ = ⟨(upd (upd (upd (upd emp 1 (db (b.drop (off 4 k)))) 5 (.slice (some ⟨10000, 0, none⟩) 4 0)) 6 (.slice (some ⟨77000, 0, none⟩) k 0)) 7 (vi .i64 (k % 4))), (upd (upd emp 10000 ⟨[31, 31, 31, 3].map (vi .i64), true, 1⟩) 77000 ⟨((List.range k).map (pc 4 b)).map db, true, 1⟩)⟩) (fm := []) ?_ ⟨0, Nat.zero_le _, rfl, rfl⟩ ?_
  ·
    refine Wk.of [10000, 77000] ?_ ?_ ?_ (by decide) rfl
    ·
      refine WkE.upd rfl (by first | exact VR.flat _ rfl | exact VR.eqv (vp_succ _) rfl | exact VR.eqv (vp_succ _).symm rfl | exact VR.eqv (by first | rfl | (congr 1; omega) | (simp; done) | (simp; omega)) rfl) ?_
      refine WkE.upd rfl (by first | exact .nilS _ (by simp) | exact .slice (77000) 0 _ 0 ⟨_, rfl⟩ (by simp) (by simp)) ?_
      refine WkE.upd rfl (.slice (10000) 0 _ 0 ⟨_, rfl⟩ (by simp) (by simp)) ?_
      refine WkE.upd rfl (clo_refl (by simp) rfl) ?_
      exact WkE.emp
    ·
      refine WkM.cloM rfl rfl (fun _ => rfl) (fun h => h) ?_
      refine WkM.flat rfl (flatM flat_vi) (fun h => h) ?_
      exact WkM.emp
    ·
      repeat (refine dom_upd_mem (by decide) ?_)
      exact dom_emp
  ·
    rintro mm σ ⟨k, hk, rfl, rfl⟩
    refine AW.seq ?_
    refine AW.seqR ?_
    refine AWo.pure (PureOp.move rfl) rfl rfl ?_
    first | refine AWo.pure (PureOp.lenS tbok rfl rfl) rfl rfl ?_ | refine AWo.pure (PureOp.lenD tbok rfl rfl) rfl rfl ?_
    first | refine AWo.pure (PureOp.gtN (b := 0) rfl rfl) rfl rfl ?_ | refine AWo.pure (PureOp.bin rfl rfl rfl) rfl rfl ?_
    refine AWo.nil trivial ?_
    refine AW.cond rfl (fun hb0 => ?_) (fun hb0 => ?_)
    ·
      have h0 : 0 < (b.drop (off 4 k)).length := by simpa using hb0
      have hlt : off 4 k < b.length := by rw [List.length_drop] at h0; omega
      have hkn : k < np 4 b.length := (np_lt hf).2 hlt
      have hfit : wd 4 k ≤ (b.drop (off 4 k)).length := by have := off_fit hf (by decide) hlt; rw [List.length_drop]; omega
      refine AW.skip ?_
      refine thenA_normal ?_
      refine AW.seq ?_
      refine AW.block ?_
      refine AW.seqR ?_
      refine AWo.pure (PureOp.move rfl) rfl rfl ?_
      refine AWo.pure (PureOp.move rfl) rfl rfl ?_
      refine AWo.pure (PureOp.move rfl) rfl rfl ?_
      refine AWo.pure (PureOp.move rfl) rfl rfl ?_
      refine yP (PureOp.idx1 tbok (j := k % 4) rfl rfl rfl rfl (by omega)) ?_
      refine AWo.loadM tbok 0 rfl rfl rfl (by show k % 4 < 4; omega) rfl rfl ?_
      rw [wd_4 k]
      refine yP ((PureOp.sliceD (l := 0) (h := wd 4 k) rfl .none (.some rfl) (tbok.sl _ _ rfl) (tbok.sz _ _ rfl) (Nat.zero_le _) hfit).mono (v' := db (pc 4 b k)) (by rw [db_part hfit (Nat.zero_le _), List.drop_zero, Nat.sub_zero]; rfl)) ?_
      refine AWo.buildSlice tbok 32000 [(0, db (pc 4 b k))] (out := [pc 4 b k].map db) rfl rfl (by decide) rfl rfl rfl (by decide) rfl rfl rfl rfl rfl ?_
      refine AWo.append tbok (all := ((List.range (k + 1)).map (pc 4 b)).map db) (news := [pc 4 b k].map db) 33000 rfl rfl rfl rfl (by simp) (by show List.take _ (List.drop 0 _) = _; rw [List.drop_zero]; exact List.take_of_length_le (by simp)) (by first | decide | (simp; done) | (simp; omega)) (by decide) rfl rfl rfl (by first | decide | exact Nat.one_ne_zero) rfl rfl rfl (by first | decide | omega) (by first | decide | omega) (by rfl) (by rw [List.range_succ, List.map_append, List.map_append]; rfl) rfl rfl ?_
      refine AWo.pure (PureOp.assign rfl) rfl rfl ?_
      refine AWo.nil trivial ?_
      refine AW.region ?_
      refine AWo.pure (PureOp.move rfl) rfl rfl ?_
      refine AWo.pure (PureOp.move rfl) rfl rfl ?_
      refine AWo.pure (PureOp.move rfl) rfl rfl ?_
      refine yP (PureOp.idx1 tbok (j := k % 4) rfl rfl rfl rfl (by omega)) ?_
      refine AWo.loadM tbok 0 rfl rfl rfl (by show k % 4 < 4; omega) rfl rfl ?_
      rw [wd_4 k]
      refine yP ((PureOp.sliceD (l := wd 4 k) (h := (b.drop (off 4 k)).length) rfl (.some rfl) .none (tbok.sl _ _ rfl) (tbok.sz _ _ rfl) hfit (Nat.le_refl _)).mono (v' := db (b.drop (off 4 (k + 1)))) (by rw [db_part (Nat.le_refl _) hfit, List.drop_drop, List.take_of_length_le (by rw [List.length_drop, List.length_drop]; omega), off_succ])) ?_
      refine AWo.pure (PureOp.assign rfl) rfl rfl ?_
      refine AWo.nil trivial ?_
      refine inBlockA_normal ?_
      refine thenA_normal ?_
      refine AW.region ?_
      refine AWo.pure (PureOp.move rfl) rfl rfl ?_
      first | refine AWo.pure (PureOp.addI (b := 1) rfl rfl (by first | decide | omega)) rfl rfl ?_ | refine AWo.pure (PureOp.bin rfl rfl rfl) rfl rfl ?_
      refine AWo.pure (PureOp.move rfl) rfl rfl ?_
      first | refine AWo.pure (PureOp.lenS tbok rfl rfl) rfl rfl ?_ | refine AWo.pure (PureOp.lenD tbok rfl rfl) rfl rfl ?_
      first | refine AWo.pure ((PureOp.remN rfl rfl (by first | decide | omega)).mono (v' := vi .i64 ((k + 1) % 4)) (congrArg (vi .i64) (by omega))) rfl rfl ?_ | refine AWo.pure ((PureOp.rem rfl rfl (by first | decide | omega)).mono (v' := vi .i64 ((k + 1) % 4)) (congrArg (vi .i64) (by omega))) rfl rfl ?_
      refine AWo.pure (PureOp.assign rfl) rfl rfl ?_
      refine AWo.nil trivial ?_
      refine thenA_normal ?_
      refine ⟨np 4 b.length - (k + 1), [(77000, 33000)], _, by omega, ?_, k + 1, by omega, rfl, rfl⟩
      refine Wk.of [10000, 77000] ?_ ?_ ?_ (by decide) rfl
      ·
        refine WkE.upd rfl (by first | exact VR.flat _ rfl | exact VR.eqv (vp_succ _) rfl | exact VR.eqv (vp_succ _).symm rfl | exact VR.eqv (by first | rfl | (congr 1; omega) | (simp; done) | (simp; omega)) rfl) ?_
        refine WkE.upd rfl (by first | exact .nilS _ (by simp) | exact .slice (77000) 0 _ 0 ⟨_, rfl⟩ (by simp) (by simp)) ?_
        refine WkE.upd rfl (.slice (10000) 0 _ 0 ⟨_, rfl⟩ (by simp) (by simp)) ?_
        refine WkE.upd rfl (clo_refl (by simp) rfl) ?_
        exact WkE.emp
      ·
        refine WkM.cloM rfl rfl (fun _ => rfl) (fun h => h) ?_
        refine WkM.flat rfl (flatM flat_vi) (fun h => h) ?_
        exact WkM.emp
      ·
        repeat (refine dom_upd_mem (by decide) ?_)
        exact dom_emp
    ·
      have h0 : ¬ 0 < (b.drop (off 4 k)).length := by simpa using hb0
      obtain rfl : k = np 4 b.length := by
        refine Nat.le_antisymm hk (Nat.le_of_not_lt fun h => h0 ?_)
        have := (np_lt hf).1 h
        rw [List.length_drop]; omega
      refine AW.exit ?_
      refine thenA_exit ?_
      refine thenA_exit ?_
      refine inBlockA_hit ?_
      refine thenA_normal ?_
      refine AW.seqR ?_
      refine AWo.pure (PureOp.move rfl) rfl rfl ?_
      refine AWo.pure (PureOp.assign rfl) rfl rfl ?_
      refine AWo.nil trivial ?_
      refine AW.ret ?_
      refine RetQ.gc [_] [77000] [.tmp 4] (.inl rfl) rfl (.tmp rfl .nil) rfl (.cons rfl rfl .nil) (OutL.clo rfl (cloM fun _ => rfl) (by intro h; first | rfl | exact h.elim id fun h => absurd h.1 (by simp)) trivial) (by decide) rfl
theorem cut_ctr {t : Int} {b : List Nat} (hf : fits t b.length) (hL : b.length < 200000000) : GC Try.prog 118 [.int .i64 t, db b] [] [.slice (some ⟨0, 0, none⟩) (np t b.length) 0] [⟨(pcs t b).map db, true, 1⟩] := by
  by_cases h1 : t = 1
  · subst h1; exact cut1_ctr hL
  by_cases h2 : t = 2
  · subst h2; exact cut2_ctr hf hL
  by_cases h3 : t = 3
  · subst h3; exact cut3_ctr hf hL
  by_cases h4 : t = 4
  · subst h4; exact cut4_ctr hf hL
  exact cut0_ctr h1 h2 h3 h4 hL
theorem pcs_getD {t : Int} {b : List Nat} {i : Nat} (hi : i < np t b.length) : (pcs t b).getD i [] = pc t b i := by
  rw [pcs, List.getD_eq_getElem?_getD, List.getElem?_map, List.getElem?_range hi]; rfl
def gP (t : Int) (d : List Nat) (i : Nat) : Fp := fp (num 256 (pc t d i))
theorem or8 {a b : Nat} (ha : a < 256) (hb : b < 256) : a ||| b * 2 ^ 8 % 18446744073709551616 = a + 256 * b := by
  rw [Nat.mod_eq_of_lt (by omega), Nat.or_comm, Nat.mul_comm b, ← Nat.two_pow_add_eq_or_of_lt (by omega : a < 2 ^ 8)]
  omega
theorem or16 {a b : Nat} (ha : a < 65536) (hb : b < 4294967296) : a ||| b * 2 ^ 16 % 18446744073709551616 = a + 65536 * b := by
  rw [Nat.mod_eq_of_lt (by omega), Nat.or_comm, Nat.mul_comm b, ← Nat.two_pow_add_eq_or_of_lt (by omega : a < 2 ^ 16)]
  omega
theorem rgt_len {x : Opn} (h : Rgt x) : x.d.length < 200000000 := by
  have h1 := lng_rgt h
  have hi := itC_inv h.1
  unfold lng at h1
  have h2 := szT_le x.t
  split at h1
  · have : x.c.toNat * szT x.t ≤ 1048576 * 96 := Nat.mul_le_mul (by omega) h2
    omega
  · omega
theorem rgt_nat {x : Opn} (h : Rgt x) : ∃ kn tn cn : Nat, x = ⟨kn, tn, cn, x.d⟩ ∧ kn ≤ 3 ∧ tn ≤ 4 ∧ cn ≤ 1048576 := by
  have hi := itC_inv h.1
  obtain ⟨k, t, c, d⟩ := x
  simp only at hi
  exact ⟨k.toNat, t.toNat, c.toNat, by congr 1 <;> omega, by omega, by omega, by omega⟩
theorem tobN_ctr {x : Opn} (hb : bd 256 x.d) (hl : x.d.length < 9223372036854775808) (hx : ¬ Rgt x) : GC Try.prog 74 [opV x] [] [.slice (some ⟨0, 0, none⟩) 0 0] [⟨(([] : List Nat)).map (vi .u8), true, 1⟩] := by
  refine GC.intro Try.func74 rfl (by show 1 ≤ 33; decide) (by first | exact Nat.le_refl _ | decide | simp) ?_
  refine AW.ghost 77000 1 rfl ?_
  refine AW.seqR ?_
  refine AWo.box 2000 1 [.int .i64 x.k, .int .i64 x.t, .int .i64 x.c, db x.d] rfl rfl rfl rfl rfl ?_
  refine AWo.pure (PureOp.assign rfl) rfl rfl ?_
  refine AWo.nil trivial ?_
  refine AW.seq ?_
  refine AW.seqR ?_
  first | refine AWo.loadAll tbok rfl rfl rfl rfl (by first | (simp [*]; done) | rfl) rfl rfl ?_ | refine AWo.loadAgg tbok rfl rfl rfl rfl (by first | decide | omega) rfl rfl rfl ?_
  refine AWo.callX (v := .bool false) (opright_ctr hb hl) bd116 [] [] rfl (.cons rfl .nil) rfl (.clo rfl .nil) .nil rfl .nil frN (by decide) (.cons rfl rfl .nil) (congrArg Value.bool (decide_eq_false hx)) rfl rfl rfl ?_
  refine AWo.pure (PureOp.not rfl) rfl rfl ?_
  refine AWo.nil trivial ?_
  refine AW.condT rfl ?_
  refine AW.seqR ?_
  refine AWo.pure (PureOp.assign rfl) rfl rfl ?_
  refine AWo.nil trivial ?_
  refine AW.ret ?_
  refine thenA_ret ?_
  refine RetQ.gc [_] [77000] [.tmp 2] (.inl rfl) rfl (.tmp rfl .nil) rfl (.nilS .nil) (OutL.flat rfl (flatM flat_vi) (by intro h; rfl) trivial) (by decide) rfl
theorem tobY_ctr {kn tn cn : Nat} {d : List Nat} (hb : bd 256 d) (hk : kn ≤ 3) (ht : tn ≤ 4) (hc : cn ≤ 1048576) (hd : d.length < 200000000) (hl : d.length < 9223372036854775808) (hx : Rgt ⟨kn, tn, cn, d⟩) : GC Try.prog 74 [opV (Opn.mk kn tn cn d)] [] [.slice (some ⟨0, 0, none⟩) (6 + d.length) 0] [⟨(([kn % 256, tn % 256, cn % 256, cn / 2 ^ 8 % 256, cn / 2 ^ 16 % 256, cn / 2 ^ 24 % 256] ++ d)).map (vi .u8), true, 1⟩] := by
  refine GC.intro Try.func74 rfl (by show 1 ≤ 33; decide) (by first | exact Nat.le_refl _ | decide | simp) ?_
  refine AW.seqR ?_
  refine AWo.box 2000 1 [vi .i64 kn, vi .i64 tn, vi .i64 cn, db d] rfl rfl rfl rfl rfl ?_
  refine AWo.pure (PureOp.assign rfl) rfl rfl ?_
  refine AWo.nil trivial ?_
  refine AW.seq ?_
  refine AW.seqR ?_
  first | refine AWo.loadAll tbok rfl rfl rfl rfl (by first | (simp [*]; done) | rfl) rfl rfl ?_ | refine AWo.loadAgg tbok rfl rfl rfl rfl (by first | decide | omega) rfl rfl rfl ?_
  refine AWo.callX (v := .bool true) (opright_ctr (x := ⟨kn, tn, cn, d⟩) hb hl) bd116 [] [] rfl (.cons rfl .nil) rfl (.clo rfl .nil) .nil rfl .nil frN (by decide) (.cons rfl rfl .nil) (congrArg Value.bool (decide_eq_true hx)) rfl rfl rfl ?_
  refine AWo.pure (PureOp.not rfl) rfl rfl ?_
  refine AWo.nil trivial ?_
  refine AW.condF rfl ?_
  refine AW.skip ?_
  refine thenA_normal ?_
  refine AW.seqR ?_
  refine AWo.pure (PureOp.fld tbok rfl rfl rfl (by decide)) rfl rfl ?_
  first | refine AWo.loadM tbok 0 rfl rfl rfl (by first | decide | omega) rfl rfl ?_ | refine AWo.load tbok rfl rfl rfl rfl rfl rfl ?_
  refine AWo.pure (PureOp.cvtU tbok 256 rfl rfl rfl rfl rfl) rfl rfl ?_
  refine AWo.pure (PureOp.fld tbok rfl rfl rfl (by decide)) rfl rfl ?_
  first | refine AWo.loadM tbok 0 rfl rfl rfl (by first | decide | omega) rfl rfl ?_ | refine AWo.load tbok rfl rfl rfl rfl rfl rfl ?_
  refine AWo.pure (PureOp.cvtU tbok 256 rfl rfl rfl rfl rfl) rfl rfl ?_
  refine AWo.pure (PureOp.fld tbok rfl rfl rfl (by decide)) rfl rfl ?_
  first | refine AWo.loadM tbok 0 rfl rfl rfl (by first | decide | omega) rfl rfl ?_ | refine AWo.load tbok rfl rfl rfl rfl rfl rfl ?_
  refine AWo.pure (PureOp.cvtU tbok 256 rfl rfl rfl rfl rfl) rfl rfl ?_
  refine AWo.pure (PureOp.fld tbok rfl rfl rfl (by decide)) rfl rfl ?_
  first | refine AWo.loadM tbok 0 rfl rfl rfl (by first | decide | omega) rfl rfl ?_ | refine AWo.load tbok rfl rfl rfl rfl rfl rfl ?_
  refine AWo.pure (PureOp.shrN (b := 8) 64 rfl rfl rfl (by decide)) rfl rfl ?_
  refine AWo.pure (PureOp.cvtU tbok 256 rfl rfl rfl rfl rfl) rfl rfl ?_
  refine AWo.pure (PureOp.fld tbok rfl rfl rfl (by decide)) rfl rfl ?_
  first | refine AWo.loadM tbok 0 rfl rfl rfl (by first | decide | omega) rfl rfl ?_ | refine AWo.load tbok rfl rfl rfl rfl rfl rfl ?_
  refine AWo.pure (PureOp.shrN (b := 16) 64 rfl rfl rfl (by decide)) rfl rfl ?_
  refine AWo.pure (PureOp.cvtU tbok 256 rfl rfl rfl rfl rfl) rfl rfl ?_
  refine AWo.pure (PureOp.fld tbok rfl rfl rfl (by decide)) rfl rfl ?_
  first | refine AWo.loadM tbok 0 rfl rfl rfl (by first | decide | omega) rfl rfl ?_ | refine AWo.load tbok rfl rfl rfl rfl rfl rfl ?_
  refine AWo.pure (PureOp.shrN (b := 24) 64 rfl rfl rfl (by decide)) rfl rfl ?_
  refine AWo.pure (PureOp.cvtU tbok 256 rfl rfl rfl rfl rfl) rfl rfl ?_
  refine AWo.buildSlice tbok 29000 [(0, vi .u8 (kn % 256)), (1, vi .u8 (tn % 256)), (2, vi .u8 (cn % 256)), (3, vi .u8 (cn / 2 ^ 8 % 256)), (4, vi .u8 (cn / 2 ^ 16 % 256)), (5, vi .u8 (cn / 2 ^ 24 % 256))] (out := [vi .u8 (kn % 256), vi .u8 (tn % 256), vi .u8 (cn % 256), vi .u8 (cn / 2 ^ 8 % 256), vi .u8 (cn / 2 ^ 16 % 256), vi .u8 (cn / 2 ^ 24 % 256)]) rfl rfl (by decide) rfl rfl rfl (by decide) rfl rfl rfl rfl rfl ?_
  refine AWo.pure (PureOp.assign rfl) rfl rfl ?_
  refine AWo.nil trivial ?_
  refine AW.seqR ?_
  refine AWo.pure (PureOp.move rfl) rfl rfl ?_
  refine AWo.pure (PureOp.fld tbok rfl rfl rfl (by decide)) rfl rfl ?_
  refine AWo.loadX tbok 88000 rfl rfl rfl rfl rfl rfl rfl ?_
  refine AWo.append tbok (all := ([kn % 256, tn % 256, cn % 256, cn / 2 ^ 8 % 256, cn / 2 ^ 16 % 256, cn / 2 ^ 24 % 256] ++ d).map (vi .u8)) (news := d.map (vi .u8)) 33000 rfl rfl rfl rfl (by first | rfl | simp [*]) (by show List.take _ (List.drop 0 _) = _; rw [List.drop_zero]; exact List.take_of_length_le (by simp)) (by first | decide | (simp; done) | (simp; omega)) (by decide) rfl rfl rfl (by first | decide | exact Nat.one_ne_zero) rfl rfl rfl (by first | decide | omega) (by first | decide | omega) (by first | exact oneM (fun _ => rfl) _ | (simp; done)) rfl rfl rfl ?_
  refine AWo.pure (PureOp.assign rfl) rfl rfl ?_
  refine AWo.nil trivial ?_
  refine AW.ret ?_
  refine RetQ.gc [_] [33000] [.tmp 2] (.inl rfl) rfl (.tmp rfl .nil) rfl (.cons rfl rfl .nil) (OutL.flat rfl (by first | exact flatM flat_vi | exact flatM flat_bool | (simp [flatV, flat_vi]; done)) (by intro h; first | rfl | exact h.elim id fun h => absurd h.1 (by simp)) trivial) (by decide) rfl
theorem tobytes_ctr {x : Opn} (hb : bd 256 x.d) (hl : x.d.length < 9223372036854775808) : GC Try.prog 74 [opV x] [] [.slice (some ⟨0, 0, none⟩) (toB x).length 0] [⟨(toB x).map (vi .u8), true, 1⟩] := by
  by_cases hx : Rgt x
  · have hd := rgt_len hx
    obtain ⟨kn, tn, cn, e, hk, ht, hc⟩ := rgt_nat hx
    generalize x.d = d at *
    subst e
    have h := tobY_ctr hb hk ht hc hd hl hx
    have e2 : toB ⟨kn, tn, cn, d⟩ = [kn % 256, tn % 256, cn % 256, cn / 2 ^ 8 % 256, cn / 2 ^ 16 % 256, cn / 2 ^ 24 % 256] ++ d := by
      rw [toB, if_pos hx]; rfl
    rw [e2, List.length_append]
    exact h
  · rw [toB, if_neg hx]
    exact tobN_ctr hb hl hx
theorem tofN_ctr {x : Opn} (hb : bd 256 x.d) (hl : x.d.length < 9223372036854775808) (hx : ¬ Rgt x) : GC Try.prog 76 [opV x] [] [.slice (some ⟨0, 0, none⟩) 0 0] [⟨((([] : List Fp).map fe).flatten).map (vi .u64), true, 4⟩] := by
  refine GC.intro Try.func76 rfl (by show 1 ≤ 41; decide) (by first | exact Nat.le_refl _ | decide | simp) ?_
  refine AW.ghost 77000 4 rfl ?_
  refine AW.seqR ?_
  refine AWo.box 2000 1 [.int .i64 x.k, .int .i64 x.t, .int .i64 x.c, db x.d] rfl rfl rfl rfl rfl ?_
  refine AWo.pure (PureOp.assign rfl) rfl rfl ?_
  refine AWo.nil trivial ?_
  refine AW.seq ?_
  refine AW.seqR ?_
  first | refine AWo.loadAll tbok rfl rfl rfl rfl (by first | (simp [*]; done) | rfl) rfl rfl ?_ | refine AWo.loadAgg tbok rfl rfl rfl rfl (by first | decide | omega) rfl rfl rfl ?_
  refine AWo.callX (v := .bool false) (opright_ctr hb hl) bd116 [] [] rfl (.cons rfl .nil) rfl (.clo rfl .nil) .nil rfl .nil frN (by decide) (.cons rfl rfl .nil) (congrArg Value.bool (decide_eq_false hx)) rfl rfl rfl ?_
  refine AWo.pure (PureOp.not rfl) rfl rfl ?_
  refine AWo.nil trivial ?_
  refine AW.condT rfl ?_
  refine AW.seqR ?_
  refine AWo.pure (PureOp.assign rfl) rfl rfl ?_
  refine AWo.nil trivial ?_
  refine AW.ret ?_
  refine thenA_ret ?_
  refine RetQ.gc [_] [77000] [.tmp 2] (.inl rfl) rfl (.tmp rfl .nil) rfl (.nilS .nil) (OutL.flat rfl (flatM flat_vi) (by intro h; rfl) trivial) (by decide) rfl
theorem tofY_ctr {kn tn cn : Nat} {d : List Nat} (hb : bd 256 d) (hk : kn ≤ 3) (ht : tn ≤ 4) (hc : cn ≤ 1048576) (hd : d.length < 200000000) (hl : d.length < 9223372036854775808) (hx : Rgt ⟨kn, tn, cn, d⟩) : GC Try.prog 76 [opV (Opn.mk kn tn cn d)] [] [.slice (some ⟨0, 0, none⟩) (np tn d.length + 1) 0] [⟨(((fp (kn + 256 * tn + 65536 * cn) :: (List.range (np tn d.length)).map (gP tn d)).map fe).flatten).map (vi .u64), true, 4⟩] := by
  have hnp : np tn d.length ≤ d.length := np_le
  refine GC.intro Try.func76 rfl (by show 1 ≤ 41; decide) (by first | exact Nat.le_refl _ | decide | simp) ?_
  refine AW.seqR ?_
  refine AWo.box 2000 1 [vi .i64 kn, vi .i64 tn, vi .i64 cn, db d] rfl rfl rfl rfl rfl ?_
  refine AWo.pure (PureOp.assign rfl) rfl rfl ?_
  refine AWo.nil trivial ?_
  refine AW.seq ?_
  refine AW.seqR ?_
  first | refine AWo.loadAll tbok rfl rfl rfl rfl (by first | (simp [*]; done) | rfl) rfl rfl ?_ | refine AWo.loadAgg tbok rfl rfl rfl rfl (by first | decide | omega) rfl rfl rfl ?_
  refine AWo.callX (v := .bool true) (opright_ctr (x := ⟨kn, tn, cn, d⟩) hb hl) bd116 [] [] rfl (.cons rfl .nil) rfl (.clo rfl .nil) .nil rfl .nil frN (by decide) (.cons rfl rfl .nil) (congrArg Value.bool (decide_eq_true hx)) rfl rfl rfl ?_
  refine AWo.pure (PureOp.not rfl) rfl rfl ?_
  refine AWo.nil trivial ?_
  refine AW.condF rfl ?_
  refine AW.skip ?_
  refine thenA_normal ?_
  refine AW.seqR ?_
  refine AWo.pure (PureOp.fld tbok rfl rfl rfl (by decide)) rfl rfl ?_
  first | refine AWo.loadM tbok 0 rfl rfl rfl (by first | decide | omega) rfl rfl ?_ | refine AWo.load tbok rfl rfl rfl rfl rfl rfl ?_
  first | refine AWo.pure (PureOp.cvtN tbok 18446744073709551616 rfl rfl rfl (by decide) (by decide) (by first | decide | omega)) rfl rfl ?_ | refine AWo.pure (PureOp.cvtU tbok 18446744073709551616 rfl rfl rfl rfl rfl) rfl rfl ?_ | refine AWo.pure (PureOp.cvt tbok rfl rfl rfl) rfl rfl ?_
  refine AWo.pure (PureOp.fld tbok rfl rfl rfl (by decide)) rfl rfl ?_
  first | refine AWo.loadM tbok 0 rfl rfl rfl (by first | decide | omega) rfl rfl ?_ | refine AWo.load tbok rfl rfl rfl rfl rfl rfl ?_
  first | refine AWo.pure (PureOp.cvtN tbok 18446744073709551616 rfl rfl rfl (by decide) (by decide) (by first | decide | omega)) rfl rfl ?_ | refine AWo.pure (PureOp.cvtU tbok 18446744073709551616 rfl rfl rfl rfl rfl) rfl rfl ?_ | refine AWo.pure (PureOp.cvt tbok rfl rfl rfl) rfl rfl ?_
  refine AWo.pure (PureOp.shlUge (b := 8) 18446744073709551616 rfl rfl rfl rfl) rfl rfl ?_
  refine AWo.pure ((PureOp.orN (a := kn) (b := tn * 2 ^ 8 % 18446744073709551616) 18446744073709551616 rfl rfl (by decide) (by decide) (by omega) (by omega)).mono (v' := vi .u64 (kn + 256 * tn)) (congrArg (vi .u64) (or8 (by omega) (by omega)))) rfl rfl ?_
  refine AWo.pure (PureOp.fld tbok rfl rfl rfl (by decide)) rfl rfl ?_
  first | refine AWo.loadM tbok 0 rfl rfl rfl (by first | decide | omega) rfl rfl ?_ | refine AWo.load tbok rfl rfl rfl rfl rfl rfl ?_
  first | refine AWo.pure (PureOp.cvtN tbok 18446744073709551616 rfl rfl rfl (by decide) (by decide) (by first | decide | omega)) rfl rfl ?_ | refine AWo.pure (PureOp.cvtU tbok 18446744073709551616 rfl rfl rfl rfl rfl) rfl rfl ?_ | refine AWo.pure (PureOp.cvt tbok rfl rfl rfl) rfl rfl ?_
  refine AWo.pure (PureOp.shlUge (b := 16) 18446744073709551616 rfl rfl rfl rfl) rfl rfl ?_
  refine AWo.pure ((PureOp.orN (a := kn + 256 * tn) (b := cn * 2 ^ 16 % 18446744073709551616) 18446744073709551616 rfl rfl (by decide) (by decide) (by omega) (by omega)).mono (v' := vi .u64 (kn + 256 * tn + 65536 * cn)) (congrArg (vi .u64) (or16 (by omega) (by omega)))) rfl rfl ?_
  refine AWo.callX (fromuF_ctr (v := kn + 256 * tn + 65536 * cn) (by omega)) bd117 [] [] rfl (.cons rfl .nil) rfl (.cons rfl rfl .nil) .nil rfl .nil frN (by decide) (.pure (by first | rfl | exact pure_aggM flat_vi | exact pure_aggM flat_bool) .nil) rfl rfl rfl rfl ?_
  refine AWo.buildSlice tbok 24000 [(0, .agg ((fe (fp (kn + 256 * tn + 65536 * cn))).map (vi .u64)).toArray)] (out := [fe (fp (kn + 256 * tn + 65536 * cn))].flatten.map (vi .u64)) rfl rfl (by decide) rfl rfl rfl (by decide) rfl (fillB1 (fe_len _)) rfl rfl rfl ?_
  refine AWo.pure (PureOp.assign rfl) rfl rfl ?_
  refine AWo.nil trivial ?_
  refine AW.seq ?_
  refine AW.seqR ?_
  refine AWo.pure (PureOp.fld tbok rfl rfl rfl (by decide)) rfl rfl ?_
  first | refine AWo.loadM tbok 0 rfl rfl rfl (by first | decide | omega) rfl rfl ?_ | refine AWo.load tbok rfl rfl rfl rfl rfl rfl ?_
  refine AWo.pure (PureOp.fld tbok rfl rfl rfl (by decide)) rfl rfl ?_
  refine AWo.load tbok rfl rfl rfl rfl rfl rfl ?_
  refine AWo.callX (cut_ctr (t := tn) (b := d) (rgt_fits hx) (by omega)) bd118 [] [29000] rfl (.cons rfl (.cons rfl .nil)) rfl (.cons rfl rfl (.cons rfl rfl .nil)) .nil rfl (.new (clo_map_ren (cloM fun _ => rfl)) (OkL.clo (cloM fun _ => rfl)) .nil) (frC rfl frN) (by decide) (.cons rfl rfl .nil) rfl rfl rfl rfl ?_
  first | refine AWo.pure (PureOp.lenS tbok rfl rfl) rfl rfl ?_ | refine AWo.pure (PureOp.lenD tbok rfl rfl) rfl rfl ?_
  refine AWo.pure (PureOp.move rfl) rfl rfl ?_
  refine AWo.nil trivial ?_
  refine AW.block ?_
  refine AW.loopw (fun mm σ => ∃ i, (i ≤ np tn d.length) ∧ mm = np tn d.length - i ∧ σ = ⟨(upd (upd (upd (upd emp 3 (.slice (some ⟨24000, 0, none⟩) (i + 1) 0)) 28 (.slice (some ⟨29000, 0, none⟩) (np tn d.length) 0)) 29 (vi .i64 (np tn d.length))) 30 (vi .i64 i)), (upd (upd emp 29000 ⟨(pcs tn d).map db, true, 1⟩) 24000 ⟨(((fp (kn + 256 * tn + 65536 * cn) :: (List.range i).map (gP tn d)).map fe).flatten).map (vi .u64), true, 4⟩)⟩) (fm := []) ?_ ⟨0, Nat.zero_le _, rfl, rfl⟩ ?_
  ·
    refine Wk.of [29000, 24000] ?_ ?_ ?_ (by decide) rfl
    ·
      refine WkE.upd rfl (by first | exact VR.flat _ rfl | exact VR.eqv (vp_succ _) rfl | exact VR.eqv (vp_succ _).symm rfl | exact VR.eqv (by first | rfl | (congr 1; omega) | (simp; done) | (simp; omega)) rfl) ?_
      refine WkE.upd rfl (by first | exact VR.flat _ rfl | exact VR.eqv (vp_succ _) rfl | exact VR.eqv (vp_succ _).symm rfl | exact VR.eqv (by first | rfl | (congr 1; omega) | (simp; done) | (simp; omega)) rfl) ?_
      refine WkE.upd rfl (.slice (29000) 0 _ 0 ⟨_, rfl⟩ (by simp) (by simp)) ?_
      refine WkE.upd rfl (.slice (24000) 0 _ 0 ⟨_, rfl⟩ (by simp) (by simp)) ?_
      exact WkE.emp
    ·
      refine WkM.flat rfl (flatM flat_vi) (fun h => h) ?_
      refine WkM.cloM rfl rfl (fun _ => rfl) (fun h => h) ?_
      exact WkM.emp
    ·
      repeat (refine dom_upd_mem (by decide) ?_)
      exact dom_emp
  ·
    rintro mm σ ⟨i, hik, rfl, rfl⟩
    refine AW.seqR ?_
    first | refine AWo.pure (PureOp.ltN rfl rfl) rfl rfl ?_ | refine AWo.pure (PureOp.bin rfl rfl rfl) rfl rfl ?_
    refine AWo.nil trivial ?_
    refine AW.seq ?_
    refine AW.cond rfl (fun hb0 => ?_) (fun hb0 => ?_)
    ·
      have hi : i < np tn d.length := by simpa using hb0
      refine AW.skip ?_
      refine thenA_normal ?_
      refine AW.seq ?_
      refine AW.block ?_
      refine AW.seqR ?_
      first | refine AWo.pure (PureOp.idx1 tbok rfl rfl rfl rfl (by first | decide | omega)) rfl rfl ?_ | refine AWo.pure (PureOp.idx tbok rfl rfl rfl rfl (by first | decide | omega)) rfl rfl ?_
      refine AWo.loadM tbok [] rfl rfl rfl (by rw [pcs_len]; exact hi) rfl rfl ?_
      rw [pcs_getD hi]
      refine AWo.pure (PureOp.assign rfl) rfl rfl ?_
      refine AWo.nil trivial ?_
      refine AW.region ?_
      refine AWo.pure (PureOp.move rfl) rfl rfl ?_
      refine AWo.pure (PureOp.move rfl) rfl rfl ?_
      refine AWo.callX (fromwideFd (b := pc tn d i) (bd_part hb _ _) (by rw [pc_len]; have := wd_le tn i; omega)) bd64 [] [] rfl (.cons rfl .nil) rfl (.cons rfl rfl .nil) .nil rfl .nil frN (by decide) (.pure (by first | rfl | exact pure_aggM flat_vi | exact pure_aggM flat_bool) .nil) rfl rfl rfl rfl ?_
      refine AWo.buildSlice tbok 38000 [(0, .agg ((fe (fp (num 256 (pc tn d i)))).map (vi .u64)).toArray)] (out := [fe (fp (num 256 (pc tn d i)))].flatten.map (vi .u64)) rfl rfl (by decide) rfl rfl rfl (by decide) rfl (fillB1 (fe_len _)) rfl rfl rfl ?_
      refine AWo.append tbok (all := (((fp (kn + 256 * tn + 65536 * cn) :: (List.range (i + 1)).map (gP tn d)).map fe).flatten).map (vi .u64)) (news := [fe (fp (num 256 (pc tn d i)))].flatten.map (vi .u64)) 39000 rfl rfl rfl rfl (by rw [FF_len]; simp) (by show List.take _ (List.drop 0 _) = _; rw [List.drop_zero]; exact List.take_of_length_le (by simp)) (by simp; done) (by decide) rfl rfl rfl (by first | decide | exact Nat.one_ne_zero) rfl rfl rfl (by first | decide | omega) (by first | decide | omega) (oneM (fun _ => rfl) _) (by rw [List.range_succ, List.map_append, ← List.cons_append, List.map_append, List.flatten_append, List.map_append]; rfl) rfl rfl ?_
      refine AWo.pure (PureOp.assign rfl) rfl rfl ?_
      refine AWo.nil trivial ?_
      refine inBlockA_normal ?_
      refine thenA_normal ?_
      refine AW.region ?_
      first | refine AWo.pure (PureOp.addI (b := 1) rfl rfl (by first | decide | omega)) rfl rfl ?_ | refine AWo.pure (PureOp.bin rfl rfl rfl) rfl rfl ?_
      refine AWo.pure (PureOp.move rfl) rfl rfl ?_
      refine AWo.nil trivial ?_
      refine thenA_normal ?_
      refine ⟨np tn d.length - (i + 1), [(24000, 39000)], _, by omega, ?_, i + 1, by omega, rfl, rfl⟩
      refine Wk.of [29000, 24000] ?_ ?_ ?_ (by decide) rfl
      ·
        refine WkE.upd rfl (by first | exact VR.flat _ rfl | exact VR.eqv (vp_succ _) rfl | exact VR.eqv (vp_succ _).symm rfl | exact VR.eqv (by first | rfl | (congr 1; omega) | (simp; done) | (simp; omega)) rfl) ?_
        refine WkE.upd rfl (by first | exact VR.flat _ rfl | exact VR.eqv (vp_succ _) rfl | exact VR.eqv (vp_succ _).symm rfl | exact VR.eqv (by first | rfl | (congr 1; omega) | (simp; done) | (simp; omega)) rfl) ?_
        refine WkE.upd rfl (.slice (29000) 0 _ 0 ⟨_, rfl⟩ (by simp) (by simp)) ?_
        refine WkE.upd rfl (.slice (24000) 0 _ 0 ⟨_, rfl⟩ (by simp) (by simp)) ?_
        exact WkE.emp
      ·
        refine WkM.flat rfl (flatM flat_vi) (fun h => h) ?_
        refine WkM.cloM rfl rfl (fun _ => rfl) (fun h => h) ?_
        exact WkM.emp
      ·
        repeat (refine dom_upd_mem (by decide) ?_)
        exact dom_emp
    ·
      obtain rfl : i = np tn d.length := by simp at hb0; omega
      refine AW.exit ?_
      refine thenA_exit ?_
      refine thenA_exit ?_
      refine inBlockA_hit ?_
      refine thenA_normal ?_
      refine AW.seqR ?_
      refine AWo.pure (PureOp.move rfl) rfl rfl ?_
      refine AWo.pure (PureOp.assign rfl) rfl rfl ?_
      refine AWo.nil trivial ?_
      refine AW.ret ?_
      refine RetQ.gc [_] [24000] [.tmp 2] (.inl rfl) rfl (.tmp rfl .nil) rfl (.cons rfl rfl .nil) (OutL.flat rfl (flatM flat_vi) (by intro h; first | rfl | exact h.elim id fun h => absurd h.1 (by simp)) trivial) (by decide) rfl
theorem tofields_ctr {x : Opn} (hb : bd 256 x.d) (hl : x.d.length < 9223372036854775808) : GC Try.prog 76 [opV x] [] [.slice (some ⟨0, 0, none⟩) (toF x).length 0] [⟨(((toF x).map fe).flatten).map (vi .u64), true, 4⟩] := by
  by_cases hx : Rgt x
  · have hd := rgt_len hx
    obtain ⟨kn, tn, cn, e, hk, ht, hc⟩ := rgt_nat hx
    generalize x.d = d at *
    subst e
    have h := tofY_ctr hb hk ht hc hd hl hx
    have e2 : toF ⟨kn, tn, cn, d⟩ = (fp (kn + 256 * tn + 65536 * cn) :: (List.range (np tn d.length)).map (gP tn d)) := by
      rw [toF, if_pos hx, pcs, List.map_map]; rfl
    have e3 : (toF ⟨kn, tn, cn, d⟩).length = np tn d.length + 1 := by rw [toF_len hx, Nat.add_comm]
    rw [e3, e2]
    exact h
  · rw [toF, if_neg hx]
    exact tofN_ctr hb hl hx
end Go.Proofs.Ytpahdiljpnfkdaa
namespace Go.Proofs.Ytpahdiljpnfkdaa
open Go Sim
theorem rgtX : Rgt (⟨1, 1, 2, [1, 2]⟩ : Opn) := by
  refine ⟨rfl, ?_⟩
  rw [if_pos rfl]
  refine ⟨rfl, ?_⟩
  refine ck_ok rfl (fun i _ => ?_)
  rw [vC, if_neg (by decide), if_neg (by decide)]
theorem toBX : toB (⟨1, 1, 2, [1, 2]⟩ : Opn) = [1, 1, 2, 0, 0, 0, 1, 2] := by rw [toB, if_pos rgtX]; rfl
theorem tobX_ctr : GC Try.prog 74 [opV (⟨1, 1, 2, [1, 2]⟩ : Opn)] [] [.slice (some ⟨0, 0, none⟩) 8 0] [⟨([1, 1, 2, 0, 0, 0, 1, 2]).map (vi .u8), true, 1⟩] := by
  have h := tobytes_ctr (x := (⟨1, 1, 2, [1, 2]⟩ : Opn)) (fun x hx => by simp at hx; omega) (by decide)
  rw [toBX] at h
  exact h
theorem tofX_ctr : GC Try.prog 76 [opV (⟨1, 1, 2, [1, 2]⟩ : Opn)] [] [.slice (some ⟨0, 0, none⟩) 2 0] [⟨(((toF (⟨1, 1, 2, [1, 2]⟩ : Opn)).map fe).flatten).map (vi .u64), true, 4⟩] := by
  have h := tofields_ctr (x := (⟨1, 1, 2, [1, 2]⟩ : Opn)) (fun x hx => by simp at hx; omega) (by decide)
  rw [show (toF (⟨1, 1, 2, [1, 2]⟩ : Opn)).length = 2 by rw [toF_len rgtX]; rfl] at h
  exact h
theorem speaks15_ctr : GC Try.prog 66 [] [] [.bool true] [] := by
  refine GC.intro Try.func66 rfl (by show 0 ≤ 16; decide) (by first | exact Nat.le_refl _ | decide | simp) ?_
  refine AW.seqR ?_
  refine AWo.pure (PureOp.assign rfl) rfl rfl ?_
  refine AWo.nil trivial ?_
  refine AW.seqR ?_
  refine AWo.buildSliceF tbok 3000 [(0, vi .u8 1), (1, vi .u8 2)] (out := [vi .u8 1, vi .u8 2]) rfl rfl (by decide) rfl rfl rfl (by decide) rfl rfl rfl rfl (fun x hx => by simp at hx; rcases hx with rfl | rfl <;> rfl) rfl rfl ?_
  refine AWo.pure ((PureOp.buildStruct [(0, vi .i64 1), (1, vi .i64 1), (2, vi .i64 2), (3, db [1, 2])] pl96.choose_spec.1 zr96 (by decide) pl96.choose_spec.2 rfl rfl).mono (v' := .agg #[vi .i64 1, vi .i64 1, vi .i64 2, db [1, 2]]) rfl) rfl rfl ?_
  refine AWo.alloc tbok 2000 1 _ rfl rfl rfl rfl rfl rfl ?_
  refine AWo.storeAllN (vs := [vi .i64 1, vi .i64 1, vi .i64 2, db [1, 2]]) tbok rfl rfl rfl rfl rfl rfl rfl rfl ?_
  refine AWo.nil trivial ?_
  refine AW.seqD mixed ?_
  first | refine AWo.loadAll tbok rfl rfl rfl rfl (by first | (simp [*]; done) | rfl) rfl rfl ?_ | refine AWo.loadAgg tbok rfl rfl rfl rfl (by first | decide | omega) rfl rfl rfl ?_
  refine AWo.callX (tobX_ctr) bd74 [] [6000] rfl (.cons rfl .nil) rfl (.clo rfl .nil) .nil rfl (.new (flat_map_ren (by first | exact flatM flat_vi | exact flatM flat_bool | (simp [flatV, flat_vi]; done))) (OkL.flat (by first | exact flatM flat_vi | exact flatM flat_bool | (simp [flatV, flat_vi]; done))) .nil) (frC rfl frN) (by decide) (.cons rfl rfl .nil) rfl rfl rfl rfl ?_
  refine AWo.bytesStr tbok ([1, 1, 2, 0, 0, 0, 1, 2]) rfl rfl (List.take_of_length_le (by simp)) (rfl) rfl Try.underlying5 Try.underlying9 rfl rfl ?_
  refine AWo.buildSlice tbok 8000 [(0, vi .u8 1), (1, vi .u8 1), (2, vi .u8 2), (3, vi .u8 0), (4, vi .u8 0), (5, vi .u8 0), (6, vi .u8 1), (7, vi .u8 2)] (out := [vi .u8 1, vi .u8 1, vi .u8 2, vi .u8 0, vi .u8 0, vi .u8 0, vi .u8 1, vi .u8 2]) rfl rfl (by decide) rfl rfl rfl (by decide) rfl rfl rfl rfl rfl ?_
  refine AWo.bytesStr tbok ([1, 1, 2, 0, 0, 0, 1, 2]) rfl rfl (List.take_of_length_le (by simp)) (rfl) rfl Try.underlying5 Try.underlying9 rfl rfl ?_
  refine yP (PureOp.sameStr rfl rfl) ?_
  refine AWo.pure (PureOp.move rfl) rfl rfl ?_
  first | refine AWo.loadAll tbok rfl rfl rfl rfl (by first | (simp [*]; done) | rfl) rfl rfl ?_ | refine AWo.loadAgg tbok rfl rfl rfl rfl (by first | decide | omega) rfl rfl rfl ?_
  refine AWo.callX (tofX_ctr) bd76 [] [13000] rfl (.cons rfl .nil) rfl (.clo rfl .nil) .nil rfl (.new (flat_map_ren (flatM flat_vi)) (OkL.flat (flatM flat_vi)) .nil) (frC rfl frN) (by decide) (.cons rfl rfl .nil) rfl rfl rfl rfl ?_
  first | refine AWo.pure (PureOp.lenS tbok rfl rfl) rfl rfl ?_ | refine AWo.pure (PureOp.lenD tbok rfl rfl) rfl rfl ?_
  first | refine AWo.pure ((PureOp.eqN (b := 2) rfl rfl).mono (v' := .bool true) (congrArg Value.bool (rfl))) rfl rfl ?_ | refine AWo.pure ((PureOp.bin rfl rfl rfl).mono (v' := .bool true) (congrArg Value.bool (rfl))) rfl rfl ?_
  refine AWo.pure (PureOp.pickT rfl rfl) rfl rfl ?_
  refine AWo.pure (PureOp.assign rfl) rfl rfl ?_
  refine AWo.nil (by kernel_rfl) ?_
  refine AW.ret ?_
  refine RetQ.gc [_] [] [.tmp 0] (.inl rfl) rfl (.tmp rfl .nil) rfl (.cons rfl rfl .nil) trivial (by decide) rfl
theorem encchecks_ctr {t : Int} {b : List Nat} (hb : bd 256 b) : GC Try.prog 13 [.int .i64 t, db b] [] [.bool true] [] := by
  refine GC.intro Try.func13 rfl (by show 2 ≤ 53; decide) (by first | exact Nat.le_refl _ | decide | simp) ?_
  refine AW.seqR ?_
  refine AWo.pure (PureOp.assign rfl) rfl rfl ?_
  refine AWo.nil trivial ?_
  refine AW.seq ?_
  refine AW.seqR ?_
  refine AWo.callX (speaks15_ctr) bd66 [] [] rfl .nil rfl .nil .nil rfl .nil frN (by decide) (.cons rfl rfl .nil) rfl rfl rfl rfl ?_
  refine AWo.pure (PureOp.not rfl) rfl rfl ?_
  refine AWo.pure (PureOp.move rfl) rfl rfl ?_
  refine AWo.pure (PureOp.move rfl) rfl rfl ?_
  first | refine AWo.pure (PureOp.lenS tbok rfl rfl) rfl rfl ?_ | refine AWo.pure (PureOp.lenD tbok rfl rfl) rfl rfl ?_
  first | refine AWo.pure (PureOp.gtN (b := 700) rfl rfl) rfl rfl ?_ | refine AWo.pure (PureOp.bin rfl rfl rfl) rfl rfl ?_
  refine AWo.pure (PureOp.pickF rfl rfl) rfl rfl ?_
  refine AWo.nil trivial ?_
  refine AW.cond rfl (fun hb0 => ?_) (fun hb0 => ?_)
  ·
    refine AW.seqR ?_
    refine AWo.callX (speaks15_ctr) bd66 [] [] rfl .nil rfl .nil .nil rfl .nil frN (by decide) (.cons rfl rfl .nil) rfl rfl rfl rfl ?_
    refine AWo.pure (PureOp.assign rfl) rfl rfl ?_
    refine AWo.nil trivial ?_
    refine AW.ret ?_
    refine thenA_ret ?_
    refine RetQ.gc [_] [] [.tmp 4] (.inl rfl) rfl (.tmp rfl .nil) rfl (.cons rfl rfl .nil) trivial (by decide) rfl
  ·
    have hlen : b.length ≤ 700 := by simpa using hb0
    refine AW.skip ?_
    refine thenA_normal ?_
    refine AW.seqR ?_
    refine AWo.pure (PureOp.move rfl) rfl rfl ?_
    refine AWo.pure (PureOp.move rfl) rfl rfl ?_
    refine AWo.callX (count_ctr (by omega)) bd67 [] [] rfl (.cons rfl (.cons rfl .nil)) rfl (.cons rfl rfl (.cons rfl rfl .nil)) .nil rfl .nil frN (by decide) (.cons rfl rfl (.cons rfl rfl .nil)) rfl rfl rfl rfl ?_
    refine AWo.pure (PureOp.move rfl) rfl rfl ?_
    refine AWo.pure (PureOp.extract rfl rfl) rfl rfl ?_
    refine AWo.pure (PureOp.extract rfl rfl) rfl rfl ?_
    refine AWo.pure (PureOp.assign rfl) rfl rfl ?_
    refine AWo.pure (PureOp.assign rfl) rfl rfl ?_
    refine AWo.nil trivial ?_
    refine AW.seqR ?_
    refine AWo.pure (PureOp.move rfl) rfl rfl ?_
    refine AWo.pure (PureOp.move rfl) rfl rfl ?_
    refine AWo.callX (count15_ctr (by omega)) bd68 [] [] rfl (.cons rfl (.cons rfl .nil)) rfl (.cons rfl rfl (.cons rfl rfl .nil)) .nil rfl .nil frN (by decide) (.cons rfl rfl (.cons rfl rfl .nil)) rfl rfl rfl rfl ?_
    refine AWo.pure (PureOp.move rfl) rfl rfl ?_
    refine AWo.pure (PureOp.extract rfl rfl) rfl rfl ?_
    refine AWo.pure (PureOp.extract rfl rfl) rfl rfl ?_
    refine AWo.pure (PureOp.assign rfl) rfl rfl ?_
    refine AWo.pure (PureOp.assign rfl) rfl rfl ?_
    refine AWo.nil trivial ?_
    refine AW.seqR ?_
    refine AWo.pure (PureOp.move rfl) rfl rfl ?_
    refine AWo.pure (PureOp.move rfl) rfl rfl ?_
    first | refine AWo.pure ((PureOp.eqN rfl rfl).mono (v' := .bool true) (congrArg Value.bool (beq_self_eq_true _))) rfl rfl ?_ | refine AWo.pure ((PureOp.bin rfl rfl rfl).mono (v' := .bool true) (congrArg Value.bool (beq_self_eq_true _))) rfl rfl ?_
    refine AWo.pure (PureOp.move rfl) rfl rfl ?_
    refine AWo.pure (PureOp.move rfl) rfl rfl ?_
    refine AWo.pure (PureOp.move rfl) rfl rfl ?_
    first | refine AWo.pure ((PureOp.eqN rfl rfl).mono (v' := .bool true) (congrArg Value.bool (beq_self_eq_true _))) rfl rfl ?_ | refine AWo.pure ((PureOp.bin rfl rfl rfl).mono (v' := .bool true) (congrArg Value.bool (beq_self_eq_true _))) rfl rfl ?_
    refine AWo.pure (PureOp.pickT rfl rfl) rfl rfl ?_
    refine AWo.pure (PureOp.move rfl) rfl rfl ?_
    refine AWo.pure (PureOp.move rfl) rfl rfl ?_
    refine AWo.pure (PureOp.move rfl) rfl rfl ?_
    refine AWo.callX (check_ctr hb (by omega)) bd69 [] [] rfl (.cons rfl (.cons rfl .nil)) rfl (.cons rfl rfl (.cons rfl rfl .nil)) .nil rfl .nil frN (by decide) (.cons rfl rfl .nil) rfl rfl rfl rfl ?_
    refine AWo.pure (PureOp.move rfl) rfl rfl ?_
    refine AWo.pure (PureOp.move rfl) rfl rfl ?_
    refine AWo.callX (check15_ctr hb (by omega)) bd70 [] [] rfl (.cons rfl (.cons rfl .nil)) rfl (.cons rfl rfl (.cons rfl rfl .nil)) .nil rfl .nil frN (by decide) (.cons rfl rfl .nil) rfl rfl rfl rfl ?_
    first | refine AWo.pure ((PureOp.eqN rfl rfl).mono (v' := .bool true) (congrArg Value.bool (beq_self_eq_true _))) rfl rfl ?_ | refine AWo.pure ((PureOp.bin rfl rfl rfl).mono (v' := .bool true) (congrArg Value.bool (beq_self_eq_true _))) rfl rfl ?_
    refine AWo.pure (PureOp.pickT rfl rfl) rfl rfl ?_
    refine AWo.pure (PureOp.move rfl) rfl rfl ?_
    refine AWo.pure (PureOp.move rfl) rfl rfl ?_
    refine AWo.callX (size_ctr) bd71 [] [] rfl (.cons rfl .nil) rfl (.cons rfl rfl .nil) .nil rfl .nil frN (by decide) (.cons rfl rfl .nil) rfl rfl rfl rfl ?_
    refine AWo.pure (PureOp.move rfl) rfl rfl ?_
    refine AWo.callX (size15_ctr) bd72 [] [] rfl (.cons rfl .nil) rfl (.cons rfl rfl .nil) .nil rfl .nil frN (by decide) (.cons rfl rfl .nil) rfl rfl rfl rfl ?_
    first | refine AWo.pure ((PureOp.eqN rfl rfl).mono (v' := .bool true) (congrArg Value.bool (beq_self_eq_true _))) rfl rfl ?_ | refine AWo.pure ((PureOp.bin rfl rfl rfl).mono (v' := .bool true) (congrArg Value.bool (beq_self_eq_true _))) rfl rfl ?_
    refine AWo.pure (PureOp.pickT rfl rfl) rfl rfl ?_
    refine AWo.pure (PureOp.assign rfl) rfl rfl ?_
    refine AWo.nil trivial ?_
    refine AW.ret ?_
    refine RetQ.gc [_] [] [.tmp 4] (.inl rfl) rfl (.tmp rfl .nil) rfl (.cons rfl rfl .nil) trivial (by decide) rfl
end Go.Proofs.Ytpahdiljpnfkdaa
namespace Go.Proofs.Ytpahdiljpnfkdaa
open Go
namespace Head
set_option maxRecDepth 100000 in
theorem words : ∃ l, Try.prog.initOrder = String.ofList l ∧ (behindMainWord (wordsSigns l)).head? = some "cut".toList := ⟨_, rfl, by kernel_rfl⟩
theorem head_of {P : Program} (h : ∃ l, P.initOrder = String.ofList l ∧ (behindMainWord (wordsSigns l)).head? = some "cut".toList) :
    ∃ rest, behindMainWord (wordsSigns P.initOrder.toList) = "cut".toList :: rest := by
  obtain ⟨l, h, hh⟩ := h
  rw [h, String.toList_ofList]
  cases hb : behindMainWord (wordsSigns l) with
  | nil => rw [hb] at hh; cases hh
  | cons c r => rw [hb] at hh; simp only [List.head?_cons, Option.some.injEq] at hh; exact ⟨r, by rw [hh]⟩
theorem cut_words : (liftWords.all fun s => !("cut".toList == s.toList)) = true := by decide +kernel
theorem strip_cut (rest : List (List Char)) : stripLifts liftWords ("cut".toList :: rest) = ([], "cut".toList :: rest) := by
  have key : ∀ o : List String, (o.all fun s => !("cut".toList == s.toList)) = true → stripLifts o ("cut".toList :: rest) = ([], "cut".toList :: rest) := by
    intro o
    induction o with
    | nil => intro _; rfl
    | cons s o ih =>
      intro h
      simp only [List.all_cons, Bool.and_eq_true, Bool.not_eq_true'] at h
      rw [stripLifts, if_neg (by rw [h.1]; exact Bool.false_ne_true)]
      exact ih h.2
  exact key liftWords cut_words
theorem mayEnter_of {P : Program} {rest : List (List Char)} (hr : behindMainWord (wordsSigns P.initOrder.toList) = "cut".toList :: rest) (e1 : P.laysLater = false) (e2 : P.bearsReflect = false) (e3 : P.doorFits [] = true) : P.mayEnter = true := by
  unfold Program.mayEnter
  rw [hr]
  simp only [strip_cut, e1, e2, e3]
  simp
theorem headLifts_of {P : Program} {rest : List (List Char)} (hr : behindMainWord (wordsSigns P.initOrder.toList) = "cut".toList :: rest) : P.headLifts = [] := by
  unfold Program.headLifts
  rw [hr, strip_cut]
  simp
theorem cut_ne : ("cut".toList == "carried".toList) = false ∧ ("cut".toList == "gc".toList) = false ∧ ("cut".toList == "spec".toList) = false := by decide +kernel
theorem liftsFinal_of {P : Program} {rest : List (List Char)} (hr : behindMainWord (wordsSigns P.initOrder.toList) = "cut".toList :: rest) : P.liftsFinal = false := by
  unfold Program.liftsFinal
  rw [hr, headLifts_of hr]
  simp
theorem make_of {P : Program} {rest : List (List Char)} (hr : behindMainWord (wordsSigns P.initOrder.toList) = "cut".toList :: rest) : P.make = some .cut := by
  unfold Program.make
  rw [hr]
  simp only [cut_ne.2.1, cut_ne.2.2, beq_self_eq_true]
  simp
theorem laysLater : Try.prog.laysLater = false := by kernel_rfl
theorem bearsReflect : Try.prog.bearsReflect = false := by kernel_rfl
theorem doorFits : Try.prog.doorFits [] = true := by kernel_rfl
theorem mayEnter : Try.prog.mayEnter = true := let ⟨_, hr⟩ := head_of words; mayEnter_of hr laysLater bearsReflect doorFits
theorem liftsFinal : Try.prog.liftsFinal = false := let ⟨_, hr⟩ := head_of words; liftsFinal_of hr
theorem make_cut : Try.prog.make = some .cut := let ⟨_, hr⟩ := head_of words; make_of hr
theorem band {a b : Bool} (ha : a = true) (hb : b = true) : (a && b) = true := by rw [ha, hb]; rfl
end Head
end Go.Proofs.Ytpahdiljpnfkdaa
