/- What the proof stands on, part 6: the walk of each function, and plain laws of numbers. -/
import Derived.Test.YtpahdiljpnfkdaaK5
import Derived.Test.YtpahdiljpnfkdaaRows
import Derived.ProofKit
namespace Go.Proofs.Ytpahdiljpnfkdaa
open Go Sim
theorem coll_ctr {b : List Nat} {c : Nat} (hc : 1 ≤ c) (hc2 : c < 1000000) (hx : b.length < 1000000000) : GC Try.prog 141 [.func (.func 155) #[] #[.pointer (some ⟨0, 0, none⟩), .pointer (some ⟨1, 0, none⟩)]] [⟨[db b], false, 1⟩, ⟨[vi .i64 c], false, 1⟩] [.slice (some ⟨2, 0, none⟩) (chL c b (chunkN c b.length)).length 0] [⟨[db b], false, 1⟩, ⟨[vi .i64 c], false, 1⟩, ⟨(chL c b (chunkN c b.length)).map db, true, 1⟩] := by
 refine gi Try.func141 ?_
 refine zS ?_
 refine yA ?_
 refine zN (zS ?_)
 refine yM ?_
 refine yC (appseq_ctr hc hc2 hx) bd154 [(0, 0), (1, 0)] [5000] ?_ (hfit := (.clo rfl (cloM (f := db) (l := [b]) fun _ => rfl) (by intro h; exact h) (.flat rfl (flat1 rfl) (by intro h; exact h) .nil))) (hnew := (.keep rfl (.keep rfl (.new (clo_map_ren (cloM fun _ => rfl)) (OkL.clo (cloM fun _ => rfl)) .nil))))
 refine yA ?_
 refine zN (zE ?_)
 exact rq [5000] [.tmp 2] (hb := OutL.clo (c := [b].map db) rfl (cloM fun _ => rfl) (by intro h; exact h.elim id fun h => absurd h.1 (by simp)) (OutL.flat rfl (flat1 rfl) (by intro h; exact h.elim id fun h => absurd h.1 (by simp)) (OutL.clo rfl (cloM fun _ => rfl) (fun _ => rfl) trivial)))
theorem pcs_ch {t : Int} {b : List Nat} (h2 : t ≠ 2) (h3 : t ≠ 3) (h4 : t ≠ 4) : pcs t b = chL 31 b (chunkN 31 b.length) := by
 unfold pcs chL chunkN np
 rw [if_neg h2, if_neg h3, if_neg h4]
 refine List.map_congr_left fun i _ => ?_
 rw [pc, off, wd, if_neg h2, if_neg h3, if_neg h4, if_neg h2, if_neg h3, if_neg h4]
theorem wd_2 (k : Nat) : [8].getD (k % 1) 0 = wd 2 k := by rw [Nat.mod_one]; rfl
theorem wd_3 (k : Nat) : [32].getD (k % 1) 0 = wd 3 k := by rw [Nat.mod_one]; rfl
theorem wd_4 (k : Nat) : [31, 31, 31, 3].getD (k % 4) 0 = wd 4 k := by
 rw [show wd 4 k = if k % 4 = 3 then 3 else 31 from rfl]
 have h5 : k % 4 = 0 ∨ k % 4 = 1 ∨ k % 4 = 2 ∨ k % 4 = 3 := by omega
 rcases h5 with h5 | h5 | h5 | h5 <;> rw [h5] <;> rfl
theorem np_le {t : Int} {L : Nat} : np t L ≤ L := by unfold np; split <;> (try split) <;> (try split) <;> omega
theorem cut1_ctr {b : List Nat} (hL : b.length < 200000000) : GC Try.prog 118 [.int .i64 1, db b] [] [.slice (some ⟨0, 0, none⟩) (np 1 b.length) 0] [⟨(pcs 1 b).map db, true, 1⟩] := by
  refine gi Try.func118 ?_
  have hp := pcs_ch (t := 1) (b := b) (by decide) (by decide) (by decide)
  have hn : np 1 b.length = (chL 31 b (chunkN 31 b.length)).length := by rw [← hp, pcs_len]
  rw [hn, hp]
  refine zS ?_
  refine yA ?_
  refine zN (zS ?_)
  refine yM ?_
  refine yC (values1_ctr) bd113 [] [] ?_
  first | refine AWo.pure (PureOp.fldV1 tbok rfl rfl rfl rfl) rfl rfl ?_
  refine yA ?_
  refine zN (zQ (zS ?_))
  refine yM ?_
  refine yP (PureOp.nilEqNilS Try.underlying129 rfl) ?_
  refine zN (zC (zS ?_))
  refine yM ?_
  refine yC (chunkwD_ctr (b := b) (c := 31) (by decide)) bd142 [] [15000, 15001] ?_ (hnew := (.new (clo_map_ren (l := [b].map db) (cloM fun _ => rfl)) (OkL.clo (l := [b].map db) (cloM fun _ => rfl)) (.new (flat_map_ren (flat1 rfl)) (OkL.flat (flat1 rfl)) .nil)))
  refine yC (coll_ctr (b := b) (c := 31) (by decide) (by decide) (by omega)) bd141 [(15000, 0), (15001, 0)] [16000] ?_ (hfit := (.clo rfl (cloM (f := db) (l := [b]) fun _ => rfl) (by intro h; rfl) (.flat rfl (flat1 rfl) (by intro h; rfl) .nil))) (hnew := (.keep rfl (.keep rfl (.new (clo_map_ren (cloM fun _ => rfl)) (OkL.clo (cloM fun _ => rfl)) .nil))))
  refine yA ?_
  refine zN (zE (zU ?_))
  exact rq [16000] [.tmp 4] (hb := (OutL.clo rfl (cloM fun _ => rfl) (by intro h; rfl) trivial))
theorem cut0_ctr {t : Int} {b : List Nat} (h1 : t ≠ 1) (h2 : t ≠ 2) (h3 : t ≠ 3) (h4 : t ≠ 4) (hL : b.length < 200000000) : GC Try.prog 118 [.int .i64 t, db b] [] [.slice (some ⟨0, 0, none⟩) (np t b.length) 0] [⟨(pcs t b).map db, true, 1⟩] := by
  refine gi Try.func118 ?_
  have hp := pcs_ch (t := t) (b := b) h2 h3 h4
  have hn : np t b.length = (chL 31 b (chunkN 31 b.length)).length := by rw [← hp, pcs_len]
  rw [hn, hp]
  refine zS ?_
  refine yA ?_
  refine zN (zS ?_)
  refine yM ?_
  refine yC (values0_ctr h1 h2 h3 h4) bd113 [] [] ?_
  first | refine AWo.pure (PureOp.fldV1 tbok rfl rfl rfl rfl) rfl rfl ?_
  refine yA ?_
  refine zN (zQ (zS ?_))
  refine yM ?_
  refine yP (PureOp.nilEqNilS Try.underlying129 rfl) ?_
  refine zN (zC (zS ?_))
  refine yM ?_
  refine yC (chunkwD_ctr (b := b) (c := 31) (by decide)) bd142 [] [15000, 15001] ?_ (hnew := (.new (clo_map_ren (l := [b].map db) (cloM fun _ => rfl)) (OkL.clo (l := [b].map db) (cloM fun _ => rfl)) (.new (flat_map_ren (flat1 rfl)) (OkL.flat (flat1 rfl)) .nil)))
  refine yC (coll_ctr (b := b) (c := 31) (by decide) (by decide) (by omega)) bd141 [(15000, 0), (15001, 0)] [16000] ?_ (hfit := (.clo rfl (cloM (f := db) (l := [b]) fun _ => rfl) (by intro h; rfl) (.flat rfl (flat1 rfl) (by intro h; rfl) .nil))) (hnew := (.keep rfl (.keep rfl (.new (clo_map_ren (cloM fun _ => rfl)) (OkL.clo (cloM fun _ => rfl)) .nil))))
  refine yA ?_
  refine zN (zE (zU ?_))
  exact rq [16000] [.tmp 4] (hb := (OutL.clo rfl (cloM fun _ => rfl) (by intro h; rfl) trivial))
theorem cut2_ctr {b : List Nat} (hf : fits 2 b.length) (hL : b.length < 200000000) : GC Try.prog 118 [.int .i64 2, db b] [] [.slice (some ⟨0, 0, none⟩) (np 2 b.length) 0] [⟨(pcs 2 b).map db, true, 1⟩] := by
  have hnp : np 2 b.length ≤ b.length := np_le
  refine gi Try.func118 ?_
  refine zS ?_
  refine yA ?_
  refine zN (zS ?_)
  refine yM ?_
  refine yC (values2_ctr) bd113 [] [10000] ?_
  first | refine AWo.pure (PureOp.fldV1 tbok rfl rfl rfl rfl) rfl rfl ?_
  refine yA ?_
  refine zN (zQ (zS ?_))
  refine yM ?_
  refine yP (PureOp.slEqNil Try.underlying129 rfl (by decide)) ?_
  refine zN (zF (zK (zT (zS ?_))))
  refine yA ?_
  refine zN (zQ (zS ?_))
  refine yA ?_
  refine zN (zB ?_)
  refine AW.ghost 77000 1 rfl ?_
  refine AW.loopw (fun mm σ => ∃ k, (k ≤ np 2 b.length) ∧ mm = np 2 b.length - k ∧ σ = ⟨(upd (upd (upd (upd emp 1 (db (b.drop (off 2 k)))) 5 (.slice (some ⟨10000, 0, none⟩) 1 0)) 6 (.slice (some ⟨77000, 0, none⟩) k 0)) 7 (vi .i64 (k % 1))), (upd (upd emp 10000 ⟨[8].map (vi .i64), true, 1⟩) 77000 ⟨((List.range k).map (pc 2 b)).map db, true, 1⟩)⟩) (fm := []) (wk [10000, 77000]) ⟨0, Nat.zero_le _, rfl, rfl⟩ ?_
  rintro mm σ ⟨k, hk, rfl, rfl⟩
  refine zQ (zS ?_)
  refine yM ?_
  refine yP pD ?_
  refine yP (pGt (b := 0)) ?_
  refine zN ?_
  refine zA (fun hb0 => ?_) (fun hb0 => ?_)
  ·
    have h0 : 0 < (b.drop (off 2 k)).length := by simpa using hb0
    have hlt : off 2 k < b.length := by rw [List.length_drop] at h0; omega
    have hkn : k < np 2 b.length := (np_lt hf).2 hlt
    have hfit : wd 2 k ≤ (b.drop (off 2 k)).length := by have := off_fit hf (by decide) hlt; rw [List.length_drop]; omega
    refine zK (zT (zQ (zB (zS ?_))))
    refine yM ?_
    refine yM ?_
    refine yM ?_
    refine yM ?_
    refine yP (PureOp.idx1 tbok (j := k % 1) rfl rfl rfl rfl (by omega)) ?_
    refine AWo.loadM tbok 0 rfl rfl rfl (by show k % 1 < 1; omega) rfl rfl ?_
    rw [wd_2 k]
    refine yP ((PureOp.sliceD (l := 0) (h := wd 2 k) rfl .none (.some rfl) (tbok.sl _ _ rfl) (tbok.sz _ _ rfl) (Nat.zero_le _) hfit).mono (v' := db (pc 2 b k)) (by rw [db_part hfit (Nat.zero_le _), List.drop_zero, Nat.sub_zero]; rfl)) ?_
    refine AWo.buildSlice tbok 32000 [(0, db (pc 2 b k))] (out := [pc 2 b k].map db) rfl rfl (by decide) rfl rfl rfl (by decide) rfl rfl rfl rfl rfl ?_
    refine AWo.append tbok (all := ((List.range (k + 1)).map (pc 2 b)).map db) (news := [pc 2 b k].map db) 33000 rfl rfl rfl rfl (by simp) (by show List.take _ (List.drop 0 _) = _; rw [List.drop_zero]; exact List.take_of_length_le (by simp)) (by (simp; done)) (by decide) rfl rfl rfl (by decide) rfl rfl rfl (by omega) (by omega) (by rfl) (by rw [List.range_succ, List.map_append, List.map_append]; rfl) rfl rfl ?_
    refine yA ?_
    refine zN (zR ?_)
    refine yM ?_
    refine yM ?_
    refine yM ?_
    refine yP (PureOp.idx1 tbok (j := k % 1) rfl rfl rfl rfl (by omega)) ?_
    refine AWo.loadM tbok 0 rfl rfl rfl (by show k % 1 < 1; omega) rfl rfl ?_
    rw [wd_2 k]
    refine yP ((PureOp.sliceD (l := wd 2 k) (h := (b.drop (off 2 k)).length) rfl (.some rfl) .none (tbok.sl _ _ rfl) (tbok.sz _ _ rfl) hfit (Nat.le_refl _)).mono (v' := db (b.drop (off 2 (k + 1)))) (by rw [db_part (Nat.le_refl _) hfit, List.drop_drop, List.take_of_length_le (by rw [List.length_drop, List.length_drop]; omega), off_succ])) ?_
    refine yA ?_
    refine zN (zL (zT (zR ?_)))
    refine yM ?_
    refine yP (pAdd (b := 1)) ?_
    refine yM ?_
    refine yP pL ?_
    refine yP ((PureOp.remN rfl rfl (by decide)).mono (v' := vi .i64 ((k + 1) % 1)) (congrArg (vi .i64) (by omega))) ?_
    refine yA ?_
    refine zN (zT ?_)
    exact ⟨np 2 b.length - (k + 1), [(77000, 33000)], _, by omega, wk [10000, 77000], k + 1, by omega, rfl, rfl⟩
  ·
    have h0 : ¬ 0 < (b.drop (off 2 k)).length := by simpa using hb0
    obtain rfl : k = np 2 b.length := by
      refine Nat.le_antisymm hk (Nat.le_of_not_lt fun h => h0 ?_)
      have := (np_lt hf).1 h
      rw [List.length_drop]; omega
    refine zX (zV (zV (zH (zT (zS ?_)))))
    refine yM ?_
    refine yA ?_
    refine zN (zE ?_)
    exact rq [77000] [.tmp 4] (hb := (OutL.clo rfl (cloM fun _ => rfl) (by intro h; rfl) trivial))
theorem cut3_ctr {b : List Nat} (hf : fits 3 b.length) (hL : b.length < 200000000) : GC Try.prog 118 [.int .i64 3, db b] [] [.slice (some ⟨0, 0, none⟩) (np 3 b.length) 0] [⟨(pcs 3 b).map db, true, 1⟩] := by
  have hnp : np 3 b.length ≤ b.length := np_le
  refine gi Try.func118 ?_
  refine zS ?_
  refine yA ?_
  refine zN (zS ?_)
  refine yM ?_
  refine yC (values3_ctr) bd113 [] [10000] ?_
  first | refine AWo.pure (PureOp.fldV1 tbok rfl rfl rfl rfl) rfl rfl ?_
  refine yA ?_
  refine zN (zQ (zS ?_))
  refine yM ?_
  refine yP (PureOp.slEqNil Try.underlying129 rfl (by decide)) ?_
  refine zN (zF (zK (zT (zS ?_))))
  refine yA ?_
  refine zN (zQ (zS ?_))
  refine yA ?_
  refine zN (zB ?_)
  refine AW.ghost 77000 1 rfl ?_
  refine AW.loopw (fun mm σ => ∃ k, (k ≤ np 3 b.length) ∧ mm = np 3 b.length - k ∧ σ = ⟨(upd (upd (upd (upd emp 1 (db (b.drop (off 3 k)))) 5 (.slice (some ⟨10000, 0, none⟩) 1 0)) 6 (.slice (some ⟨77000, 0, none⟩) k 0)) 7 (vi .i64 (k % 1))), (upd (upd emp 10000 ⟨[32].map (vi .i64), true, 1⟩) 77000 ⟨((List.range k).map (pc 3 b)).map db, true, 1⟩)⟩) (fm := []) (wk [10000, 77000]) ⟨0, Nat.zero_le _, rfl, rfl⟩ ?_
  rintro mm σ ⟨k, hk, rfl, rfl⟩
  refine zQ (zS ?_)
  refine yM ?_
  refine yP pD ?_
  refine yP (pGt (b := 0)) ?_
  refine zN ?_
  refine zA (fun hb0 => ?_) (fun hb0 => ?_)
  ·
    have h0 : 0 < (b.drop (off 3 k)).length := by simpa using hb0
    have hlt : off 3 k < b.length := by rw [List.length_drop] at h0; omega
    have hkn : k < np 3 b.length := (np_lt hf).2 hlt
    have hfit : wd 3 k ≤ (b.drop (off 3 k)).length := by have := off_fit hf (by decide) hlt; rw [List.length_drop]; omega
    refine zK (zT (zQ (zB (zS ?_))))
    refine yM ?_
    refine yM ?_
    refine yM ?_
    refine yM ?_
    refine yP (PureOp.idx1 tbok (j := k % 1) rfl rfl rfl rfl (by omega)) ?_
    refine AWo.loadM tbok 0 rfl rfl rfl (by show k % 1 < 1; omega) rfl rfl ?_
    rw [wd_3 k]
    refine yP ((PureOp.sliceD (l := 0) (h := wd 3 k) rfl .none (.some rfl) (tbok.sl _ _ rfl) (tbok.sz _ _ rfl) (Nat.zero_le _) hfit).mono (v' := db (pc 3 b k)) (by rw [db_part hfit (Nat.zero_le _), List.drop_zero, Nat.sub_zero]; rfl)) ?_
    refine AWo.buildSlice tbok 32000 [(0, db (pc 3 b k))] (out := [pc 3 b k].map db) rfl rfl (by decide) rfl rfl rfl (by decide) rfl rfl rfl rfl rfl ?_
    refine AWo.append tbok (all := ((List.range (k + 1)).map (pc 3 b)).map db) (news := [pc 3 b k].map db) 33000 rfl rfl rfl rfl (by simp) (by show List.take _ (List.drop 0 _) = _; rw [List.drop_zero]; exact List.take_of_length_le (by simp)) (by (simp; done)) (by decide) rfl rfl rfl (by decide) rfl rfl rfl (by omega) (by omega) (by rfl) (by rw [List.range_succ, List.map_append, List.map_append]; rfl) rfl rfl ?_
    refine yA ?_
    refine zN (zR ?_)
    refine yM ?_
    refine yM ?_
    refine yM ?_
    refine yP (PureOp.idx1 tbok (j := k % 1) rfl rfl rfl rfl (by omega)) ?_
    refine AWo.loadM tbok 0 rfl rfl rfl (by show k % 1 < 1; omega) rfl rfl ?_
    rw [wd_3 k]
    refine yP ((PureOp.sliceD (l := wd 3 k) (h := (b.drop (off 3 k)).length) rfl (.some rfl) .none (tbok.sl _ _ rfl) (tbok.sz _ _ rfl) hfit (Nat.le_refl _)).mono (v' := db (b.drop (off 3 (k + 1)))) (by rw [db_part (Nat.le_refl _) hfit, List.drop_drop, List.take_of_length_le (by rw [List.length_drop, List.length_drop]; omega), off_succ])) ?_
    refine yA ?_
    refine zN (zL (zT (zR ?_)))
    refine yM ?_
    refine yP (pAdd (b := 1)) ?_
    refine yM ?_
    refine yP pL ?_
    refine yP ((PureOp.remN rfl rfl (by decide)).mono (v' := vi .i64 ((k + 1) % 1)) (congrArg (vi .i64) (by omega))) ?_
    refine yA ?_
    refine zN (zT ?_)
    exact ⟨np 3 b.length - (k + 1), [(77000, 33000)], _, by omega, wk [10000, 77000], k + 1, by omega, rfl, rfl⟩
  ·
    have h0 : ¬ 0 < (b.drop (off 3 k)).length := by simpa using hb0
    obtain rfl : k = np 3 b.length := by
      refine Nat.le_antisymm hk (Nat.le_of_not_lt fun h => h0 ?_)
      have := (np_lt hf).1 h
      rw [List.length_drop]; omega
    refine zX (zV (zV (zH (zT (zS ?_)))))
    refine yM ?_
    refine yA ?_
    refine zN (zE ?_)
    exact rq [77000] [.tmp 4] (hb := (OutL.clo rfl (cloM fun _ => rfl) (by intro h; rfl) trivial))
theorem cut4_ctr {b : List Nat} (hf : fits 4 b.length) (hL : b.length < 200000000) : GC Try.prog 118 [.int .i64 4, db b] [] [.slice (some ⟨0, 0, none⟩) (np 4 b.length) 0] [⟨(pcs 4 b).map db, true, 1⟩] := by
  have hnp : np 4 b.length ≤ b.length := np_le
  refine gi Try.func118 ?_
  refine zS ?_
  refine yA ?_
  refine zN (zS ?_)
  refine yM ?_
  refine yC (values4_ctr) bd113 [] [10000] ?_
  first | refine AWo.pure (PureOp.fldV1 tbok rfl rfl rfl rfl) rfl rfl ?_
  refine yA ?_
  refine zN (zQ (zS ?_))
  refine yM ?_
  refine yP (PureOp.slEqNil Try.underlying129 rfl (by decide)) ?_
  refine zN (zF (zK (zT (zS ?_))))
  refine yA ?_
  refine zN (zQ (zS ?_))
  refine yA ?_
  refine zN (zB ?_)
  refine AW.ghost 77000 1 rfl ?_
  refine AW.loopw (fun mm σ => ∃ k, (k ≤ np 4 b.length) ∧ mm = np 4 b.length - k ∧ σ = ⟨(upd (upd (upd (upd emp 1 (db (b.drop (off 4 k)))) 5 (.slice (some ⟨10000, 0, none⟩) 4 0)) 6 (.slice (some ⟨77000, 0, none⟩) k 0)) 7 (vi .i64 (k % 4))), (upd (upd emp 10000 ⟨[31, 31, 31, 3].map (vi .i64), true, 1⟩) 77000 ⟨((List.range k).map (pc 4 b)).map db, true, 1⟩)⟩) (fm := []) (wk [10000, 77000]) ⟨0, Nat.zero_le _, rfl, rfl⟩ ?_
  rintro mm σ ⟨k, hk, rfl, rfl⟩
  refine zQ (zS ?_)
  refine yM ?_
  refine yP pD ?_
  refine yP (pGt (b := 0)) ?_
  refine zN ?_
  refine zA (fun hb0 => ?_) (fun hb0 => ?_)
  ·
    have h0 : 0 < (b.drop (off 4 k)).length := by simpa using hb0
    have hlt : off 4 k < b.length := by rw [List.length_drop] at h0; omega
    have hkn : k < np 4 b.length := (np_lt hf).2 hlt
    have hfit : wd 4 k ≤ (b.drop (off 4 k)).length := by have := off_fit hf (by decide) hlt; rw [List.length_drop]; omega
    refine zK (zT (zQ (zB (zS ?_))))
    refine yM ?_
    refine yM ?_
    refine yM ?_
    refine yM ?_
    refine yP (PureOp.idx1 tbok (j := k % 4) rfl rfl rfl rfl (by omega)) ?_
    refine AWo.loadM tbok 0 rfl rfl rfl (by show k % 4 < 4; omega) rfl rfl ?_
    rw [wd_4 k]
    refine yP ((PureOp.sliceD (l := 0) (h := wd 4 k) rfl .none (.some rfl) (tbok.sl _ _ rfl) (tbok.sz _ _ rfl) (Nat.zero_le _) hfit).mono (v' := db (pc 4 b k)) (by rw [db_part hfit (Nat.zero_le _), List.drop_zero, Nat.sub_zero]; rfl)) ?_
    refine AWo.buildSlice tbok 32000 [(0, db (pc 4 b k))] (out := [pc 4 b k].map db) rfl rfl (by decide) rfl rfl rfl (by decide) rfl rfl rfl rfl rfl ?_
    refine AWo.append tbok (all := ((List.range (k + 1)).map (pc 4 b)).map db) (news := [pc 4 b k].map db) 33000 rfl rfl rfl rfl (by simp) (by show List.take _ (List.drop 0 _) = _; rw [List.drop_zero]; exact List.take_of_length_le (by simp)) (by (simp; done)) (by decide) rfl rfl rfl (by decide) rfl rfl rfl (by omega) (by omega) (by rfl) (by rw [List.range_succ, List.map_append, List.map_append]; rfl) rfl rfl ?_
    refine yA ?_
    refine zN (zR ?_)
    refine yM ?_
    refine yM ?_
    refine yM ?_
    refine yP (PureOp.idx1 tbok (j := k % 4) rfl rfl rfl rfl (by omega)) ?_
    refine AWo.loadM tbok 0 rfl rfl rfl (by show k % 4 < 4; omega) rfl rfl ?_
    rw [wd_4 k]
    refine yP ((PureOp.sliceD (l := wd 4 k) (h := (b.drop (off 4 k)).length) rfl (.some rfl) .none (tbok.sl _ _ rfl) (tbok.sz _ _ rfl) hfit (Nat.le_refl _)).mono (v' := db (b.drop (off 4 (k + 1)))) (by rw [db_part (Nat.le_refl _) hfit, List.drop_drop, List.take_of_length_le (by rw [List.length_drop, List.length_drop]; omega), off_succ])) ?_
    refine yA ?_
    refine zN (zL (zT (zR ?_)))
    refine yM ?_
    refine yP (pAdd (b := 1)) ?_
    refine yM ?_
    refine yP pL ?_
    refine yP ((PureOp.remN rfl rfl (by decide)).mono (v' := vi .i64 ((k + 1) % 4)) (congrArg (vi .i64) (by omega))) ?_
    refine yA ?_
    refine zN (zT ?_)
    exact ⟨np 4 b.length - (k + 1), [(77000, 33000)], _, by omega, wk [10000, 77000], k + 1, by omega, rfl, rfl⟩
  ·
    have h0 : ¬ 0 < (b.drop (off 4 k)).length := by simpa using hb0
    obtain rfl : k = np 4 b.length := by
      refine Nat.le_antisymm hk (Nat.le_of_not_lt fun h => h0 ?_)
      have := (np_lt hf).1 h
      rw [List.length_drop]; omega
    refine zX (zV (zV (zH (zT (zS ?_)))))
    refine yM ?_
    refine yA ?_
    refine zN (zE ?_)
    exact rq [77000] [.tmp 4] (hb := (OutL.clo rfl (cloM fun _ => rfl) (by intro h; rfl) trivial))
theorem cut_ctr {t : Int} {b : List Nat} (hf : fits t b.length) (hL : b.length < 200000000) : GC Try.prog 118 [.int .i64 t, db b] [] [.slice (some ⟨0, 0, none⟩) (np t b.length) 0] [⟨(pcs t b).map db, true, 1⟩] := by
  by_cases h1 : t = 1
  · subst h1; exact cut1_ctr hL
  by_cases h2 : t = 2
  · subst h2; exact cut2_ctr hf hL
  by_cases h3 : t = 3
  · subst h3; exact cut3_ctr hf hL
  by_cases h4 : t = 4
  · subst h4; exact cut4_ctr hf hL
  exact cut0_ctr h1 h2 h3 h4 hL
theorem pcs_getD {t : Int} {b : List Nat} {i : Nat} (hi : i < np t b.length) : (pcs t b).getD i [] = pc t b i := by
  rw [pcs, List.getD_eq_getElem?_getD, List.getElem?_map, List.getElem?_range hi]; rfl
def gP (t : Int) (d : List Nat) (i : Nat) : Fp := fp (num 256 (pc t d i))
theorem or8 {a b : Nat} (ha : a < 256) (hb : b < 256) : a ||| b * 2 ^ 8 % 18446744073709551616 = a + 256 * b := by
  rw [Nat.mod_eq_of_lt (by omega), Nat.or_comm, Nat.mul_comm b, ← Nat.two_pow_add_eq_or_of_lt (by omega : a < 2 ^ 8)]
  omega
theorem or16 {a b : Nat} (ha : a < 65536) (hb : b < 4294967296) : a ||| b * 2 ^ 16 % 18446744073709551616 = a + 65536 * b := by
  rw [Nat.mod_eq_of_lt (by omega), Nat.or_comm, Nat.mul_comm b, ← Nat.two_pow_add_eq_or_of_lt (by omega : a < 2 ^ 16)]
  omega
theorem rgt_len {x : Opn} (h : Rgt x) : x.d.length < 200000000 := by
  have h1 := lng_rgt h
  have hi := itC_inv h.1
  unfold lng at h1
  have h2 := szT_le x.t
  split at h1
  · have : x.c.toNat * szT x.t ≤ 1048576 * 96 := Nat.mul_le_mul (by omega) h2
    omega
  · omega
theorem rgt_nat {x : Opn} (h : Rgt x) : ∃ kn tn cn : Nat, x = ⟨kn, tn, cn, x.d⟩ ∧ kn ≤ 3 ∧ tn ≤ 4 ∧ cn ≤ 1048576 := by
  have hi := itC_inv h.1
  obtain ⟨k, t, c, d⟩ := x
  simp only at hi
  exact ⟨k.toNat, t.toNat, c.toNat, by congr 1 <;> omega, by omega, by omega, by omega⟩
theorem tobN_ctr {x : Opn} (hb : bd 256 x.d) (hl : x.d.length < 9223372036854775808) (hx : ¬ Rgt x) : GC Try.prog 74 [opV x] [] [.slice (some ⟨0, 0, none⟩) 0 0] [⟨(([] : List Nat)).map (vi .u8), true, 1⟩] := by
  refine gi Try.func74 ?_
  refine AW.ghost 77000 1 rfl ?_
  refine zS ?_
  refine AWo.box 2000 1 [.int .i64 x.k, .int .i64 x.t, .int .i64 x.c, db x.d] rfl rfl rfl rfl rfl ?_
  refine yA ?_
  refine zN (zQ (zS ?_))
  refine yLA ?_
  refine AWo.callX (v := .bool false) (opright_ctr hb hl) bd116 [] [] rfl (.cons rfl .nil) rfl (.clo rfl .nil) .nil rfl .nil frN (by decide) (.cons rfl rfl .nil) (congrArg Value.bool (decide_eq_false hx)) rfl rfl rfl ?_
  refine yP (PureOp.not rfl) ?_
  refine zN (zC (zS ?_))
  refine yA ?_
  refine zN (zE (zU ?_))
  exact rq [77000] [.tmp 2]
theorem tobY_ctr {kn tn cn : Nat} {d : List Nat} (hb : bd 256 d) (hk : kn ≤ 3) (ht : tn ≤ 4) (hc : cn ≤ 1048576) (hd : d.length < 200000000) (hl : d.length < 9223372036854775808) (hx : Rgt ⟨kn, tn, cn, d⟩) : GC Try.prog 74 [opV (Opn.mk kn tn cn d)] [] [.slice (some ⟨0, 0, none⟩) (6 + d.length) 0] [⟨(([kn % 256, tn % 256, cn % 256, cn / 2 ^ 8 % 256, cn / 2 ^ 16 % 256, cn / 2 ^ 24 % 256] ++ d)).map (vi .u8), true, 1⟩] := by
  refine gi Try.func74 ?_
  refine zS ?_
  refine AWo.box 2000 1 [vi .i64 kn, vi .i64 tn, vi .i64 cn, db d] rfl rfl rfl rfl rfl ?_
  refine yA ?_
  refine zN (zQ (zS ?_))
  refine yLA ?_
  refine AWo.callX (v := .bool true) (opright_ctr (x := ⟨kn, tn, cn, d⟩) hb hl) bd116 [] [] rfl (.cons rfl .nil) rfl (.clo rfl .nil) .nil rfl .nil frN (by decide) (.cons rfl rfl .nil) (congrArg Value.bool (decide_eq_true hx)) rfl rfl rfl ?_
  refine yP (PureOp.not rfl) ?_
  refine zN (zF (zK (zT (zS ?_))))
  refine yP pF ?_
  refine yL1 ?_
  refine yP (PureOp.cvtU tbok 256 rfl rfl rfl rfl rfl) ?_
  refine yP pF ?_
  refine yL1 ?_
  refine yP (PureOp.cvtU tbok 256 rfl rfl rfl rfl rfl) ?_
  refine yP pF ?_
  refine yL1 ?_
  refine yP (PureOp.cvtU tbok 256 rfl rfl rfl rfl rfl) ?_
  refine yP pF ?_
  refine yL1 ?_
  refine yP (PureOp.shrN (b := 8) 64 rfl rfl rfl (by decide)) ?_
  refine yP (PureOp.cvtU tbok 256 rfl rfl rfl rfl rfl) ?_
  refine yP pF ?_
  refine yL1 ?_
  refine yP (PureOp.shrN (b := 16) 64 rfl rfl rfl (by decide)) ?_
  refine yP (PureOp.cvtU tbok 256 rfl rfl rfl rfl rfl) ?_
  refine yP pF ?_
  refine yL1 ?_
  refine yP (PureOp.shrN (b := 24) 64 rfl rfl rfl (by decide)) ?_
  refine yP (PureOp.cvtU tbok 256 rfl rfl rfl rfl rfl) ?_
  refine AWo.buildSlice tbok 29000 [(0, vi .u8 (kn % 256)), (1, vi .u8 (tn % 256)), (2, vi .u8 (cn % 256)), (3, vi .u8 (cn / 2 ^ 8 % 256)), (4, vi .u8 (cn / 2 ^ 16 % 256)), (5, vi .u8 (cn / 2 ^ 24 % 256))] (out := [vi .u8 (kn % 256), vi .u8 (tn % 256), vi .u8 (cn % 256), vi .u8 (cn / 2 ^ 8 % 256), vi .u8 (cn / 2 ^ 16 % 256), vi .u8 (cn / 2 ^ 24 % 256)]) rfl rfl (by decide) rfl rfl rfl (by decide) rfl rfl rfl rfl rfl ?_
  refine yA ?_
  refine zN (zS ?_)
  refine yM ?_
  refine yP pF ?_
  refine AWo.loadX tbok 88000 rfl rfl rfl rfl rfl rfl rfl ?_
  refine AWo.append tbok (all := ([kn % 256, tn % 256, cn % 256, cn / 2 ^ 8 % 256, cn / 2 ^ 16 % 256, cn / 2 ^ 24 % 256] ++ d).map (vi .u8)) (news := d.map (vi .u8)) 33000 rfl rfl rfl rfl (by rfl) (by show List.take _ (List.drop 0 _) = _; rw [List.drop_zero]; exact List.take_of_length_le (by simp)) (by (simp; done)) (by decide) rfl rfl rfl (by decide) rfl rfl rfl (by omega) (by omega) (by exact oneM (fun _ => rfl) _) rfl rfl rfl ?_
  refine yA ?_
  refine zN (zE ?_)
  exact rq [33000] [.tmp 2]
theorem tobytes_ctr {x : Opn} (hb : bd 256 x.d) (hl : x.d.length < 9223372036854775808) : GC Try.prog 74 [opV x] [] [.slice (some ⟨0, 0, none⟩) (toB x).length 0] [⟨(toB x).map (vi .u8), true, 1⟩] := by
  by_cases hx : Rgt x
  · have hd := rgt_len hx
    obtain ⟨kn, tn, cn, e, hk, ht, hc⟩ := rgt_nat hx
    generalize x.d = d at *
    subst e
    have h := tobY_ctr hb hk ht hc hd hl hx
    have e2 : toB ⟨kn, tn, cn, d⟩ = [kn % 256, tn % 256, cn % 256, cn / 2 ^ 8 % 256, cn / 2 ^ 16 % 256, cn / 2 ^ 24 % 256] ++ d := by
      rw [toB, if_pos hx]; rfl
    rw [e2, List.length_append]
    exact h
  · rw [toB, if_neg hx]
    exact tobN_ctr hb hl hx
theorem tofN_ctr {x : Opn} (hb : bd 256 x.d) (hl : x.d.length < 9223372036854775808) (hx : ¬ Rgt x) : GC Try.prog 76 [opV x] [] [.slice (some ⟨0, 0, none⟩) 0 0] [⟨((([] : List Fp).map fe).flatten).map (vi .u64), true, 4⟩] := by
  refine gi Try.func76 ?_
  refine AW.ghost 77000 4 rfl ?_
  refine zS ?_
  refine AWo.box 2000 1 [.int .i64 x.k, .int .i64 x.t, .int .i64 x.c, db x.d] rfl rfl rfl rfl rfl ?_
  refine yA ?_
  refine zN (zQ (zS ?_))
  refine yLA ?_
  refine AWo.callX (v := .bool false) (opright_ctr hb hl) bd116 [] [] rfl (.cons rfl .nil) rfl (.clo rfl .nil) .nil rfl .nil frN (by decide) (.cons rfl rfl .nil) (congrArg Value.bool (decide_eq_false hx)) rfl rfl rfl ?_
  refine yP (PureOp.not rfl) ?_
  refine zN (zC (zS ?_))
  refine yA ?_
  refine zN (zE (zU ?_))
  exact rq [77000] [.tmp 2]
theorem tofY_ctr {kn tn cn : Nat} {d : List Nat} (hb : bd 256 d) (hk : kn ≤ 3) (ht : tn ≤ 4) (hc : cn ≤ 1048576) (hd : d.length < 200000000) (hl : d.length < 9223372036854775808) (hx : Rgt ⟨kn, tn, cn, d⟩) : GC Try.prog 76 [opV (Opn.mk kn tn cn d)] [] [.slice (some ⟨0, 0, none⟩) (np tn d.length + 1) 0] [⟨(((fp (kn + 256 * tn + 65536 * cn) :: (List.range (np tn d.length)).map (gP tn d)).map fe).flatten).map (vi .u64), true, 4⟩] := by
  have hnp : np tn d.length ≤ d.length := np_le
  refine gi Try.func76 ?_
  refine zS ?_
  refine AWo.box 2000 1 [vi .i64 kn, vi .i64 tn, vi .i64 cn, db d] rfl rfl rfl rfl rfl ?_
  refine yA ?_
  refine zN (zQ (zS ?_))
  refine yLA ?_
  refine AWo.callX (v := .bool true) (opright_ctr (x := ⟨kn, tn, cn, d⟩) hb hl) bd116 [] [] rfl (.cons rfl .nil) rfl (.clo rfl .nil) .nil rfl .nil frN (by decide) (.cons rfl rfl .nil) (congrArg Value.bool (decide_eq_true hx)) rfl rfl rfl ?_
  refine yP (PureOp.not rfl) ?_
  refine zN (zF (zK (zT (zS ?_))))
  refine yP pF ?_
  refine yL1 ?_
  refine yP (PureOp.cvtN tbok 18446744073709551616 rfl rfl rfl (by decide) (by decide) (by omega)) ?_
  refine yP pF ?_
  refine yL1 ?_
  refine yP (PureOp.cvtN tbok 18446744073709551616 rfl rfl rfl (by decide) (by decide) (by omega)) ?_
  refine yP (PureOp.shlUge (b := 8) 18446744073709551616 rfl rfl rfl rfl) ?_
  refine yP ((PureOp.orN (a := kn) (b := tn * 2 ^ 8 % 18446744073709551616) 18446744073709551616 rfl rfl (by decide) (by decide) (by omega) (by omega)).mono (v' := vi .u64 (kn + 256 * tn)) (congrArg (vi .u64) (or8 (by omega) (by omega)))) ?_
  refine yP pF ?_
  refine yL1 ?_
  refine yP (PureOp.cvtN tbok 18446744073709551616 rfl rfl rfl (by decide) (by decide) (by omega)) ?_
  refine yP (PureOp.shlUge (b := 16) 18446744073709551616 rfl rfl rfl rfl) ?_
  refine yP ((PureOp.orN (a := kn + 256 * tn) (b := cn * 2 ^ 16 % 18446744073709551616) 18446744073709551616 rfl rfl (by decide) (by decide) (by omega) (by omega)).mono (v' := vi .u64 (kn + 256 * tn + 65536 * cn)) (congrArg (vi .u64) (or16 (by omega) (by omega)))) ?_
  refine yC (fromuF_ctr (v := kn + 256 * tn + 65536 * cn) (by omega)) bd117 [] [] ?_
  refine AWo.buildSlice tbok 24000 [(0, .agg ((fe (fp (kn + 256 * tn + 65536 * cn))).map (vi .u64)).toArray)] (out := [fe (fp (kn + 256 * tn + 65536 * cn))].flatten.map (vi .u64)) rfl rfl (by decide) rfl rfl rfl (by decide) rfl (fillB1 (fe_len _)) rfl rfl rfl ?_
  refine yA ?_
  refine zN (zQ (zS ?_))
  refine yP pF ?_
  refine yL1 ?_
  refine yP pF ?_
  refine yL1 ?_
  refine yC (cut_ctr (t := tn) (b := d) (rgt_fits hx) (by omega)) bd118 [] [29000] ?_ (hnew := (.new (clo_map_ren (cloM fun _ => rfl)) (OkL.clo (cloM fun _ => rfl)) .nil))
  refine yP pL ?_
  refine yM ?_
  refine zN (zB ?_)
  refine AW.loopw (fun mm σ => ∃ i, (i ≤ np tn d.length) ∧ mm = np tn d.length - i ∧ σ = ⟨(upd (upd (upd (upd emp 3 (.slice (some ⟨24000, 0, none⟩) (i + 1) 0)) 28 (.slice (some ⟨29000, 0, none⟩) (np tn d.length) 0)) 29 (vi .i64 (np tn d.length))) 30 (vi .i64 i)), (upd (upd emp 29000 ⟨(pcs tn d).map db, true, 1⟩) 24000 ⟨(((fp (kn + 256 * tn + 65536 * cn) :: (List.range i).map (gP tn d)).map fe).flatten).map (vi .u64), true, 4⟩)⟩) (fm := []) (wk [29000, 24000]) ⟨0, Nat.zero_le _, rfl, rfl⟩ ?_
  rintro mm σ ⟨i, hik, rfl, rfl⟩
  refine zS ?_
  refine yP pLt ?_
  refine zN (zQ ?_)
  refine zA (fun hb0 => ?_) (fun hb0 => ?_)
  ·
    have hi : i < np tn d.length := by simpa using hb0
    refine zK (zT (zQ (zB (zS ?_))))
    refine yP pJ ?_
    refine AWo.loadM tbok [] rfl rfl rfl (by rw [pcs_len]; exact hi) rfl rfl ?_
    rw [pcs_getD hi]
    refine yA ?_
    refine zN (zR ?_)
    refine yM ?_
    refine yM ?_
    refine yC (fromwideFd (b := pc tn d i) (bd_part hb _ _) (by rw [pc_len]; have := wd_le tn i; omega)) bd64 [] [] ?_
    refine AWo.buildSlice tbok 38000 [(0, .agg ((fe (fp (num 256 (pc tn d i)))).map (vi .u64)).toArray)] (out := [fe (fp (num 256 (pc tn d i)))].flatten.map (vi .u64)) rfl rfl (by decide) rfl rfl rfl (by decide) rfl (fillB1 (fe_len _)) rfl rfl rfl ?_
    refine AWo.append tbok (all := (((fp (kn + 256 * tn + 65536 * cn) :: (List.range (i + 1)).map (gP tn d)).map fe).flatten).map (vi .u64)) (news := [fe (fp (num 256 (pc tn d i)))].flatten.map (vi .u64)) 39000 rfl rfl rfl rfl (by rw [FF_len]; simp) (by show List.take _ (List.drop 0 _) = _; rw [List.drop_zero]; exact List.take_of_length_le (by simp)) (by simp; done) (by decide) rfl rfl rfl (by decide) rfl rfl rfl (by omega) (by omega) (oneM (fun _ => rfl) _) (by rw [List.range_succ, List.map_append, ← List.cons_append, List.map_append, List.flatten_append, List.map_append]; rfl) rfl rfl ?_
    refine yA ?_
    refine zN (zL (zT (zR ?_)))
    refine yP (pAdd (b := 1)) ?_
    refine yM ?_
    refine zN (zT ?_)
    exact ⟨np tn d.length - (i + 1), [(24000, 39000)], _, by omega, wk [29000, 24000], i + 1, by omega, rfl, rfl⟩
  ·
    obtain rfl : i = np tn d.length := by simp at hb0; omega
    refine zX (zV (zV (zH (zT (zS ?_)))))
    refine yM ?_
    refine yA ?_
    refine zN (zE ?_)
    exact rq [24000] [.tmp 2]
theorem tofields_ctr {x : Opn} (hb : bd 256 x.d) (hl : x.d.length < 9223372036854775808) : GC Try.prog 76 [opV x] [] [.slice (some ⟨0, 0, none⟩) (toF x).length 0] [⟨(((toF x).map fe).flatten).map (vi .u64), true, 4⟩] := by
  by_cases hx : Rgt x
  · have hd := rgt_len hx
    obtain ⟨kn, tn, cn, e, hk, ht, hc⟩ := rgt_nat hx
    generalize x.d = d at *
    subst e
    have h := tofY_ctr hb hk ht hc hd hl hx
    have e2 : toF ⟨kn, tn, cn, d⟩ = (fp (kn + 256 * tn + 65536 * cn) :: (List.range (np tn d.length)).map (gP tn d)) := by
      rw [toF, if_pos hx, pcs, List.map_map]; rfl
    have e3 : (toF ⟨kn, tn, cn, d⟩).length = np tn d.length + 1 := by rw [toF_len hx, Nat.add_comm]
    rw [e3, e2]
    exact h
  · rw [toF, if_neg hx]
    exact tofN_ctr hb hl hx
end Go.Proofs.Ytpahdiljpnfkdaa
namespace Go.Proofs.Ytpahdiljpnfkdaa
open Go Sim
theorem rgtX : Rgt (⟨1, 1, 2, [1, 2]⟩ : Opn) := by
 refine ⟨rfl, ?_⟩
 rw [if_pos rfl]
 refine ⟨rfl, ?_⟩
 refine ck_ok rfl (fun i _ => ?_)
 rw [vC, if_neg (by decide), if_neg (by decide)]
theorem toBX : toB (⟨1, 1, 2, [1, 2]⟩ : Opn) = [1, 1, 2, 0, 0, 0, 1, 2] := by rw [toB, if_pos rgtX]; rfl
theorem tobX_ctr : GC Try.prog 74 [opV (⟨1, 1, 2, [1, 2]⟩ : Opn)] [] [.slice (some ⟨0, 0, none⟩) 8 0] [⟨([1, 1, 2, 0, 0, 0, 1, 2]).map (vi .u8), true, 1⟩] := by
 have h := tobytes_ctr (x := (⟨1, 1, 2, [1, 2]⟩ : Opn)) (fun x hx => by simp at hx; omega) (by decide)
 rw [toBX] at h
 exact h
theorem tofX_ctr : GC Try.prog 76 [opV (⟨1, 1, 2, [1, 2]⟩ : Opn)] [] [.slice (some ⟨0, 0, none⟩) 2 0] [⟨(((toF (⟨1, 1, 2, [1, 2]⟩ : Opn)).map fe).flatten).map (vi .u64), true, 4⟩] := by
 have h := tofields_ctr (x := (⟨1, 1, 2, [1, 2]⟩ : Opn)) (fun x hx => by simp at hx; omega) (by decide)
 rw [show (toF (⟨1, 1, 2, [1, 2]⟩ : Opn)).length = 2 by rw [toF_len rgtX]; rfl] at h
 exact h
theorem speaks15_ctr : GC Try.prog 66 [] [] [.bool true] [] := by
 refine gi Try.func66 ?_
 refine zS ?_
 refine yA ?_
 refine zN (zS ?_)
 refine AWo.buildSliceF tbok 3000 [(0, vi .u8 1), (1, vi .u8 2)] (out := [vi .u8 1, vi .u8 2]) rfl rfl (by decide) rfl rfl rfl (by decide) rfl rfl rfl rfl (fun x hx => by simp at hx; rcases hx with rfl | rfl <;> rfl) rfl rfl ?_
 refine yP ((PureOp.buildStruct [(0, vi .i64 1), (1, vi .i64 1), (2, vi .i64 2), (3, db [1, 2])] pl96.choose_spec.1 zr96 (by decide) pl96.choose_spec.2 rfl rfl).mono (v' := .agg #[vi .i64 1, vi .i64 1, vi .i64 2, db [1, 2]]) rfl) ?_
 refine yN 2000 1 _ ?_
 refine AWo.storeAllN (vs := [vi .i64 1, vi .i64 1, vi .i64 2, db [1, 2]]) tbok rfl rfl rfl rfl rfl rfl rfl rfl ?_
 refine zN ?_
 refine AW.seqD mixed ?_
 refine yLA ?_
 refine yC (tobX_ctr) bd74 [] [6000] ?_ (hargs := (.clo rfl .nil))
 refine AWo.bytesStr tbok ([1, 1, 2, 0, 0, 0, 1, 2]) rfl rfl (List.take_of_length_le (by simp)) (rfl) rfl Try.underlying5 Try.underlying9 rfl rfl ?_
 refine AWo.buildSlice tbok 8000 [(0, vi .u8 1), (1, vi .u8 1), (2, vi .u8 2), (3, vi .u8 0), (4, vi .u8 0), (5, vi .u8 0), (6, vi .u8 1), (7, vi .u8 2)] (out := [vi .u8 1, vi .u8 1, vi .u8 2, vi .u8 0, vi .u8 0, vi .u8 0, vi .u8 1, vi .u8 2]) rfl rfl (by decide) rfl rfl rfl (by decide) rfl rfl rfl rfl rfl ?_
 refine AWo.bytesStr tbok ([1, 1, 2, 0, 0, 0, 1, 2]) rfl rfl (List.take_of_length_le (by simp)) (rfl) rfl Try.underlying5 Try.underlying9 rfl rfl ?_
 refine yP (PureOp.sameStr rfl rfl) ?_
 refine yM ?_
 refine yLA ?_
 refine yC (tofX_ctr) bd76 [] [13000] ?_ (hargs := (.clo rfl .nil))
 refine yP pL ?_
 refine yP ((PureOp.eqN (b := 2) rfl rfl).mono (v' := .bool true) (congrArg Value.bool (rfl))) ?_
 refine yP pT ?_
 refine yA ?_
 refine zD (zE ?_)
 exact rq [] [.tmp 0]
end Go.Proofs.Ytpahdiljpnfkdaa
namespace Go.Proofs.Ytpahdiljpnfkdaa
open Go Sim
theorem ofop_ctr {x : Opn} : GC Try.prog 75 [opV x] [] [opV x] [] := by
  refine gi Try.func75 ?_
  refine zS ?_
  refine AWo.box 2000 1 [.int .i64 x.k, .int .i64 x.t, .int .i64 x.c, db x.d] rfl rfl rfl rfl rfl ?_
  refine yN 3000 1 _ ?_
  refine zN (zS ?_)
  refine yP pF ?_
  refine yL1 ?_
  refine yP pF ?_
  refine yL1 ?_
  refine yP pF ?_
  refine yL1 ?_
  refine yP pF ?_
  refine yL1 ?_
  refine yP ((PureOp.buildStruct [(0, .int .i64 x.k), (1, .int .i64 x.t), (2, .int .i64 x.c), (3, db x.d)] pl96.choose_spec.1 zr96 (by decide) pl96.choose_spec.2 rfl rfl).mono (v' := .agg #[.int .i64 x.k, .int .i64 x.t, .int .i64 x.c, db x.d]) rfl) ?_
  refine AWo.storeAllN (vs := [.int .i64 x.k, .int .i64 x.t, .int .i64 x.c, db x.d]) tbok rfl rfl rfl rfl rfl rfl rfl rfl ?_
  refine zN (zE ?_)
  exact rq [] [.cell 2 96] (hres := (.clo rfl .nil))
end Go.Proofs.Ytpahdiljpnfkdaa
namespace Go.Proofs.Ytpahdiljpnfkdaa
open Go Sim
theorem and255 (n : Nat) : n &&& 255 = n % 256 := Nat.and_two_pow_sub_one_eq_mod n 8
theorem begun_ctr {n : Nat} (hn : n < 18446744073709551616) : GC Try.prog 119 [vi .u64 (n)] [] [.agg #[vi .i64 (n % 256), vi .i64 (n / 256 % 256), vi .i64 (n / 65536), .slice none 0 0], .bool (decide (itC (bgn n).k (bgn n).t (bgn n).c = 0))] [] := by
  refine gi Try.func119 ?_
  refine zS ?_
  refine yN 3000 1 _ ?_
  refine yA ?_
  refine zN (zS ?_)
  refine yM ?_
  refine yP ((PureOp.andN (a := n) (b := 255) 18446744073709551616 rfl rfl (by decide) (by decide) (by omega) (by omega)).mono (v' := vi .u64 (n % 256)) (congrArg (vi .u64) (and255 _))) ?_
  refine yP (PureOp.cvtN (a := n % 256) tbok 9223372036854775808 rfl rfl rfl (by decide) (by decide) (by omega)) ?_
  refine yM ?_
  refine yP ((PureOp.shrN (a := n) (b := 8) 64 rfl rfl rfl (by decide)).mono (v' := vi .u64 (n / 256)) rfl) ?_
  refine yP ((PureOp.andN (a := n / 256) (b := 255) 18446744073709551616 rfl rfl (by decide) (by decide) (by omega) (by omega)).mono (v' := vi .u64 (n / 256 % 256)) (congrArg (vi .u64) (and255 _))) ?_
  refine yP (PureOp.cvtN (a := n / 256 % 256) tbok 9223372036854775808 rfl rfl rfl (by decide) (by decide) (by omega)) ?_
  refine yM ?_
  refine yP ((PureOp.shrN (a := n) (b := 16) 64 rfl rfl rfl (by decide)).mono (v' := vi .u64 (n / 65536)) rfl) ?_
  refine yP (PureOp.cvtN (a := n / 65536) tbok 9223372036854775808 rfl rfl rfl (by decide) (by decide) (by omega)) ?_
  refine yP ((PureOp.buildStruct [(0, vi .i64 (n % 256)), (1, vi .i64 (n / 256 % 256)), (2, vi .i64 (n / 65536))] pl96.choose_spec.1 zr96 (by decide) pl96.choose_spec.2 rfl rfl).mono (v' := .agg #[vi .i64 (n % 256), vi .i64 (n / 256 % 256), vi .i64 (n / 65536), .slice none 0 0]) rfl) ?_
  refine yN 5000 1 _ ?_
  refine AWo.storeAllN (vs := [vi .i64 (n % 256), vi .i64 (n / 256 % 256), vi .i64 (n / 65536), .slice none 0 0]) tbok rfl rfl rfl rfl rfl rfl rfl rfl ?_
  refine zN ?_
  refine AW.seqD mixed ?_
  refine yLA ?_
  refine yP pF ?_
  refine yL1 ?_
  refine yP pF ?_
  refine yL1 ?_
  refine yP pF ?_
  refine yL1 ?_
  refine yP ((PureOp.buildStruct [(0, vi .i64 (n % 256)), (1, vi .i64 (n / 256 % 256)), (2, vi .i64 (n / 65536))] pl155.choose_spec.1 zr155 (by decide) pl155.choose_spec.2 rfl rfl).mono (v' := itV (bgn n).k (bgn n).t (bgn n).c) rfl) ?_
  refine yC (itck_ctr (k := (bgn n).k) (t := (bgn n).t) (c := (bgn n).c)) bd140 [] [] ?_
  refine yP ((PureOp.eqN (b := 0) rfl rfl).mono (v' := .bool (decide (itC (bgn n).k (bgn n).t (bgn n).c = 0))) rfl) ?_
  refine AWo.storeAllN (vs := [vi .i64 (n % 256), vi .i64 (n / 256 % 256), vi .i64 (n / 65536), .slice none 0 0]) tbok rfl rfl rfl rfl rfl rfl rfl rfl ?_
  refine yA ?_
  refine zD (zE ?_)
  exact rq [] [.cell 2 96, .tmp 3]
theorem same15_ctr {x : Opn} : GC Try.prog 80 [opV x, opV x] [] [.bool true] [] := by
  refine gi Try.func80 ?_
  refine zS ?_
  refine AWo.box 3000 1 [.int .i64 x.k, .int .i64 x.t, .int .i64 x.c, db x.d] rfl rfl rfl rfl rfl ?_
  refine AWo.box 4000 1 [.int .i64 x.k, .int .i64 x.t, .int .i64 x.c, db x.d] rfl rfl rfl rfl rfl ?_
  refine yA ?_
  refine zN (zS ?_)
  refine yP pF ?_
  refine yL1 ?_
  refine yP pF ?_
  refine yL1 ?_
  refine yP ((PureOp.bin rfl rfl rfl).mono (v' := .bool true) (congrArg Value.bool (beq_self_eq_true _))) ?_
  refine yM ?_
  refine yP pF ?_
  refine yL1 ?_
  refine yP pF ?_
  refine yL1 ?_
  refine yP ((PureOp.bin rfl rfl rfl).mono (v' := .bool true) (congrArg Value.bool (beq_self_eq_true _))) ?_
  refine yP pT ?_
  refine yM ?_
  refine yP pF ?_
  refine yL1 ?_
  refine yP pF ?_
  refine yL1 ?_
  refine yP ((PureOp.bin rfl rfl rfl).mono (v' := .bool true) (congrArg Value.bool (beq_self_eq_true _))) ?_
  refine yP pT ?_
  refine yM ?_
  refine yP pF ?_
  refine AWo.loadX tbok 99000 rfl rfl rfl rfl rfl rfl rfl ?_
  refine AWo.bytesStr tbok (x.d) rfl rfl (List.take_of_length_le (by simp)) (rfl) rfl Try.underlying5 Try.underlying9 rfl rfl ?_
  refine yP pF ?_
  refine AWo.loadX tbok 99001 rfl rfl rfl rfl rfl rfl rfl ?_
  refine AWo.bytesStr tbok (x.d) rfl rfl (List.take_of_length_le (by simp)) (rfl) rfl Try.underlying5 Try.underlying9 rfl rfl ?_
  refine yP (PureOp.sameStr rfl rfl) ?_
  refine yP pT ?_
  refine yA ?_
  refine zN (zE ?_)
  exact rq [] [.tmp 4]
theorem long1_ctr {t : Int} {cn : Nat} {d : List Nat} (hc : cn ≤ 1048576) : GC Try.prog 120 [opV ⟨1, t, cn, d⟩] [] [vi .i64 (cn * szT t)] [] := by
  have hm : cn * szT t < 9223372036854775808 := Nat.lt_of_le_of_lt (Nat.mul_le_mul hc (szT_le t)) (by decide)
  refine gi Try.func120 ?_
  refine zS ?_
  refine AWo.box 2000 1 [.int .i64 1, .int .i64 t, vi .i64 cn, db d] rfl rfl rfl rfl rfl ?_
  refine yA ?_
  refine zN (zQ (zS ?_))
  refine yP pF ?_
  refine yL1 ?_
  refine yP ((PureOp.neN (b := 1) rfl rfl).mono (v' := .bool false) (congrArg Value.bool (rfl))) ?_
  refine zN (zF (zK (zT ?_)))
  refine AW.seqD mixed ?_
  refine yP pF ?_
  refine yL1 ?_
  refine yP pF ?_
  refine yL1 ?_
  refine yC (size_ctr (t := t)) bd71 [] [] ?_
  refine yP (PureOp.mulI (a := cn) (b := szT t) rfl rfl hm) ?_
  refine yA ?_
  refine zD (zE ?_)
  exact rq [] [.tmp 2]
theorem long0_ctr {k t : Int} {cn : Nat} {d : List Nat} (hk : k ≠ 1) : GC Try.prog 120 [opV ⟨k, t, cn, d⟩] [] [vi .i64 0] [] := by
  refine gi Try.func120 ?_
  refine zS ?_
  refine AWo.box 2000 1 [.int .i64 k, .int .i64 t, vi .i64 cn, db d] rfl rfl rfl rfl rfl ?_
  refine yA ?_
  refine zN (zQ (zS ?_))
  refine yP pF ?_
  refine yL1 ?_
  refine yP ((PureOp.bin rfl rfl rfl).mono (v' := .bool true) (congrArg Value.bool (by simpa using hk))) ?_
  refine zN (zC (zS ?_))
  refine yA ?_
  refine zN (zE (zU ?_))
  exact rq [] [.tmp 2]
theorem long_ctr {k t : Int} {cn : Nat} {d : List Nat} (hc : cn ≤ 1048576) : GC Try.prog 120 [opV ⟨k, t, cn, d⟩] [] [vi .i64 (lng ⟨k, t, cn, d⟩)] [] := by
  by_cases hk : k = 1
  · subst hk
    exact long1_ctr hc
  · rw [show lng ⟨k, t, cn, d⟩ = 0 from if_neg hk]
    exact long0_ctr hk
theorem longN_ctr {k t : Int} {cn : Nat} (hc : cn ≤ 1048576) : GC Try.prog 120 [.agg #[.int .i64 k, .int .i64 t, vi .i64 cn, .slice none 0 0]] [] [vi .i64 (lng ⟨k, t, cn, []⟩)] [] := GC.opNil (long_ctr (d := []) hc)
theorem clone8_ctr {b : List Nat} {n : Nat} (hn : b.length = n) (hx : n < 200000000) : GC Try.prog 121 [.slice (some ⟨0, 0, none⟩) n 0] [⟨b.map (vi .u8), false, 1⟩] [.slice (some ⟨1, 0, none⟩) n 0] [⟨b.map (vi .u8), false, 1⟩, ⟨b.map (vi .u8), true, 1⟩] := by
  refine GC.intro Try.func121 rfl (by show 1 ≤ 8; decide) (Nat.le_succ _) ?_
  by_cases h0 : n = 0
  · subst h0
    obtain rfl : b = [] := List.eq_nil_of_length_eq_zero hn
    refine AW.nilCase (t := 0) rfl ?_ ?_
    · refine AW.ghost 9000 1 rfl ?_
      refine zS ?_
      refine yA ?_
      refine zN (zQ (zS ?_))
      refine yM ?_
      refine yP (PureOp.nilEqNilS Try.underlying41 rfl) ?_
      refine zN (zC (zS ?_))
      refine yA ?_
      refine zN (zE ?_)
      exact rq [9000] [.tmp 2]
    · refine zS ?_
      refine yA ?_
      refine zN (zQ (zS ?_))
      refine yM ?_
      refine yP (PureOp.slEqDead Try.underlying41 rfl) ?_
      refine zN (zF (zK (zT (zS ?_))))
      refine AWo.buildSlice tbok 6000 [] (out := []) rfl rfl (by decide) rfl rfl rfl (by decide) rfl rfl rfl rfl rfl ?_
      refine yM ?_
      refine yP (PureOp.append0 Try.underlying41 (tbok.sz _ _ rfl) rfl rfl) ?_
      refine yA ?_
      refine zN (zE ?_)
      exact rq [6000] [.tmp 2]
  · subst hn
    refine zS ?_
    refine yA ?_
    refine zN (zQ (zS ?_))
    refine yM ?_
    refine yP (PureOp.slEqNil Try.underlying41 rfl h0) ?_
    refine zN (zF (zK (zT (zS ?_))))
    refine AWo.buildSlice tbok 6000 [] (out := []) rfl rfl (by decide) rfl rfl rfl (by decide) rfl rfl rfl rfl rfl ?_
    refine yM ?_
    refine AWo.append tbok (all := b.map (vi .u8)) (news := b.map (vi .u8)) 8000 rfl rfl rfl rfl rfl (by rw [List.drop_zero]; exact List.take_of_length_le (by simp)) (by simp) (by decide) rfl rfl rfl (by decide) rfl rfl rfl (by omega) (by omega) (oneM (fun _ => rfl) _) rfl rfl rfl ?_
    refine yA ?_
    refine zN (zE ?_)
    exact rq [8000] [.tmp 2] (hres := (.cons rfl (by simp [ren, ren1, hmap]) .nil))
theorem clone8D {b : List Nat} (hx : b.length < 200000000) : GC Try.prog 121 [db b] [] [db b] [] := GC.deepen (clone8_ctr (b := b) rfl hx) (.deep .nil) (.new (Nat.le_refl _) rfl (by simp) (cloM fun _ => rfl) .nil)
theorem lw6_ctr {B : List Nat} (hb : bd 256 B) (h6 : 6 ≤ B.length) : GC Try.prog 95 [.slice (some ⟨0, 0, none⟩) 6 0] [⟨((B.take 6)).map (vi .u8), false, 1⟩] [.slice (some ⟨1, 0, none⟩) 1 0] [⟨((B.take 6)).map (vi .u8), false, 1⟩, ⟨(digs 18446744073709551616 1 (num 256 (B.take 6))).map (vi .u64), true, 1⟩] := by
  have hl : (B.take 6).length = 6 := by rw [List.length_take]; omega
  have h := lwords_ctr (a := B.take 6) (fun x hx => hb x (List.mem_of_mem_take hx)) (by rw [hl]; decide)
  rw [hl] at h
  exact h
theorem dig6 {B : List Nat} {N : Nat} (hN : num 256 (B.take 6) = N) (hl : N < 281474976710656) : (digs 18446744073709551616 1 (num 256 (B.take 6))).getD 0 0 = N := by
  rw [hN]
  show N % 18446744073709551616 = N
  exact Nat.mod_eq_of_lt (by omega)
theorem ofbytesA_ctr {B : List Nat} (hx : B.length < 4000000000) (h6 : B.length < 6) : GC Try.prog 78 [db B] [] [opV op0, vi .i64 0, vi .i64 2] [] := by
  refine gi Try.func78 ?_
  refine zS ?_
  refine yN 3000 1 _ ?_
  refine yA ?_
  refine yA ?_
  refine zN (zQ (zS ?_))
  refine yM ?_
  refine yP pD ?_
  refine yP ((PureOp.ltN (b := 6) rfl rfl).mono (v' := .bool true) (congrArg Value.bool (by simpa using h6))) ?_
  refine zN (zC (zS ?_))
  refine yP (PureOp.opNil ((PureOp.buildStruct [] pl96.choose_spec.1 zr96 (by decide) pl96.choose_spec.2 rfl rfl).mono (v' := .agg #[.int .i64 0, .int .i64 0, .int .i64 0, .slice none 0 0]) rfl)) ?_
  refine AWo.storeAllN (vs := [.int .i64 0, .int .i64 0, .int .i64 0, deep 0 1 []]) tbok rfl rfl rfl rfl rfl rfl rfl rfl ?_
  refine yA ?_
  refine yA ?_
  refine zN (zE (zU ?_))
  exact rq [] [.cell 2 96, .tmp 3, .tmp 4] (hres := (.clo rfl (.cons rfl rfl (.cons rfl rfl .nil))))
theorem ofbytesC_ctr {B : List Nat} {N : Nat} (hb : bd 256 B) (hx : B.length < 4000000000) (hN : num 256 (B.take 6) = N) (hNl : N < 281474976710656) (h6 : 6 ≤ B.length) (hi : ¬ itC (bgn N).k (bgn N).t (bgn N).c = 0) : GC Try.prog 78 [db B] [] [opV op0, vi .i64 0, vi .i64 3] [] := by
  refine gi Try.func78 ?_
  refine zS ?_
  refine yN 3000 1 _ ?_
  refine yA ?_
  refine yA ?_
  refine zN (zQ (zS ?_))
  refine yM ?_
  refine yP pD ?_
  refine yP ((PureOp.ltN (b := 6) rfl rfl).mono (v' := .bool false) (congrArg Value.bool (by simp; omega))) ?_
  refine zN (zF (zK (zT (zS ?_))))
  refine yM ?_
  refine AWo.pureX 88000 ((PureOp.sliceD (l := 0) (h := 6) rfl .none (.some rfl) (tbok.sl _ _ rfl) (tbok.sz _ _ rfl) (by decide) h6).mono (v' := deep 6 1 ((B.take 6).map (vi .u8))) (by rw [List.map_take]; rfl)) rfl rfl rfl ?_
  refine yC (lw6_ctr hb h6) bd95 [(88000, 0)] [15000] ?_
  refine yP (PureOp.idx1 tbok (j := 0) rfl rfl rfl rfl (by decide)) ?_
  refine AWo.loadM tbok 0 rfl rfl rfl (by rw [digs_len]; decide) rfl rfl ?_
  rw [dig6 hN hNl]
  refine yC (v := .tuple #[.agg #[vi .i64 (N % 256), vi .i64 (N / 256 % 256), vi .i64 (N / 65536), .slice none 0 0], .bool false]) (begun_ctr (n := N) (by omega)) bd119 [] [] ?_ (hv := (by rw [decide_eq_false hi]; rfl))
  refine yM ?_
  refine yP pX ?_
  refine yP pX ?_
  refine yN 6000 1 _ ?_
  refine AWo.storeAllN (vs := [vi .i64 (N % 256), vi .i64 (N / 256 % 256), vi .i64 (N / 65536), .slice none 0 0]) tbok rfl rfl rfl rfl rfl rfl rfl rfl ?_
  refine yA ?_
  refine zN (zQ (zB (zS ?_)))
  refine yM ?_
  refine yP (PureOp.not rfl) ?_
  refine yA ?_
  refine zN (zC (zS ?_))
  refine yP (PureOp.opNil ((PureOp.buildStruct [] pl96.choose_spec.1 zr96 (by decide) pl96.choose_spec.2 rfl rfl).mono (v' := .agg #[.int .i64 0, .int .i64 0, .int .i64 0, .slice none 0 0]) rfl)) ?_
  refine AWo.storeAllN (vs := [.int .i64 0, .int .i64 0, .int .i64 0, deep 0 1 []]) tbok rfl rfl rfl rfl rfl rfl rfl rfl ?_
  refine yA ?_
  refine yA ?_
  refine zN (zE (zI (zU ?_)))
  exact rq [] [.cell 2 96, .tmp 3, .tmp 4] (hres := (.clo rfl (.cons rfl rfl (.cons rfl rfl .nil))))
theorem ofbytesD_ctr {B : List Nat} {N : Nat} (hb : bd 256 B) (hx : B.length < 4000000000) (hN : num 256 (B.take 6) = N) (hNl : N < 281474976710656) (h6 : 6 ≤ B.length) (hi : itC (bgn N).k (bgn N).t (bgn N).c = 0) (hcn : N / 65536 ≤ 1048576) (hL : lng (bgn N) < 200000000) (hlg : B.length < 6 + lng (bgn N)) : GC Try.prog 78 [db B] [] [opV op0, vi .i64 0, vi .i64 2] [] := by
  refine gi Try.func78 ?_
  refine zS ?_
  refine yN 3000 1 _ ?_
  refine yA ?_
  refine yA ?_
  refine zN (zQ (zS ?_))
  refine yM ?_
  refine yP pD ?_
  refine yP ((PureOp.ltN (b := 6) rfl rfl).mono (v' := .bool false) (congrArg Value.bool (by simp; omega))) ?_
  refine zN (zF (zK (zT (zS ?_))))
  refine yM ?_
  refine AWo.pureX 88000 ((PureOp.sliceD (l := 0) (h := 6) rfl .none (.some rfl) (tbok.sl _ _ rfl) (tbok.sz _ _ rfl) (by decide) h6).mono (v' := deep 6 1 ((B.take 6).map (vi .u8))) (by rw [List.map_take]; rfl)) rfl rfl rfl ?_
  refine yC (lw6_ctr hb h6) bd95 [(88000, 0)] [15000] ?_
  refine yP (PureOp.idx1 tbok (j := 0) rfl rfl rfl rfl (by decide)) ?_
  refine AWo.loadM tbok 0 rfl rfl rfl (by rw [digs_len]; decide) rfl rfl ?_
  rw [dig6 hN hNl]
  refine yC (v := .tuple #[.agg #[vi .i64 (N % 256), vi .i64 (N / 256 % 256), vi .i64 (N / 65536), .slice none 0 0], .bool true]) (begun_ctr (n := N) (by omega)) bd119 [] [] ?_ (hv := (by rw [decide_eq_true hi]; rfl))
  refine yM ?_
  refine yP pX ?_
  refine yP pX ?_
  refine yN 6000 1 _ ?_
  refine AWo.storeAllN (vs := [vi .i64 (N % 256), vi .i64 (N / 256 % 256), vi .i64 (N / 65536), .slice none 0 0]) tbok rfl rfl rfl rfl rfl rfl rfl rfl ?_
  refine yA ?_
  refine zN (zQ (zB (zS ?_)))
  refine yM ?_
  refine yP (PureOp.not rfl) ?_
  refine yA ?_
  refine zN (zF (zS ?_))
  refine yM ?_
  refine yP pD ?_
  refine yP (pSub (b := 6)) ?_
  refine yLA ?_
  refine yC (v := vi .i64 (lng (bgn N))) (longN_ctr (k := (bgn N).k) (t := (bgn N).t) (cn := N / 65536) hcn) bd120 [] [] ?_
  refine yP ((PureOp.ltN rfl rfl).mono (v' := .bool true) (congrArg Value.bool (by simp; omega))) ?_
  refine yA ?_
  refine zN (zC (zS ?_))
  refine yP (PureOp.opNil ((PureOp.buildStruct [] pl96.choose_spec.1 zr96 (by decide) pl96.choose_spec.2 rfl rfl).mono (v' := .agg #[.int .i64 0, .int .i64 0, .int .i64 0, .slice none 0 0]) rfl)) ?_
  refine AWo.storeAllN (vs := [.int .i64 0, .int .i64 0, .int .i64 0, deep 0 1 []]) tbok rfl rfl rfl rfl rfl rfl rfl rfl ?_
  refine yA ?_
  refine yA ?_
  refine zN (zE (zI (zU ?_)))
  exact rq [] [.cell 2 96, .tmp 3, .tmp 4] (hres := (.clo rfl (.cons rfl rfl (.cons rfl rfl .nil))))
theorem ofbytesE_ctr {B : List Nat} {N : Nat} (hb : bd 256 B) (hx : B.length < 4000000000) (hN : num 256 (B.take 6) = N) (hNl : N < 281474976710656) (h6 : 6 ≤ B.length) (hi : itC (bgn N).k (bgn N).t (bgn N).c = 0) (hcn : N / 65536 ≤ 1048576) (hL : lng (bgn N) < 200000000) (hlg : 6 + lng (bgn N) ≤ B.length) (hdl : ((B.drop 6).take (lng (bgn N))).length = lng (bgn N)) (hr : ¬ Rgt ⟨(bgn N).k, (bgn N).t, (bgn N).c, (B.drop 6).take (lng (bgn N))⟩) : GC Try.prog 78 [db B] [] [opV op0, vi .i64 0, vi .i64 3] [] := by
  refine gi Try.func78 ?_
  refine zS ?_
  refine yN 3000 1 _ ?_
  refine yA ?_
  refine yA ?_
  refine zN (zQ (zS ?_))
  refine yM ?_
  refine yP pD ?_
  refine yP ((PureOp.ltN (b := 6) rfl rfl).mono (v' := .bool false) (congrArg Value.bool (by simp; omega))) ?_
  refine zN (zF (zK (zT (zS ?_))))
  refine yM ?_
  refine AWo.pureX 88000 ((PureOp.sliceD (l := 0) (h := 6) rfl .none (.some rfl) (tbok.sl _ _ rfl) (tbok.sz _ _ rfl) (by decide) h6).mono (v' := deep 6 1 ((B.take 6).map (vi .u8))) (by rw [List.map_take]; rfl)) rfl rfl rfl ?_
  refine yC (lw6_ctr hb h6) bd95 [(88000, 0)] [15000] ?_
  refine yP (PureOp.idx1 tbok (j := 0) rfl rfl rfl rfl (by decide)) ?_
  refine AWo.loadM tbok 0 rfl rfl rfl (by rw [digs_len]; decide) rfl rfl ?_
  rw [dig6 hN hNl]
  refine yC (v := .tuple #[.agg #[vi .i64 (N % 256), vi .i64 (N / 256 % 256), vi .i64 (N / 65536), .slice none 0 0], .bool true]) (begun_ctr (n := N) (by omega)) bd119 [] [] ?_ (hv := (by rw [decide_eq_true hi]; rfl))
  refine yM ?_
  refine yP pX ?_
  refine yP pX ?_
  refine yN 6000 1 _ ?_
  refine AWo.storeAllN (vs := [vi .i64 (N % 256), vi .i64 (N / 256 % 256), vi .i64 (N / 65536), .slice none 0 0]) tbok rfl rfl rfl rfl rfl rfl rfl rfl ?_
  refine yA ?_
  refine zN (zQ (zB (zS ?_)))
  refine yM ?_
  refine yP (PureOp.not rfl) ?_
  refine yA ?_
  refine zN (zF (zS ?_))
  refine yM ?_
  refine yP pD ?_
  refine yP (pSub (b := 6)) ?_
  refine yLA ?_
  refine yC (v := vi .i64 (lng (bgn N))) (longN_ctr (k := (bgn N).k) (t := (bgn N).t) (cn := N / 65536) hcn) bd120 [] [] ?_
  refine yP ((PureOp.ltN rfl rfl).mono (v' := .bool false) (congrArg Value.bool (by simp; omega))) ?_
  refine yA ?_
  refine zN (zF (zK (zL (zT (zS ?_)))))
  refine yM ?_
  refine yLA ?_
  refine yC (v := vi .i64 (lng (bgn N))) (longN_ctr (k := (bgn N).k) (t := (bgn N).t) (cn := N / 65536) hcn) bd120 [] [] ?_
  refine yP (PureOp.addI (a := 6) (b := lng (bgn N)) rfl rfl (by omega)) ?_
  refine yP ((PureOp.sliceD (l := 6) (h := 6 + lng (bgn N)) rfl (.some rfl) (.some rfl) (tbok.sl _ _ rfl) (tbok.sz _ _ rfl) (by omega) hlg).mono (v' := db ((B.drop 6).take (lng (bgn N)))) (by rw [db_part hlg (by omega), Nat.add_sub_cancel_left])) ?_
  refine yC (clone8D (b := (B.drop 6).take (lng (bgn N))) (by rw [hdl]; omega)) bd121 [] [] ?_
  refine yP pF ?_
  refine AWo.store1 tbok rfl rfl rfl rfl rfl (by simp) rfl rfl ?_
  refine zN (zQ (zS ?_))
  refine yLA ?_
  refine AWo.callX (v := .bool false) (opright_ctr (x := ⟨(bgn N).k, (bgn N).t, (bgn N).c, (B.drop 6).take (lng (bgn N))⟩) (bd_part hb _ _) (by show List.length ((B.drop 6).take (lng (bgn N))) < _; rw [hdl]; omega)) bd116 [] [] rfl (.cons rfl .nil) rfl (.clo rfl .nil) .nil rfl .nil frN (by decide) (.cons rfl rfl .nil) (congrArg Value.bool (decide_eq_false hr)) rfl rfl rfl ?_
  refine yP (PureOp.not rfl) ?_
  refine zN (zC (zS ?_))
  refine yP (PureOp.opNil ((PureOp.buildStruct [] pl96.choose_spec.1 zr96 (by decide) pl96.choose_spec.2 rfl rfl).mono (v' := .agg #[.int .i64 0, .int .i64 0, .int .i64 0, .slice none 0 0]) rfl)) ?_
  refine AWo.storeAllN (vs := [.int .i64 0, .int .i64 0, .int .i64 0, deep 0 1 []]) tbok rfl rfl rfl rfl rfl rfl rfl rfl ?_
  refine yA ?_
  refine yA ?_
  refine zN (zE (zU ?_))
  exact rq [] [.cell 2 96, .tmp 3, .tmp 4] (hres := (.clo rfl (.cons rfl rfl (.cons rfl rfl .nil))))
theorem ofbytesF_ctr {B : List Nat} {N : Nat} (hb : bd 256 B) (hx : B.length < 4000000000) (hN : num 256 (B.take 6) = N) (hNl : N < 281474976710656) (h6 : 6 ≤ B.length) (hi : itC (bgn N).k (bgn N).t (bgn N).c = 0) (hcn : N / 65536 ≤ 1048576) (hL : lng (bgn N) < 200000000) (hlg : 6 + lng (bgn N) ≤ B.length) (hdl : ((B.drop 6).take (lng (bgn N))).length = lng (bgn N)) (hr : Rgt ⟨(bgn N).k, (bgn N).t, (bgn N).c, (B.drop 6).take (lng (bgn N))⟩) : GC Try.prog 78 [db B] [] [opV (Opn.mk (bgn N).k (bgn N).t (bgn N).c ((B.drop 6).take (lng (bgn N)))), vi .i64 (6 + lng (bgn N)), vi .i64 0] [] := by
  refine gi Try.func78 ?_
  refine zS ?_
  refine yN 3000 1 _ ?_
  refine yA ?_
  refine yA ?_
  refine zN (zQ (zS ?_))
  refine yM ?_
  refine yP pD ?_
  refine yP ((PureOp.ltN (b := 6) rfl rfl).mono (v' := .bool false) (congrArg Value.bool (by simp; omega))) ?_
  refine zN (zF (zK (zT (zS ?_))))
  refine yM ?_
  refine AWo.pureX 88000 ((PureOp.sliceD (l := 0) (h := 6) rfl .none (.some rfl) (tbok.sl _ _ rfl) (tbok.sz _ _ rfl) (by decide) h6).mono (v' := deep 6 1 ((B.take 6).map (vi .u8))) (by rw [List.map_take]; rfl)) rfl rfl rfl ?_
  refine yC (lw6_ctr hb h6) bd95 [(88000, 0)] [15000] ?_
  refine yP (PureOp.idx1 tbok (j := 0) rfl rfl rfl rfl (by decide)) ?_
  refine AWo.loadM tbok 0 rfl rfl rfl (by rw [digs_len]; decide) rfl rfl ?_
  rw [dig6 hN hNl]
  refine yC (v := .tuple #[.agg #[vi .i64 (N % 256), vi .i64 (N / 256 % 256), vi .i64 (N / 65536), .slice none 0 0], .bool true]) (begun_ctr (n := N) (by omega)) bd119 [] [] ?_ (hv := (by rw [decide_eq_true hi]; rfl))
  refine yM ?_
  refine yP pX ?_
  refine yP pX ?_
  refine yN 6000 1 _ ?_
  refine AWo.storeAllN (vs := [vi .i64 (N % 256), vi .i64 (N / 256 % 256), vi .i64 (N / 65536), .slice none 0 0]) tbok rfl rfl rfl rfl rfl rfl rfl rfl ?_
  refine yA ?_
  refine zN (zQ (zB (zS ?_)))
  refine yM ?_
  refine yP (PureOp.not rfl) ?_
  refine yA ?_
  refine zN (zF (zS ?_))
  refine yM ?_
  refine yP pD ?_
  refine yP (pSub (b := 6)) ?_
  refine yLA ?_
  refine yC (v := vi .i64 (lng (bgn N))) (longN_ctr (k := (bgn N).k) (t := (bgn N).t) (cn := N / 65536) hcn) bd120 [] [] ?_
  refine yP ((PureOp.ltN rfl rfl).mono (v' := .bool false) (congrArg Value.bool (by simp; omega))) ?_
  refine yA ?_
  refine zN (zF (zK (zL (zT (zS ?_)))))
  refine yM ?_
  refine yLA ?_
  refine yC (v := vi .i64 (lng (bgn N))) (longN_ctr (k := (bgn N).k) (t := (bgn N).t) (cn := N / 65536) hcn) bd120 [] [] ?_
  refine yP (PureOp.addI (a := 6) (b := lng (bgn N)) rfl rfl (by omega)) ?_
  refine yP ((PureOp.sliceD (l := 6) (h := 6 + lng (bgn N)) rfl (.some rfl) (.some rfl) (tbok.sl _ _ rfl) (tbok.sz _ _ rfl) (by omega) hlg).mono (v' := db ((B.drop 6).take (lng (bgn N)))) (by rw [db_part hlg (by omega), Nat.add_sub_cancel_left])) ?_
  refine yC (clone8D (b := (B.drop 6).take (lng (bgn N))) (by rw [hdl]; omega)) bd121 [] [] ?_
  refine yP pF ?_
  refine AWo.store1 tbok rfl rfl rfl rfl rfl (by simp) rfl rfl ?_
  refine zN (zQ (zS ?_))
  refine yLA ?_
  refine AWo.callX (v := .bool true) (opright_ctr (x := ⟨(bgn N).k, (bgn N).t, (bgn N).c, (B.drop 6).take (lng (bgn N))⟩) (bd_part hb _ _) (by show List.length ((B.drop 6).take (lng (bgn N))) < _; rw [hdl]; omega)) bd116 [] [] rfl (.cons rfl .nil) rfl (.clo rfl .nil) .nil rfl .nil frN (by decide) (.cons rfl rfl .nil) (congrArg Value.bool (decide_eq_true hr)) rfl rfl rfl ?_
  refine yP (PureOp.not rfl) ?_
  refine zN (zF (zK (zT ?_)))
  refine AW.seqD mixed ?_
  refine yLA ?_
  refine yP pF ?_
  refine yL1 ?_
  refine yP pD ?_
  refine yP ((PureOp.addI (a := 6) (b := ((B.drop 6).take (lng (bgn N))).length) rfl rfl (by rw [hdl]; omega)).mono (v' := vi .i64 (6 + lng (bgn N))) (congrArg (fun z => vi .i64 (6 + z)) hdl)) ?_
  refine AWo.storeAllN (vs := [vi .i64 (N % 256), vi .i64 (N / 256 % 256), vi .i64 (N / 65536), db ((B.drop 6).take (lng (bgn N)))]) tbok rfl rfl rfl rfl rfl rfl rfl rfl ?_
  refine yA ?_
  refine yA ?_
  refine zD (zE ?_)
  exact rq [] [.cell 2 96, .tmp 3, .tmp 4] (hres := (.clo rfl (.cons rfl rfl (.cons rfl rfl .nil))))
theorem lng_lt {x : Opn} (h : itC x.k x.t x.c = 0) : lng x < 200000000 := by
  have hi := itC_inv h
  unfold lng
  split
  · have := Nat.mul_le_mul (show x.c.toNat ≤ 1048576 by omega) (szT_le x.t)
    omega
  · omega
theorem ofbytes_ctr {B : List Nat} (hb : bd 256 B) (hx : B.length < 4000000000) : GC Try.prog 78 [db B] [] [opV (ofB B).1, vi .i64 (ofB B).2.1, vi .i64 (ofB B).2.2] [] := by
  rcases Nat.lt_or_ge B.length 6 with h6 | h6
  · rw [show ofB B = (op0, 0, 2) from if_pos h6]
    exact ofbytesA_ctr hx h6
  obtain ⟨N, hN⟩ : ∃ N, num 256 (B.take 6) = N := ⟨_, rfl⟩
  have hNl : N < 281474976710656 := by
    have := num_lt (l := B.take 6) (fun x hx => hb x (List.mem_of_mem_take hx))
    rw [List.length_take, Nat.min_eq_left h6, hN] at this
    exact this
  by_cases hi : itC (bgn N).k (bgn N).t (bgn N).c = 0
  · have hcn : N / 65536 ≤ 1048576 := by
      have := (itC_inv hi).2.2.2.2.2.1
      change ((N / 65536 : Nat) : Int) ≤ 1048576 at this
      omega
    have hL := lng_lt hi
    rcases Nat.lt_or_ge B.length (6 + lng (bgn N)) with hlg | hlg
    · rw [show ofB B = (op0, 0, 2) by unfold ofB; rw [hN, if_neg (by omega), if_neg (by simpa using hi), if_pos hlg]]
      exact ofbytesD_ctr hb hx hN hNl h6 hi hcn hL hlg
    · have hdl : ((B.drop 6).take (lng (bgn N))).length = lng (bgn N) := by rw [List.length_take, List.length_drop]; omega
      by_cases hr : Rgt ⟨(bgn N).k, (bgn N).t, (bgn N).c, (B.drop 6).take (lng (bgn N))⟩
      · rw [show ofB B = (⟨(bgn N).k, (bgn N).t, (bgn N).c, (B.drop 6).take (lng (bgn N))⟩, 6 + lng (bgn N), 0) by unfold ofB; rw [hN, if_neg (by omega), if_neg (by simpa using hi), if_neg (by omega), if_pos hr]]
        exact ofbytesF_ctr hb hx hN hNl h6 hi hcn hL hlg hdl hr
      · rw [show ofB B = (op0, 0, 3) by unfold ofB; rw [hN, if_neg (by omega), if_neg (by simpa using hi), if_neg (by omega), if_neg hr]]
        exact ofbytesE_ctr hb hx hN hNl h6 hi hcn hL hlg hdl hr
  · rw [show ofB B = (op0, 0, 3) by unfold ofB; rw [hN, if_neg (by omega), if_pos hi]]
    exact ofbytesC_ctr hb hx hN hNl h6 hi
end Go.Proofs.Ytpahdiljpnfkdaa
namespace Go.Proofs.Ytpahdiljpnfkdaa
open Go Sim
theorem val_lt (x : Fp) : x.val < 256 ^ 32 := Nat.lt_of_lt_of_le x.isLt (by decide)
theorem digs_drop (B : Nat) : ∀ (p n v : Nat), p ≤ n → (digs B n v).drop p = digs B (n - p) (v / B ^ p)
  | 0, n, v, _ => by simp
  | p + 1, 0, v, h => absurd h (by omega)
  | p + 1, n + 1, v, h => by
    show (digs B n (v / B)).drop p = _
    rw [digs_drop B p n _ (by omega), Nat.div_div_eq_div_mul, Nat.add_sub_add_right, Nat.pow_succ, Nat.mul_comm]
theorem digs_take (B : Nat) : ∀ (p n v : Nat), p ≤ n → (digs B n v).take p = digs B p v
  | 0, n, v, _ => rfl
  | p + 1, 0, v, h => absurd h (by omega)
  | p + 1, n + 1, v, h => by
    show v % B :: (digs B n (v / B)).take p = v % B :: digs B p (v / B)
    rw [digs_take B p n _ (by omega)]
theorem num_drop {v p : Nat} (hv : v < 256 ^ 32) (hp : p ≤ 32) : num 256 ((digs 256 32 v).drop p) = v / 256 ^ p := by
  rw [digs_drop _ _ _ _ hp]
  refine num_digs_lt ?_
  rw [Nat.div_lt_iff_lt_mul (Nat.pow_pos (by decide)), ← Nat.pow_add, Nat.sub_add_cancel hp]
  exact hv
theorem bd_dropP {v p : Nat} : bd 256 ((digs 256 32 v).drop p) := fun x hx => digs_bd (by decide) 32 v x (List.mem_of_mem_drop hx)
theorem lw32_ctr {v : Nat} (hv : v < 256 ^ 32) : GC Try.prog 95 [.slice (some ⟨0, 0, none⟩) 32 0] [⟨(digs 256 32 v).map (vi .u8), false, 1⟩] [.slice (some ⟨1, 0, none⟩) 4 0] [⟨(digs 256 32 v).map (vi .u8), false, 1⟩, ⟨(digs 18446744073709551616 4 v).map (vi .u64), true, 1⟩] := by
  have h := lwords_ctr (a := digs 256 32 v) (digs_bd (by decide) _ _) (by rw [digs_len]; decide)
  rw [digs_len, num_digs_lt hv] at h
  exact h
theorem lb4v_ctr {v : Nat} (hv : v < 256 ^ 32) : GC Try.prog 122 [.slice (some ⟨0, 0, none⟩) 4 0] [⟨(digs 18446744073709551616 4 v).map (vi .u64), false, 1⟩] [vi .i64 (blen v)] [⟨(digs 18446744073709551616 4 v).map (vi .u64), false, 1⟩] := by
  have h := lbits_ctr (a := digs 18446744073709551616 4 v) (digs_bd (by decide) _ _) (by rw [digs_len]; decide)
  rw [digs_len, num_digs_lt (Nat.lt_of_lt_of_le hv (by decide))] at h
  exact h
theorem lwP_ctr {v p : Nat} (hv : v < 256 ^ 32) (hp : p ≤ 32) : GC Try.prog 95 [.slice (some ⟨0, 0, none⟩) (32 - p) 0] [⟨((digs 256 32 v).drop p).map (vi .u8), false, 1⟩] [.slice (some ⟨1, 0, none⟩) ((32 - p + 7) / 8) 0] [⟨((digs 256 32 v).drop p).map (vi .u8), false, 1⟩, ⟨(digs 18446744073709551616 ((32 - p + 7) / 8) (v / 256 ^ p)).map (vi .u64), true, 1⟩] := by
  have h := lwords_ctr (a := (digs 256 32 v).drop p) bd_dropP (by rw [List.length_drop, digs_len]; omega)
  rw [num_drop hv hp, List.length_drop, digs_len] at h
  exact h
theorem lbP_ctr {v p : Nat} (hv : v < 256 ^ 32) (hp : p ≤ 32) : GC Try.prog 122 [.slice (some ⟨0, 0, none⟩) ((32 - p + 7) / 8) 0] [⟨(digs 18446744073709551616 ((32 - p + 7) / 8) (v / 256 ^ p)).map (vi .u64), false, 1⟩] [vi .i64 (blen (v / 256 ^ p))] [⟨(digs 18446744073709551616 ((32 - p + 7) / 8) (v / 256 ^ p)).map (vi .u64), false, 1⟩] := by
  have h := lbits_ctr (a := digs 18446744073709551616 ((32 - p + 7) / 8) (v / 256 ^ p)) (digs_bd (by decide) _ _) (by rw [digs_len]; omega)
  have e := reads_num (b := (digs 256 32 v).drop p) bd_dropP
  rw [num_drop hv hp, List.length_drop, digs_len] at e
  rw [digs_len, e] at h
  exact h
theorem cutZ_ctr {t : Int} {L : Nat} (hf : fits t L) (hL : L < 200000000) : GC Try.prog 118 [.int .i64 t, db (List.replicate L 0)] [] [.slice (some ⟨0, 0, none⟩) (np t L) 0] [⟨(pcs t (List.replicate L 0)).map db, true, 1⟩] := by
  have h := cut_ctr (t := t) (b := List.replicate L 0) (by rw [List.length_replicate]; exact hf) (by rw [List.length_replicate]; exact hL)
  rw [List.length_replicate] at h
  exact h
theorem deepZ (L : Nat) : deep L 1 ((List.replicate L 0).map (vi .u8)) = db (List.replicate L 0) := by unfold db; rw [List.length_replicate]
theorem dig4 {v N : Nat} (h : v % 18446744073709551616 = N) : (digs 18446744073709551616 4 v).getD 0 0 = N := h
theorem blen_gt {v : Nat} : 64 < blen v ↔ 18446744073709551616 ≤ v := by
  constructor
  · intro h
    refine Nat.le_of_not_lt fun hlt => Nat.not_le.2 h (blen_lt (k := 64) hlt)
  · intro h
    refine Nat.lt_of_not_le fun hle => ?_
    have h1 := num_lt_blen v
    rw [Nat.div_eq_zero_iff] at h1
    rcases h1 with h1 | h1
    · exact absurd h1 (Nat.ne_of_gt (Nat.pow_pos (by decide)))
    · exact Nat.not_le.2 (Nat.lt_of_lt_of_le h1 (Nat.pow_le_pow_right (by decide) hle)) h
theorem blen_0 {v p : Nat} : 0 < blen (v / 256 ^ p) ↔ 256 ^ p ≤ v := by
  constructor
  · intro h
    refine Nat.le_of_not_lt fun hlt => ?_
    rw [Nat.div_eq_of_lt hlt] at h
    exact absurd h (by decide)
  · intro h
    refine Nat.pos_of_ne_zero fun e => ?_
    have h1 := num_lt_blen (v / 256 ^ p)
    rw [e, Nat.pow_zero, Nat.div_one] at h1
    have := Nat.div_pos h (Nat.pow_pos (by decide))
    omega
theorem bad_succ {t : Int} {L : Nat} {l : List Fp} {k : Nat} : bad t L l (k + 1) = (bad t L l k || decide (256 ^ plen t L k ≤ (l.getD (1 + k) 0).val)) := by
  rw [bad, List.range_succ, List.any_append]; simp [bad]
theorem bad_mono {t : Int} {L : Nat} {l : List Fp} {k n : Nat} (h : bad t L l k = true) (hkn : k ≤ n) : bad t L l n = true := by
  rw [bad, List.any_eq_true] at *
  obtain ⟨x, hx, h1⟩ := h
  exact ⟨x, List.mem_range.2 (Nat.lt_of_lt_of_le (List.mem_range.1 hx) hkn), h1⟩
theorem rdD_succ {t : Int} {L : Nat} {l : List Fp} {k : Nat} : rdD t L l (k + 1) = rdD t L l k ++ digs 256 (plen t L k) (l.getD (1 + k) 0).val := by
  rw [rdD, List.range_succ, List.map_append, List.flatten_append]; simp [rdD]
theorem rdD_le (t : Int) (L : Nat) (l : List Fp) : ∀ k, (rdD t L l k).length ≤ 32 * k
  | 0 => Nat.le_refl _
  | k + 1 => by
    have h1 := rdD_le t L l k
    have h2 : plen t L k ≤ 32 := Nat.le_trans (Nat.min_le_left _ _) (wd_le _ _)
    rw [rdD_succ, List.length_append, digs_len]; omega
theorem rdD_bd (t : Int) (L : Nat) (l : List Fp) : ∀ k, bd 256 (rdD t L l k)
  | 0 => fun x hx => by simp [rdD] at hx
  | k + 1 => fun x hx => by
    rw [rdD_succ] at hx
    rcases List.mem_append.1 hx with h | h
    · exact rdD_bd t L l k x h
    · exact digs_bd (by decide) _ _ x h
theorem partP {v p : Nat} (hp : p ≤ 32) : (((digs 256 32 v).map (vi .u8)).drop p).take (((digs 256 32 v).drop p).map (vi .u8)).length = ((digs 256 32 v).drop p).map (vi .u8) := by
  rw [← List.map_drop]; exact List.take_of_length_le (Nat.le_refl _)
theorem newsP {v p : Nat} (hp : p ≤ 32) : (((digs 256 32 v).map (vi .u8)).drop 0).take (p * 1) = (digs 256 p v).map (vi .u8) := by
  rw [List.drop_zero, Nat.mul_one, ← List.map_take, digs_take _ _ _ _ hp]
theorem fits_lng {x : Opn} (h : itC x.k x.t x.c = 0) : fits x.t (lng x) := by
  unfold lng
  split
  · refine ⟨fun e => ?_, fun e => ?_, fun e => ?_⟩ <;> rw [e]
    · show x.c.toNat * 8 % 8 = 0; omega
    · show x.c.toNat * 32 % 32 = 0; omega
    · show x.c.toNat * 96 % 96 = 0; omega
  · exact ⟨fun _ => rfl, fun _ => rfl, fun _ => rfl⟩
theorem WkM.nil3 {Dm : Nat → Prop} {fm : List (Nat × Nat)} {M N : Mem} {i id : Nat} {a b c : Int} {rw rw' : Bool} {es : Nat} (h1 : M ((fm.lookup i).getD i) = some ⟨[.int .i64 a, .int .i64 b, .int .i64 c, .slice none 0 0], rw', es⟩)
    (h3 : rw = true → rw' = true) (h : WkM Dm fm M N) : WkM Dm fm M (Sim.upd N i ⟨[.int .i64 a, .int .i64 b, .int .i64 c, .slice (some ⟨id, 0, none⟩) 0 0], rw, es⟩) :=
  WkM.upd h1 (fun k x hx => by
    match k, hx with
    | 0, hx => cases hx; exact ⟨_, rfl, .flat _ rfl⟩
    | 1, hx => cases hx; exact ⟨_, rfl, .flat _ rfl⟩
    | 2, hx => cases hx; exact ⟨_, rfl, .flat _ rfl⟩
    | 3, hx => cases hx; exact ⟨_, rfl, .nilS _ (by simp)⟩
    | k + 4, hx => simp at hx) h3 rfl (Nat.le_refl _) h
theorem offieldsA_ctr {l : List Fp} (hl0 : l.length = 0) : GC Try.prog 79 [.slice (some ⟨0, 0, none⟩) l.length 0] [⟨((l.map fe).flatten).map (vi .u64), false, 4⟩] [opV op0, vi .i64 0, vi .i64 2] [⟨((l.map fe).flatten).map (vi .u64), false, 4⟩] := by
  refine gi Try.func79 ?_
  refine zS ?_
  refine yN 3000 1 _ ?_
  refine yA ?_
  refine yA ?_
  refine zN (zQ (zS ?_))
  refine yM ?_
  refine yP pL ?_
  refine yP ((PureOp.eqN (b := 0) rfl rfl).mono (v' := .bool true) (congrArg Value.bool (beq_iff_eq.2 hl0))) ?_
  refine zN (zC (zS ?_))
  refine yP (PureOp.opNil ((PureOp.buildStruct [] pl96.choose_spec.1 zr96 (by decide) pl96.choose_spec.2 rfl rfl).mono (v' := .agg #[.int .i64 0, .int .i64 0, .int .i64 0, .slice none 0 0]) rfl)) ?_
  refine AWo.storeAllN (vs := [.int .i64 0, .int .i64 0, .int .i64 0, deep 0 1 []]) tbok rfl rfl rfl rfl rfl rfl rfl rfl ?_
  refine yA ?_
  refine yA ?_
  refine zN (zE (zU ?_))
  exact rq [] [.cell 2 96, .tmp 3, .tmp 4] (hres := (.clo rfl (.cons rfl rfl (.cons rfl rfl .nil))))
theorem offieldsC_ctr {l : List Fp} {N : Nat} (hx : l.length < 1000000) (hl0 : 0 < l.length) (hN : (l.getD 0 0).val % 18446744073709551616 = N) (hNl : N < 18446744073709551616) (hi : ¬ itC (bgn N).k (bgn N).t (bgn N).c = 0) : GC Try.prog 79 [.slice (some ⟨0, 0, none⟩) l.length 0] [⟨((l.map fe).flatten).map (vi .u64), false, 4⟩] [opV op0, vi .i64 0, vi .i64 3] [⟨((l.map fe).flatten).map (vi .u64), false, 4⟩] := by
  refine gi Try.func79 ?_
  refine zS ?_
  refine yN 3000 1 _ ?_
  refine yA ?_
  refine yA ?_
  refine zN (zQ (zS ?_))
  refine yM ?_
  refine yP pL ?_
  refine yP ((PureOp.eqN (b := 0) rfl rfl).mono (v' := .bool false) (congrArg Value.bool (beq_eq_false_iff_ne.2 (by omega)))) ?_
  refine zN (zF (zK (zT (zS ?_))))
  refine yM ?_
  refine yP (PureOp.idxN tbok (j := 0) rfl rfl rfl rfl hl0) ?_
  refine yLJ (xs := l) (0) ?_
  refine yC (bytesF_ctr (x := l.getD 0 0)) bd107 [] [] ?_
  refine yN 6000 1 ((List.replicate 32 0).map (vi .u8)) ?_
  refine AWo.storeAllN tbok rfl rfl rfl rfl (by rw [List.length_map, digs_len]) (by rfl) (oneM (fun _ => rfl) _) rfl ?_
  refine zN (zS ?_)
  refine AWo.sliceA2 (v := .slice (some ⟨6000, 0, none⟩) 32 0) (l := 0) (h := 32) tbok rfl .none .none rfl rfl rfl rfl (by decide) (by decide) (by simp [digs_len]) rfl rfl rfl ?_
  refine yC (lw32_ctr (v := (l.getD 0 0).val) (val_lt _)) bd95 [(6000, 0)] [23000] ?_
  refine yA ?_
  refine zN (zS ?_)
  refine yM ?_
  refine yP (PureOp.idx1 tbok (j := 0) rfl rfl rfl rfl (by decide)) ?_
  refine AWo.loadM tbok 0 rfl rfl rfl (by rw [digs_len]; decide) rfl rfl ?_
  rw [dig4 hN]
  refine yC (v := .tuple #[.agg #[vi .i64 (N % 256), vi .i64 (N / 256 % 256), vi .i64 (N / 65536), .slice none 0 0], .bool false]) (begun_ctr (n := N) hNl) bd119 [] [] ?_ (hv := (by rw [decide_eq_false hi]; rfl))
  refine yM ?_
  refine yP pX ?_
  refine yP pX ?_
  refine yN 8000 1 _ ?_
  refine AWo.storeAllN (vs := [vi .i64 (N % 256), vi .i64 (N / 256 % 256), vi .i64 (N / 65536), .slice none 0 0]) tbok rfl rfl rfl rfl rfl rfl rfl rfl ?_
  refine yA ?_
  refine zN (zQ (zS ?_))
  refine yM ?_
  refine yP (PureOp.not rfl) ?_
  refine yM ?_
  refine yK ?_
  refine yK ?_
  refine yK ?_
  refine yP pT ?_
  refine zN (zC (zS ?_))
  refine yP (PureOp.opNil ((PureOp.buildStruct [] pl96.choose_spec.1 zr96 (by decide) pl96.choose_spec.2 rfl rfl).mono (v' := .agg #[.int .i64 0, .int .i64 0, .int .i64 0, .slice none 0 0]) rfl)) ?_
  refine AWo.storeAllN (vs := [.int .i64 0, .int .i64 0, .int .i64 0, deep 0 1 []]) tbok rfl rfl rfl rfl rfl rfl rfl rfl ?_
  refine yA ?_
  refine yA ?_
  refine zN (zE (zU ?_))
  exact rq [] [.cell 2 96, .tmp 3, .tmp 4] (hres := (.clo rfl (.cons rfl rfl (.cons rfl rfl .nil))))
theorem offieldsB_ctr {l : List Fp} {N : Nat} (hx : l.length < 1000000) (hl0 : 0 < l.length) (hN : (l.getD 0 0).val % 18446744073709551616 = N) (hNl : N < 18446744073709551616) (hi : itC (bgn N).k (bgn N).t (bgn N).c = 0) (hcn : N / 65536 ≤ 1048576) (hL : (lng (bgn N)) < 200000000) (hv : 18446744073709551616 ≤ (l.getD 0 0).val) : GC Try.prog 79 [.slice (some ⟨0, 0, none⟩) l.length 0] [⟨((l.map fe).flatten).map (vi .u64), false, 4⟩] [opV op0, vi .i64 0, vi .i64 3] [⟨((l.map fe).flatten).map (vi .u64), false, 4⟩] := by
  refine gi Try.func79 ?_
  refine zS ?_
  refine yN 3000 1 _ ?_
  refine yA ?_
  refine yA ?_
  refine zN (zQ (zS ?_))
  refine yM ?_
  refine yP pL ?_
  refine yP ((PureOp.eqN (b := 0) rfl rfl).mono (v' := .bool false) (congrArg Value.bool (beq_eq_false_iff_ne.2 (by omega)))) ?_
  refine zN (zF (zK (zT (zS ?_))))
  refine yM ?_
  refine yP (PureOp.idxN tbok (j := 0) rfl rfl rfl rfl hl0) ?_
  refine yLJ (xs := l) (0) ?_
  refine yC (bytesF_ctr (x := l.getD 0 0)) bd107 [] [] ?_
  refine yN 6000 1 ((List.replicate 32 0).map (vi .u8)) ?_
  refine AWo.storeAllN tbok rfl rfl rfl rfl (by rw [List.length_map, digs_len]) (by rfl) (oneM (fun _ => rfl) _) rfl ?_
  refine zN (zS ?_)
  refine AWo.sliceA2 (v := .slice (some ⟨6000, 0, none⟩) 32 0) (l := 0) (h := 32) tbok rfl .none .none rfl rfl rfl rfl (by decide) (by decide) (by simp [digs_len]) rfl rfl rfl ?_
  refine yC (lw32_ctr (v := (l.getD 0 0).val) (val_lt _)) bd95 [(6000, 0)] [23000] ?_
  refine yA ?_
  refine zN (zS ?_)
  refine yM ?_
  refine yP (PureOp.idx1 tbok (j := 0) rfl rfl rfl rfl (by decide)) ?_
  refine AWo.loadM tbok 0 rfl rfl rfl (by rw [digs_len]; decide) rfl rfl ?_
  rw [dig4 hN]
  refine yC (v := .tuple #[.agg #[vi .i64 (N % 256), vi .i64 (N / 256 % 256), vi .i64 (N / 65536), .slice none 0 0], .bool true]) (begun_ctr (n := N) hNl) bd119 [] [] ?_ (hv := (by rw [decide_eq_true hi]; rfl))
  refine yM ?_
  refine yP pX ?_
  refine yP pX ?_
  refine yN 8000 1 _ ?_
  refine AWo.storeAllN (vs := [vi .i64 (N % 256), vi .i64 (N / 256 % 256), vi .i64 (N / 65536), .slice none 0 0]) tbok rfl rfl rfl rfl rfl rfl rfl rfl ?_
  refine yA ?_
  refine zN (zQ (zS ?_))
  refine yM ?_
  refine yP (PureOp.not rfl) ?_
  refine yM ?_
  refine yM ?_
  refine yC (lb4v_ctr (v := (l.getD 0 0).val) (val_lt _)) bd122 [(23000, 0)] [] ?_
  refine yP ((PureOp.gtN (b := 64) rfl rfl).mono (v' := .bool true) (congrArg Value.bool (decide_eq_true (blen_gt.2 hv)))) ?_
  refine yP pE ?_
  refine zN (zC (zS ?_))
  refine yP (PureOp.opNil ((PureOp.buildStruct [] pl96.choose_spec.1 zr96 (by decide) pl96.choose_spec.2 rfl rfl).mono (v' := .agg #[.int .i64 0, .int .i64 0, .int .i64 0, .slice none 0 0]) rfl)) ?_
  refine AWo.storeAllN (vs := [.int .i64 0, .int .i64 0, .int .i64 0, deep 0 1 []]) tbok rfl rfl rfl rfl rfl rfl rfl rfl ?_
  refine yA ?_
  refine yA ?_
  refine zN (zE (zU ?_))
  exact rq [] [.cell 2 96, .tmp 3, .tmp 4] (hres := (.clo rfl (.cons rfl rfl (.cons rfl rfl .nil))))
theorem offieldsD_ctr {l : List Fp} {N : Nat} (hx : l.length < 1000000) (hl0 : 0 < l.length) (hN : (l.getD 0 0).val % 18446744073709551616 = N) (hNl : N < 18446744073709551616) (hi : itC (bgn N).k (bgn N).t (bgn N).c = 0) (hcn : N / 65536 ≤ 1048576) (hL : (lng (bgn N)) < 200000000) (hv : (l.getD 0 0).val < 18446744073709551616) (hd : 32 * l.length < (lng (bgn N))) : GC Try.prog 79 [.slice (some ⟨0, 0, none⟩) l.length 0] [⟨((l.map fe).flatten).map (vi .u64), false, 4⟩] [opV op0, vi .i64 0, vi .i64 2] [⟨((l.map fe).flatten).map (vi .u64), false, 4⟩] := by
  refine gi Try.func79 ?_
  refine zS ?_
  refine yN 3000 1 _ ?_
  refine yA ?_
  refine yA ?_
  refine zN (zQ (zS ?_))
  refine yM ?_
  refine yP pL ?_
  refine yP ((PureOp.eqN (b := 0) rfl rfl).mono (v' := .bool false) (congrArg Value.bool (beq_eq_false_iff_ne.2 (by omega)))) ?_
  refine zN (zF (zK (zT (zS ?_))))
  refine yM ?_
  refine yP (PureOp.idxN tbok (j := 0) rfl rfl rfl rfl hl0) ?_
  refine yLJ (xs := l) (0) ?_
  refine yC (bytesF_ctr (x := l.getD 0 0)) bd107 [] [] ?_
  refine yN 6000 1 ((List.replicate 32 0).map (vi .u8)) ?_
  refine AWo.storeAllN tbok rfl rfl rfl rfl (by rw [List.length_map, digs_len]) (by rfl) (oneM (fun _ => rfl) _) rfl ?_
  refine zN (zS ?_)
  refine AWo.sliceA2 (v := .slice (some ⟨6000, 0, none⟩) 32 0) (l := 0) (h := 32) tbok rfl .none .none rfl rfl rfl rfl (by decide) (by decide) (by simp [digs_len]) rfl rfl rfl ?_
  refine yC (lw32_ctr (v := (l.getD 0 0).val) (val_lt _)) bd95 [(6000, 0)] [23000] ?_
  refine yA ?_
  refine zN (zS ?_)
  refine yM ?_
  refine yP (PureOp.idx1 tbok (j := 0) rfl rfl rfl rfl (by decide)) ?_
  refine AWo.loadM tbok 0 rfl rfl rfl (by rw [digs_len]; decide) rfl rfl ?_
  rw [dig4 hN]
  refine yC (v := .tuple #[.agg #[vi .i64 (N % 256), vi .i64 (N / 256 % 256), vi .i64 (N / 65536), .slice none 0 0], .bool true]) (begun_ctr (n := N) hNl) bd119 [] [] ?_ (hv := (by rw [decide_eq_true hi]; rfl))
  refine yM ?_
  refine yP pX ?_
  refine yP pX ?_
  refine yN 8000 1 _ ?_
  refine AWo.storeAllN (vs := [vi .i64 (N % 256), vi .i64 (N / 256 % 256), vi .i64 (N / 65536), .slice none 0 0]) tbok rfl rfl rfl rfl rfl rfl rfl rfl ?_
  refine yA ?_
  refine zN (zQ (zS ?_))
  refine yM ?_
  refine yP (PureOp.not rfl) ?_
  refine yM ?_
  refine yM ?_
  refine yC (lb4v_ctr (v := (l.getD 0 0).val) (val_lt _)) bd122 [(23000, 0)] [] ?_
  refine yP ((PureOp.gtN (b := 64) rfl rfl).mono (v' := .bool false) (congrArg Value.bool (decide_eq_false (fun h => Nat.not_le.2 hv (blen_gt.1 h))))) ?_
  refine yP pE ?_
  refine zN (zF (zK (zT (zQ (zS ?_)))))
  refine yLA ?_
  refine yC (v := vi .i64 (lng (bgn N))) (longN_ctr (k := (bgn N).k) (t := (bgn N).t) (cn := N / 65536) hcn) bd120 [] [] ?_
  refine yM ?_
  refine yP pL ?_
  refine yP (PureOp.mulI (a := 32) (b := l.length) rfl rfl (by omega)) ?_
  refine yP ((PureOp.gtN rfl rfl).mono (v' := .bool true) (congrArg Value.bool (by simp; omega))) ?_
  refine zN (zC (zS ?_))
  refine yP (PureOp.opNil ((PureOp.buildStruct [] pl96.choose_spec.1 zr96 (by decide) pl96.choose_spec.2 rfl rfl).mono (v' := .agg #[.int .i64 0, .int .i64 0, .int .i64 0, .slice none 0 0]) rfl)) ?_
  refine AWo.storeAllN (vs := [.int .i64 0, .int .i64 0, .int .i64 0, deep 0 1 []]) tbok rfl rfl rfl rfl rfl rfl rfl rfl ?_
  refine yA ?_
  refine yA ?_
  refine zN (zE (zU ?_))
  exact rq [] [.cell 2 96, .tmp 3, .tmp 4] (hres := (.clo rfl (.cons rfl rfl (.cons rfl rfl .nil))))
theorem offieldsQ_ctr {l : List Fp} {N : Nat} (hx : l.length < 1000000) (hl0 : 0 < l.length) (hN : (l.getD 0 0).val % 18446744073709551616 = N) (hNl : N < 18446744073709551616) (hi : itC (bgn N).k (bgn N).t (bgn N).c = 0) (hcn : N / 65536 ≤ 1048576) (hL : (lng (bgn N)) < 200000000) (hv : (l.getD 0 0).val < 18446744073709551616) (hd : (lng (bgn N)) ≤ 32 * l.length) (hq : l.length < 1 + (np (bgn N).t (lng (bgn N)))) : GC Try.prog 79 [.slice (some ⟨0, 0, none⟩) l.length 0] [⟨((l.map fe).flatten).map (vi .u64), false, 4⟩] [opV op0, vi .i64 0, vi .i64 2] [⟨((l.map fe).flatten).map (vi .u64), false, 4⟩] := by
  refine gi Try.func79 ?_
  refine zS ?_
  refine yN 3000 1 _ ?_
  refine yA ?_
  refine yA ?_
  refine zN (zQ (zS ?_))
  refine yM ?_
  refine yP pL ?_
  refine yP ((PureOp.eqN (b := 0) rfl rfl).mono (v' := .bool false) (congrArg Value.bool (beq_eq_false_iff_ne.2 (by omega)))) ?_
  refine zN (zF (zK (zT (zS ?_))))
  refine yM ?_
  refine yP (PureOp.idxN tbok (j := 0) rfl rfl rfl rfl hl0) ?_
  refine yLJ (xs := l) (0) ?_
  refine yC (bytesF_ctr (x := l.getD 0 0)) bd107 [] [] ?_
  refine yN 6000 1 ((List.replicate 32 0).map (vi .u8)) ?_
  refine AWo.storeAllN tbok rfl rfl rfl rfl (by rw [List.length_map, digs_len]) (by rfl) (oneM (fun _ => rfl) _) rfl ?_
  refine zN (zS ?_)
  refine AWo.sliceA2 (v := .slice (some ⟨6000, 0, none⟩) 32 0) (l := 0) (h := 32) tbok rfl .none .none rfl rfl rfl rfl (by decide) (by decide) (by simp [digs_len]) rfl rfl rfl ?_
  refine yC (lw32_ctr (v := (l.getD 0 0).val) (val_lt _)) bd95 [(6000, 0)] [23000] ?_
  refine yA ?_
  refine zN (zS ?_)
  refine yM ?_
  refine yP (PureOp.idx1 tbok (j := 0) rfl rfl rfl rfl (by decide)) ?_
  refine AWo.loadM tbok 0 rfl rfl rfl (by rw [digs_len]; decide) rfl rfl ?_
  rw [dig4 hN]
  refine yC (v := .tuple #[.agg #[vi .i64 (N % 256), vi .i64 (N / 256 % 256), vi .i64 (N / 65536), .slice none 0 0], .bool true]) (begun_ctr (n := N) hNl) bd119 [] [] ?_ (hv := (by rw [decide_eq_true hi]; rfl))
  refine yM ?_
  refine yP pX ?_
  refine yP pX ?_
  refine yN 8000 1 _ ?_
  refine AWo.storeAllN (vs := [vi .i64 (N % 256), vi .i64 (N / 256 % 256), vi .i64 (N / 65536), .slice none 0 0]) tbok rfl rfl rfl rfl rfl rfl rfl rfl ?_
  refine yA ?_
  refine zN (zQ (zS ?_))
  refine yM ?_
  refine yP (PureOp.not rfl) ?_
  refine yM ?_
  refine yM ?_
  refine yC (lb4v_ctr (v := (l.getD 0 0).val) (val_lt _)) bd122 [(23000, 0)] [] ?_
  refine yP ((PureOp.gtN (b := 64) rfl rfl).mono (v' := .bool false) (congrArg Value.bool (decide_eq_false (fun h => Nat.not_le.2 hv (blen_gt.1 h))))) ?_
  refine yP pE ?_
  refine zN (zF (zK (zT (zQ (zS ?_)))))
  refine yLA ?_
  refine yC (v := vi .i64 (lng (bgn N))) (longN_ctr (k := (bgn N).k) (t := (bgn N).t) (cn := N / 65536) hcn) bd120 [] [] ?_
  refine yM ?_
  refine yP pL ?_
  refine yP (PureOp.mulI (a := 32) (b := l.length) rfl rfl (by omega)) ?_
  refine yP ((PureOp.gtN rfl rfl).mono (v' := .bool false) (congrArg Value.bool (by simp; omega))) ?_
  refine zN (zF (zK (zT ?_)))
  refine AW.seqD mixed ?_
  refine yP pF ?_
  refine yL1 ?_
  refine yLA ?_
  refine yC (v := vi .i64 (lng (bgn N))) (longN_ctr (k := (bgn N).k) (t := (bgn N).t) (cn := N / 65536) hcn) bd120 [] [] ?_
  refine AWo.makeF (n := (lng (bgn N))) tbok 50000 ((List.replicate (lng (bgn N)) 0).map (vi .u8)) rfl rfl rfl rfl rfl rfl rfl rfl (by omega) (by omega) (by simp [vi]) rfl rfl rfl ?_
  rw [deepZ]
  refine yC (cutZ_ctr (t := (bgn N).t) (L := (lng (bgn N))) (fits_lng hi) hL) bd118 [] [51000] ?_ (hnew := (.new (clo_map_ren (cloM fun _ => rfl)) (OkL.clo (cloM fun _ => rfl)) .nil))
  refine yA ?_
  refine zD (zQ (zS ?_))
  refine yM ?_
  refine yP pL ?_
  refine yP (PureOp.subI (a := l.length) (b := 1) rfl rfl hl0 (by omega)) ?_
  refine yM ?_
  refine yP pL ?_
  refine yP ((PureOp.ltN rfl rfl).mono (v' := .bool true) (congrArg Value.bool (by simp; omega))) ?_
  refine zN (zC (zS ?_))
  refine yP (PureOp.opNil ((PureOp.buildStruct [] pl96.choose_spec.1 zr96 (by decide) pl96.choose_spec.2 rfl rfl).mono (v' := .agg #[.int .i64 0, .int .i64 0, .int .i64 0, .slice none 0 0]) rfl)) ?_
  refine AWo.storeAllN (vs := [.int .i64 0, .int .i64 0, .int .i64 0, deep 0 1 []]) tbok rfl rfl rfl rfl rfl rfl rfl rfl ?_
  refine yA ?_
  refine yA ?_
  refine zN (zE (zU ?_))
  exact rq [] [.cell 2 96, .tmp 3, .tmp 4] (hres := (.clo rfl (.cons rfl rfl (.cons rfl rfl .nil))))
theorem offieldsE_ctr {l : List Fp} {N : Nat} (hx : l.length < 1000000) (hl0 : 0 < l.length) (hN : (l.getD 0 0).val % 18446744073709551616 = N) (hNl : N < 18446744073709551616) (hi : itC (bgn N).k (bgn N).t (bgn N).c = 0) (hcn : N / 65536 ≤ 1048576) (hL : (lng (bgn N)) < 200000000) (hv : (l.getD 0 0).val < 18446744073709551616) (hd : (lng (bgn N)) ≤ 32 * l.length) (hq : 1 + (np (bgn N).t (lng (bgn N))) ≤ l.length) (hbd : bad (bgn N).t (lng (bgn N)) l (np (bgn N).t (lng (bgn N))) = true) : GC Try.prog 79 [.slice (some ⟨0, 0, none⟩) l.length 0] [⟨((l.map fe).flatten).map (vi .u64), false, 4⟩] [opV op0, vi .i64 0, vi .i64 3] [⟨((l.map fe).flatten).map (vi .u64), false, 4⟩] := by
  refine gi Try.func79 ?_
  refine zS ?_
  refine yN 3000 1 _ ?_
  refine yA ?_
  refine yA ?_
  refine zN (zQ (zS ?_))
  refine yM ?_
  refine yP pL ?_
  refine yP ((PureOp.eqN (b := 0) rfl rfl).mono (v' := .bool false) (congrArg Value.bool (beq_eq_false_iff_ne.2 (by omega)))) ?_
  refine zN (zF (zK (zT (zS ?_))))
  refine yM ?_
  refine yP (PureOp.idxN tbok (j := 0) rfl rfl rfl rfl hl0) ?_
  refine yLJ (xs := l) (0) ?_
  refine yC (bytesF_ctr (x := l.getD 0 0)) bd107 [] [] ?_
  refine yN 6000 1 ((List.replicate 32 0).map (vi .u8)) ?_
  refine AWo.storeAllN tbok rfl rfl rfl rfl (by rw [List.length_map, digs_len]) (by rfl) (oneM (fun _ => rfl) _) rfl ?_
  refine zN (zS ?_)
  refine AWo.sliceA2 (v := .slice (some ⟨6000, 0, none⟩) 32 0) (l := 0) (h := 32) tbok rfl .none .none rfl rfl rfl rfl (by decide) (by decide) (by simp [digs_len]) rfl rfl rfl ?_
  refine yC (lw32_ctr (v := (l.getD 0 0).val) (val_lt _)) bd95 [(6000, 0)] [23000] ?_
  refine yA ?_
  refine zN (zS ?_)
  refine yM ?_
  refine yP (PureOp.idx1 tbok (j := 0) rfl rfl rfl rfl (by decide)) ?_
  refine AWo.loadM tbok 0 rfl rfl rfl (by rw [digs_len]; decide) rfl rfl ?_
  rw [dig4 hN]
  refine yC (v := .tuple #[.agg #[vi .i64 (N % 256), vi .i64 (N / 256 % 256), vi .i64 (N / 65536), .slice none 0 0], .bool true]) (begun_ctr (n := N) hNl) bd119 [] [] ?_ (hv := (by rw [decide_eq_true hi]; rfl))
  refine yM ?_
  refine yP pX ?_
  refine yP pX ?_
  refine yN 8000 1 _ ?_
  refine AWo.storeAllN (vs := [vi .i64 (N % 256), vi .i64 (N / 256 % 256), vi .i64 (N / 65536), .slice none 0 0]) tbok rfl rfl rfl rfl rfl rfl rfl rfl ?_
  refine yA ?_
  refine zN (zQ (zS ?_))
  refine yM ?_
  refine yP (PureOp.not rfl) ?_
  refine yM ?_
  refine yM ?_
  refine yC (lb4v_ctr (v := (l.getD 0 0).val) (val_lt _)) bd122 [(23000, 0)] [] ?_
  refine yP ((PureOp.gtN (b := 64) rfl rfl).mono (v' := .bool false) (congrArg Value.bool (decide_eq_false (fun h => Nat.not_le.2 hv (blen_gt.1 h))))) ?_
  refine yP pE ?_
  refine zN (zF (zK (zT (zQ (zS ?_)))))
  refine yLA ?_
  refine yC (v := vi .i64 (lng (bgn N))) (longN_ctr (k := (bgn N).k) (t := (bgn N).t) (cn := N / 65536) hcn) bd120 [] [] ?_
  refine yM ?_
  refine yP pL ?_
  refine yP (PureOp.mulI (a := 32) (b := l.length) rfl rfl (by omega)) ?_
  refine yP ((PureOp.gtN rfl rfl).mono (v' := .bool false) (congrArg Value.bool (by simp; omega))) ?_
  refine zN (zF (zK (zT ?_)))
  refine AW.seqD mixed ?_
  refine yP pF ?_
  refine yL1 ?_
  refine yLA ?_
  refine yC (v := vi .i64 (lng (bgn N))) (longN_ctr (k := (bgn N).k) (t := (bgn N).t) (cn := N / 65536) hcn) bd120 [] [] ?_
  refine AWo.makeF (n := (lng (bgn N))) tbok 50000 ((List.replicate (lng (bgn N)) 0).map (vi .u8)) rfl rfl rfl rfl rfl rfl rfl rfl (by omega) (by omega) (by simp [vi]) rfl rfl rfl ?_
  rw [deepZ]
  refine yC (cutZ_ctr (t := (bgn N).t) (L := (lng (bgn N))) (fits_lng hi) hL) bd118 [] [51000] ?_ (hnew := (.new (clo_map_ren (cloM fun _ => rfl)) (OkL.clo (cloM fun _ => rfl)) .nil))
  refine yA ?_
  refine zD (zQ (zS ?_))
  refine yM ?_
  refine yP pL ?_
  refine yP (PureOp.subI (a := l.length) (b := 1) rfl rfl hl0 (by omega)) ?_
  refine yM ?_
  refine yP pL ?_
  refine yP ((PureOp.ltN rfl rfl).mono (v' := .bool false) (congrArg Value.bool (by simp; omega))) ?_
  refine zN (zF (zK (zT (zQ (zS ?_)))))
  refine yM ?_
  refine yP pL ?_
  refine yM ?_
  refine zN (zB ?_)
  refine AW.ghost 77000 1 rfl ?_
  refine AW.loopw (fun mm σ => ∃ i, (i ≤ (np (bgn N).t (lng (bgn N))) ∧ bad (bgn N).t (lng (bgn N)) l i = false) ∧ mm = (np (bgn N).t (lng (bgn N))) - i ∧ σ = ⟨(upd (upd (upd (upd (upd (upd (upd emp 0 (.slice (some ⟨0, 0, none⟩) l.length 0)) 2 (.pointer (some ⟨3000, 0, none⟩))) 7 (.pointer (some ⟨8000, 0, none⟩))) 9 (.slice (some ⟨51000, 0, none⟩) (np (bgn N).t (lng (bgn N))) 0)) 58 (.slice (some ⟨51000, 0, none⟩) (np (bgn N).t (lng (bgn N))) 0)) 59 (vi .i64 (np (bgn N).t (lng (bgn N))))) 60 (vi .i64 i)), (upd (upd (upd (upd (upd emp 0 ⟨((l.map fe).flatten).map (vi .u64), false, 4⟩) 3000 ⟨[.int .i64 0, .int .i64 0, .int .i64 0, .slice none 0 0], true, 1⟩) 8000 ⟨[vi .i64 (N % 256), vi .i64 (N / 256 % 256), vi .i64 (N / 65536), .slice (some ⟨77000, 0, none⟩) (rdD (bgn N).t (lng (bgn N)) l i).length 0], true, 1⟩) 77000 ⟨(rdD (bgn N).t (lng (bgn N)) l i).map (vi .u8), true, 1⟩) 51000 ⟨(pcs (bgn N).t (List.replicate (lng (bgn N)) 0)).map db, true, 1⟩)⟩) (fm := []) ?_ ⟨0, ⟨Nat.zero_le _, rfl⟩, rfl, rfl⟩ ?_
  ·
    refine Wk.of [0, 3000, 8000, 77000, 51000] ?_ ?_ ?_ (by decide) rfl
    ·
      refine WkE.upd rfl (by exact VR.flat _ rfl) ?_
      refine WkE.upd rfl (by exact VR.flat _ rfl) ?_
      refine WkE.upd rfl (.slice (51000) 0 _ 0 ⟨_, rfl⟩ (by simp) (by simp)) ?_
      refine WkE.upd rfl (.slice (51000) 0 _ 0 ⟨_, rfl⟩ (by simp) (by simp)) ?_
      refine WkE.upd rfl (.ptr (8000) 0 ⟨_, rfl⟩) ?_
      refine WkE.upd rfl (.ptr (3000) 0 ⟨_, rfl⟩) ?_
      refine WkE.upd rfl (.slice (0) 0 _ 0 ⟨_, rfl⟩ (by simp) (by simp)) ?_
      exact WkE.emp
    ·
      refine WkM.cloM rfl rfl (fun _ => rfl) (fun h => h) ?_
      refine WkM.flat rfl (flatM flat_vi) (fun h => h) ?_
      refine WkM.nil3 rfl (fun h => h) ?_
      refine WkM.flat rfl (by simp [flatV, flat_vi]) (fun h => h) ?_
      refine WkM.flat rfl (flatM flat_vi) (fun h => h) ?_
      exact WkM.emp
    ·
      repeat (refine dom_upd_mem (by decide) ?_)
      exact dom_emp
  ·
    rintro mm σ ⟨i, ⟨hik, hbi⟩, rfl, rfl⟩
    refine zS ?_
    refine yP pLt ?_
    refine zN (zQ ?_)
    refine zA (fun hb0 => ?_) (fun hb0 => ?_)
    ·
      have hi : i < (np (bgn N).t (lng (bgn N))) := by simpa using hb0
      have hi1 : 1 + i < l.length := by omega
      have hp : (plen (bgn N).t (lng (bgn N)) i) ≤ 32 := Nat.le_trans (Nat.min_le_left _ _) (wd_le _ _)
      have hrd := rdD_le (bgn N).t (lng (bgn N)) l i
      refine zK (zT (zQ (zB (zS ?_))))
      refine yM ?_
      refine yP (PureOp.idx1 tbok (j := i) rfl rfl rfl rfl hi) ?_
      refine AWo.loadM tbok [] rfl rfl rfl (by rw [pcs_len, List.length_replicate]; exact hi) rfl rfl ?_
      rw [pcs_getD (by rw [List.length_replicate]; exact hi)]
      refine yA ?_
      refine yA ?_
      refine zN (zS ?_)
      refine yM ?_
      refine yM ?_
      refine yP (pAdd (a := 1) (b := i)) ?_
      refine yP (PureOp.idxN tbok (j := 1 + i) rfl rfl rfl rfl hi1) ?_
      refine yLJ (xs := l) (1 + i) ?_
      refine yC (bytesF_ctr (x := l.getD (1 + i) 0)) bd107 [] [] ?_
      refine yN 13000 1 ((List.replicate 32 0).map (vi .u8)) ?_
      refine AWo.storeAllN tbok rfl rfl rfl rfl (by rw [List.length_map, digs_len]) (by rfl) (oneM (fun _ => rfl) _) rfl ?_
      refine zN (zQ (zS ?_))
      refine yM ?_
      refine yP ((PureOp.lenD tbok rfl rfl).mono (v' := vi .i64 (plen (bgn N).t (lng (bgn N)) i)) (congrArg (vi .i64) (by rw [pc_len, List.length_replicate]; rfl))) ?_
      refine AWo.sliceA2 (v := .slice (some ⟨13000, (plen (bgn N).t (lng (bgn N)) i), none⟩) (32 - (plen (bgn N).t (lng (bgn N)) i)) 0) (l := (plen (bgn N).t (lng (bgn N)) i)) (h := 32) tbok rfl (.some rfl) .none rfl rfl rfl rfl hp (by decide) (by simp [digs_len]) (by rw [Nat.zero_add, Nat.mul_one]) rfl rfl ?_
      refine yC (lwP_ctr (v := (l.getD (1 + i) 0).val) (p := (plen (bgn N).t (lng (bgn N)) i)) (val_lt _) hp) bd95 [(13000, (plen (bgn N).t (lng (bgn N)) i))] [75000] ?_ (hfit := (.part rfl (partP hp) (flatM flat_vi) (by simp [digs_len]; omega) .nil))
      refine yC (lbP_ctr (v := (l.getD (1 + i) 0).val) (p := (plen (bgn N).t (lng (bgn N)) i)) (val_lt _) hp) bd122 [(75000, 0)] [] ?_
      refine yP ((PureOp.gtN (b := 0) rfl rfl).mono (v' := .bool (decide (256 ^ (plen (bgn N).t (lng (bgn N)) i) ≤ (l.getD (1 + i) 0).val))) (congrArg Value.bool (by rw [Bool.eq_iff_iff, decide_eq_true_eq, decide_eq_true_eq]; exact blen_0))) ?_
      refine zN ?_
      refine zA (fun hb1 => ?_) (fun hb1 => ?_)
      ·
        have hz : 256 ^ (plen (bgn N).t (lng (bgn N)) i) ≤ (l.getD (1 + i) 0).val := of_decide_eq_true hb1
        refine zS ?_
        refine yP (PureOp.opNil ((PureOp.buildStruct [] pl96.choose_spec.1 zr96 (by decide) pl96.choose_spec.2 rfl rfl).mono (v' := .agg #[.int .i64 0, .int .i64 0, .int .i64 0, .slice none 0 0]) rfl)) ?_
        refine AWo.storeAllN (vs := [.int .i64 0, .int .i64 0, .int .i64 0, deep 0 1 []]) tbok rfl rfl rfl rfl rfl rfl rfl rfl ?_
        refine yA ?_
        refine yA ?_
        refine zN (zE (zU (zI (zU (zU (zI (zU ?_)))))))
        exact rq [] [.cell 2 96, .tmp 3, .tmp 4] (hres := (.clo rfl (.cons rfl rfl (.cons rfl rfl .nil))))
      ·
        have hz : ¬ 256 ^ (plen (bgn N).t (lng (bgn N)) i) ≤ (l.getD (1 + i) 0).val := of_decide_eq_false hb1
        refine zK (zT ?_)
        refine AW.draw mixed ?_
        refine yP pF ?_
        refine yL1 ?_
        refine yM ?_
        refine yP ((PureOp.lenD tbok rfl rfl).mono (v' := vi .i64 (plen (bgn N).t (lng (bgn N)) i)) (congrArg (vi .i64) (by rw [pc_len, List.length_replicate]; rfl))) ?_
        refine AWo.sliceA2 (v := .slice (some ⟨13000, 0, none⟩) (plen (bgn N).t (lng (bgn N)) i) 0) (l := 0) (h := (plen (bgn N).t (lng (bgn N)) i)) tbok rfl .none (.some rfl) rfl rfl rfl rfl (Nat.zero_le _) hp (by simp [digs_len]) rfl rfl rfl ?_
        refine AWo.append tbok (all := (rdD (bgn N).t (lng (bgn N)) l (i + 1)).map (vi .u8)) (news := (digs 256 (plen (bgn N).t (lng (bgn N)) i) (l.getD (1 + i) 0).val).map (vi .u8)) 84000 rfl rfl rfl rfl (by simp) (newsP hp) (by simp [digs_len]; omega) (by decide) rfl rfl rfl (by decide) rfl rfl rfl (by omega) (by omega) (oneM (fun _ => rfl) _) (by rw [rdD_succ, List.map_append]) rfl rfl ?_
        refine yP pF ?_
        refine AWo.store1 tbok rfl rfl rfl rfl rfl (by simp) rfl rfl ?_
        refine zD (zL (zT (zR ?_)))
        refine yP (pAdd (b := 1)) ?_
        refine yM ?_
        refine zN (zT ?_)
        rw [show (rdD (bgn N).t (lng (bgn N)) l i).length + (plen (bgn N).t (lng (bgn N)) i) = (rdD (bgn N).t (lng (bgn N)) l (i + 1)).length by rw [rdD_succ, List.length_append, digs_len]]
        exact ⟨(np (bgn N).t (lng (bgn N))) - (i + 1), [(77000, 84000)], _, by omega, wk [0, 3000, 8000, 77000, 51000], i + 1, ⟨by omega, by rw [bad_succ, hbi, decide_eq_false hz]; rfl⟩, rfl, rfl⟩
    ·
      exact absurd hbi (by rw [show i = (np (bgn N).t (lng (bgn N))) by simp at hb0; omega, hbd]; decide)
theorem offieldsF_ctr {l : List Fp} {N : Nat} (hx : l.length < 1000000) (hl0 : 0 < l.length) (hN : (l.getD 0 0).val % 18446744073709551616 = N) (hNl : N < 18446744073709551616) (hi : itC (bgn N).k (bgn N).t (bgn N).c = 0) (hcn : N / 65536 ≤ 1048576) (hL : (lng (bgn N)) < 200000000) (hv : (l.getD 0 0).val < 18446744073709551616) (hd : (lng (bgn N)) ≤ 32 * l.length) (hq : 1 + (np (bgn N).t (lng (bgn N))) ≤ l.length) (hbd : bad (bgn N).t (lng (bgn N)) l (np (bgn N).t (lng (bgn N))) = false) (hr : ¬ Rgt ⟨(bgn N).k, (bgn N).t, (bgn N).c, rdD (bgn N).t (lng (bgn N)) l (np (bgn N).t (lng (bgn N)))⟩) : GC Try.prog 79 [.slice (some ⟨0, 0, none⟩) l.length 0] [⟨((l.map fe).flatten).map (vi .u64), false, 4⟩] [opV op0, vi .i64 0, vi .i64 3] [⟨((l.map fe).flatten).map (vi .u64), false, 4⟩] := by
  refine gi Try.func79 ?_
  refine zS ?_
  refine yN 3000 1 _ ?_
  refine yA ?_
  refine yA ?_
  refine zN (zQ (zS ?_))
  refine yM ?_
  refine yP pL ?_
  refine yP ((PureOp.eqN (b := 0) rfl rfl).mono (v' := .bool false) (congrArg Value.bool (beq_eq_false_iff_ne.2 (by omega)))) ?_
  refine zN (zF (zK (zT (zS ?_))))
  refine yM ?_
  refine yP (PureOp.idxN tbok (j := 0) rfl rfl rfl rfl hl0) ?_
  refine yLJ (xs := l) (0) ?_
  refine yC (bytesF_ctr (x := l.getD 0 0)) bd107 [] [] ?_
  refine yN 6000 1 ((List.replicate 32 0).map (vi .u8)) ?_
  refine AWo.storeAllN tbok rfl rfl rfl rfl (by rw [List.length_map, digs_len]) (by rfl) (oneM (fun _ => rfl) _) rfl ?_
  refine zN (zS ?_)
  refine AWo.sliceA2 (v := .slice (some ⟨6000, 0, none⟩) 32 0) (l := 0) (h := 32) tbok rfl .none .none rfl rfl rfl rfl (by decide) (by decide) (by simp [digs_len]) rfl rfl rfl ?_
  refine yC (lw32_ctr (v := (l.getD 0 0).val) (val_lt _)) bd95 [(6000, 0)] [23000] ?_
  refine yA ?_
  refine zN (zS ?_)
  refine yM ?_
  refine yP (PureOp.idx1 tbok (j := 0) rfl rfl rfl rfl (by decide)) ?_
  refine AWo.loadM tbok 0 rfl rfl rfl (by rw [digs_len]; decide) rfl rfl ?_
  rw [dig4 hN]
  refine yC (v := .tuple #[.agg #[vi .i64 (N % 256), vi .i64 (N / 256 % 256), vi .i64 (N / 65536), .slice none 0 0], .bool true]) (begun_ctr (n := N) hNl) bd119 [] [] ?_ (hv := (by rw [decide_eq_true hi]; rfl))
  refine yM ?_
  refine yP pX ?_
  refine yP pX ?_
  refine yN 8000 1 _ ?_
  refine AWo.storeAllN (vs := [vi .i64 (N % 256), vi .i64 (N / 256 % 256), vi .i64 (N / 65536), .slice none 0 0]) tbok rfl rfl rfl rfl rfl rfl rfl rfl ?_
  refine yA ?_
  refine zN (zQ (zS ?_))
  refine yM ?_
  refine yP (PureOp.not rfl) ?_
  refine yM ?_
  refine yM ?_
  refine yC (lb4v_ctr (v := (l.getD 0 0).val) (val_lt _)) bd122 [(23000, 0)] [] ?_
  refine yP ((PureOp.gtN (b := 64) rfl rfl).mono (v' := .bool false) (congrArg Value.bool (decide_eq_false (fun h => Nat.not_le.2 hv (blen_gt.1 h))))) ?_
  refine yP pE ?_
  refine zN (zF (zK (zT (zQ (zS ?_)))))
  refine yLA ?_
  refine yC (v := vi .i64 (lng (bgn N))) (longN_ctr (k := (bgn N).k) (t := (bgn N).t) (cn := N / 65536) hcn) bd120 [] [] ?_
  refine yM ?_
  refine yP pL ?_
  refine yP (PureOp.mulI (a := 32) (b := l.length) rfl rfl (by omega)) ?_
  refine yP ((PureOp.gtN rfl rfl).mono (v' := .bool false) (congrArg Value.bool (by simp; omega))) ?_
  refine zN (zF (zK (zT ?_)))
  refine AW.seqD mixed ?_
  refine yP pF ?_
  refine yL1 ?_
  refine yLA ?_
  refine yC (v := vi .i64 (lng (bgn N))) (longN_ctr (k := (bgn N).k) (t := (bgn N).t) (cn := N / 65536) hcn) bd120 [] [] ?_
  refine AWo.makeF (n := (lng (bgn N))) tbok 50000 ((List.replicate (lng (bgn N)) 0).map (vi .u8)) rfl rfl rfl rfl rfl rfl rfl rfl (by omega) (by omega) (by simp [vi]) rfl rfl rfl ?_
  rw [deepZ]
  refine yC (cutZ_ctr (t := (bgn N).t) (L := (lng (bgn N))) (fits_lng hi) hL) bd118 [] [51000] ?_ (hnew := (.new (clo_map_ren (cloM fun _ => rfl)) (OkL.clo (cloM fun _ => rfl)) .nil))
  refine yA ?_
  refine zD (zQ (zS ?_))
  refine yM ?_
  refine yP pL ?_
  refine yP (PureOp.subI (a := l.length) (b := 1) rfl rfl hl0 (by omega)) ?_
  refine yM ?_
  refine yP pL ?_
  refine yP ((PureOp.ltN rfl rfl).mono (v' := .bool false) (congrArg Value.bool (by simp; omega))) ?_
  refine zN (zF (zK (zT (zQ (zS ?_)))))
  refine yM ?_
  refine yP pL ?_
  refine yM ?_
  refine zN (zB ?_)
  refine AW.ghost 77000 1 rfl ?_
  refine AW.loopw (fun mm σ => ∃ i, (i ≤ (np (bgn N).t (lng (bgn N))) ∧ bad (bgn N).t (lng (bgn N)) l i = false) ∧ mm = (np (bgn N).t (lng (bgn N))) - i ∧ σ = ⟨(upd (upd (upd (upd (upd (upd (upd emp 0 (.slice (some ⟨0, 0, none⟩) l.length 0)) 2 (.pointer (some ⟨3000, 0, none⟩))) 7 (.pointer (some ⟨8000, 0, none⟩))) 9 (.slice (some ⟨51000, 0, none⟩) (np (bgn N).t (lng (bgn N))) 0)) 58 (.slice (some ⟨51000, 0, none⟩) (np (bgn N).t (lng (bgn N))) 0)) 59 (vi .i64 (np (bgn N).t (lng (bgn N))))) 60 (vi .i64 i)), (upd (upd (upd (upd (upd emp 0 ⟨((l.map fe).flatten).map (vi .u64), false, 4⟩) 3000 ⟨[.int .i64 0, .int .i64 0, .int .i64 0, .slice none 0 0], true, 1⟩) 8000 ⟨[vi .i64 (N % 256), vi .i64 (N / 256 % 256), vi .i64 (N / 65536), .slice (some ⟨77000, 0, none⟩) (rdD (bgn N).t (lng (bgn N)) l i).length 0], true, 1⟩) 77000 ⟨(rdD (bgn N).t (lng (bgn N)) l i).map (vi .u8), true, 1⟩) 51000 ⟨(pcs (bgn N).t (List.replicate (lng (bgn N)) 0)).map db, true, 1⟩)⟩) (fm := []) ?_ ⟨0, ⟨Nat.zero_le _, rfl⟩, rfl, rfl⟩ ?_
  ·
    refine Wk.of [0, 3000, 8000, 77000, 51000] ?_ ?_ ?_ (by decide) rfl
    ·
      refine WkE.upd rfl (by exact VR.flat _ rfl) ?_
      refine WkE.upd rfl (by exact VR.flat _ rfl) ?_
      refine WkE.upd rfl (.slice (51000) 0 _ 0 ⟨_, rfl⟩ (by simp) (by simp)) ?_
      refine WkE.upd rfl (.slice (51000) 0 _ 0 ⟨_, rfl⟩ (by simp) (by simp)) ?_
      refine WkE.upd rfl (.ptr (8000) 0 ⟨_, rfl⟩) ?_
      refine WkE.upd rfl (.ptr (3000) 0 ⟨_, rfl⟩) ?_
      refine WkE.upd rfl (.slice (0) 0 _ 0 ⟨_, rfl⟩ (by simp) (by simp)) ?_
      exact WkE.emp
    ·
      refine WkM.cloM rfl rfl (fun _ => rfl) (fun h => h) ?_
      refine WkM.flat rfl (flatM flat_vi) (fun h => h) ?_
      refine WkM.nil3 rfl (fun h => h) ?_
      refine WkM.flat rfl (by simp [flatV, flat_vi]) (fun h => h) ?_
      refine WkM.flat rfl (flatM flat_vi) (fun h => h) ?_
      exact WkM.emp
    ·
      repeat (refine dom_upd_mem (by decide) ?_)
      exact dom_emp
  ·
    rintro mm σ ⟨i, ⟨hik, hbi⟩, rfl, rfl⟩
    refine zS ?_
    refine yP pLt ?_
    refine zN (zQ ?_)
    refine zA (fun hb0 => ?_) (fun hb0 => ?_)
    ·
      have hi : i < (np (bgn N).t (lng (bgn N))) := by simpa using hb0
      have hi1 : 1 + i < l.length := by omega
      have hp : (plen (bgn N).t (lng (bgn N)) i) ≤ 32 := Nat.le_trans (Nat.min_le_left _ _) (wd_le _ _)
      have hrd := rdD_le (bgn N).t (lng (bgn N)) l i
      refine zK (zT (zQ (zB (zS ?_))))
      refine yM ?_
      refine yP (PureOp.idx1 tbok (j := i) rfl rfl rfl rfl hi) ?_
      refine AWo.loadM tbok [] rfl rfl rfl (by rw [pcs_len, List.length_replicate]; exact hi) rfl rfl ?_
      rw [pcs_getD (by rw [List.length_replicate]; exact hi)]
      refine yA ?_
      refine yA ?_
      refine zN (zS ?_)
      refine yM ?_
      refine yM ?_
      refine yP (pAdd (a := 1) (b := i)) ?_
      refine yP (PureOp.idxN tbok (j := 1 + i) rfl rfl rfl rfl hi1) ?_
      refine yLJ (xs := l) (1 + i) ?_
      refine yC (bytesF_ctr (x := l.getD (1 + i) 0)) bd107 [] [] ?_
      refine yN 13000 1 ((List.replicate 32 0).map (vi .u8)) ?_
      refine AWo.storeAllN tbok rfl rfl rfl rfl (by rw [List.length_map, digs_len]) (by rfl) (oneM (fun _ => rfl) _) rfl ?_
      refine zN (zQ (zS ?_))
      refine yM ?_
      refine yP ((PureOp.lenD tbok rfl rfl).mono (v' := vi .i64 (plen (bgn N).t (lng (bgn N)) i)) (congrArg (vi .i64) (by rw [pc_len, List.length_replicate]; rfl))) ?_
      refine AWo.sliceA2 (v := .slice (some ⟨13000, (plen (bgn N).t (lng (bgn N)) i), none⟩) (32 - (plen (bgn N).t (lng (bgn N)) i)) 0) (l := (plen (bgn N).t (lng (bgn N)) i)) (h := 32) tbok rfl (.some rfl) .none rfl rfl rfl rfl hp (by decide) (by simp [digs_len]) (by rw [Nat.zero_add, Nat.mul_one]) rfl rfl ?_
      refine yC (lwP_ctr (v := (l.getD (1 + i) 0).val) (p := (plen (bgn N).t (lng (bgn N)) i)) (val_lt _) hp) bd95 [(13000, (plen (bgn N).t (lng (bgn N)) i))] [75000] ?_ (hfit := (.part rfl (partP hp) (flatM flat_vi) (by simp [digs_len]; omega) .nil))
      refine yC (lbP_ctr (v := (l.getD (1 + i) 0).val) (p := (plen (bgn N).t (lng (bgn N)) i)) (val_lt _) hp) bd122 [(75000, 0)] [] ?_
      refine yP ((PureOp.gtN (b := 0) rfl rfl).mono (v' := .bool (decide (256 ^ (plen (bgn N).t (lng (bgn N)) i) ≤ (l.getD (1 + i) 0).val))) (congrArg Value.bool (by rw [Bool.eq_iff_iff, decide_eq_true_eq, decide_eq_true_eq]; exact blen_0))) ?_
      refine zN ?_
      refine zA (fun hb1 => ?_) (fun hb1 => ?_)
      ·
        exact absurd (bad_mono (by rw [bad_succ, hbi, hb1]; rfl) (show i + 1 ≤ (np (bgn N).t (lng (bgn N))) from hi)) (by rw [hbd]; decide)
      ·
        have hz : ¬ 256 ^ (plen (bgn N).t (lng (bgn N)) i) ≤ (l.getD (1 + i) 0).val := of_decide_eq_false hb1
        refine zK (zT ?_)
        refine AW.draw mixed ?_
        refine yP pF ?_
        refine yL1 ?_
        refine yM ?_
        refine yP ((PureOp.lenD tbok rfl rfl).mono (v' := vi .i64 (plen (bgn N).t (lng (bgn N)) i)) (congrArg (vi .i64) (by rw [pc_len, List.length_replicate]; rfl))) ?_
        refine AWo.sliceA2 (v := .slice (some ⟨13000, 0, none⟩) (plen (bgn N).t (lng (bgn N)) i) 0) (l := 0) (h := (plen (bgn N).t (lng (bgn N)) i)) tbok rfl .none (.some rfl) rfl rfl rfl rfl (Nat.zero_le _) hp (by simp [digs_len]) rfl rfl rfl ?_
        refine AWo.append tbok (all := (rdD (bgn N).t (lng (bgn N)) l (i + 1)).map (vi .u8)) (news := (digs 256 (plen (bgn N).t (lng (bgn N)) i) (l.getD (1 + i) 0).val).map (vi .u8)) 84000 rfl rfl rfl rfl (by simp) (newsP hp) (by simp [digs_len]; omega) (by decide) rfl rfl rfl (by decide) rfl rfl rfl (by omega) (by omega) (oneM (fun _ => rfl) _) (by rw [rdD_succ, List.map_append]) rfl rfl ?_
        refine yP pF ?_
        refine AWo.store1 tbok rfl rfl rfl rfl rfl (by simp) rfl rfl ?_
        refine zD (zL (zT (zR ?_)))
        refine yP (pAdd (b := 1)) ?_
        refine yM ?_
        refine zN (zT ?_)
        rw [show (rdD (bgn N).t (lng (bgn N)) l i).length + (plen (bgn N).t (lng (bgn N)) i) = (rdD (bgn N).t (lng (bgn N)) l (i + 1)).length by rw [rdD_succ, List.length_append, digs_len]]
        exact ⟨(np (bgn N).t (lng (bgn N))) - (i + 1), [(77000, 84000)], _, by omega, wk [0, 3000, 8000, 77000, 51000], i + 1, ⟨by omega, by rw [bad_succ, hbi, decide_eq_false hz]; rfl⟩, rfl, rfl⟩
    ·
      obtain rfl : i = (np (bgn N).t (lng (bgn N))) := by simp at hb0; omega
      refine zX (zV (zV (zH (zT (zQ ?_)))))
      refine AW.freezeC 8000 77000 3 ((rdD (bgn N).t (lng (bgn N)) l (np (bgn N).t (lng (bgn N)))).map (vi .u8)) [vi .i64 (N % 256), vi .i64 (N / 256 % 256), vi .i64 (N / 65536), db (rdD (bgn N).t (lng (bgn N)) l (np (bgn N).t (lng (bgn N))))] rfl rfl rfl rfl (by decide) (cloM fun _ => rfl) (by simp) (by rw [List.drop_zero]; exact List.take_of_length_le (by simp)) ?_
      refine zS ?_
      refine yLA ?_
      refine AWo.callX (v := .bool false) (opright_ctr (x := ⟨(bgn N).k, (bgn N).t, (bgn N).c, rdD (bgn N).t (lng (bgn N)) l (np (bgn N).t (lng (bgn N)))⟩) (rdD_bd _ _ _ _) (by show List.length (rdD (bgn N).t (lng (bgn N)) l (np (bgn N).t (lng (bgn N)))) < _; have := rdD_le (bgn N).t (lng (bgn N)) l (np (bgn N).t (lng (bgn N))); omega)) bd116 [] [] rfl (.cons rfl .nil) rfl (.clo rfl .nil) .nil rfl .nil frN (by decide) (.cons rfl rfl .nil) (congrArg Value.bool (decide_eq_false hr)) rfl rfl rfl ?_
      refine yP (PureOp.not rfl) ?_
      refine zN (zC (zS ?_))
      refine yP (PureOp.opNil ((PureOp.buildStruct [] pl96.choose_spec.1 zr96 (by decide) pl96.choose_spec.2 rfl rfl).mono (v' := .agg #[.int .i64 0, .int .i64 0, .int .i64 0, .slice none 0 0]) rfl)) ?_
      refine AWo.storeAllN (vs := [.int .i64 0, .int .i64 0, .int .i64 0, deep 0 1 []]) tbok rfl rfl rfl rfl rfl rfl rfl rfl ?_
      refine yA ?_
      refine yA ?_
      refine zN (zE (zU ?_))
      exact rq [] [.cell 2 96, .tmp 3, .tmp 4] (hres := (.clo rfl (.cons rfl rfl (.cons rfl rfl .nil))))
theorem offieldsG_ctr {l : List Fp} {N : Nat} (hx : l.length < 1000000) (hl0 : 0 < l.length) (hN : (l.getD 0 0).val % 18446744073709551616 = N) (hNl : N < 18446744073709551616) (hi : itC (bgn N).k (bgn N).t (bgn N).c = 0) (hcn : N / 65536 ≤ 1048576) (hL : (lng (bgn N)) < 200000000) (hv : (l.getD 0 0).val < 18446744073709551616) (hd : (lng (bgn N)) ≤ 32 * l.length) (hq : 1 + (np (bgn N).t (lng (bgn N))) ≤ l.length) (hbd : bad (bgn N).t (lng (bgn N)) l (np (bgn N).t (lng (bgn N))) = false) (hr : Rgt ⟨(bgn N).k, (bgn N).t, (bgn N).c, rdD (bgn N).t (lng (bgn N)) l (np (bgn N).t (lng (bgn N)))⟩) : GC Try.prog 79 [.slice (some ⟨0, 0, none⟩) l.length 0] [⟨((l.map fe).flatten).map (vi .u64), false, 4⟩] [opV (Opn.mk (bgn N).k (bgn N).t (bgn N).c (rdD (bgn N).t (lng (bgn N)) l (np (bgn N).t (lng (bgn N))))), vi .i64 (1 + (np (bgn N).t (lng (bgn N)))), vi .i64 0] [⟨((l.map fe).flatten).map (vi .u64), false, 4⟩] := by
  refine gi Try.func79 ?_
  refine zS ?_
  refine yN 3000 1 _ ?_
  refine yA ?_
  refine yA ?_
  refine zN (zQ (zS ?_))
  refine yM ?_
  refine yP pL ?_
  refine yP ((PureOp.eqN (b := 0) rfl rfl).mono (v' := .bool false) (congrArg Value.bool (beq_eq_false_iff_ne.2 (by omega)))) ?_
  refine zN (zF (zK (zT (zS ?_))))
  refine yM ?_
  refine yP (PureOp.idxN tbok (j := 0) rfl rfl rfl rfl hl0) ?_
  refine yLJ (xs := l) (0) ?_
  refine yC (bytesF_ctr (x := l.getD 0 0)) bd107 [] [] ?_
  refine yN 6000 1 ((List.replicate 32 0).map (vi .u8)) ?_
  refine AWo.storeAllN tbok rfl rfl rfl rfl (by rw [List.length_map, digs_len]) (by rfl) (oneM (fun _ => rfl) _) rfl ?_
  refine zN (zS ?_)
  refine AWo.sliceA2 (v := .slice (some ⟨6000, 0, none⟩) 32 0) (l := 0) (h := 32) tbok rfl .none .none rfl rfl rfl rfl (by decide) (by decide) (by simp [digs_len]) rfl rfl rfl ?_
  refine yC (lw32_ctr (v := (l.getD 0 0).val) (val_lt _)) bd95 [(6000, 0)] [23000] ?_
  refine yA ?_
  refine zN (zS ?_)
  refine yM ?_
  refine yP (PureOp.idx1 tbok (j := 0) rfl rfl rfl rfl (by decide)) ?_
  refine AWo.loadM tbok 0 rfl rfl rfl (by rw [digs_len]; decide) rfl rfl ?_
  rw [dig4 hN]
  refine yC (v := .tuple #[.agg #[vi .i64 (N % 256), vi .i64 (N / 256 % 256), vi .i64 (N / 65536), .slice none 0 0], .bool true]) (begun_ctr (n := N) hNl) bd119 [] [] ?_ (hv := (by rw [decide_eq_true hi]; rfl))
  refine yM ?_
  refine yP pX ?_
  refine yP pX ?_
  refine yN 8000 1 _ ?_
  refine AWo.storeAllN (vs := [vi .i64 (N % 256), vi .i64 (N / 256 % 256), vi .i64 (N / 65536), .slice none 0 0]) tbok rfl rfl rfl rfl rfl rfl rfl rfl ?_
  refine yA ?_
  refine zN (zQ (zS ?_))
  refine yM ?_
  refine yP (PureOp.not rfl) ?_
  refine yM ?_
  refine yM ?_
  refine yC (lb4v_ctr (v := (l.getD 0 0).val) (val_lt _)) bd122 [(23000, 0)] [] ?_
  refine yP ((PureOp.gtN (b := 64) rfl rfl).mono (v' := .bool false) (congrArg Value.bool (decide_eq_false (fun h => Nat.not_le.2 hv (blen_gt.1 h))))) ?_
  refine yP pE ?_
  refine zN (zF (zK (zT (zQ (zS ?_)))))
  refine yLA ?_
  refine yC (v := vi .i64 (lng (bgn N))) (longN_ctr (k := (bgn N).k) (t := (bgn N).t) (cn := N / 65536) hcn) bd120 [] [] ?_
  refine yM ?_
  refine yP pL ?_
  refine yP (PureOp.mulI (a := 32) (b := l.length) rfl rfl (by omega)) ?_
  refine yP ((PureOp.gtN rfl rfl).mono (v' := .bool false) (congrArg Value.bool (by simp; omega))) ?_
  refine zN (zF (zK (zT ?_)))
  refine AW.seqD mixed ?_
  refine yP pF ?_
  refine yL1 ?_
  refine yLA ?_
  refine yC (v := vi .i64 (lng (bgn N))) (longN_ctr (k := (bgn N).k) (t := (bgn N).t) (cn := N / 65536) hcn) bd120 [] [] ?_
  refine AWo.makeF (n := (lng (bgn N))) tbok 50000 ((List.replicate (lng (bgn N)) 0).map (vi .u8)) rfl rfl rfl rfl rfl rfl rfl rfl (by omega) (by omega) (by simp [vi]) rfl rfl rfl ?_
  rw [deepZ]
  refine yC (cutZ_ctr (t := (bgn N).t) (L := (lng (bgn N))) (fits_lng hi) hL) bd118 [] [51000] ?_ (hnew := (.new (clo_map_ren (cloM fun _ => rfl)) (OkL.clo (cloM fun _ => rfl)) .nil))
  refine yA ?_
  refine zD (zQ (zS ?_))
  refine yM ?_
  refine yP pL ?_
  refine yP (PureOp.subI (a := l.length) (b := 1) rfl rfl hl0 (by omega)) ?_
  refine yM ?_
  refine yP pL ?_
  refine yP ((PureOp.ltN rfl rfl).mono (v' := .bool false) (congrArg Value.bool (by simp; omega))) ?_
  refine zN (zF (zK (zT (zQ (zS ?_)))))
  refine yM ?_
  refine yP pL ?_
  refine yM ?_
  refine zN (zB ?_)
  refine AW.ghost 77000 1 rfl ?_
  refine AW.loopw (fun mm σ => ∃ i, (i ≤ (np (bgn N).t (lng (bgn N))) ∧ bad (bgn N).t (lng (bgn N)) l i = false) ∧ mm = (np (bgn N).t (lng (bgn N))) - i ∧ σ = ⟨(upd (upd (upd (upd (upd (upd (upd emp 0 (.slice (some ⟨0, 0, none⟩) l.length 0)) 2 (.pointer (some ⟨3000, 0, none⟩))) 7 (.pointer (some ⟨8000, 0, none⟩))) 9 (.slice (some ⟨51000, 0, none⟩) (np (bgn N).t (lng (bgn N))) 0)) 58 (.slice (some ⟨51000, 0, none⟩) (np (bgn N).t (lng (bgn N))) 0)) 59 (vi .i64 (np (bgn N).t (lng (bgn N))))) 60 (vi .i64 i)), (upd (upd (upd (upd (upd emp 0 ⟨((l.map fe).flatten).map (vi .u64), false, 4⟩) 3000 ⟨[.int .i64 0, .int .i64 0, .int .i64 0, .slice none 0 0], true, 1⟩) 8000 ⟨[vi .i64 (N % 256), vi .i64 (N / 256 % 256), vi .i64 (N / 65536), .slice (some ⟨77000, 0, none⟩) (rdD (bgn N).t (lng (bgn N)) l i).length 0], true, 1⟩) 77000 ⟨(rdD (bgn N).t (lng (bgn N)) l i).map (vi .u8), true, 1⟩) 51000 ⟨(pcs (bgn N).t (List.replicate (lng (bgn N)) 0)).map db, true, 1⟩)⟩) (fm := []) ?_ ⟨0, ⟨Nat.zero_le _, rfl⟩, rfl, rfl⟩ ?_
  ·
    refine Wk.of [0, 3000, 8000, 77000, 51000] ?_ ?_ ?_ (by decide) rfl
    ·
      refine WkE.upd rfl (by exact VR.flat _ rfl) ?_
      refine WkE.upd rfl (by exact VR.flat _ rfl) ?_
      refine WkE.upd rfl (.slice (51000) 0 _ 0 ⟨_, rfl⟩ (by simp) (by simp)) ?_
      refine WkE.upd rfl (.slice (51000) 0 _ 0 ⟨_, rfl⟩ (by simp) (by simp)) ?_
      refine WkE.upd rfl (.ptr (8000) 0 ⟨_, rfl⟩) ?_
      refine WkE.upd rfl (.ptr (3000) 0 ⟨_, rfl⟩) ?_
      refine WkE.upd rfl (.slice (0) 0 _ 0 ⟨_, rfl⟩ (by simp) (by simp)) ?_
      exact WkE.emp
    ·
      refine WkM.cloM rfl rfl (fun _ => rfl) (fun h => h) ?_
      refine WkM.flat rfl (flatM flat_vi) (fun h => h) ?_
      refine WkM.nil3 rfl (fun h => h) ?_
      refine WkM.flat rfl (by simp [flatV, flat_vi]) (fun h => h) ?_
      refine WkM.flat rfl (flatM flat_vi) (fun h => h) ?_
      exact WkM.emp
    ·
      repeat (refine dom_upd_mem (by decide) ?_)
      exact dom_emp
  ·
    rintro mm σ ⟨i, ⟨hik, hbi⟩, rfl, rfl⟩
    refine zS ?_
    refine yP pLt ?_
    refine zN (zQ ?_)
    refine zA (fun hb0 => ?_) (fun hb0 => ?_)
    ·
      have hi : i < (np (bgn N).t (lng (bgn N))) := by simpa using hb0
      have hi1 : 1 + i < l.length := by omega
      have hp : (plen (bgn N).t (lng (bgn N)) i) ≤ 32 := Nat.le_trans (Nat.min_le_left _ _) (wd_le _ _)
      have hrd := rdD_le (bgn N).t (lng (bgn N)) l i
      refine zK (zT (zQ (zB (zS ?_))))
      refine yM ?_
      refine yP (PureOp.idx1 tbok (j := i) rfl rfl rfl rfl hi) ?_
      refine AWo.loadM tbok [] rfl rfl rfl (by rw [pcs_len, List.length_replicate]; exact hi) rfl rfl ?_
      rw [pcs_getD (by rw [List.length_replicate]; exact hi)]
      refine yA ?_
      refine yA ?_
      refine zN (zS ?_)
      refine yM ?_
      refine yM ?_
      refine yP (pAdd (a := 1) (b := i)) ?_
      refine yP (PureOp.idxN tbok (j := 1 + i) rfl rfl rfl rfl hi1) ?_
      refine yLJ (xs := l) (1 + i) ?_
      refine yC (bytesF_ctr (x := l.getD (1 + i) 0)) bd107 [] [] ?_
      refine yN 13000 1 ((List.replicate 32 0).map (vi .u8)) ?_
      refine AWo.storeAllN tbok rfl rfl rfl rfl (by rw [List.length_map, digs_len]) (by rfl) (oneM (fun _ => rfl) _) rfl ?_
      refine zN (zQ (zS ?_))
      refine yM ?_
      refine yP ((PureOp.lenD tbok rfl rfl).mono (v' := vi .i64 (plen (bgn N).t (lng (bgn N)) i)) (congrArg (vi .i64) (by rw [pc_len, List.length_replicate]; rfl))) ?_
      refine AWo.sliceA2 (v := .slice (some ⟨13000, (plen (bgn N).t (lng (bgn N)) i), none⟩) (32 - (plen (bgn N).t (lng (bgn N)) i)) 0) (l := (plen (bgn N).t (lng (bgn N)) i)) (h := 32) tbok rfl (.some rfl) .none rfl rfl rfl rfl hp (by decide) (by simp [digs_len]) (by rw [Nat.zero_add, Nat.mul_one]) rfl rfl ?_
      refine yC (lwP_ctr (v := (l.getD (1 + i) 0).val) (p := (plen (bgn N).t (lng (bgn N)) i)) (val_lt _) hp) bd95 [(13000, (plen (bgn N).t (lng (bgn N)) i))] [75000] ?_ (hfit := (.part rfl (partP hp) (flatM flat_vi) (by simp [digs_len]; omega) .nil))
      refine yC (lbP_ctr (v := (l.getD (1 + i) 0).val) (p := (plen (bgn N).t (lng (bgn N)) i)) (val_lt _) hp) bd122 [(75000, 0)] [] ?_
      refine yP ((PureOp.gtN (b := 0) rfl rfl).mono (v' := .bool (decide (256 ^ (plen (bgn N).t (lng (bgn N)) i) ≤ (l.getD (1 + i) 0).val))) (congrArg Value.bool (by rw [Bool.eq_iff_iff, decide_eq_true_eq, decide_eq_true_eq]; exact blen_0))) ?_
      refine zN ?_
      refine zA (fun hb1 => ?_) (fun hb1 => ?_)
      ·
        exact absurd (bad_mono (by rw [bad_succ, hbi, hb1]; rfl) (show i + 1 ≤ (np (bgn N).t (lng (bgn N))) from hi)) (by rw [hbd]; decide)
      ·
        have hz : ¬ 256 ^ (plen (bgn N).t (lng (bgn N)) i) ≤ (l.getD (1 + i) 0).val := of_decide_eq_false hb1
        refine zK (zT ?_)
        refine AW.draw mixed ?_
        refine yP pF ?_
        refine yL1 ?_
        refine yM ?_
        refine yP ((PureOp.lenD tbok rfl rfl).mono (v' := vi .i64 (plen (bgn N).t (lng (bgn N)) i)) (congrArg (vi .i64) (by rw [pc_len, List.length_replicate]; rfl))) ?_
        refine AWo.sliceA2 (v := .slice (some ⟨13000, 0, none⟩) (plen (bgn N).t (lng (bgn N)) i) 0) (l := 0) (h := (plen (bgn N).t (lng (bgn N)) i)) tbok rfl .none (.some rfl) rfl rfl rfl rfl (Nat.zero_le _) hp (by simp [digs_len]) rfl rfl rfl ?_
        refine AWo.append tbok (all := (rdD (bgn N).t (lng (bgn N)) l (i + 1)).map (vi .u8)) (news := (digs 256 (plen (bgn N).t (lng (bgn N)) i) (l.getD (1 + i) 0).val).map (vi .u8)) 84000 rfl rfl rfl rfl (by simp) (newsP hp) (by simp [digs_len]; omega) (by decide) rfl rfl rfl (by decide) rfl rfl rfl (by omega) (by omega) (oneM (fun _ => rfl) _) (by rw [rdD_succ, List.map_append]) rfl rfl ?_
        refine yP pF ?_
        refine AWo.store1 tbok rfl rfl rfl rfl rfl (by simp) rfl rfl ?_
        refine zD (zL (zT (zR ?_)))
        refine yP (pAdd (b := 1)) ?_
        refine yM ?_
        refine zN (zT ?_)
        rw [show (rdD (bgn N).t (lng (bgn N)) l i).length + (plen (bgn N).t (lng (bgn N)) i) = (rdD (bgn N).t (lng (bgn N)) l (i + 1)).length by rw [rdD_succ, List.length_append, digs_len]]
        exact ⟨(np (bgn N).t (lng (bgn N))) - (i + 1), [(77000, 84000)], _, by omega, wk [0, 3000, 8000, 77000, 51000], i + 1, ⟨by omega, by rw [bad_succ, hbi, decide_eq_false hz]; rfl⟩, rfl, rfl⟩
    ·
      obtain rfl : i = (np (bgn N).t (lng (bgn N))) := by simp at hb0; omega
      refine zX (zV (zV (zH (zT (zQ ?_)))))
      refine AW.freezeC 8000 77000 3 ((rdD (bgn N).t (lng (bgn N)) l (np (bgn N).t (lng (bgn N)))).map (vi .u8)) [vi .i64 (N % 256), vi .i64 (N / 256 % 256), vi .i64 (N / 65536), db (rdD (bgn N).t (lng (bgn N)) l (np (bgn N).t (lng (bgn N))))] rfl rfl rfl rfl (by decide) (cloM fun _ => rfl) (by simp) (by rw [List.drop_zero]; exact List.take_of_length_le (by simp)) ?_
      refine zS ?_
      refine yLA ?_
      refine AWo.callX (v := .bool true) (opright_ctr (x := ⟨(bgn N).k, (bgn N).t, (bgn N).c, rdD (bgn N).t (lng (bgn N)) l (np (bgn N).t (lng (bgn N)))⟩) (rdD_bd _ _ _ _) (by show List.length (rdD (bgn N).t (lng (bgn N)) l (np (bgn N).t (lng (bgn N)))) < _; have := rdD_le (bgn N).t (lng (bgn N)) l (np (bgn N).t (lng (bgn N))); omega)) bd116 [] [] rfl (.cons rfl .nil) rfl (.clo rfl .nil) .nil rfl .nil frN (by decide) (.cons rfl rfl .nil) (congrArg Value.bool (decide_eq_true hr)) rfl rfl rfl ?_
      refine yP (PureOp.not rfl) ?_
      refine zN (zF (zK (zT (zS ?_))))
      refine yLA ?_
      refine yM ?_
      refine yP pL ?_
      refine yP (PureOp.addI (a := 1) (b := (np (bgn N).t (lng (bgn N)))) rfl rfl (by omega)) ?_
      refine AWo.storeAllN (vs := [vi .i64 (N % 256), vi .i64 (N / 256 % 256), vi .i64 (N / 65536), db (rdD (bgn N).t (lng (bgn N)) l (np (bgn N).t (lng (bgn N))))]) tbok rfl rfl rfl rfl rfl rfl rfl rfl ?_
      refine yA ?_
      refine yA ?_
      refine zN (zE ?_)
      exact rq [] [.cell 2 96, .tmp 3, .tmp 4] (hres := (.clo rfl (.cons rfl rfl (.cons rfl rfl .nil))))
theorem offields_ctr {l : List Fp} (hx : l.length < 1000000) : GC Try.prog 79 [.slice (some ⟨0, 0, none⟩) l.length 0] [⟨((l.map fe).flatten).map (vi .u64), false, 4⟩] [opV (ofF l).1, vi .i64 (ofF l).2.1, vi .i64 (ofF l).2.2] [⟨((l.map fe).flatten).map (vi .u64), false, 4⟩] := by
  rcases Nat.eq_zero_or_pos l.length with hl0 | hl0
  · rw [show ofF l = (op0, 0, 2) from if_pos hl0]
    exact offieldsA_ctr hl0
  obtain ⟨N, hN⟩ : ∃ N, (l.getD 0 0).val % 18446744073709551616 = N := ⟨_, rfl⟩
  have hNl : N < 18446744073709551616 := hN ▸ Nat.mod_lt _ (by decide)
  by_cases hi : itC (bgn N).k (bgn N).t (bgn N).c = 0
  · have hcn : N / 65536 ≤ 1048576 := by
      have := (itC_inv hi).2.2.2.2.2.1
      change ((N / 65536 : Nat) : Int) ≤ 1048576 at this
      omega
    have hL := lng_lt hi
    rcases Nat.lt_or_ge (l.getD 0 0).val 18446744073709551616 with hv | hv
    · have e0 : ofF l = ofF1 l (bgn N) := by
        unfold ofF
        rw [hN, if_neg (by omega), if_neg (by rintro (h | h); exact h hi; exact Nat.not_le.2 hv h)]
      rw [e0]
      rcases Nat.lt_or_ge (32 * l.length) (lng (bgn N)) with hd | hd
      · rw [show ofF1 l (bgn N) = (op0, 0, 2) from if_pos hd]
        exact offieldsD_ctr hx hl0 hN hNl hi hcn hL hv hd
      rcases Nat.lt_or_ge l.length (1 + (np (bgn N).t (lng (bgn N)))) with hq | hq
      · rw [show ofF1 l (bgn N) = (op0, 0, 2) by unfold ofF1; rw [if_neg (by omega), if_pos hq]]
        exact offieldsQ_ctr hx hl0 hN hNl hi hcn hL hv hd hq
      cases hbd : bad (bgn N).t (lng (bgn N)) l (np (bgn N).t (lng (bgn N))) with
      | true =>
        rw [show ofF1 l (bgn N) = (op0, 0, 3) by unfold ofF1; rw [if_neg (by omega), if_neg (by omega), if_pos hbd]]
        exact offieldsE_ctr hx hl0 hN hNl hi hcn hL hv hd hq hbd
      | false =>
        by_cases hr : Rgt ⟨(bgn N).k, (bgn N).t, (bgn N).c, rdD (bgn N).t (lng (bgn N)) l (np (bgn N).t (lng (bgn N)))⟩
        · rw [show ofF1 l (bgn N) = (⟨(bgn N).k, (bgn N).t, (bgn N).c, rdD (bgn N).t (lng (bgn N)) l (np (bgn N).t (lng (bgn N)))⟩, 1 + (np (bgn N).t (lng (bgn N))), 0) by unfold ofF1; rw [if_neg (by omega), if_neg (by omega), if_neg (by rw [hbd]; decide), if_pos hr]]
          exact offieldsG_ctr hx hl0 hN hNl hi hcn hL hv hd hq hbd hr
        · rw [show ofF1 l (bgn N) = (op0, 0, 3) by unfold ofF1; rw [if_neg (by omega), if_neg (by omega), if_neg (by rw [hbd]; decide), if_neg hr]]
          exact offieldsF_ctr hx hl0 hN hNl hi hcn hL hv hd hq hbd hr
    · rw [show ofF l = (op0, 0, 3) by unfold ofF; rw [hN, if_neg (by omega), if_pos (.inr hv)]]
      exact offieldsB_ctr hx hl0 hN hNl hi hcn hL hv
  · rw [show ofF l = (op0, 0, 3) by unfold ofF; rw [hN, if_neg (by omega), if_pos (.inl hi)]]
    exact offieldsC_ctr hx hl0 hN hNl hi
end Go.Proofs.Ytpahdiljpnfkdaa
namespace Go.Proofs.Ytpahdiljpnfkdaa
open Go Sim
def opC (x : Opn) : List Value := [.int .i64 x.k, .int .i64 x.t, .int .i64 x.c, db x.d]
theorem cloF (Ls : List Opn) : ∀ v ∈ Ls.flatMap opC, cloV v = true := fun v hv => by
  obtain ⟨x, _, hx⟩ := List.mem_flatMap.1 hv
  simp only [opC, List.mem_cons, List.not_mem_nil, or_false] at hx
  rcases hx with rfl | rfl | rfl | rfl <;> rfl
theorem opC_len : ∀ Ls : List Opn, (Ls.flatMap opC).length = Ls.length * 4
  | [] => rfl
  | x :: Ls => by rw [List.flatMap_cons, List.length_append, opC_len Ls, List.length_cons]; show 4 + _ = _; omega
theorem opC_room {Ls : List Opn} {k : Nat} (hk : k < Ls.length) : 0 + k * 4 + 4 ≤ (Ls.flatMap opC).length := by rw [opC_len]; omega
theorem opC_at : ∀ {Ls : List Opn} {k : Nat}, k < Ls.length → ((Ls.flatMap opC).drop (0 + k * 4)).take 4 = opC (Ls.getD k op0)
  | [], k, h => absurd h (Nat.not_lt_zero k)
  | x :: Ls, 0, _ => rfl
  | x :: Ls, k + 1, h => by
    have ih := opC_at (Ls := Ls) (k := k) (Nat.lt_of_succ_lt_succ h)
    rw [List.flatMap_cons, show 0 + (k + 1) * 4 = 4 + (0 + k * 4) by omega, ← List.drop_drop]
    exact ih
theorem getD_mem {Ls : List Opn} {k : Nat} (hk : k < Ls.length) : Ls.getD k op0 ∈ Ls := by
  rw [List.getD_eq_getElem?_getD, List.getElem?_eq_getElem hk]; exact List.getElem_mem hk
theorem take_step {Ls : List Opn} {k : Nat} (hk : k < Ls.length) : Ls.take (k + 1) = Ls.take k ++ [Ls.getD k op0] := by
  rw [List.take_succ_eq_append_getElem hk, List.getD_eq_getElem?_getD, List.getElem?_eq_getElem hk]; rfl
noncomputable def bB (Ls : List Opn) (k : Nat) : List Nat := ((Ls.take k).map toB).flatten
noncomputable def fF (Ls : List Opn) (k : Nat) : List Fp := ((Ls.take k).map toF).flatten
noncomputable def rB (Ls : List Opn) (j : Nat) : List Nat := ((Ls.drop j).map toB).flatten
noncomputable def rF (Ls : List Opn) (j : Nat) : List Fp := ((Ls.drop j).map toF).flatten
theorem bB_succ {Ls : List Opn} {k : Nat} (hk : k < Ls.length) : bB Ls (k + 1) = bB Ls k ++ toB (Ls.getD k op0) := by rw [bB, take_step hk, List.map_append, List.flatten_append]; simp [bB]
theorem fF_succ {Ls : List Opn} {k : Nat} (hk : k < Ls.length) : fF Ls (k + 1) = fF Ls k ++ toF (Ls.getD k op0) := by rw [fF, take_step hk, List.map_append, List.flatten_append]; simp [fF]
theorem bB_all {Ls : List Opn} : bB Ls Ls.length = rB Ls 0 := by rw [bB, rB, List.take_length, List.drop_zero]
theorem fF_all {Ls : List Opn} : fF Ls Ls.length = rF Ls 0 := by rw [fF, rF, List.take_length, List.drop_zero]
theorem drop_step {Ls : List Opn} {k : Nat} (hk : k < Ls.length) : Ls.drop k = Ls.getD k op0 :: Ls.drop (k + 1) := by
  rw [List.drop_eq_getElem_cons hk, List.getD_eq_getElem?_getD, List.getElem?_eq_getElem hk]; rfl
theorem rB_step {Ls : List Opn} {j : Nat} (hj : j < Ls.length) : rB Ls j = toB (Ls.getD j op0) ++ rB Ls (j + 1) := by rw [rB, drop_step hj]; rfl
theorem rF_step {Ls : List Opn} {j : Nat} (hj : j < Ls.length) : rF Ls j = toF (Ls.getD j op0) ++ rF Ls (j + 1) := by rw [rF, drop_step hj]; rfl
theorem rB_end {Ls : List Opn} : rB Ls Ls.length = [] := by rw [rB, List.drop_length]; rfl
theorem rF_end {Ls : List Opn} : rF Ls Ls.length = [] := by rw [rF, List.drop_length]; rfl
theorem flat_le {α : Type} {f : Opn → List α} {n : Nat} : ∀ {Ls : List Opn}, (∀ x ∈ Ls, (f x).length ≤ n) → ((Ls.map f).flatten).length ≤ n * Ls.length
  | [], _ => Nat.zero_le _
  | x :: Ls, h => by
    have ih := flat_le (f := f) (Ls := Ls) fun y hy => h y (List.mem_cons_of_mem _ hy)
    have := h x (List.mem_cons_self ..)
    rw [List.map_cons, List.flatten_cons, List.length_append, List.length_cons, Nat.mul_succ]; omega
theorem toB_200 {x : Opn} (h : Rgt x ∧ x.d.length ≤ 200) : (toB x).length ≤ 300 := by rw [toB_len h.1]; omega
theorem toF_200 {x : Opn} (h : Rgt x ∧ x.d.length ≤ 200) : (toF x).length ≤ 300 := by rw [toF_len h.1]; have := @np_le x.t x.d.length; omega
theorem bB_le {Ls : List Opn} {k : Nat} (h : ∀ x ∈ Ls.take k, Rgt x ∧ x.d.length ≤ 200) : (bB Ls k).length ≤ 300 * Ls.length :=
  Nat.le_trans (flat_le fun x hx => toB_200 (h x hx)) (Nat.mul_le_mul_left _ (by rw [List.length_take]; omega))
theorem fF_le {Ls : List Opn} {k : Nat} (h : ∀ x ∈ Ls.take k, Rgt x ∧ x.d.length ≤ 200) : (fF Ls k).length ≤ 300 * Ls.length :=
  Nat.le_trans (flat_le fun x hx => toF_200 (h x hx)) (Nat.mul_le_mul_left _ (by rw [List.length_take]; omega))
theorem rB_le {Ls : List Opn} (h : ∀ x ∈ Ls, Rgt x ∧ x.d.length ≤ 200) (j : Nat) : (rB Ls j).length ≤ 300 * Ls.length :=
  Nat.le_trans (flat_le fun x hx => toB_200 (h x (List.mem_of_mem_drop hx))) (Nat.mul_le_mul_left _ (by rw [List.length_drop]; omega))
theorem rF_le {Ls : List Opn} (h : ∀ x ∈ Ls, Rgt x ∧ x.d.length ≤ 200) (j : Nat) : (rF Ls j).length ≤ 300 * Ls.length :=
  Nat.le_trans (flat_le fun x hx => toF_200 (h x (List.mem_of_mem_drop hx))) (Nat.mul_le_mul_left _ (by rw [List.length_drop]; omega))
theorem toB_bd' {x : Opn} (hb : bd 256 x.d) : bd 256 (toB x) := by
  unfold toB
  split
  · intro z hz
    rcases List.mem_append.1 hz with h | h
    · simp only [hdr, List.mem_cons, List.not_mem_nil, or_false] at h
      omega
    · exact hb z h
  · intro z hz; simp at hz
theorem rB_bd {Ls : List Opn} (hB : ∀ x ∈ Ls, bd 256 x.d) (j : Nat) : bd 256 (rB Ls j) := fun z hz => by
  obtain ⟨y, hy, hzy⟩ := List.mem_flatten.1 hz
  obtain ⟨x, hx, rfl⟩ := List.mem_map.1 hy
  exact toB_bd' (hB x (List.mem_of_mem_drop hx)) z hzy
abbrev dF (l : List Fp) : Value := deep l.length 4 (((l.map fe).flatten).map (vi .u64))
theorem dF_drop (a b : List Fp) : deep ((a ++ b).length - a.length) 4 ((((((a ++ b).map fe).flatten).map (vi .u64)).drop (a.length * 4)).take (((a ++ b).length - a.length) * 4)) = dF b := by
  have h : (((a ++ b).map fe).flatten.map (vi .u64)).drop (a.length * 4) = ((b.map fe).flatten).map (vi .u64) := by
    have := FF_drop (a ++ b) a.length
    rw [List.drop_left] at this
    exact this
  rw [h, List.length_append, Nat.add_sub_cancel_left, List.take_of_length_le (Nat.le_of_eq (FF_len b))]
theorem offieldsD {l : List Fp} (hx : l.length < 1000000) : GC Try.prog 79 [dF l] [] [opV (ofF l).1, vi .i64 (ofF l).2.1, vi .i64 (ofF l).2.2] [] := GC.deepen (offields_ctr hx) (.deep .nil) (.pure rfl (.pure rfl (.pure rfl .nil)))
theorem enclists_ctr {Ls : List Opn} (hB : ∀ x ∈ Ls, bd 256 x.d) : GC Try.prog 16 [.slice (some ⟨0, 0, none⟩) Ls.length 0] [⟨Ls.flatMap opC, false, 4⟩] [.bool true] [⟨Ls.flatMap opC, false, 4⟩] := by
  refine gi Try.func16 ?_
  refine zS ?_
  refine yA ?_
  refine zN (zQ (zS ?_))
  refine yC (speaks15_ctr) bd66 [] [] ?_
  refine yP (PureOp.not rfl) ?_
  refine yM ?_
  refine yM ?_
  refine yP pL ?_
  refine yP (pGt (b := 6)) ?_
  refine yP pE ?_
  refine zN ?_
  refine zA (fun hb0 => ?_) (fun hb0 => ?_)
  ·
    refine zS ?_
    refine yC (speaks15_ctr) bd66 [] [] ?_
    refine yA ?_
    refine zN (zE (zU ?_))
    exact rq [] [.tmp 2] (hb := (OutL.clo rfl (cloF Ls) (by intro h; exact h.elim id fun h => absurd h.1 (by simp)) trivial))
  ·
    have hl6 : Ls.length ≤ 6 := by simpa using hb0
    refine zK (zT (zS ?_))
    refine yA ?_
    refine zN (zS ?_)
    refine yA ?_
    refine zN (zQ (zS ?_))
    refine yM ?_
    refine yP pL ?_
    refine yM ?_
    refine zN (zB ?_)
    refine AW.ghost 77000 1 rfl ?_
    refine AW.ghost 78000 4 rfl ?_
    refine AW.loopw (fun mm σ => ∃ k, (k ≤ Ls.length ∧ ∀ x ∈ Ls.take k, Rgt x ∧ x.d.length ≤ 200) ∧ mm = Ls.length - k ∧ σ = ⟨(upd (upd (upd (upd (upd (upd emp 0 (.slice (some ⟨0, 0, none⟩) Ls.length 0)) 3 (.slice (some ⟨77000, 0, none⟩) (bB Ls k).length 0)) 4 (.slice (some ⟨78000, 0, none⟩) (fF Ls k).length 0)) 23 (.slice (some ⟨0, 0, none⟩) Ls.length 0)) 24 (vi .i64 Ls.length)) 25 (vi .i64 k)), (upd (upd (upd emp 0 ⟨Ls.flatMap opC, false, 4⟩) 77000 ⟨(bB Ls k).map (vi .u8), true, 1⟩) 78000 ⟨(((fF Ls k).map fe).flatten).map (vi .u64), true, 4⟩)⟩) (fm := []) ?_ ⟨0, ⟨Nat.zero_le _, fun x hx => by simp at hx⟩, rfl, rfl⟩ ?_
    ·
      refine Wk.of [0, 77000, 78000] ?_ ?_ ?_ (by decide) rfl
      ·
        refine WkE.upd rfl (by exact VR.flat _ rfl) ?_
        refine WkE.upd rfl (by exact VR.flat _ rfl) ?_
        refine WkE.upd rfl (.slice (0) 0 _ 0 ⟨_, rfl⟩ (by simp) (by simp)) ?_
        refine WkE.upd rfl (by exact .nilS _ (by simp)) ?_
        refine WkE.upd rfl (by exact .nilS _ (by simp)) ?_
        refine WkE.upd rfl (.slice (0) 0 _ 0 ⟨_, rfl⟩ (by simp) (by simp)) ?_
        exact WkE.emp
      ·
        refine WkM.flat rfl (flatM flat_vi) (fun h => h) ?_
        refine WkM.flat rfl (flatM flat_vi) (fun h => h) ?_
        refine WkM.clo rfl (cloF Ls) (fun h => h) ?_
        exact WkM.emp
      ·
        repeat (refine dom_upd_mem (by decide) ?_)
        exact dom_emp
    ·
      rintro mm σ ⟨k, ⟨hkl, hI⟩, rfl, rfl⟩
      refine zS ?_
      refine yP pLt ?_
      refine zN (zQ ?_)
      refine zA (fun hb1 => ?_) (fun hb1 => ?_)
      ·
        have hk : k < Ls.length := by simpa using hb1
        obtain ⟨x, hxe⟩ : ∃ x, x = Ls.getD k op0 := ⟨_, rfl⟩
        have hxm : x ∈ Ls := hxe ▸ getD_mem hk
        have hbl := bB_le hI
        have hfl := fF_le hI
        refine zK (zT (zQ (zB (zS ?_))))
        refine yP (PureOp.idxN tbok (j := k) rfl rfl rfl rfl hk) ?_
        refine AWo.loadAgg tbok (vs := [.int .i64 x.k, .int .i64 x.t, .int .i64 x.c, db x.d]) rfl rfl rfl rfl (opC_room hk) (by rw [hxe]; exact opC_at hk) rfl rfl ?_
        refine yN 7000 1 _ ?_
        refine AWo.storeAllN (vs := [.int .i64 x.k, .int .i64 x.t, .int .i64 x.c, db x.d]) tbok rfl rfl rfl rfl rfl rfl rfl rfl ?_
        refine zN (zQ (zS ?_))
        refine yP pF ?_
        refine yL1 ?_
        refine yP pD ?_
        refine yP (pGt (b := 200)) ?_
        first | refine AWo.pureB (PureOp.move rfl) rfl rfl (fun hb2 => ?_) (fun hb2 => ?_)
        ·
          refine yK ?_
          refine yK ?_
          refine yK ?_
          refine yP pT ?_
          refine zN (zC (zS ?_))
          refine yA ?_
          refine zN (zE (zU (zI (zU (zU (zI (zU ?_)))))))
          exact rq [] [.tmp 2] (hb := (OutL.clo rfl (cloF Ls) (by intro h; exact h.elim id fun h => absurd h.1 (by simp)) trivial))
        ·
          have hx2 : x.d.length ≤ 200 := by simpa using hb2
          refine yLA ?_
          refine yC (right15_ctr (x := x) (hB x hxm) (by omega)) bd73 [] [] ?_ (hargs := (.clo rfl .nil))
          refine yP (PureOp.not rfl) ?_
          refine yP pE ?_
          refine zN ?_
          refine zA (fun hb3 => ?_) (fun hb3 => ?_)
          ·
            refine zS ?_
            refine yA ?_
            refine zN (zE (zU (zI (zU (zU (zI (zU ?_)))))))
            exact rq [] [.tmp 2] (hb := (OutL.clo rfl (cloF Ls) (by intro h; exact h.elim id fun h => absurd h.1 (by simp)) trivial))
          ·
            have hx : Rgt x := by simpa using hb3
            have hxl : (toB x).length = 6 + x.d.length := toB_len hx
            have hxf : (toF x).length = 1 + np x.t x.d.length := toF_len hx
            have hnp := @np_le x.t x.d.length
            refine zK (zT (zS ?_))
            refine yM ?_
            refine yLA ?_
            refine yC (ofop_ctr (x := x)) bd75 [] [] ?_ (hargs := (.clo rfl .nil)) (hrv := (.clo rfl .nil))
            refine yC (tobytes_ctr (x := x) (hB x hxm) (by omega)) bd74 [] [42000] ?_ (hargs := (.clo rfl .nil))
            refine AWo.append tbok (all := (bB Ls (k + 1)).map (vi .u8)) (news := (toB x).map (vi .u8)) 43000 rfl rfl rfl rfl (by simp) (by show List.take _ (List.drop 0 _) = _; rw [List.drop_zero]; exact List.take_of_length_le (by simp)) (by show 0 + (toB x).length * 1 ≤ _; simp) (by decide) rfl rfl rfl (by decide) rfl rfl rfl (by omega) (by omega) (oneM (fun _ => rfl) _) (by rw [bB_succ hk, ← hxe, List.map_append]) rfl rfl ?_
            refine yA ?_
            refine zN (zR ?_)
            refine yM ?_
            refine yLA ?_
            refine yC (ofop_ctr (x := x)) bd75 [] [] ?_ (hargs := (.clo rfl .nil)) (hrv := (.clo rfl .nil))
            refine yC (tofields_ctr (x := x) (hB x hxm) (by omega)) bd76 [] [47000] ?_ (hargs := (.clo rfl .nil))
            refine AWo.append tbok (all := (((fF Ls (k + 1)).map fe).flatten).map (vi .u64)) (news := (((toF x).map fe).flatten).map (vi .u64)) 48000 rfl rfl rfl rfl (FF_len _) (by show List.take _ (List.drop 0 _) = _; rw [List.drop_zero]; exact List.take_of_length_le (by rw [FF_len]; exact Nat.le_refl _)) (by show 0 + (toF x).length * 4 ≤ _; rw [FF_len, Nat.zero_add]; exact Nat.le_refl _) (by decide) rfl rfl rfl (by decide) rfl rfl rfl (by omega) (by omega) (oneM (fun _ => rfl) _) (by rw [fF_succ hk, ← hxe, List.map_append, List.flatten_append, List.map_append]) rfl rfl ?_
            refine yA ?_
            refine zN (zL (zT (zR ?_)))
            refine yP (pAdd (b := 1)) ?_
            refine yM ?_
            refine zN (zT ?_)
            rw [show (bB Ls k).length + (toB x).length = (bB Ls (k + 1)).length by rw [bB_succ hk, ← hxe, List.length_append], show (fF Ls k).length + (toF x).length = (fF Ls (k + 1)).length by rw [fF_succ hk, ← hxe, List.length_append]]
            refine ⟨Ls.length - (k + 1), [(77000, 43000), (78000, 48000)], _, by omega, ?_, k + 1, ⟨hk, fun y hy => by
  rw [take_step hk, ← hxe] at hy
  rcases List.mem_append.1 hy with h | h
  · exact hI y h
  · simp at h; subst h; exact ⟨hx, hx2⟩⟩, rfl, rfl⟩
            refine Wk.of [0, 77000, 78000] ?_ ?_ ?_ (by decide) rfl
            ·
              refine WkE.upd rfl (by exact VR.flat _ rfl) ?_
              refine WkE.upd rfl (by exact VR.flat _ rfl) ?_
              refine WkE.upd rfl (.slice (0) 0 _ 0 ⟨_, rfl⟩ (by simp) (by simp)) ?_
              refine WkE.upd rfl (by exact .slice (78000) 0 _ 0 ⟨_, rfl⟩ (by simp) (by simp)) ?_
              refine WkE.upd rfl (by exact .slice (77000) 0 _ 0 ⟨_, rfl⟩ (by simp) (by simp)) ?_
              refine WkE.upd rfl (.slice (0) 0 _ 0 ⟨_, rfl⟩ (by simp) (by simp)) ?_
              exact WkE.emp
            ·
              refine WkM.flat rfl (flatM flat_vi) (fun h => h) ?_
              refine WkM.flat rfl (flatM flat_vi) (fun h => h) ?_
              refine WkM.clo rfl (cloF Ls) (fun h => h) ?_
              exact WkM.emp
            ·
              repeat (refine dom_upd_mem (by decide) ?_)
              exact dom_emp
      ·
        obtain rfl : k = Ls.length := by simp at hb1; omega
        rw [bB_all, fF_all]
        rw [List.take_length] at hI
        refine zX (zV (zV (zH (zT (zQ (zS ?_))))))
        refine yM ?_
        refine yP pL ?_
        refine yM ?_
        refine zN (zB ?_)
        refine AW.freeze 3 77000 ((rB Ls 0).map (vi .u8)) ?_ rfl rfl (cloM fun _ => rfl) (by simp) (by rw [List.drop_zero]; exact List.take_of_length_le (by simp))
        refine AW.freeze 4 78000 ((((rF Ls 0).map fe).flatten).map (vi .u64)) ?_ rfl rfl (cloM fun _ => rfl) (by rw [FF_len]; omega) (by rw [List.drop_zero]; exact List.take_of_length_le (by rw [FF_len]; exact Nat.le_refl _))
        refine AW.loopw (fun mm σ => ∃ j, (j ≤ Ls.length) ∧ mm = Ls.length - j ∧ σ = ⟨(upd (upd (upd (upd (upd (upd emp 0 (.slice (some ⟨0, 0, none⟩) Ls.length 0)) 3 (db (rB Ls j))) 4 (dF (rF Ls j))) 49 (.slice (some ⟨0, 0, none⟩) Ls.length 0)) 50 (vi .i64 Ls.length)) 51 (vi .i64 j)), (upd emp 0 ⟨Ls.flatMap opC, false, 4⟩)⟩) (fm := []) ?_ ⟨0, Nat.zero_le _, rfl, rfl⟩ ?_
        ·
          refine Wk.of [0] ?_ ?_ ?_ (by decide) rfl
          ·
            refine WkE.upd rfl (by exact VR.flat _ rfl) ?_
            refine WkE.upd rfl (by exact VR.flat _ rfl) ?_
            refine WkE.upd rfl (.slice (0) 0 _ 0 ⟨_, rfl⟩ (by simp) (by simp)) ?_
            refine WkE.upd rfl (clo_refl (by simp) rfl) ?_
            refine WkE.upd rfl (clo_refl (by simp) rfl) ?_
            refine WkE.upd rfl (.slice (0) 0 _ 0 ⟨_, rfl⟩ (by simp) (by simp)) ?_
            exact WkE.emp
          ·
            refine WkM.clo rfl (cloF Ls) (fun h => h) ?_
            exact WkM.emp
          ·
            repeat (refine dom_upd_mem (by decide) ?_)
            exact dom_emp
        ·
          rintro mm σ ⟨j, hjl, rfl, rfl⟩
          refine zS ?_
          refine yP pLt ?_
          refine zN (zQ ?_)
          refine zA (fun hb4 => ?_) (fun hb4 => ?_)
          ·
            have hj : j < Ls.length := by simpa using hb4
            obtain ⟨x, hxe⟩ : ∃ x, x = Ls.getD j op0 := ⟨_, rfl⟩
            have hxm : x ∈ Ls := hxe ▸ getD_mem hj
            have hx := (hI x hxm).1
            have hBe : rB Ls j = toB x ++ rB Ls (j + 1) := hxe ▸ rB_step hj
            have hFe : rF Ls j = toF x ++ rF Ls (j + 1) := hxe ▸ rF_step hj
            have hOB : ofB (rB Ls j) = (x, (toB x).length, 0) := by rw [hBe]; exact ofB_toB hx _
            have hOF : ofF (rF Ls j) = (x, (toF x).length, 0) := by rw [hFe]; exact ofF_toF (hB x hxm) hx _
            have hBl : (rB Ls j).length = (toB x).length + (rB Ls (j + 1)).length := by rw [hBe, List.length_append]
            have hFl : (rF Ls j).length = (toF x).length + (rF Ls (j + 1)).length := by rw [hFe, List.length_append]
            refine zK (zT (zQ (zB (zS ?_))))
            refine yP (PureOp.idxN tbok (j := j) rfl rfl rfl rfl hj) ?_
            refine AWo.loadAgg tbok (vs := [.int .i64 x.k, .int .i64 x.t, .int .i64 x.c, db x.d]) rfl rfl rfl rfl (opC_room hj) (by rw [hxe]; exact opC_at hj) rfl rfl ?_
            refine yN 9000 1 _ ?_
            refine AWo.storeAllN (vs := [.int .i64 x.k, .int .i64 x.t, .int .i64 x.c, db x.d]) tbok rfl rfl rfl rfl rfl rfl rfl rfl ?_
            refine zN (zS ?_)
            refine yM ?_
            refine yC (v := .tuple #[opV x, vi .i64 (toB x).length, vi .i64 0]) (ofbytes_ctr (B := rB Ls j) (rB_bd hB j) (by have := rB_le hI j; omega)) bd78 [] [] ?_ (hrv := (.clo rfl (.cons rfl rfl (.cons rfl rfl .nil)))) (hv := (by rw [show ofB (rB Ls j) = (x, (toB x).length, 0) from hOB]; rfl))
            refine yM ?_
            refine yP pX ?_
            refine yP pX ?_
            refine yP pX ?_
            refine yN 10000 1 _ ?_
            refine AWo.storeAllN (vs := [.int .i64 x.k, .int .i64 x.t, .int .i64 x.c, db x.d]) tbok rfl rfl rfl rfl rfl rfl rfl rfl ?_
            refine yA ?_
            refine yA ?_
            refine zN (zS ?_)
            refine yM ?_
            refine yC (v := .tuple #[opV x, vi .i64 (toF x).length, vi .i64 0]) (offieldsD (l := rF Ls j) (by have := rF_le hI j; omega)) bd79 [] [] ?_ (hrv := (.clo rfl (.cons rfl rfl (.cons rfl rfl .nil)))) (hv := (by rw [show ofF (rF Ls j) = (x, (toF x).length, 0) from hOF]; rfl))
            refine yM ?_
            refine yP pX ?_
            refine yP pX ?_
            refine yP pX ?_
            refine yN 13000 1 _ ?_
            refine AWo.storeAllN (vs := [.int .i64 x.k, .int .i64 x.t, .int .i64 x.c, db x.d]) tbok rfl rfl rfl rfl rfl rfl rfl rfl ?_
            refine yA ?_
            refine yA ?_
            refine zN (zQ (zS ?_))
            refine yM ?_
            refine yP ((PureOp.neN (b := 0) rfl rfl).mono (v' := .bool false) (congrArg Value.bool (rfl))) ?_
            refine yM ?_
            refine yM ?_
            refine yP ((PureOp.neN (b := 0) rfl rfl).mono (v' := .bool false) (congrArg Value.bool (rfl))) ?_
            refine yP pE ?_
            refine yM ?_
            refine yM ?_
            refine yP ((PureOp.ltN (b := 1) rfl rfl).mono (v' := .bool false) (congrArg Value.bool (decide_eq_false (by rw [toB_len hx]; omega)))) ?_
            refine yP pE ?_
            refine yM ?_
            refine yM ?_
            refine yP ((PureOp.ltN (b := 1) rfl rfl).mono (v' := .bool false) (congrArg Value.bool (decide_eq_false (by rw [toF_len hx]; omega)))) ?_
            refine yP pE ?_
            refine yM ?_
            refine yM ?_
            refine yM ?_
            refine yP pD ?_
            refine yP ((PureOp.gtN rfl rfl).mono (v' := .bool false) (congrArg Value.bool (decide_eq_false (by rw [hBl]; omega)))) ?_
            refine yP pE ?_
            refine yM ?_
            refine yM ?_
            refine yM ?_
            refine yP pD ?_
            refine yP ((PureOp.gtN rfl rfl).mono (v' := .bool false) (congrArg Value.bool (decide_eq_false (by rw [hFl]; omega)))) ?_
            refine yP pE ?_
            refine yM ?_
            refine yLA ?_
            refine yLA ?_
            refine yC (same15_ctr (x := x)) bd80 [] [] ?_ (hargs := (.clo rfl (.clo rfl .nil)))
            refine yP (PureOp.not rfl) ?_
            refine yP pE ?_
            refine yM ?_
            refine yLA ?_
            refine yLA ?_
            refine yC (same15_ctr (x := x)) bd80 [] [] ?_ (hargs := (.clo rfl (.clo rfl .nil)))
            refine yP (PureOp.not rfl) ?_
            refine yP pE ?_
            refine zN (zF (zK (zT ?_)))
            refine AW.draw mixed ?_
            refine yM ?_
            refine yM ?_
            refine yP ((PureOp.sliceD (l := (toB x).length) (h := (rB Ls j).length) rfl (.some rfl) .none (tbok.sl _ _ rfl) (tbok.sz _ _ rfl) (by rw [hBl]; omega) (Nat.le_refl _)).mono (v' := db (rB Ls (j + 1))) (by rw [db_part (Nat.le_refl _) (by rw [hBl]; omega), List.take_of_length_le (by rw [List.length_drop]; omega), hBe, List.drop_left])) ?_
            refine yM ?_
            refine yM ?_
            refine yP ((PureOp.sliceD (l := (toF x).length) (h := (rF Ls j).length) rfl (.some rfl) .none (tbok.sl _ _ rfl) (tbok.sz _ _ rfl) (by rw [hFl]; omega) (Nat.le_refl _)).mono (v' := dF (rF Ls (j + 1))) (by rw [hFe]; exact dF_drop _ _)) ?_
            refine yA ?_
            refine yA ?_
            refine zD (zL (zT (zR ?_)))
            refine yP (pAdd (b := 1)) ?_
            refine yM ?_
            refine zN (zT ?_)
            refine ⟨Ls.length - (j + 1), [], _, by omega, ?_, j + 1, by omega, rfl, rfl⟩
            refine Wk.of [0] ?_ ?_ ?_ (by decide) rfl
            ·
              refine WkE.upd rfl (by exact VR.flat _ rfl) ?_
              refine WkE.upd rfl (by exact VR.flat _ rfl) ?_
              refine WkE.upd rfl (.slice (0) 0 _ 0 ⟨_, rfl⟩ (by simp) (by simp)) ?_
              refine WkE.upd rfl (clo_refl (by simp) rfl) ?_
              refine WkE.upd rfl (clo_refl (by simp) rfl) ?_
              refine WkE.upd rfl (.slice (0) 0 _ 0 ⟨_, rfl⟩ (by simp) (by simp)) ?_
              exact WkE.emp
            ·
              refine WkM.clo rfl (cloF Ls) (fun h => h) ?_
              exact WkM.emp
            ·
              repeat (refine dom_upd_mem (by decide) ?_)
              exact dom_emp
          ·
            obtain rfl : j = Ls.length := by simp at hb4; omega
            refine zX (zV (zV (zH (zT (zS ?_)))))
            refine yM ?_
            refine yP pD ?_
            refine yP ((PureOp.eqN (b := 0) rfl rfl).mono (v' := .bool true) (congrArg Value.bool (by rw [rB_end]; rfl))) ?_
            refine yM ?_
            refine yM ?_
            refine yP pD ?_
            refine yP ((PureOp.eqN (b := 0) rfl rfl).mono (v' := .bool true) (congrArg Value.bool (by rw [rF_end]; rfl))) ?_
            refine yP pT ?_
            refine yA ?_
            refine zN (zE ?_)
            exact rq [] [.tmp 2] (hb := (OutL.clo rfl (cloF Ls) (by intro h; exact h.elim id fun h => absurd h.1 (by simp)) trivial))
end Go.Proofs.Ytpahdiljpnfkdaa
namespace Go.Proofs.Ytpahdiljpnfkdaa
open Go
namespace Head
set_option maxRecDepth 100000 in
theorem words : ∃ l, Try.prog.initOrder = String.ofList l ∧ (behindMainWord (wordsSigns l)).head? = some "cut".toList := ⟨_, rfl, by kernel_rfl⟩
theorem head_of {P : Program} (h : ∃ l, P.initOrder = String.ofList l ∧ (behindMainWord (wordsSigns l)).head? = some "cut".toList) :
    ∃ rest, behindMainWord (wordsSigns P.initOrder.toList) = "cut".toList :: rest := by
  obtain ⟨l, h, hh⟩ := h
  rw [h, String.toList_ofList]
  cases hb : behindMainWord (wordsSigns l) with
  | nil => rw [hb] at hh; cases hh
  | cons c r => rw [hb] at hh; simp only [List.head?_cons, Option.some.injEq] at hh; exact ⟨r, by rw [hh]⟩
theorem cut_words : (liftWords.all fun s => !("cut".toList == s.toList)) = true := by decide +kernel
theorem strip_cut (rest : List (List Char)) : stripLifts liftWords ("cut".toList :: rest) = ([], "cut".toList :: rest) := by
  have key : ∀ o : List String, (o.all fun s => !("cut".toList == s.toList)) = true → stripLifts o ("cut".toList :: rest) = ([], "cut".toList :: rest) := by
    intro o
    induction o with
    | nil => intro _; rfl
    | cons s o ih =>
      intro h
      simp only [List.all_cons, Bool.and_eq_true, Bool.not_eq_true'] at h
      rw [stripLifts, if_neg (by rw [h.1]; exact Bool.false_ne_true)]
      exact ih h.2
  exact key liftWords cut_words
theorem mayEnter_of {P : Program} {rest : List (List Char)} (hr : behindMainWord (wordsSigns P.initOrder.toList) = "cut".toList :: rest) (e1 : P.laysLater = false) (e2 : P.bearsReflect = false) (e3 : P.doorFits [] = true) : P.mayEnter = true := by
  unfold Program.mayEnter
  rw [hr]
  simp only [strip_cut, e1, e2, e3]
  simp
theorem headLifts_of {P : Program} {rest : List (List Char)} (hr : behindMainWord (wordsSigns P.initOrder.toList) = "cut".toList :: rest) : P.headLifts = [] := by
  unfold Program.headLifts
  rw [hr, strip_cut]
  simp
theorem cut_ne : ("cut".toList == "carried".toList) = false ∧ ("cut".toList == "gc".toList) = false ∧ ("cut".toList == "spec".toList) = false := by decide +kernel
theorem liftsFinal_of {P : Program} {rest : List (List Char)} (hr : behindMainWord (wordsSigns P.initOrder.toList) = "cut".toList :: rest) : P.liftsFinal = false := by
  unfold Program.liftsFinal
  rw [hr, headLifts_of hr]
  simp
theorem make_of {P : Program} {rest : List (List Char)} (hr : behindMainWord (wordsSigns P.initOrder.toList) = "cut".toList :: rest) : P.make = some .cut := by
  unfold Program.make
  rw [hr]
  simp only [cut_ne.2.1, cut_ne.2.2, beq_self_eq_true]
  simp
theorem laysLater : Try.prog.laysLater = false := by kernel_rfl
theorem bearsReflect : Try.prog.bearsReflect = false := by kernel_rfl
theorem doorFits : Try.prog.doorFits [] = true := by kernel_rfl
theorem mayEnter : Try.prog.mayEnter = true := let ⟨_, hr⟩ := head_of words; mayEnter_of hr laysLater bearsReflect doorFits
theorem liftsFinal : Try.prog.liftsFinal = false := let ⟨_, hr⟩ := head_of words; liftsFinal_of hr
theorem make_cut : Try.prog.make = some .cut := let ⟨_, hr⟩ := head_of words; make_of hr
theorem band {a b : Bool} (ha : a = true) (hb : b = true) : (a && b) = true := by rw [ha, hb]; rfl
end Head
end Go.Proofs.Ytpahdiljpnfkdaa
