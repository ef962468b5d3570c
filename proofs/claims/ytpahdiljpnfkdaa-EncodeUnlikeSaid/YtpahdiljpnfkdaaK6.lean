/- What the proof stands on, part 6: the walk of each function, and plain laws of numbers. -/
import Derived.Test.YtpahdiljpnfkdaaK5
import Derived.Test.YtpahdiljpnfkdaaRows
import Derived.ProofKit
namespace Go.Proofs.Ytpahdiljpnfkdaa
open Go Sim
theorem coll_ctr {b : List Nat} {c : Nat} (hc : 1 ≤ c) (hc2 : c < 1000000) (hx : b.length < 1000000000) : GC Try.prog 141 [.func (.func 155) #[] #[.pointer (some ⟨0, 0, none⟩), .pointer (some ⟨1, 0, none⟩)]] [⟨[db b], false, 1⟩, ⟨[vi .i64 c], false, 1⟩] [.slice (some ⟨2, 0, none⟩) (chL c b (chunkN c b.length)).length 0] [⟨[db b], false, 1⟩, ⟨[vi .i64 c], false, 1⟩, ⟨(chL c b (chunkN c b.length)).map db, true, 1⟩] := by
 refine gi Try.func141 ?_
 refine zS ?_
 refine yA ?_
 refine zN (zS ?_)
 refine yM ?_
 refine yC (appseq_ctr hc hc2 hx) bd154 [(0, 0), (1, 0)] [5000] ?_ (hfit := (.clo rfl (cloM (f := db) (l := [b]) fun _ => rfl) (by intro h; exact h) (.flat rfl (flat1 rfl) (by intro h; exact h) .nil))) (hnew := (.keep rfl (.keep rfl (.new (clo_map_ren (cloM fun _ => rfl)) (OkL.clo (cloM fun _ => rfl)) .nil))))
 refine yA ?_
 refine zN (zE ?_)
 exact rq [5000] [.tmp 2] (hb := OutL.clo (c := [b].map db) rfl (cloM fun _ => rfl) (by intro h; exact h.elim id fun h => absurd h.1 (by simp)) (OutL.flat rfl (flat1 rfl) (by intro h; exact h.elim id fun h => absurd h.1 (by simp)) (OutL.clo rfl (cloM fun _ => rfl) (fun _ => rfl) trivial)))
theorem pcs_ch {t : Int} {b : List Nat} (h2 : t ≠ 2) (h3 : t ≠ 3) (h4 : t ≠ 4) : pcs t b = chL 31 b (chunkN 31 b.length) := by
 unfold pcs chL chunkN np
 rw [if_neg h2, if_neg h3, if_neg h4]
 refine List.map_congr_left fun i _ => ?_
 rw [pc, off, wd, if_neg h2, if_neg h3, if_neg h4, if_neg h2, if_neg h3, if_neg h4]
theorem wd_2 (k : Nat) : [8].getD (k % 1) 0 = wd 2 k := by rw [Nat.mod_one]; rfl
theorem wd_3 (k : Nat) : [32].getD (k % 1) 0 = wd 3 k := by rw [Nat.mod_one]; rfl
theorem wd_4 (k : Nat) : [31, 31, 31, 3].getD (k % 4) 0 = wd 4 k := by
 rw [show wd 4 k = if k % 4 = 3 then 3 else 31 from rfl]
 have h5 : k % 4 = 0 ∨ k % 4 = 1 ∨ k % 4 = 2 ∨ k % 4 = 3 := by omega
 rcases h5 with h5 | h5 | h5 | h5 <;> rw [h5] <;> rfl
theorem np_le {t : Int} {L : Nat} : np t L ≤ L := by unfold np; split <;> (try split) <;> (try split) <;> omega
theorem cut1_ctr {b : List Nat} (hL : b.length < 200000000) : GC Try.prog 118 [.int .i64 1, db b] [] [.slice (some ⟨0, 0, none⟩) (np 1 b.length) 0] [⟨(pcs 1 b).map db, true, 1⟩] := by
  refine gi Try.func118 ?_
  have hp := pcs_ch (t := 1) (b := b) (by decide) (by decide) (by decide)
  have hn : np 1 b.length = (chL 31 b (chunkN 31 b.length)).length := by rw [← hp, pcs_len]
  rw [hn, hp]
  refine zS ?_
  refine yA ?_
  refine zN (zS ?_)
  refine yM ?_
  refine yC (values1_ctr) bd113 [] [] ?_
  first | refine AWo.pure (PureOp.fldV1 tbok rfl rfl rfl rfl) rfl rfl ?_
  refine yA ?_
  refine zN (zQ (zS ?_))
  refine yM ?_
  refine yP (PureOp.nilEqNilS Try.underlying129 rfl) ?_
  refine zN (zC (zS ?_))
  refine yM ?_
  refine yC (chunkwD_ctr (b := b) (c := 31) (by decide)) bd142 [] [15000, 15001] ?_ (hnew := (.new (clo_map_ren (l := [b].map db) (cloM fun _ => rfl)) (OkL.clo (l := [b].map db) (cloM fun _ => rfl)) (.new (flat_map_ren (flat1 rfl)) (OkL.flat (flat1 rfl)) .nil)))
  refine yC (coll_ctr (b := b) (c := 31) (by decide) (by decide) (by omega)) bd141 [(15000, 0), (15001, 0)] [16000] ?_ (hfit := (.clo rfl (cloM (f := db) (l := [b]) fun _ => rfl) (by intro h; rfl) (.flat rfl (flat1 rfl) (by intro h; rfl) .nil))) (hnew := (.keep rfl (.keep rfl (.new (clo_map_ren (cloM fun _ => rfl)) (OkL.clo (cloM fun _ => rfl)) .nil))))
  refine yA ?_
  refine zN (zE (zU ?_))
  exact rq [16000] [.tmp 4] (hb := (OutL.clo rfl (cloM fun _ => rfl) (by intro h; rfl) trivial))
theorem cut0_ctr {t : Int} {b : List Nat} (h1 : t ≠ 1) (h2 : t ≠ 2) (h3 : t ≠ 3) (h4 : t ≠ 4) (hL : b.length < 200000000) : GC Try.prog 118 [.int .i64 t, db b] [] [.slice (some ⟨0, 0, none⟩) (np t b.length) 0] [⟨(pcs t b).map db, true, 1⟩] := by
  refine gi Try.func118 ?_
  have hp := pcs_ch (t := t) (b := b) h2 h3 h4
  have hn : np t b.length = (chL 31 b (chunkN 31 b.length)).length := by rw [← hp, pcs_len]
  rw [hn, hp]
  refine zS ?_
  refine yA ?_
  refine zN (zS ?_)
  refine yM ?_
  refine yC (values0_ctr h1 h2 h3 h4) bd113 [] [] ?_
  first | refine AWo.pure (PureOp.fldV1 tbok rfl rfl rfl rfl) rfl rfl ?_
  refine yA ?_
  refine zN (zQ (zS ?_))
  refine yM ?_
  refine yP (PureOp.nilEqNilS Try.underlying129 rfl) ?_
  refine zN (zC (zS ?_))
  refine yM ?_
  refine yC (chunkwD_ctr (b := b) (c := 31) (by decide)) bd142 [] [15000, 15001] ?_ (hnew := (.new (clo_map_ren (l := [b].map db) (cloM fun _ => rfl)) (OkL.clo (l := [b].map db) (cloM fun _ => rfl)) (.new (flat_map_ren (flat1 rfl)) (OkL.flat (flat1 rfl)) .nil)))
  refine yC (coll_ctr (b := b) (c := 31) (by decide) (by decide) (by omega)) bd141 [(15000, 0), (15001, 0)] [16000] ?_ (hfit := (.clo rfl (cloM (f := db) (l := [b]) fun _ => rfl) (by intro h; rfl) (.flat rfl (flat1 rfl) (by intro h; rfl) .nil))) (hnew := (.keep rfl (.keep rfl (.new (clo_map_ren (cloM fun _ => rfl)) (OkL.clo (cloM fun _ => rfl)) .nil))))
  refine yA ?_
  refine zN (zE (zU ?_))
  exact rq [16000] [.tmp 4] (hb := (OutL.clo rfl (cloM fun _ => rfl) (by intro h; rfl) trivial))
theorem cut2_ctr {b : List Nat} (hf : fits 2 b.length) (hL : b.length < 200000000) : GC Try.prog 118 [.int .i64 2, db b] [] [.slice (some ⟨0, 0, none⟩) (np 2 b.length) 0] [⟨(pcs 2 b).map db, true, 1⟩] := by
  have hnp : np 2 b.length ≤ b.length := np_le
  refine gi Try.func118 ?_
  refine zS ?_
  refine yA ?_
  refine zN (zS ?_)
  refine yM ?_
  refine yC (values2_ctr) bd113 [] [10000] ?_
  first | refine AWo.pure (PureOp.fldV1 tbok rfl rfl rfl rfl) rfl rfl ?_
  refine yA ?_
  refine zN (zQ (zS ?_))
  refine yM ?_
  refine yP (PureOp.slEqNil Try.underlying129 rfl (by decide)) ?_
  refine zN (zF (zK (zT (zS ?_))))
  refine yA ?_
  refine zN (zQ (zS ?_))
  refine yA ?_
  refine zN (zB ?_)
  refine AW.ghost 77000 1 rfl ?_
  refine AW.loopw (fun mm σ => ∃ k, (k ≤ np 2 b.length) ∧ mm = np 2 b.length - k ∧ σ = ⟨(upd (upd (upd (upd emp 1 (db (b.drop (off 2 k)))) 5 (.slice (some ⟨10000, 0, none⟩) 1 0)) 6 (.slice (some ⟨77000, 0, none⟩) k 0)) 7 (vi .i64 (k % 1))), (upd (upd emp 10000 ⟨[8].map (vi .i64), true, 1⟩) 77000 ⟨((List.range k).map (pc 2 b)).map db, true, 1⟩)⟩) (fm := []) (wk [10000, 77000]) ⟨0, Nat.zero_le _, rfl, rfl⟩ ?_
  rintro mm σ ⟨k, hk, rfl, rfl⟩
  refine zQ (zS ?_)
  refine yM ?_
  refine yP pD ?_
  refine yP (pGt (b := 0)) ?_
  refine zN ?_
  refine zA (fun hb0 => ?_) (fun hb0 => ?_)
  ·
    have h0 : 0 < (b.drop (off 2 k)).length := by simpa using hb0
    have hlt : off 2 k < b.length := by rw [List.length_drop] at h0; omega
    have hkn : k < np 2 b.length := (np_lt hf).2 hlt
    have hfit : wd 2 k ≤ (b.drop (off 2 k)).length := by have := off_fit hf (by decide) hlt; rw [List.length_drop]; omega
    refine zK (zT (zQ (zB (zS ?_))))
    refine yM ?_
    refine yM ?_
    refine yM ?_
    refine yM ?_
    refine yP (PureOp.idx1 tbok (j := k % 1) rfl rfl rfl rfl (by omega)) ?_
    refine AWo.loadM tbok 0 rfl rfl rfl (by show k % 1 < 1; omega) rfl rfl ?_
    rw [wd_2 k]
    refine yP ((PureOp.sliceD (l := 0) (h := wd 2 k) rfl .none (.some rfl) (tbok.sl _ _ rfl) (tbok.sz _ _ rfl) (Nat.zero_le _) hfit).mono (v' := db (pc 2 b k)) (by rw [db_part hfit (Nat.zero_le _), List.drop_zero, Nat.sub_zero]; rfl)) ?_
    refine AWo.buildSlice tbok 32000 [(0, db (pc 2 b k))] (out := [pc 2 b k].map db) rfl rfl (by decide) rfl rfl rfl (by decide) rfl rfl rfl rfl rfl ?_
    refine AWo.append tbok (all := ((List.range (k + 1)).map (pc 2 b)).map db) (news := [pc 2 b k].map db) 33000 rfl rfl rfl rfl (by simp) (by show List.take _ (List.drop 0 _) = _; rw [List.drop_zero]; exact List.take_of_length_le (by simp)) (by (simp; done)) (by decide) rfl rfl rfl (by decide) rfl rfl rfl (by omega) (by omega) (by rfl) (by rw [List.range_succ, List.map_append, List.map_append]; rfl) rfl rfl ?_
    refine yA ?_
    refine zN (zR ?_)
    refine yM ?_
    refine yM ?_
    refine yM ?_
    refine yP (PureOp.idx1 tbok (j := k % 1) rfl rfl rfl rfl (by omega)) ?_
    refine AWo.loadM tbok 0 rfl rfl rfl (by show k % 1 < 1; omega) rfl rfl ?_
    rw [wd_2 k]
    refine yP ((PureOp.sliceD (l := wd 2 k) (h := (b.drop (off 2 k)).length) rfl (.some rfl) .none (tbok.sl _ _ rfl) (tbok.sz _ _ rfl) hfit (Nat.le_refl _)).mono (v' := db (b.drop (off 2 (k + 1)))) (by rw [db_part (Nat.le_refl _) hfit, List.drop_drop, List.take_of_length_le (by rw [List.length_drop, List.length_drop]; omega), off_succ])) ?_
    refine yA ?_
    refine zN (zL (zT (zR ?_)))
    refine yM ?_
    refine yP (pAdd (b := 1)) ?_
    refine yM ?_
    refine yP pL ?_
    refine yP ((PureOp.remN rfl rfl (by decide)).mono (v' := vi .i64 ((k + 1) % 1)) (congrArg (vi .i64) (by omega))) ?_
    refine yA ?_
    refine zN (zT ?_)
    exact ⟨np 2 b.length - (k + 1), [(77000, 33000)], _, by omega, wk [10000, 77000], k + 1, by omega, rfl, rfl⟩
  ·
    have h0 : ¬ 0 < (b.drop (off 2 k)).length := by simpa using hb0
    obtain rfl : k = np 2 b.length := by
      refine Nat.le_antisymm hk (Nat.le_of_not_lt fun h => h0 ?_)
      have := (np_lt hf).1 h
      rw [List.length_drop]; omega
    refine zX (zV (zV (zH (zT (zS ?_)))))
    refine yM ?_
    refine yA ?_
    refine zN (zE ?_)
    exact rq [77000] [.tmp 4] (hb := (OutL.clo rfl (cloM fun _ => rfl) (by intro h; rfl) trivial))
theorem cut3_ctr {b : List Nat} (hf : fits 3 b.length) (hL : b.length < 200000000) : GC Try.prog 118 [.int .i64 3, db b] [] [.slice (some ⟨0, 0, none⟩) (np 3 b.length) 0] [⟨(pcs 3 b).map db, true, 1⟩] := by
  have hnp : np 3 b.length ≤ b.length := np_le
  refine gi Try.func118 ?_
  refine zS ?_
  refine yA ?_
  refine zN (zS ?_)
  refine yM ?_
  refine yC (values3_ctr) bd113 [] [10000] ?_
  first | refine AWo.pure (PureOp.fldV1 tbok rfl rfl rfl rfl) rfl rfl ?_
  refine yA ?_
  refine zN (zQ (zS ?_))
  refine yM ?_
  refine yP (PureOp.slEqNil Try.underlying129 rfl (by decide)) ?_
  refine zN (zF (zK (zT (zS ?_))))
  refine yA ?_
  refine zN (zQ (zS ?_))
  refine yA ?_
  refine zN (zB ?_)
  refine AW.ghost 77000 1 rfl ?_
  refine AW.loopw (fun mm σ => ∃ k, (k ≤ np 3 b.length) ∧ mm = np 3 b.length - k ∧ σ = ⟨(upd (upd (upd (upd emp 1 (db (b.drop (off 3 k)))) 5 (.slice (some ⟨10000, 0, none⟩) 1 0)) 6 (.slice (some ⟨77000, 0, none⟩) k 0)) 7 (vi .i64 (k % 1))), (upd (upd emp 10000 ⟨[32].map (vi .i64), true, 1⟩) 77000 ⟨((List.range k).map (pc 3 b)).map db, true, 1⟩)⟩) (fm := []) (wk [10000, 77000]) ⟨0, Nat.zero_le _, rfl, rfl⟩ ?_
  rintro mm σ ⟨k, hk, rfl, rfl⟩
  refine zQ (zS ?_)
  refine yM ?_
  refine yP pD ?_
  refine yP (pGt (b := 0)) ?_
  refine zN ?_
  refine zA (fun hb0 => ?_) (fun hb0 => ?_)
  ·
    have h0 : 0 < (b.drop (off 3 k)).length := by simpa using hb0
    have hlt : off 3 k < b.length := by rw [List.length_drop] at h0; omega
    have hkn : k < np 3 b.length := (np_lt hf).2 hlt
    have hfit : wd 3 k ≤ (b.drop (off 3 k)).length := by have := off_fit hf (by decide) hlt; rw [List.length_drop]; omega
    refine zK (zT (zQ (zB (zS ?_))))
    refine yM ?_
    refine yM ?_
    refine yM ?_
    refine yM ?_
    refine yP (PureOp.idx1 tbok (j := k % 1) rfl rfl rfl rfl (by omega)) ?_
    refine AWo.loadM tbok 0 rfl rfl rfl (by show k % 1 < 1; omega) rfl rfl ?_
    rw [wd_3 k]
    refine yP ((PureOp.sliceD (l := 0) (h := wd 3 k) rfl .none (.some rfl) (tbok.sl _ _ rfl) (tbok.sz _ _ rfl) (Nat.zero_le _) hfit).mono (v' := db (pc 3 b k)) (by rw [db_part hfit (Nat.zero_le _), List.drop_zero, Nat.sub_zero]; rfl)) ?_
    refine AWo.buildSlice tbok 32000 [(0, db (pc 3 b k))] (out := [pc 3 b k].map db) rfl rfl (by decide) rfl rfl rfl (by decide) rfl rfl rfl rfl rfl ?_
    refine AWo.append tbok (all := ((List.range (k + 1)).map (pc 3 b)).map db) (news := [pc 3 b k].map db) 33000 rfl rfl rfl rfl (by simp) (by show List.take _ (List.drop 0 _) = _; rw [List.drop_zero]; exact List.take_of_length_le (by simp)) (by (simp; done)) (by decide) rfl rfl rfl (by decide) rfl rfl rfl (by omega) (by omega) (by rfl) (by rw [List.range_succ, List.map_append, List.map_append]; rfl) rfl rfl ?_
    refine yA ?_
    refine zN (zR ?_)
    refine yM ?_
    refine yM ?_
    refine yM ?_
    refine yP (PureOp.idx1 tbok (j := k % 1) rfl rfl rfl rfl (by omega)) ?_
    refine AWo.loadM tbok 0 rfl rfl rfl (by show k % 1 < 1; omega) rfl rfl ?_
    rw [wd_3 k]
    refine yP ((PureOp.sliceD (l := wd 3 k) (h := (b.drop (off 3 k)).length) rfl (.some rfl) .none (tbok.sl _ _ rfl) (tbok.sz _ _ rfl) hfit (Nat.le_refl _)).mono (v' := db (b.drop (off 3 (k + 1)))) (by rw [db_part (Nat.le_refl _) hfit, List.drop_drop, List.take_of_length_le (by rw [List.length_drop, List.length_drop]; omega), off_succ])) ?_
    refine yA ?_
    refine zN (zL (zT (zR ?_)))
    refine yM ?_
    refine yP (pAdd (b := 1)) ?_
    refine yM ?_
    refine yP pL ?_
    refine yP ((PureOp.remN rfl rfl (by decide)).mono (v' := vi .i64 ((k + 1) % 1)) (congrArg (vi .i64) (by omega))) ?_
    refine yA ?_
    refine zN (zT ?_)
    exact ⟨np 3 b.length - (k + 1), [(77000, 33000)], _, by omega, wk [10000, 77000], k + 1, by omega, rfl, rfl⟩
  ·
    have h0 : ¬ 0 < (b.drop (off 3 k)).length := by simpa using hb0
    obtain rfl : k = np 3 b.length := by
      refine Nat.le_antisymm hk (Nat.le_of_not_lt fun h => h0 ?_)
      have := (np_lt hf).1 h
      rw [List.length_drop]; omega
    refine zX (zV (zV (zH (zT (zS ?_)))))
    refine yM ?_
    refine yA ?_
    refine zN (zE ?_)
    exact rq [77000] [.tmp 4] (hb := (OutL.clo rfl (cloM fun _ => rfl) (by intro h; rfl) trivial))
theorem cut4_ctr {b : List Nat} (hf : fits 4 b.length) (hL : b.length < 200000000) : GC Try.prog 118 [.int .i64 4, db b] [] [.slice (some ⟨0, 0, none⟩) (np 4 b.length) 0] [⟨(pcs 4 b).map db, true, 1⟩] := by
  have hnp : np 4 b.length ≤ b.length := np_le
  refine gi Try.func118 ?_
  refine zS ?_
  refine yA ?_
  refine zN (zS ?_)
  refine yM ?_
  refine yC (values4_ctr) bd113 [] [10000] ?_
  first | refine AWo.pure (PureOp.fldV1 tbok rfl rfl rfl rfl) rfl rfl ?_
  refine yA ?_
  refine zN (zQ (zS ?_))
  refine yM ?_
  refine yP (PureOp.slEqNil Try.underlying129 rfl (by decide)) ?_
  refine zN (zF (zK (zT (zS ?_))))
  refine yA ?_
  refine zN (zQ (zS ?_))
  refine yA ?_
  refine zN (zB ?_)
  refine AW.ghost 77000 1 rfl ?_
  refine AW.loopw (fun mm σ => ∃ k, (k ≤ np 4 b.length) ∧ mm = np 4 b.length - k ∧ σ = ⟨(upd (upd (upd (upd emp 1 (db (b.drop (off 4 k)))) 5 (.slice (some ⟨10000, 0, none⟩) 4 0)) 6 (.slice (some ⟨77000, 0, none⟩) k 0)) 7 (vi .i64 (k % 4))), (upd (upd emp 10000 ⟨[31, 31, 31, 3].map (vi .i64), true, 1⟩) 77000 ⟨((List.range k).map (pc 4 b)).map db, true, 1⟩)⟩) (fm := []) (wk [10000, 77000]) ⟨0, Nat.zero_le _, rfl, rfl⟩ ?_
  rintro mm σ ⟨k, hk, rfl, rfl⟩
  refine zQ (zS ?_)
  refine yM ?_
  refine yP pD ?_
  refine yP (pGt (b := 0)) ?_
  refine zN ?_
  refine zA (fun hb0 => ?_) (fun hb0 => ?_)
  ·
    have h0 : 0 < (b.drop (off 4 k)).length := by simpa using hb0
    have hlt : off 4 k < b.length := by rw [List.length_drop] at h0; omega
    have hkn : k < np 4 b.length := (np_lt hf).2 hlt
    have hfit : wd 4 k ≤ (b.drop (off 4 k)).length := by have := off_fit hf (by decide) hlt; rw [List.length_drop]; omega
    refine zK (zT (zQ (zB (zS ?_))))
    refine yM ?_
    refine yM ?_
    refine yM ?_
    refine yM ?_
    refine yP (PureOp.idx1 tbok (j := k % 4) rfl rfl rfl rfl (by omega)) ?_
    refine AWo.loadM tbok 0 rfl rfl rfl (by show k % 4 < 4; omega) rfl rfl ?_
    rw [wd_4 k]
    refine yP ((PureOp.sliceD (l := 0) (h := wd 4 k) rfl .none (.some rfl) (tbok.sl _ _ rfl) (tbok.sz _ _ rfl) (Nat.zero_le _) hfit).mono (v' := db (pc 4 b k)) (by rw [db_part hfit (Nat.zero_le _), List.drop_zero, Nat.sub_zero]; rfl)) ?_
    refine AWo.buildSlice tbok 32000 [(0, db (pc 4 b k))] (out := [pc 4 b k].map db) rfl rfl (by decide) rfl rfl rfl (by decide) rfl rfl rfl rfl rfl ?_
    refine AWo.append tbok (all := ((List.range (k + 1)).map (pc 4 b)).map db) (news := [pc 4 b k].map db) 33000 rfl rfl rfl rfl (by simp) (by show List.take _ (List.drop 0 _) = _; rw [List.drop_zero]; exact List.take_of_length_le (by simp)) (by (simp; done)) (by decide) rfl rfl rfl (by decide) rfl rfl rfl (by omega) (by omega) (by rfl) (by rw [List.range_succ, List.map_append, List.map_append]; rfl) rfl rfl ?_
    refine yA ?_
    refine zN (zR ?_)
    refine yM ?_
    refine yM ?_
    refine yM ?_
    refine yP (PureOp.idx1 tbok (j := k % 4) rfl rfl rfl rfl (by omega)) ?_
    refine AWo.loadM tbok 0 rfl rfl rfl (by show k % 4 < 4; omega) rfl rfl ?_
    rw [wd_4 k]
    refine yP ((PureOp.sliceD (l := wd 4 k) (h := (b.drop (off 4 k)).length) rfl (.some rfl) .none (tbok.sl _ _ rfl) (tbok.sz _ _ rfl) hfit (Nat.le_refl _)).mono (v' := db (b.drop (off 4 (k + 1)))) (by rw [db_part (Nat.le_refl _) hfit, List.drop_drop, List.take_of_length_le (by rw [List.length_drop, List.length_drop]; omega), off_succ])) ?_
    refine yA ?_
    refine zN (zL (zT (zR ?_)))
    refine yM ?_
    refine yP (pAdd (b := 1)) ?_
    refine yM ?_
    refine yP pL ?_
    refine yP ((PureOp.remN rfl rfl (by decide)).mono (v' := vi .i64 ((k + 1) % 4)) (congrArg (vi .i64) (by omega))) ?_
    refine yA ?_
    refine zN (zT ?_)
    exact ⟨np 4 b.length - (k + 1), [(77000, 33000)], _, by omega, wk [10000, 77000], k + 1, by omega, rfl, rfl⟩
  ·
    have h0 : ¬ 0 < (b.drop (off 4 k)).length := by simpa using hb0
    obtain rfl : k = np 4 b.length := by
      refine Nat.le_antisymm hk (Nat.le_of_not_lt fun h => h0 ?_)
      have := (np_lt hf).1 h
      rw [List.length_drop]; omega
    refine zX (zV (zV (zH (zT (zS ?_)))))
    refine yM ?_
    refine yA ?_
    refine zN (zE ?_)
    exact rq [77000] [.tmp 4] (hb := (OutL.clo rfl (cloM fun _ => rfl) (by intro h; rfl) trivial))
theorem cut_ctr {t : Int} {b : List Nat} (hf : fits t b.length) (hL : b.length < 200000000) : GC Try.prog 118 [.int .i64 t, db b] [] [.slice (some ⟨0, 0, none⟩) (np t b.length) 0] [⟨(pcs t b).map db, true, 1⟩] := by
  by_cases h1 : t = 1
  · subst h1; exact cut1_ctr hL
  by_cases h2 : t = 2
  · subst h2; exact cut2_ctr hf hL
  by_cases h3 : t = 3
  · subst h3; exact cut3_ctr hf hL
  by_cases h4 : t = 4
  · subst h4; exact cut4_ctr hf hL
  exact cut0_ctr h1 h2 h3 h4 hL
theorem pcs_getD {t : Int} {b : List Nat} {i : Nat} (hi : i < np t b.length) : (pcs t b).getD i [] = pc t b i := by
  rw [pcs, List.getD_eq_getElem?_getD, List.getElem?_map, List.getElem?_range hi]; rfl
def gP (t : Int) (d : List Nat) (i : Nat) : Fp := fp (num 256 (pc t d i))
theorem or8 {a b : Nat} (ha : a < 256) (hb : b < 256) : a ||| b * 2 ^ 8 % 18446744073709551616 = a + 256 * b := by
  rw [Nat.mod_eq_of_lt (by omega), Nat.or_comm, Nat.mul_comm b, ← Nat.two_pow_add_eq_or_of_lt (by omega : a < 2 ^ 8)]
  omega
theorem or16 {a b : Nat} (ha : a < 65536) (hb : b < 4294967296) : a ||| b * 2 ^ 16 % 18446744073709551616 = a + 65536 * b := by
  rw [Nat.mod_eq_of_lt (by omega), Nat.or_comm, Nat.mul_comm b, ← Nat.two_pow_add_eq_or_of_lt (by omega : a < 2 ^ 16)]
  omega
theorem rgt_len {x : Opn} (h : Rgt x) : x.d.length < 200000000 := by
  have h1 := lng_rgt h
  have hi := itC_inv h.1
  unfold lng at h1
  have h2 := szT_le x.t
  split at h1
  · have : x.c.toNat * szT x.t ≤ 1048576 * 96 := Nat.mul_le_mul (by omega) h2
    omega
  · omega
theorem rgt_nat {x : Opn} (h : Rgt x) : ∃ kn tn cn : Nat, x = ⟨kn, tn, cn, x.d⟩ ∧ kn ≤ 3 ∧ tn ≤ 4 ∧ cn ≤ 1048576 := by
  have hi := itC_inv h.1
  obtain ⟨k, t, c, d⟩ := x
  simp only at hi
  exact ⟨k.toNat, t.toNat, c.toNat, by congr 1 <;> omega, by omega, by omega, by omega⟩
theorem tobN_ctr {x : Opn} (hb : bd 256 x.d) (hl : x.d.length < 9223372036854775808) (hx : ¬ Rgt x) : GC Try.prog 74 [opV x] [] [.slice (some ⟨0, 0, none⟩) 0 0] [⟨(([] : List Nat)).map (vi .u8), true, 1⟩] := by
  refine gi Try.func74 ?_
  refine AW.ghost 77000 1 rfl ?_
  refine zS ?_
  refine AWo.box 2000 1 [.int .i64 x.k, .int .i64 x.t, .int .i64 x.c, db x.d] rfl rfl rfl rfl rfl ?_
  refine yA ?_
  refine zN (zQ (zS ?_))
  refine yLA ?_
  refine AWo.callX (v := .bool false) (opright_ctr hb hl) bd116 [] [] rfl (.cons rfl .nil) rfl (.clo rfl .nil) .nil rfl .nil frN (by decide) (.cons rfl rfl .nil) (congrArg Value.bool (decide_eq_false hx)) rfl rfl rfl ?_
  refine yP (PureOp.not rfl) ?_
  refine zN (zC (zS ?_))
  refine yA ?_
  refine zN (zE (zU ?_))
  exact rq [77000] [.tmp 2]
theorem tobY_ctr {kn tn cn : Nat} {d : List Nat} (hb : bd 256 d) (hk : kn ≤ 3) (ht : tn ≤ 4) (hc : cn ≤ 1048576) (hd : d.length < 200000000) (hl : d.length < 9223372036854775808) (hx : Rgt ⟨kn, tn, cn, d⟩) : GC Try.prog 74 [opV (Opn.mk kn tn cn d)] [] [.slice (some ⟨0, 0, none⟩) (6 + d.length) 0] [⟨(([kn % 256, tn % 256, cn % 256, cn / 2 ^ 8 % 256, cn / 2 ^ 16 % 256, cn / 2 ^ 24 % 256] ++ d)).map (vi .u8), true, 1⟩] := by
  refine gi Try.func74 ?_
  refine zS ?_
  refine AWo.box 2000 1 [vi .i64 kn, vi .i64 tn, vi .i64 cn, db d] rfl rfl rfl rfl rfl ?_
  refine yA ?_
  refine zN (zQ (zS ?_))
  refine yLA ?_
  refine AWo.callX (v := .bool true) (opright_ctr (x := ⟨kn, tn, cn, d⟩) hb hl) bd116 [] [] rfl (.cons rfl .nil) rfl (.clo rfl .nil) .nil rfl .nil frN (by decide) (.cons rfl rfl .nil) (congrArg Value.bool (decide_eq_true hx)) rfl rfl rfl ?_
  refine yP (PureOp.not rfl) ?_
  refine zN (zF (zK (zT (zS ?_))))
  refine yP pF ?_
  refine yL1 ?_
  refine yP (PureOp.cvtU tbok 256 rfl rfl rfl rfl rfl) ?_
  refine yP pF ?_
  refine yL1 ?_
  refine yP (PureOp.cvtU tbok 256 rfl rfl rfl rfl rfl) ?_
  refine yP pF ?_
  refine yL1 ?_
  refine yP (PureOp.cvtU tbok 256 rfl rfl rfl rfl rfl) ?_
  refine yP pF ?_
  refine yL1 ?_
  refine yP (PureOp.shrN (b := 8) 64 rfl rfl rfl (by decide)) ?_
  refine yP (PureOp.cvtU tbok 256 rfl rfl rfl rfl rfl) ?_
  refine yP pF ?_
  refine yL1 ?_
  refine yP (PureOp.shrN (b := 16) 64 rfl rfl rfl (by decide)) ?_
  refine yP (PureOp.cvtU tbok 256 rfl rfl rfl rfl rfl) ?_
  refine yP pF ?_
  refine yL1 ?_
  refine yP (PureOp.shrN (b := 24) 64 rfl rfl rfl (by decide)) ?_
  refine yP (PureOp.cvtU tbok 256 rfl rfl rfl rfl rfl) ?_
  refine AWo.buildSlice tbok 29000 [(0, vi .u8 (kn % 256)), (1, vi .u8 (tn % 256)), (2, vi .u8 (cn % 256)), (3, vi .u8 (cn / 2 ^ 8 % 256)), (4, vi .u8 (cn / 2 ^ 16 % 256)), (5, vi .u8 (cn / 2 ^ 24 % 256))] (out := [vi .u8 (kn % 256), vi .u8 (tn % 256), vi .u8 (cn % 256), vi .u8 (cn / 2 ^ 8 % 256), vi .u8 (cn / 2 ^ 16 % 256), vi .u8 (cn / 2 ^ 24 % 256)]) rfl rfl (by decide) rfl rfl rfl (by decide) rfl rfl rfl rfl rfl ?_
  refine yA ?_
  refine zN (zS ?_)
  refine yM ?_
  refine yP pF ?_
  refine AWo.loadX tbok 88000 rfl rfl rfl rfl rfl rfl rfl ?_
  refine AWo.append tbok (all := ([kn % 256, tn % 256, cn % 256, cn / 2 ^ 8 % 256, cn / 2 ^ 16 % 256, cn / 2 ^ 24 % 256] ++ d).map (vi .u8)) (news := d.map (vi .u8)) 33000 rfl rfl rfl rfl (by rfl) (by show List.take _ (List.drop 0 _) = _; rw [List.drop_zero]; exact List.take_of_length_le (by simp)) (by (simp; done)) (by decide) rfl rfl rfl (by decide) rfl rfl rfl (by omega) (by omega) (by exact oneM (fun _ => rfl) _) rfl rfl rfl ?_
  refine yA ?_
  refine zN (zE ?_)
  exact rq [33000] [.tmp 2]
theorem tobytes_ctr {x : Opn} (hb : bd 256 x.d) (hl : x.d.length < 9223372036854775808) : GC Try.prog 74 [opV x] [] [.slice (some ⟨0, 0, none⟩) (toB x).length 0] [⟨(toB x).map (vi .u8), true, 1⟩] := by
  by_cases hx : Rgt x
  · have hd := rgt_len hx
    obtain ⟨kn, tn, cn, e, hk, ht, hc⟩ := rgt_nat hx
    generalize x.d = d at *
    subst e
    have h := tobY_ctr hb hk ht hc hd hl hx
    have e2 : toB ⟨kn, tn, cn, d⟩ = [kn % 256, tn % 256, cn % 256, cn / 2 ^ 8 % 256, cn / 2 ^ 16 % 256, cn / 2 ^ 24 % 256] ++ d := by
      rw [toB, if_pos hx]; rfl
    rw [e2, List.length_append]
    exact h
  · rw [toB, if_neg hx]
    exact tobN_ctr hb hl hx
theorem tofN_ctr {x : Opn} (hb : bd 256 x.d) (hl : x.d.length < 9223372036854775808) (hx : ¬ Rgt x) : GC Try.prog 76 [opV x] [] [.slice (some ⟨0, 0, none⟩) 0 0] [⟨((([] : List Fp).map fe).flatten).map (vi .u64), true, 4⟩] := by
  refine gi Try.func76 ?_
  refine AW.ghost 77000 4 rfl ?_
  refine zS ?_
  refine AWo.box 2000 1 [.int .i64 x.k, .int .i64 x.t, .int .i64 x.c, db x.d] rfl rfl rfl rfl rfl ?_
  refine yA ?_
  refine zN (zQ (zS ?_))
  refine yLA ?_
  refine AWo.callX (v := .bool false) (opright_ctr hb hl) bd116 [] [] rfl (.cons rfl .nil) rfl (.clo rfl .nil) .nil rfl .nil frN (by decide) (.cons rfl rfl .nil) (congrArg Value.bool (decide_eq_false hx)) rfl rfl rfl ?_
  refine yP (PureOp.not rfl) ?_
  refine zN (zC (zS ?_))
  refine yA ?_
  refine zN (zE (zU ?_))
  exact rq [77000] [.tmp 2]
theorem tofY_ctr {kn tn cn : Nat} {d : List Nat} (hb : bd 256 d) (hk : kn ≤ 3) (ht : tn ≤ 4) (hc : cn ≤ 1048576) (hd : d.length < 200000000) (hl : d.length < 9223372036854775808) (hx : Rgt ⟨kn, tn, cn, d⟩) : GC Try.prog 76 [opV (Opn.mk kn tn cn d)] [] [.slice (some ⟨0, 0, none⟩) (np tn d.length + 1) 0] [⟨(((fp (kn + 256 * tn + 65536 * cn) :: (List.range (np tn d.length)).map (gP tn d)).map fe).flatten).map (vi .u64), true, 4⟩] := by
  have hnp : np tn d.length ≤ d.length := np_le
  refine gi Try.func76 ?_
  refine zS ?_
  refine AWo.box 2000 1 [vi .i64 kn, vi .i64 tn, vi .i64 cn, db d] rfl rfl rfl rfl rfl ?_
  refine yA ?_
  refine zN (zQ (zS ?_))
  refine yLA ?_
  refine AWo.callX (v := .bool true) (opright_ctr (x := ⟨kn, tn, cn, d⟩) hb hl) bd116 [] [] rfl (.cons rfl .nil) rfl (.clo rfl .nil) .nil rfl .nil frN (by decide) (.cons rfl rfl .nil) (congrArg Value.bool (decide_eq_true hx)) rfl rfl rfl ?_
  refine yP (PureOp.not rfl) ?_
  refine zN (zF (zK (zT (zS ?_))))
  refine yP pF ?_
  refine yL1 ?_
  refine yP (PureOp.cvtN tbok 18446744073709551616 rfl rfl rfl (by decide) (by decide) (by omega)) ?_
  refine yP pF ?_
  refine yL1 ?_
  refine yP (PureOp.cvtN tbok 18446744073709551616 rfl rfl rfl (by decide) (by decide) (by omega)) ?_
  refine yP (PureOp.shlUge (b := 8) 18446744073709551616 rfl rfl rfl rfl) ?_
  refine yP ((PureOp.orN (a := kn) (b := tn * 2 ^ 8 % 18446744073709551616) 18446744073709551616 rfl rfl (by decide) (by decide) (by omega) (by omega)).mono (v' := vi .u64 (kn + 256 * tn)) (congrArg (vi .u64) (or8 (by omega) (by omega)))) ?_
  refine yP pF ?_
  refine yL1 ?_
  refine yP (PureOp.cvtN tbok 18446744073709551616 rfl rfl rfl (by decide) (by decide) (by omega)) ?_
  refine yP (PureOp.shlUge (b := 16) 18446744073709551616 rfl rfl rfl rfl) ?_
  refine yP ((PureOp.orN (a := kn + 256 * tn) (b := cn * 2 ^ 16 % 18446744073709551616) 18446744073709551616 rfl rfl (by decide) (by decide) (by omega) (by omega)).mono (v' := vi .u64 (kn + 256 * tn + 65536 * cn)) (congrArg (vi .u64) (or16 (by omega) (by omega)))) ?_
  refine yC (fromuF_ctr (v := kn + 256 * tn + 65536 * cn) (by omega)) bd117 [] [] ?_
  refine AWo.buildSlice tbok 24000 [(0, .agg ((fe (fp (kn + 256 * tn + 65536 * cn))).map (vi .u64)).toArray)] (out := [fe (fp (kn + 256 * tn + 65536 * cn))].flatten.map (vi .u64)) rfl rfl (by decide) rfl rfl rfl (by decide) rfl (fillB1 (fe_len _)) rfl rfl rfl ?_
  refine yA ?_
  refine zN (zQ (zS ?_))
  refine yP pF ?_
  refine yL1 ?_
  refine yP pF ?_
  refine yL1 ?_
  refine yC (cut_ctr (t := tn) (b := d) (rgt_fits hx) (by omega)) bd118 [] [29000] ?_ (hnew := (.new (clo_map_ren (cloM fun _ => rfl)) (OkL.clo (cloM fun _ => rfl)) .nil))
  refine yP pL ?_
  refine yM ?_
  refine zN (zB ?_)
  refine AW.loopw (fun mm σ => ∃ i, (i ≤ np tn d.length) ∧ mm = np tn d.length - i ∧ σ = ⟨(upd (upd (upd (upd emp 3 (.slice (some ⟨24000, 0, none⟩) (i + 1) 0)) 28 (.slice (some ⟨29000, 0, none⟩) (np tn d.length) 0)) 29 (vi .i64 (np tn d.length))) 30 (vi .i64 i)), (upd (upd emp 29000 ⟨(pcs tn d).map db, true, 1⟩) 24000 ⟨(((fp (kn + 256 * tn + 65536 * cn) :: (List.range i).map (gP tn d)).map fe).flatten).map (vi .u64), true, 4⟩)⟩) (fm := []) (wk [29000, 24000]) ⟨0, Nat.zero_le _, rfl, rfl⟩ ?_
  rintro mm σ ⟨i, hik, rfl, rfl⟩
  refine zS ?_
  refine yP pLt ?_
  refine zN (zQ ?_)
  refine zA (fun hb0 => ?_) (fun hb0 => ?_)
  ·
    have hi : i < np tn d.length := by simpa using hb0
    refine zK (zT (zQ (zB (zS ?_))))
    refine yP pJ ?_
    refine AWo.loadM tbok [] rfl rfl rfl (by rw [pcs_len]; exact hi) rfl rfl ?_
    rw [pcs_getD hi]
    refine yA ?_
    refine zN (zR ?_)
    refine yM ?_
    refine yM ?_
    refine yC (fromwideFd (b := pc tn d i) (bd_part hb _ _) (by rw [pc_len]; have := wd_le tn i; omega)) bd64 [] [] ?_
    refine AWo.buildSlice tbok 38000 [(0, .agg ((fe (fp (num 256 (pc tn d i)))).map (vi .u64)).toArray)] (out := [fe (fp (num 256 (pc tn d i)))].flatten.map (vi .u64)) rfl rfl (by decide) rfl rfl rfl (by decide) rfl (fillB1 (fe_len _)) rfl rfl rfl ?_
    refine AWo.append tbok (all := (((fp (kn + 256 * tn + 65536 * cn) :: (List.range (i + 1)).map (gP tn d)).map fe).flatten).map (vi .u64)) (news := [fe (fp (num 256 (pc tn d i)))].flatten.map (vi .u64)) 39000 rfl rfl rfl rfl (by rw [FF_len]; simp) (by show List.take _ (List.drop 0 _) = _; rw [List.drop_zero]; exact List.take_of_length_le (by simp)) (by simp; done) (by decide) rfl rfl rfl (by decide) rfl rfl rfl (by omega) (by omega) (oneM (fun _ => rfl) _) (by rw [List.range_succ, List.map_append, ← List.cons_append, List.map_append, List.flatten_append, List.map_append]; rfl) rfl rfl ?_
    refine yA ?_
    refine zN (zL (zT (zR ?_)))
    refine yP (pAdd (b := 1)) ?_
    refine yM ?_
    refine zN (zT ?_)
    exact ⟨np tn d.length - (i + 1), [(24000, 39000)], _, by omega, wk [29000, 24000], i + 1, by omega, rfl, rfl⟩
  ·
    obtain rfl : i = np tn d.length := by simp at hb0; omega
    refine zX (zV (zV (zH (zT (zS ?_)))))
    refine yM ?_
    refine yA ?_
    refine zN (zE ?_)
    exact rq [24000] [.tmp 2]
theorem tofields_ctr {x : Opn} (hb : bd 256 x.d) (hl : x.d.length < 9223372036854775808) : GC Try.prog 76 [opV x] [] [.slice (some ⟨0, 0, none⟩) (toF x).length 0] [⟨(((toF x).map fe).flatten).map (vi .u64), true, 4⟩] := by
  by_cases hx : Rgt x
  · have hd := rgt_len hx
    obtain ⟨kn, tn, cn, e, hk, ht, hc⟩ := rgt_nat hx
    generalize x.d = d at *
    subst e
    have h := tofY_ctr hb hk ht hc hd hl hx
    have e2 : toF ⟨kn, tn, cn, d⟩ = (fp (kn + 256 * tn + 65536 * cn) :: (List.range (np tn d.length)).map (gP tn d)) := by
      rw [toF, if_pos hx, pcs, List.map_map]; rfl
    have e3 : (toF ⟨kn, tn, cn, d⟩).length = np tn d.length + 1 := by rw [toF_len hx, Nat.add_comm]
    rw [e3, e2]
    exact h
  · rw [toF, if_neg hx]
    exact tofN_ctr hb hl hx
end Go.Proofs.Ytpahdiljpnfkdaa
namespace Go.Proofs.Ytpahdiljpnfkdaa
open Go Sim
theorem rgtX : Rgt (⟨1, 1, 2, [1, 2]⟩ : Opn) := by
 refine ⟨rfl, ?_⟩
 rw [if_pos rfl]
 refine ⟨rfl, ?_⟩
 refine ck_ok rfl (fun i _ => ?_)
 rw [vC, if_neg (by decide), if_neg (by decide)]
theorem toBX : toB (⟨1, 1, 2, [1, 2]⟩ : Opn) = [1, 1, 2, 0, 0, 0, 1, 2] := by rw [toB, if_pos rgtX]; rfl
theorem tobX_ctr : GC Try.prog 74 [opV (⟨1, 1, 2, [1, 2]⟩ : Opn)] [] [.slice (some ⟨0, 0, none⟩) 8 0] [⟨([1, 1, 2, 0, 0, 0, 1, 2]).map (vi .u8), true, 1⟩] := by
 have h := tobytes_ctr (x := (⟨1, 1, 2, [1, 2]⟩ : Opn)) (fun x hx => by simp at hx; omega) (by decide)
 rw [toBX] at h
 exact h
theorem tofX_ctr : GC Try.prog 76 [opV (⟨1, 1, 2, [1, 2]⟩ : Opn)] [] [.slice (some ⟨0, 0, none⟩) 2 0] [⟨(((toF (⟨1, 1, 2, [1, 2]⟩ : Opn)).map fe).flatten).map (vi .u64), true, 4⟩] := by
 have h := tofields_ctr (x := (⟨1, 1, 2, [1, 2]⟩ : Opn)) (fun x hx => by simp at hx; omega) (by decide)
 rw [show (toF (⟨1, 1, 2, [1, 2]⟩ : Opn)).length = 2 by rw [toF_len rgtX]; rfl] at h
 exact h
theorem speaks15_ctr : GC Try.prog 66 [] [] [.bool true] [] := by
 refine gi Try.func66 ?_
 refine zS ?_
 refine yA ?_
 refine zN (zS ?_)
 refine AWo.buildSliceF tbok 3000 [(0, vi .u8 1), (1, vi .u8 2)] (out := [vi .u8 1, vi .u8 2]) rfl rfl (by decide) rfl rfl rfl (by decide) rfl rfl rfl rfl (fun x hx => by simp at hx; rcases hx with rfl | rfl <;> rfl) rfl rfl ?_
 refine yP ((PureOp.buildStruct [(0, vi .i64 1), (1, vi .i64 1), (2, vi .i64 2), (3, db [1, 2])] pl96.choose_spec.1 zr96 (by decide) pl96.choose_spec.2 rfl rfl).mono (v' := .agg #[vi .i64 1, vi .i64 1, vi .i64 2, db [1, 2]]) rfl) ?_
 refine yN 2000 1 _ ?_
 refine AWo.storeAllN (vs := [vi .i64 1, vi .i64 1, vi .i64 2, db [1, 2]]) tbok rfl rfl rfl rfl rfl rfl rfl rfl ?_
 refine zN ?_
 refine AW.seqD mixed ?_
 refine yLA ?_
 refine yC (tobX_ctr) bd74 [] [6000] ?_ (hargs := (.clo rfl .nil))
 refine AWo.bytesStr tbok ([1, 1, 2, 0, 0, 0, 1, 2]) rfl rfl (List.take_of_length_le (by simp)) (rfl) rfl Try.underlying5 Try.underlying9 rfl rfl ?_
 refine AWo.buildSlice tbok 8000 [(0, vi .u8 1), (1, vi .u8 1), (2, vi .u8 2), (3, vi .u8 0), (4, vi .u8 0), (5, vi .u8 0), (6, vi .u8 1), (7, vi .u8 2)] (out := [vi .u8 1, vi .u8 1, vi .u8 2, vi .u8 0, vi .u8 0, vi .u8 0, vi .u8 1, vi .u8 2]) rfl rfl (by decide) rfl rfl rfl (by decide) rfl rfl rfl rfl rfl ?_
 refine AWo.bytesStr tbok ([1, 1, 2, 0, 0, 0, 1, 2]) rfl rfl (List.take_of_length_le (by simp)) (rfl) rfl Try.underlying5 Try.underlying9 rfl rfl ?_
 refine yP (PureOp.sameStr rfl rfl) ?_
 refine yM ?_
 refine yLA ?_
 refine yC (tofX_ctr) bd76 [] [13000] ?_ (hargs := (.clo rfl .nil))
 refine yP pL ?_
 refine yP ((PureOp.eqN (b := 2) rfl rfl).mono (v' := .bool true) (congrArg Value.bool (rfl))) ?_
 refine yP pT ?_
 refine yA ?_
 refine zD (zE ?_)
 exact rq [] [.tmp 0]
end Go.Proofs.Ytpahdiljpnfkdaa
namespace Go.Proofs.Ytpahdiljpnfkdaa
open Go Sim
theorem ofop_ctr {x : Opn} : GC Try.prog 75 [opV x] [] [opV x] [] := by
  refine gi Try.func75 ?_
  refine zS ?_
  refine AWo.box 2000 1 [.int .i64 x.k, .int .i64 x.t, .int .i64 x.c, db x.d] rfl rfl rfl rfl rfl ?_
  refine yN 3000 1 _ ?_
  refine zN (zS ?_)
  refine yP pF ?_
  refine yL1 ?_
  refine yP pF ?_
  refine yL1 ?_
  refine yP pF ?_
  refine yL1 ?_
  refine yP pF ?_
  refine yL1 ?_
  refine yP ((PureOp.buildStruct [(0, .int .i64 x.k), (1, .int .i64 x.t), (2, .int .i64 x.c), (3, db x.d)] pl96.choose_spec.1 zr96 (by decide) pl96.choose_spec.2 rfl rfl).mono (v' := .agg #[.int .i64 x.k, .int .i64 x.t, .int .i64 x.c, db x.d]) rfl) ?_
  refine AWo.storeAllN (vs := [.int .i64 x.k, .int .i64 x.t, .int .i64 x.c, db x.d]) tbok rfl rfl rfl rfl rfl rfl rfl rfl ?_
  refine zN (zE ?_)
  exact rq [] [.cell 2 96] (hres := (.clo rfl .nil))
end Go.Proofs.Ytpahdiljpnfkdaa
namespace Go.Proofs.Ytpahdiljpnfkdaa
open Go Sim
noncomputable def begB (x y : Opn) (i : Nat) : Bool := (List.range i).all fun j => decide ((toF x).getD j 0 = (toF y).getD j 0)
theorem begB_succ {x y : Opn} {i : Nat} : begB x y (i + 1) = (begB x y i && decide ((toF x).getD i 0 = (toF y).getD i 0)) := by
  rw [begB, List.range_succ, List.all_append]; simp [begB]
theorem begB_iff {x y : Opn} {n : Nat} : begB x y n = true ↔ ∀ i, i < n → (toF x).getD i 0 = (toF y).getD i 0 := by
  rw [begB, List.all_eq_true]
  exact ⟨fun h i hi => of_decide_eq_true (h i (List.mem_range.2 hi)), fun h i hi => decide_eq_true (h i (List.mem_range.1 hi))⟩
theorem begB_self {x : Opn} {n : Nat} : begB x x n = true := begB_iff.2 fun _ _ => rfl
theorem begB_ne {x y : Opn} (hbx : bd 256 x.d) (hby : bd 256 y.d) (hx : Rgt x) (hy : Rgt y) (hne : x ≠ y) : begB x y (Nat.min (toF x).length (toF y).length) = false := by
  rw [Bool.eq_false_iff]
  intro h
  exact hne ((toF_unlike hbx hby hx hy rfl).1 (begB_iff.1 h))
theorem toB_bd {x : Opn} (hb : bd 256 x.d) : bd 256 (toB x) := by
  unfold toB
  split
  · intro z hz
    rcases List.mem_append.1 hz with h | h
    · simp only [hdr, List.mem_cons, List.not_mem_nil, or_false] at h
      omega
    · exact hb z h
  · intro z hz; simp at hz
theorem toF_max {x : Opn} (hx : Rgt x) : (toF x).length ≤ 9223372036854775807 := by
  rw [toF_len hx]
  have := rgt_len hx
  have h2 := @np_le x.t x.d.length
  omega
theorem encunlike_lx {x y : Opn} (hl : 700 < x.d.length) : GC Try.prog 15 [opV x, opV y] [] [.bool true] [] := by
  refine gi Try.func15 ?_
  refine zS ?_
  refine AWo.box 3000 1 [.int .i64 x.k, .int .i64 x.t, .int .i64 x.c, db x.d] rfl rfl rfl rfl rfl ?_
  refine AWo.box 4000 1 [.int .i64 y.k, .int .i64 y.t, .int .i64 y.c, db y.d] rfl rfl rfl rfl rfl ?_
  refine yA ?_
  refine zN (zQ (zS ?_))
  refine yC (speaks15_ctr) bd66 [] [] ?_
  refine yP (PureOp.not rfl) ?_
  refine yM ?_
  refine yP pF ?_
  refine yL1 ?_
  refine yP pD ?_
  refine yP ((PureOp.gtN (b := 700) rfl rfl).mono (v' := .bool true) (congrArg Value.bool (by simpa using hl))) ?_
  refine yP pE ?_
  refine yM ?_
  refine yK ?_
  refine yK ?_
  refine yK ?_
  refine yK ?_
  refine yP pT ?_
  refine yM ?_
  refine yK ?_
  refine yK ?_
  refine yK ?_
  refine yP pT ?_
  refine yM ?_
  refine yK ?_
  refine yK ?_
  refine yK ?_
  refine yP pT ?_
  refine zN (zC (zS ?_))
  refine yC (speaks15_ctr) bd66 [] [] ?_
  refine yA ?_
  refine zN (zE (zU ?_))
  exact rq [] [.tmp 4]
theorem encunlike_ly {x y : Opn} (hx7 : x.d.length ≤ 700) (hl : 700 < y.d.length) : GC Try.prog 15 [opV x, opV y] [] [.bool true] [] := by
  refine gi Try.func15 ?_
  refine zS ?_
  refine AWo.box 3000 1 [.int .i64 x.k, .int .i64 x.t, .int .i64 x.c, db x.d] rfl rfl rfl rfl rfl ?_
  refine AWo.box 4000 1 [.int .i64 y.k, .int .i64 y.t, .int .i64 y.c, db y.d] rfl rfl rfl rfl rfl ?_
  refine yA ?_
  refine zN (zQ (zS ?_))
  refine yC (speaks15_ctr) bd66 [] [] ?_
  refine yP (PureOp.not rfl) ?_
  refine yM ?_
  refine yP pF ?_
  refine yL1 ?_
  refine yP pD ?_
  refine yP ((PureOp.gtN (b := 700) rfl rfl).mono (v' := .bool false) (congrArg Value.bool (by simpa using hx7))) ?_
  refine yP pE ?_
  refine yM ?_
  refine yP pF ?_
  refine yL1 ?_
  refine yP pD ?_
  refine yP ((PureOp.gtN (b := 700) rfl rfl).mono (v' := .bool true) (congrArg Value.bool (by simpa using hl))) ?_
  refine yP pE ?_
  refine yM ?_
  refine yK ?_
  refine yK ?_
  refine yK ?_
  refine yP pT ?_
  refine yM ?_
  refine yK ?_
  refine yK ?_
  refine yK ?_
  refine yP pT ?_
  refine zN (zC (zS ?_))
  refine yC (speaks15_ctr) bd66 [] [] ?_
  refine yA ?_
  refine zN (zE (zU ?_))
  exact rq [] [.tmp 4]
theorem encunlike_nx {x y : Opn} (hbx : bd 256 x.d) (hx7 : x.d.length ≤ 700) (hy7 : y.d.length ≤ 700) (hx : ¬ Rgt x) : GC Try.prog 15 [opV x, opV y] [] [.bool true] [] := by
  refine gi Try.func15 ?_
  refine zS ?_
  refine AWo.box 3000 1 [.int .i64 x.k, .int .i64 x.t, .int .i64 x.c, db x.d] rfl rfl rfl rfl rfl ?_
  refine AWo.box 4000 1 [.int .i64 y.k, .int .i64 y.t, .int .i64 y.c, db y.d] rfl rfl rfl rfl rfl ?_
  refine yA ?_
  refine zN (zQ (zS ?_))
  refine yC (speaks15_ctr) bd66 [] [] ?_
  refine yP (PureOp.not rfl) ?_
  refine yM ?_
  refine yP pF ?_
  refine yL1 ?_
  refine yP pD ?_
  refine yP ((PureOp.gtN (b := 700) rfl rfl).mono (v' := .bool false) (congrArg Value.bool (by simpa using hx7))) ?_
  refine yP pE ?_
  refine yM ?_
  refine yP pF ?_
  refine yL1 ?_
  refine yP pD ?_
  refine yP ((PureOp.gtN (b := 700) rfl rfl).mono (v' := .bool false) (congrArg Value.bool (by simpa using hy7))) ?_
  refine yP pE ?_
  refine yM ?_
  refine yLA ?_
  refine AWo.callX (v := .bool false) (right15_ctr (x := x) hbx (by omega)) bd73 [] [] rfl (.cons rfl .nil) rfl (.clo rfl .nil) .nil rfl .nil frN (by decide) (.cons rfl rfl .nil) (congrArg Value.bool (decide_eq_false hx)) rfl rfl rfl ?_
  refine yP (PureOp.not rfl) ?_
  refine yP pE ?_
  refine yM ?_
  refine yK ?_
  refine yK ?_
  refine yK ?_
  refine yP pT ?_
  refine zN (zC (zS ?_))
  refine yC (speaks15_ctr) bd66 [] [] ?_
  refine yA ?_
  refine zN (zE (zU ?_))
  exact rq [] [.tmp 4]
theorem encunlike_ny {x y : Opn} (hbx : bd 256 x.d) (hby : bd 256 y.d) (hx7 : x.d.length ≤ 700) (hy7 : y.d.length ≤ 700) (hx : Rgt x) (hy : ¬ Rgt y) : GC Try.prog 15 [opV x, opV y] [] [.bool true] [] := by
  refine gi Try.func15 ?_
  refine zS ?_
  refine AWo.box 3000 1 [.int .i64 x.k, .int .i64 x.t, .int .i64 x.c, db x.d] rfl rfl rfl rfl rfl ?_
  refine AWo.box 4000 1 [.int .i64 y.k, .int .i64 y.t, .int .i64 y.c, db y.d] rfl rfl rfl rfl rfl ?_
  refine yA ?_
  refine zN (zQ (zS ?_))
  refine yC (speaks15_ctr) bd66 [] [] ?_
  refine yP (PureOp.not rfl) ?_
  refine yM ?_
  refine yP pF ?_
  refine yL1 ?_
  refine yP pD ?_
  refine yP ((PureOp.gtN (b := 700) rfl rfl).mono (v' := .bool false) (congrArg Value.bool (by simpa using hx7))) ?_
  refine yP pE ?_
  refine yM ?_
  refine yP pF ?_
  refine yL1 ?_
  refine yP pD ?_
  refine yP ((PureOp.gtN (b := 700) rfl rfl).mono (v' := .bool false) (congrArg Value.bool (by simpa using hy7))) ?_
  refine yP pE ?_
  refine yM ?_
  refine yLA ?_
  refine AWo.callX (v := .bool true) (right15_ctr (x := x) hbx (by omega)) bd73 [] [] rfl (.cons rfl .nil) rfl (.clo rfl .nil) .nil rfl .nil frN (by decide) (.cons rfl rfl .nil) (congrArg Value.bool (decide_eq_true hx)) rfl rfl rfl ?_
  refine yP (PureOp.not rfl) ?_
  refine yP pE ?_
  refine yM ?_
  refine yLA ?_
  refine AWo.callX (v := .bool false) (right15_ctr (x := y) hby (by omega)) bd73 [] [] rfl (.cons rfl .nil) rfl (.clo rfl .nil) .nil rfl .nil frN (by decide) (.cons rfl rfl .nil) (congrArg Value.bool (decide_eq_false hy)) rfl rfl rfl ?_
  refine yP (PureOp.not rfl) ?_
  refine yP pE ?_
  refine zN (zC (zS ?_))
  refine yC (speaks15_ctr) bd66 [] [] ?_
  refine yA ?_
  refine zN (zE (zU ?_))
  exact rq [] [.tmp 4]
theorem encunlike_same {x : Opn} (hbx : bd 256 x.d) (hx7 : x.d.length ≤ 700) (hx : Rgt x) : GC Try.prog 15 [opV x, opV x] [] [.bool true] [] := by
  have hy7 := hx7
  refine gi Try.func15 ?_
  refine zS ?_
  refine AWo.box 3000 1 [.int .i64 x.k, .int .i64 x.t, .int .i64 x.c, db x.d] rfl rfl rfl rfl rfl ?_
  refine AWo.box 4000 1 [.int .i64 x.k, .int .i64 x.t, .int .i64 x.c, db x.d] rfl rfl rfl rfl rfl ?_
  refine yA ?_
  refine zN (zQ (zS ?_))
  refine yC (speaks15_ctr) bd66 [] [] ?_
  refine yP (PureOp.not rfl) ?_
  refine yM ?_
  refine yP pF ?_
  refine yL1 ?_
  refine yP pD ?_
  refine yP ((PureOp.gtN (b := 700) rfl rfl).mono (v' := .bool false) (congrArg Value.bool (by simpa using hx7))) ?_
  refine yP pE ?_
  refine yM ?_
  refine yP pF ?_
  refine yL1 ?_
  refine yP pD ?_
  refine yP ((PureOp.gtN (b := 700) rfl rfl).mono (v' := .bool false) (congrArg Value.bool (by simpa using hy7))) ?_
  refine yP pE ?_
  refine yM ?_
  refine yLA ?_
  refine AWo.callX (v := .bool true) (right15_ctr (x := x) hbx (by omega)) bd73 [] [] rfl (.cons rfl .nil) rfl (.clo rfl .nil) .nil rfl .nil frN (by decide) (.cons rfl rfl .nil) (congrArg Value.bool (decide_eq_true hx)) rfl rfl rfl ?_
  refine yP (PureOp.not rfl) ?_
  refine yP pE ?_
  refine yM ?_
  refine yLA ?_
  refine AWo.callX (v := .bool true) (right15_ctr (x := x) hbx (by omega)) bd73 [] [] rfl (.cons rfl .nil) rfl (.clo rfl .nil) .nil rfl .nil frN (by decide) (.cons rfl rfl .nil) (congrArg Value.bool (decide_eq_true hx)) rfl rfl rfl ?_
  refine yP (PureOp.not rfl) ?_
  refine yP pE ?_
  refine zN (zF (zK (zT (zS ?_))))
  refine yP pF ?_
  refine yL1 ?_
  refine yP pF ?_
  refine yL1 ?_
  refine yP ((PureOp.bin rfl rfl rfl).mono (v' := .bool true) (congrArg Value.bool (beq_self_eq_true _))) ?_
  refine yM ?_
  refine yP pF ?_
  refine yL1 ?_
  refine yP pF ?_
  refine yL1 ?_
  refine yP ((PureOp.bin rfl rfl rfl).mono (v' := .bool true) (congrArg Value.bool (beq_self_eq_true _))) ?_
  refine yP pT ?_
  refine yM ?_
  refine yP pF ?_
  refine yL1 ?_
  refine yP pF ?_
  refine yL1 ?_
  refine yP ((PureOp.bin rfl rfl rfl).mono (v' := .bool true) (congrArg Value.bool (beq_self_eq_true _))) ?_
  refine yP pT ?_
  refine yM ?_
  refine yP pF ?_
  refine AWo.loadX tbok 99000 rfl rfl rfl rfl rfl rfl rfl ?_
  refine AWo.bytesStr tbok (x.d) rfl rfl (List.take_of_length_le (by simp)) (rfl) rfl Try.underlying5 Try.underlying9 rfl rfl ?_
  refine yP pF ?_
  refine AWo.loadX tbok 99001 rfl rfl rfl rfl rfl rfl rfl ?_
  refine AWo.bytesStr tbok (x.d) rfl rfl (List.take_of_length_le (by simp)) (rfl) rfl Try.underlying5 Try.underlying9 rfl rfl ?_
  refine yP (PureOp.sameStr rfl rfl) ?_
  refine yP pT ?_
  refine yA ?_
  refine zN ?_
  refine AW.seqD mixed ?_
  refine yLA ?_
  refine yC (ofop_ctr (x := x)) bd75 [] [] ?_ (hargs := (.clo rfl .nil)) (hrv := (.clo rfl .nil))
  refine yC (tobytes_ctr (x := x) hbx (by omega)) bd74 [] [69000] ?_ (hargs := (.clo rfl .nil))
  refine yLA ?_
  refine yC (ofop_ctr (x := x)) bd75 [] [] ?_ (hargs := (.clo rfl .nil)) (hrv := (.clo rfl .nil))
  refine yC (tobytes_ctr (x := x) hbx (by omega)) bd74 [] [72000] ?_ (hargs := (.clo rfl .nil))
  refine yA ?_
  refine yA ?_
  refine zD (zS ?_)
  refine yM ?_
  refine yP pL ?_
  refine yM ?_
  refine yP pL ?_
  refine yP (PureOp.minN rfl rfl) ?_
  refine yA ?_
  refine zN (zQ ?_)
  refine AW.seqD mixed ?_
  refine yM ?_
  refine yM ?_
  refine AWo.sliceS2 tbok (v := .slice (some ⟨69000, 0, none⟩) (Nat.min (toB x).length (toB x).length) 0) (l := 0) (h := (Nat.min (toB x).length (toB x).length)) (sz := 1) rfl .none (.some rfl) rfl rfl rfl rfl (Nat.zero_le _) (Nat.min_le_left _ _) rfl rfl rfl ?_
  refine AWo.bytesStr tbok ((toB x).take (Nat.min (toB x).length (toB x).length)) rfl rfl (by rw [List.map_take]) (by rw [List.length_take]; exact Nat.min_eq_left (Nat.min_le_left _ _)) rfl Try.underlying5 Try.underlying9 rfl rfl ?_
  refine yM ?_
  refine yM ?_
  refine AWo.sliceS2 tbok (v := .slice (some ⟨72000, 0, none⟩) (Nat.min (toB x).length (toB x).length) 0) (l := 0) (h := (Nat.min (toB x).length (toB x).length)) (sz := 1) rfl .none (.some rfl) rfl rfl rfl rfl (Nat.zero_le _) (Nat.min_le_right _ _) rfl rfl rfl ?_
  refine AWo.bytesStr tbok ((toB x).take (Nat.min (toB x).length (toB x).length)) rfl rfl (by rw [List.map_take]) (by rw [List.length_take]; exact Nat.min_eq_left (Nat.min_le_right _ _)) rfl Try.underlying5 Try.underlying9 rfl rfl ?_
  refine yP ((PureOp.eqStrD rfl rfl (fun z hz => toB_bd hbx z (List.mem_of_mem_take hz)) (fun z hz => toB_bd hbx z (List.mem_of_mem_take hz))).mono (v' := .bool true) (congrArg Value.bool (decide_eq_true rfl))) ?_
  refine yM ?_
  first | refine AWo.pure ((PureOp.neqBool Try.underlying4 rfl rfl).mono (v' := .bool false) (congrArg Value.bool (rfl))) rfl rfl ?_
  refine zD (zF (zK (zT ?_)))
  refine AW.seqD mixed ?_
  refine yLA ?_
  refine yC (ofop_ctr (x := x)) bd75 [] [] ?_ (hargs := (.clo rfl .nil)) (hrv := (.clo rfl .nil))
  refine yC (tofields_ctr (x := x) hbx (by omega)) bd76 [] [91000] ?_ (hargs := (.clo rfl .nil))
  refine yLA ?_
  refine yC (ofop_ctr (x := x)) bd75 [] [] ?_ (hargs := (.clo rfl .nil)) (hrv := (.clo rfl .nil))
  refine yC (tofields_ctr (x := x) hbx (by omega)) bd76 [] [94000] ?_ (hargs := (.clo rfl .nil))
  refine yA ?_
  refine yA ?_
  refine zD (zS ?_)
  refine yA ?_
  refine zN (zQ (zS ?_))
  refine yM ?_
  refine yP pL ?_
  refine yM ?_
  refine yP pL ?_
  refine yP (PureOp.minN rfl rfl) ?_
  refine yM ?_
  refine zN (zB ?_)
  refine AW.loopw (fun mm σ => ∃ i, (i ≤ (Nat.min (toF x).length (toF x).length)) ∧ mm = (Nat.min (toF x).length (toF x).length) - i ∧ σ = ⟨(upd (upd (upd (upd (upd (upd emp 5 (.bool true)) 9 (.slice (some ⟨91000, 0, none⟩) (toF x).length 0)) 10 (.slice (some ⟨94000, 0, none⟩) (toF x).length 0)) 11 (.bool (begB x x i))) 98 (vi .i64 (Nat.min (toF x).length (toF x).length))) 99 (vi .i64 i)), (upd (upd emp 91000 ⟨(((toF x).map fe).flatten).map (vi .u64), true, 4⟩) 94000 ⟨(((toF x).map fe).flatten).map (vi .u64), true, 4⟩)⟩) (fm := []) (wk [91000, 94000]) ⟨0, Nat.zero_le _, rfl, rfl⟩ ?_
  rintro mm σ ⟨i, hik, rfl, rfl⟩
  refine zS ?_
  refine yP pLt ?_
  refine zN (zQ ?_)
  refine zA (fun hb0 => ?_) (fun hb0 => ?_)
  ·
    have hi : i < (Nat.min (toF x).length (toF x).length) := by simpa using hb0
    have hi1 : i < (toF x).length := Nat.lt_of_lt_of_le hi (Nat.min_le_left _ _)
    have hi2 : i < (toF x).length := Nat.lt_of_lt_of_le hi (Nat.min_le_right _ _)
    have hi3 : i < 9223372036854775807 := Nat.lt_of_lt_of_le hi1 (toF_max hx)
    refine zK (zT (zQ (zB (zS ?_))))
    refine yM ?_
    refine yA ?_
    refine zN ?_
    refine AW.draw mixed ?_
    refine yM ?_
    first | refine AWo.pureB (PureOp.move rfl) rfl rfl (fun hb1 => ?_) (fun hb1 => ?_)
    ·
      refine yM ?_
      refine yM ?_
      refine yP (PureOp.idxN tbok (j := i) rfl rfl rfl rfl hi1) ?_
      refine yLJ (xs := toF x) (i) ?_
      refine yM ?_
      refine yM ?_
      refine yP (PureOp.idxN tbok (j := i) rfl rfl rfl rfl hi2) ?_
      refine yLJ (xs := toF x) (i) ?_
      refine yC (equalF_ctr (x := (toF x).getD i 0) (y := (toF x).getD i 0)) bd77 [] [] ?_
      first | refine AWo.pure ((PureOp.pickT rfl rfl).mono (v' := .bool (begB x x (i + 1))) (congrArg Value.bool (by rw [begB_succ, hb1]; rw [Bool.true_and]))) rfl rfl ?_
      refine yA ?_
      refine zD (zL (zT (zR ?_)))
      refine yP (pAdd (b := 1)) ?_
      refine yM ?_
      refine zN (zT ?_)
      exact ⟨(Nat.min (toF x).length (toF x).length) - (i + 1), [], _, by omega, wk [91000, 94000], i + 1, by omega, rfl, rfl⟩
    ·
      refine yK ?_
      refine yK ?_
      refine yK ?_
      refine yK ?_
      refine yK ?_
      refine yK ?_
      refine yK ?_
      refine yK ?_
      refine yK ?_
      first | refine AWo.pure ((PureOp.pickF rfl rfl).mono (v' := .bool (begB x x (i + 1))) (congrArg Value.bool (by rw [begB_succ, hb1]; rfl))) rfl rfl ?_
      refine yA ?_
      refine zD (zL (zT (zR ?_)))
      refine yP (pAdd (b := 1)) ?_
      refine yM ?_
      refine zN (zT ?_)
      exact ⟨(Nat.min (toF x).length (toF x).length) - (i + 1), [], _, by omega, wk [91000, 94000], i + 1, by omega, rfl, rfl⟩
  ·
    have hi : ¬ i < (Nat.min (toF x).length (toF x).length) := by simpa using hb0
    obtain rfl : i = (Nat.min (toF x).length (toF x).length) := by omega
    refine zX (zV (zV (zH (zT (zS ?_)))))
    refine yM ?_
    refine yM ?_
    first | refine AWo.pure ((PureOp.eqlBool Try.underlying4 rfl rfl).mono (v' := .bool true) (congrArg Value.bool (by rw [begB_self]; rfl))) rfl rfl ?_
    refine yA ?_
    refine zN (zE ?_)
    exact rq [] [.tmp 4]
theorem encunlike_ne {x y : Opn} (hbx : bd 256 x.d) (hby : bd 256 y.d) (hx7 : x.d.length ≤ 700) (hy7 : y.d.length ≤ 700) (hx : Rgt x) (hy : Rgt y) (hne : x ≠ y) : GC Try.prog 15 [opV x, opV y] [] [.bool true] [] := by
  refine gi Try.func15 ?_
  refine zS ?_
  refine AWo.box 3000 1 [.int .i64 x.k, .int .i64 x.t, .int .i64 x.c, db x.d] rfl rfl rfl rfl rfl ?_
  refine AWo.box 4000 1 [.int .i64 y.k, .int .i64 y.t, .int .i64 y.c, db y.d] rfl rfl rfl rfl rfl ?_
  refine yA ?_
  refine zN (zQ (zS ?_))
  refine yC (speaks15_ctr) bd66 [] [] ?_
  refine yP (PureOp.not rfl) ?_
  refine yM ?_
  refine yP pF ?_
  refine yL1 ?_
  refine yP pD ?_
  refine yP ((PureOp.gtN (b := 700) rfl rfl).mono (v' := .bool false) (congrArg Value.bool (by simpa using hx7))) ?_
  refine yP pE ?_
  refine yM ?_
  refine yP pF ?_
  refine yL1 ?_
  refine yP pD ?_
  refine yP ((PureOp.gtN (b := 700) rfl rfl).mono (v' := .bool false) (congrArg Value.bool (by simpa using hy7))) ?_
  refine yP pE ?_
  refine yM ?_
  refine yLA ?_
  refine AWo.callX (v := .bool true) (right15_ctr (x := x) hbx (by omega)) bd73 [] [] rfl (.cons rfl .nil) rfl (.clo rfl .nil) .nil rfl .nil frN (by decide) (.cons rfl rfl .nil) (congrArg Value.bool (decide_eq_true hx)) rfl rfl rfl ?_
  refine yP (PureOp.not rfl) ?_
  refine yP pE ?_
  refine yM ?_
  refine yLA ?_
  refine AWo.callX (v := .bool true) (right15_ctr (x := y) hby (by omega)) bd73 [] [] rfl (.cons rfl .nil) rfl (.clo rfl .nil) .nil rfl .nil frN (by decide) (.cons rfl rfl .nil) (congrArg Value.bool (decide_eq_true hy)) rfl rfl rfl ?_
  refine yP (PureOp.not rfl) ?_
  refine yP pE ?_
  refine zN (zF (zK (zT (zS ?_))))
  refine yP pF ?_
  refine yL1 ?_
  refine yP pF ?_
  refine yL1 ?_
  refine yP (PureOp.bin rfl rfl rfl) ?_
  first | refine AWo.pureB (PureOp.move rfl) rfl rfl (fun hb0 => ?_) (fun hb0 => ?_)
  ·
    have p1 : x.k = y.k := by simpa using hb0
    refine yP pF ?_
    refine yL1 ?_
    refine yP pF ?_
    refine yL1 ?_
    refine yP (PureOp.bin rfl rfl rfl) ?_
    refine yP pT ?_
    first | refine AWo.pureB (PureOp.move rfl) rfl rfl (fun hb1 => ?_) (fun hb1 => ?_)
    ·
      have p2 : x.t = y.t := by simpa using hb1
      refine yP pF ?_
      refine yL1 ?_
      refine yP pF ?_
      refine yL1 ?_
      refine yP (PureOp.bin rfl rfl rfl) ?_
      refine yP pT ?_
      first | refine AWo.pureB (PureOp.move rfl) rfl rfl (fun hb2 => ?_) (fun hb2 => ?_)
      ·
        have p3 : x.c = y.c := by simpa using hb2
        refine yP pF ?_
        refine AWo.loadX tbok 99000 rfl rfl rfl rfl rfl rfl rfl ?_
        refine AWo.bytesStr tbok (x.d) rfl rfl (List.take_of_length_le (by simp)) (rfl) rfl Try.underlying5 Try.underlying9 rfl rfl ?_
        refine yP pF ?_
        refine AWo.loadX tbok 99001 rfl rfl rfl rfl rfl rfl rfl ?_
        refine AWo.bytesStr tbok (y.d) rfl rfl (List.take_of_length_le (by simp)) (rfl) rfl Try.underlying5 Try.underlying9 rfl rfl ?_
        refine yP ((PureOp.eqStrD rfl rfl hbx hby).mono (v' := .bool false) (congrArg Value.bool (decide_eq_false fun hd => hne (opn_ext ⟨p1, p2, p3⟩ hd)))) ?_
        refine yP pT ?_
        refine yA ?_
        refine zN ?_
        refine AW.seqD mixed ?_
        refine yLA ?_
        refine yC (ofop_ctr (x := x)) bd75 [] [] ?_ (hargs := (.clo rfl .nil)) (hrv := (.clo rfl .nil))
        refine yC (tobytes_ctr (x := x) hbx (by omega)) bd74 [] [69000] ?_ (hargs := (.clo rfl .nil))
        refine yLA ?_
        refine yC (ofop_ctr (x := y)) bd75 [] [] ?_ (hargs := (.clo rfl .nil)) (hrv := (.clo rfl .nil))
        refine yC (tobytes_ctr (x := y) hby (by omega)) bd74 [] [72000] ?_ (hargs := (.clo rfl .nil))
        refine yA ?_
        refine yA ?_
        refine zD (zS ?_)
        refine yM ?_
        refine yP pL ?_
        refine yM ?_
        refine yP pL ?_
        refine yP (PureOp.minN rfl rfl) ?_
        refine yA ?_
        refine zN (zQ ?_)
        refine AW.seqD mixed ?_
        refine yM ?_
        refine yM ?_
        refine AWo.sliceS2 tbok (v := .slice (some ⟨69000, 0, none⟩) (Nat.min (toB x).length (toB y).length) 0) (l := 0) (h := (Nat.min (toB x).length (toB y).length)) (sz := 1) rfl .none (.some rfl) rfl rfl rfl rfl (Nat.zero_le _) (Nat.min_le_left _ _) rfl rfl rfl ?_
        refine AWo.bytesStr tbok ((toB x).take (Nat.min (toB x).length (toB y).length)) rfl rfl (by rw [List.map_take]) (by rw [List.length_take]; exact Nat.min_eq_left (Nat.min_le_left _ _)) rfl Try.underlying5 Try.underlying9 rfl rfl ?_
        refine yM ?_
        refine yM ?_
        refine AWo.sliceS2 tbok (v := .slice (some ⟨72000, 0, none⟩) (Nat.min (toB x).length (toB y).length) 0) (l := 0) (h := (Nat.min (toB x).length (toB y).length)) (sz := 1) rfl .none (.some rfl) rfl rfl rfl rfl (Nat.zero_le _) (Nat.min_le_right _ _) rfl rfl rfl ?_
        refine AWo.bytesStr tbok ((toB y).take (Nat.min (toB x).length (toB y).length)) rfl rfl (by rw [List.map_take]) (by rw [List.length_take]; exact Nat.min_eq_left (Nat.min_le_right _ _)) rfl Try.underlying5 Try.underlying9 rfl rfl ?_
        refine yP ((PureOp.eqStrD rfl rfl (fun z hz => toB_bd hbx z (List.mem_of_mem_take hz)) (fun z hz => toB_bd hby z (List.mem_of_mem_take hz))).mono (v' := .bool false) (congrArg Value.bool (decide_eq_false fun h => hne ((toB_unlike hx hy rfl).1 h)))) ?_
        refine yM ?_
        first | refine AWo.pure ((PureOp.neqBool Try.underlying4 rfl rfl).mono (v' := .bool false) (congrArg Value.bool (rfl))) rfl rfl ?_
        refine zD (zF (zK (zT ?_)))
        refine AW.seqD mixed ?_
        refine yLA ?_
        refine yC (ofop_ctr (x := x)) bd75 [] [] ?_ (hargs := (.clo rfl .nil)) (hrv := (.clo rfl .nil))
        refine yC (tofields_ctr (x := x) hbx (by omega)) bd76 [] [91000] ?_ (hargs := (.clo rfl .nil))
        refine yLA ?_
        refine yC (ofop_ctr (x := y)) bd75 [] [] ?_ (hargs := (.clo rfl .nil)) (hrv := (.clo rfl .nil))
        refine yC (tofields_ctr (x := y) hby (by omega)) bd76 [] [94000] ?_ (hargs := (.clo rfl .nil))
        refine yA ?_
        refine yA ?_
        refine zD (zS ?_)
        refine yA ?_
        refine zN (zQ (zS ?_))
        refine yM ?_
        refine yP pL ?_
        refine yM ?_
        refine yP pL ?_
        refine yP (PureOp.minN rfl rfl) ?_
        refine yM ?_
        refine zN (zB ?_)
        refine AW.loopw (fun mm σ => ∃ i, (i ≤ (Nat.min (toF x).length (toF y).length)) ∧ mm = (Nat.min (toF x).length (toF y).length) - i ∧ σ = ⟨(upd (upd (upd (upd (upd (upd emp 5 (.bool false)) 9 (.slice (some ⟨91000, 0, none⟩) (toF x).length 0)) 10 (.slice (some ⟨94000, 0, none⟩) (toF y).length 0)) 11 (.bool (begB x y i))) 98 (vi .i64 (Nat.min (toF x).length (toF y).length))) 99 (vi .i64 i)), (upd (upd emp 91000 ⟨(((toF x).map fe).flatten).map (vi .u64), true, 4⟩) 94000 ⟨(((toF y).map fe).flatten).map (vi .u64), true, 4⟩)⟩) (fm := []) (wk [91000, 94000]) ⟨0, Nat.zero_le _, rfl, rfl⟩ ?_
        rintro mm σ ⟨i, hik, rfl, rfl⟩
        refine zS ?_
        refine yP pLt ?_
        refine zN (zQ ?_)
        refine zA (fun hb3 => ?_) (fun hb3 => ?_)
        ·
          have hi : i < (Nat.min (toF x).length (toF y).length) := by simpa using hb3
          have hi1 : i < (toF x).length := Nat.lt_of_lt_of_le hi (Nat.min_le_left _ _)
          have hi2 : i < (toF y).length := Nat.lt_of_lt_of_le hi (Nat.min_le_right _ _)
          have hi3 : i < 9223372036854775807 := Nat.lt_of_lt_of_le hi1 (toF_max hx)
          refine zK (zT (zQ (zB (zS ?_))))
          refine yM ?_
          refine yA ?_
          refine zN ?_
          refine AW.draw mixed ?_
          refine yM ?_
          first | refine AWo.pureB (PureOp.move rfl) rfl rfl (fun hb4 => ?_) (fun hb4 => ?_)
          ·
            refine yM ?_
            refine yM ?_
            refine yP (PureOp.idxN tbok (j := i) rfl rfl rfl rfl hi1) ?_
            refine yLJ (xs := toF x) (i) ?_
            refine yM ?_
            refine yM ?_
            refine yP (PureOp.idxN tbok (j := i) rfl rfl rfl rfl hi2) ?_
            refine yLJ (xs := toF y) (i) ?_
            refine yC (equalF_ctr (x := (toF x).getD i 0) (y := (toF y).getD i 0)) bd77 [] [] ?_
            first | refine AWo.pure ((PureOp.pickT rfl rfl).mono (v' := .bool (begB x y (i + 1))) (congrArg Value.bool (by rw [begB_succ, hb4]; rw [Bool.true_and]))) rfl rfl ?_
            refine yA ?_
            refine zD (zL (zT (zR ?_)))
            refine yP (pAdd (b := 1)) ?_
            refine yM ?_
            refine zN (zT ?_)
            exact ⟨(Nat.min (toF x).length (toF y).length) - (i + 1), [], _, by omega, wk [91000, 94000], i + 1, by omega, rfl, rfl⟩
          ·
            refine yK ?_
            refine yK ?_
            refine yK ?_
            refine yK ?_
            refine yK ?_
            refine yK ?_
            refine yK ?_
            refine yK ?_
            refine yK ?_
            first | refine AWo.pure ((PureOp.pickF rfl rfl).mono (v' := .bool (begB x y (i + 1))) (congrArg Value.bool (by rw [begB_succ, hb4]; rfl))) rfl rfl ?_
            refine yA ?_
            refine zD (zL (zT (zR ?_)))
            refine yP (pAdd (b := 1)) ?_
            refine yM ?_
            refine zN (zT ?_)
            exact ⟨(Nat.min (toF x).length (toF y).length) - (i + 1), [], _, by omega, wk [91000, 94000], i + 1, by omega, rfl, rfl⟩
        ·
          have hi : ¬ i < (Nat.min (toF x).length (toF y).length) := by simpa using hb3
          obtain rfl : i = (Nat.min (toF x).length (toF y).length) := by omega
          refine zX (zV (zV (zH (zT (zS ?_)))))
          refine yM ?_
          refine yM ?_
          first | refine AWo.pure ((PureOp.eqlBool Try.underlying4 rfl rfl).mono (v' := .bool true) (congrArg Value.bool (by rw [begB_ne hbx hby hx hy hne]; rfl))) rfl rfl ?_
          refine yA ?_
          refine zN (zE ?_)
          exact rq [] [.tmp 4]
      ·
        refine yK ?_
        refine yK ?_
        refine yK ?_
        refine yK ?_
        refine yK ?_
        refine yK ?_
        refine yK ?_
        refine yP pE ?_
        refine yA ?_
        refine zN ?_
        refine AW.seqD mixed ?_
        refine yLA ?_
        refine yC (ofop_ctr (x := x)) bd75 [] [] ?_ (hargs := (.clo rfl .nil)) (hrv := (.clo rfl .nil))
        refine yC (tobytes_ctr (x := x) hbx (by omega)) bd74 [] [69000] ?_ (hargs := (.clo rfl .nil))
        refine yLA ?_
        refine yC (ofop_ctr (x := y)) bd75 [] [] ?_ (hargs := (.clo rfl .nil)) (hrv := (.clo rfl .nil))
        refine yC (tobytes_ctr (x := y) hby (by omega)) bd74 [] [72000] ?_ (hargs := (.clo rfl .nil))
        refine yA ?_
        refine yA ?_
        refine zD (zS ?_)
        refine yM ?_
        refine yP pL ?_
        refine yM ?_
        refine yP pL ?_
        refine yP (PureOp.minN rfl rfl) ?_
        refine yA ?_
        refine zN (zQ ?_)
        refine AW.seqD mixed ?_
        refine yM ?_
        refine yM ?_
        refine AWo.sliceS2 tbok (v := .slice (some ⟨69000, 0, none⟩) (Nat.min (toB x).length (toB y).length) 0) (l := 0) (h := (Nat.min (toB x).length (toB y).length)) (sz := 1) rfl .none (.some rfl) rfl rfl rfl rfl (Nat.zero_le _) (Nat.min_le_left _ _) rfl rfl rfl ?_
        refine AWo.bytesStr tbok ((toB x).take (Nat.min (toB x).length (toB y).length)) rfl rfl (by rw [List.map_take]) (by rw [List.length_take]; exact Nat.min_eq_left (Nat.min_le_left _ _)) rfl Try.underlying5 Try.underlying9 rfl rfl ?_
        refine yM ?_
        refine yM ?_
        refine AWo.sliceS2 tbok (v := .slice (some ⟨72000, 0, none⟩) (Nat.min (toB x).length (toB y).length) 0) (l := 0) (h := (Nat.min (toB x).length (toB y).length)) (sz := 1) rfl .none (.some rfl) rfl rfl rfl rfl (Nat.zero_le _) (Nat.min_le_right _ _) rfl rfl rfl ?_
        refine AWo.bytesStr tbok ((toB y).take (Nat.min (toB x).length (toB y).length)) rfl rfl (by rw [List.map_take]) (by rw [List.length_take]; exact Nat.min_eq_left (Nat.min_le_right _ _)) rfl Try.underlying5 Try.underlying9 rfl rfl ?_
        refine yP ((PureOp.eqStrD rfl rfl (fun z hz => toB_bd hbx z (List.mem_of_mem_take hz)) (fun z hz => toB_bd hby z (List.mem_of_mem_take hz))).mono (v' := .bool false) (congrArg Value.bool (decide_eq_false fun h => hne ((toB_unlike hx hy rfl).1 h)))) ?_
        refine yM ?_
        first | refine AWo.pure ((PureOp.neqBool Try.underlying4 rfl rfl).mono (v' := .bool false) (congrArg Value.bool (rfl))) rfl rfl ?_
        refine zD (zF (zK (zT ?_)))
        refine AW.seqD mixed ?_
        refine yLA ?_
        refine yC (ofop_ctr (x := x)) bd75 [] [] ?_ (hargs := (.clo rfl .nil)) (hrv := (.clo rfl .nil))
        refine yC (tofields_ctr (x := x) hbx (by omega)) bd76 [] [91000] ?_ (hargs := (.clo rfl .nil))
        refine yLA ?_
        refine yC (ofop_ctr (x := y)) bd75 [] [] ?_ (hargs := (.clo rfl .nil)) (hrv := (.clo rfl .nil))
        refine yC (tofields_ctr (x := y) hby (by omega)) bd76 [] [94000] ?_ (hargs := (.clo rfl .nil))
        refine yA ?_
        refine yA ?_
        refine zD (zS ?_)
        refine yA ?_
        refine zN (zQ (zS ?_))
        refine yM ?_
        refine yP pL ?_
        refine yM ?_
        refine yP pL ?_
        refine yP (PureOp.minN rfl rfl) ?_
        refine yM ?_
        refine zN (zB ?_)
        refine AW.loopw (fun mm σ => ∃ i, (i ≤ (Nat.min (toF x).length (toF y).length)) ∧ mm = (Nat.min (toF x).length (toF y).length) - i ∧ σ = ⟨(upd (upd (upd (upd (upd (upd emp 5 (.bool false)) 9 (.slice (some ⟨91000, 0, none⟩) (toF x).length 0)) 10 (.slice (some ⟨94000, 0, none⟩) (toF y).length 0)) 11 (.bool (begB x y i))) 98 (vi .i64 (Nat.min (toF x).length (toF y).length))) 99 (vi .i64 i)), (upd (upd emp 91000 ⟨(((toF x).map fe).flatten).map (vi .u64), true, 4⟩) 94000 ⟨(((toF y).map fe).flatten).map (vi .u64), true, 4⟩)⟩) (fm := []) (wk [91000, 94000]) ⟨0, Nat.zero_le _, rfl, rfl⟩ ?_
        rintro mm σ ⟨i, hik, rfl, rfl⟩
        refine zS ?_
        refine yP pLt ?_
        refine zN (zQ ?_)
        refine zA (fun hb5 => ?_) (fun hb5 => ?_)
        ·
          have hi : i < (Nat.min (toF x).length (toF y).length) := by simpa using hb5
          have hi1 : i < (toF x).length := Nat.lt_of_lt_of_le hi (Nat.min_le_left _ _)
          have hi2 : i < (toF y).length := Nat.lt_of_lt_of_le hi (Nat.min_le_right _ _)
          have hi3 : i < 9223372036854775807 := Nat.lt_of_lt_of_le hi1 (toF_max hx)
          refine zK (zT (zQ (zB (zS ?_))))
          refine yM ?_
          refine yA ?_
          refine zN ?_
          refine AW.draw mixed ?_
          refine yM ?_
          first | refine AWo.pureB (PureOp.move rfl) rfl rfl (fun hb6 => ?_) (fun hb6 => ?_)
          ·
            refine yM ?_
            refine yM ?_
            refine yP (PureOp.idxN tbok (j := i) rfl rfl rfl rfl hi1) ?_
            refine yLJ (xs := toF x) (i) ?_
            refine yM ?_
            refine yM ?_
            refine yP (PureOp.idxN tbok (j := i) rfl rfl rfl rfl hi2) ?_
            refine yLJ (xs := toF y) (i) ?_
            refine yC (equalF_ctr (x := (toF x).getD i 0) (y := (toF y).getD i 0)) bd77 [] [] ?_
            first | refine AWo.pure ((PureOp.pickT rfl rfl).mono (v' := .bool (begB x y (i + 1))) (congrArg Value.bool (by rw [begB_succ, hb6]; rw [Bool.true_and]))) rfl rfl ?_
            refine yA ?_
            refine zD (zL (zT (zR ?_)))
            refine yP (pAdd (b := 1)) ?_
            refine yM ?_
            refine zN (zT ?_)
            exact ⟨(Nat.min (toF x).length (toF y).length) - (i + 1), [], _, by omega, wk [91000, 94000], i + 1, by omega, rfl, rfl⟩
          ·
            refine yK ?_
            refine yK ?_
            refine yK ?_
            refine yK ?_
            refine yK ?_
            refine yK ?_
            refine yK ?_
            refine yK ?_
            refine yK ?_
            first | refine AWo.pure ((PureOp.pickF rfl rfl).mono (v' := .bool (begB x y (i + 1))) (congrArg Value.bool (by rw [begB_succ, hb6]; rfl))) rfl rfl ?_
            refine yA ?_
            refine zD (zL (zT (zR ?_)))
            refine yP (pAdd (b := 1)) ?_
            refine yM ?_
            refine zN (zT ?_)
            exact ⟨(Nat.min (toF x).length (toF y).length) - (i + 1), [], _, by omega, wk [91000, 94000], i + 1, by omega, rfl, rfl⟩
        ·
          have hi : ¬ i < (Nat.min (toF x).length (toF y).length) := by simpa using hb5
          obtain rfl : i = (Nat.min (toF x).length (toF y).length) := by omega
          refine zX (zV (zV (zH (zT (zS ?_)))))
          refine yM ?_
          refine yM ?_
          first | refine AWo.pure ((PureOp.eqlBool Try.underlying4 rfl rfl).mono (v' := .bool true) (congrArg Value.bool (by rw [begB_ne hbx hby hx hy hne]; rfl))) rfl rfl ?_
          refine yA ?_
          refine zN (zE ?_)
          exact rq [] [.tmp 4]
    ·
      refine yK ?_
      refine yK ?_
      refine yK ?_
      refine yK ?_
      refine yK ?_
      refine yP pE ?_
      refine yM ?_
      refine yK ?_
      refine yK ?_
      refine yK ?_
      refine yK ?_
      refine yK ?_
      refine yK ?_
      refine yK ?_
      refine yP pE ?_
      refine yA ?_
      refine zN ?_
      refine AW.seqD mixed ?_
      refine yLA ?_
      refine yC (ofop_ctr (x := x)) bd75 [] [] ?_ (hargs := (.clo rfl .nil)) (hrv := (.clo rfl .nil))
      refine yC (tobytes_ctr (x := x) hbx (by omega)) bd74 [] [69000] ?_ (hargs := (.clo rfl .nil))
      refine yLA ?_
      refine yC (ofop_ctr (x := y)) bd75 [] [] ?_ (hargs := (.clo rfl .nil)) (hrv := (.clo rfl .nil))
      refine yC (tobytes_ctr (x := y) hby (by omega)) bd74 [] [72000] ?_ (hargs := (.clo rfl .nil))
      refine yA ?_
      refine yA ?_
      refine zD (zS ?_)
      refine yM ?_
      refine yP pL ?_
      refine yM ?_
      refine yP pL ?_
      refine yP (PureOp.minN rfl rfl) ?_
      refine yA ?_
      refine zN (zQ ?_)
      refine AW.seqD mixed ?_
      refine yM ?_
      refine yM ?_
      refine AWo.sliceS2 tbok (v := .slice (some ⟨69000, 0, none⟩) (Nat.min (toB x).length (toB y).length) 0) (l := 0) (h := (Nat.min (toB x).length (toB y).length)) (sz := 1) rfl .none (.some rfl) rfl rfl rfl rfl (Nat.zero_le _) (Nat.min_le_left _ _) rfl rfl rfl ?_
      refine AWo.bytesStr tbok ((toB x).take (Nat.min (toB x).length (toB y).length)) rfl rfl (by rw [List.map_take]) (by rw [List.length_take]; exact Nat.min_eq_left (Nat.min_le_left _ _)) rfl Try.underlying5 Try.underlying9 rfl rfl ?_
      refine yM ?_
      refine yM ?_
      refine AWo.sliceS2 tbok (v := .slice (some ⟨72000, 0, none⟩) (Nat.min (toB x).length (toB y).length) 0) (l := 0) (h := (Nat.min (toB x).length (toB y).length)) (sz := 1) rfl .none (.some rfl) rfl rfl rfl rfl (Nat.zero_le _) (Nat.min_le_right _ _) rfl rfl rfl ?_
      refine AWo.bytesStr tbok ((toB y).take (Nat.min (toB x).length (toB y).length)) rfl rfl (by rw [List.map_take]) (by rw [List.length_take]; exact Nat.min_eq_left (Nat.min_le_right _ _)) rfl Try.underlying5 Try.underlying9 rfl rfl ?_
      refine yP ((PureOp.eqStrD rfl rfl (fun z hz => toB_bd hbx z (List.mem_of_mem_take hz)) (fun z hz => toB_bd hby z (List.mem_of_mem_take hz))).mono (v' := .bool false) (congrArg Value.bool (decide_eq_false fun h => hne ((toB_unlike hx hy rfl).1 h)))) ?_
      refine yM ?_
      first | refine AWo.pure ((PureOp.neqBool Try.underlying4 rfl rfl).mono (v' := .bool false) (congrArg Value.bool (rfl))) rfl rfl ?_
      refine zD (zF (zK (zT ?_)))
      refine AW.seqD mixed ?_
      refine yLA ?_
      refine yC (ofop_ctr (x := x)) bd75 [] [] ?_ (hargs := (.clo rfl .nil)) (hrv := (.clo rfl .nil))
      refine yC (tofields_ctr (x := x) hbx (by omega)) bd76 [] [91000] ?_ (hargs := (.clo rfl .nil))
      refine yLA ?_
      refine yC (ofop_ctr (x := y)) bd75 [] [] ?_ (hargs := (.clo rfl .nil)) (hrv := (.clo rfl .nil))
      refine yC (tofields_ctr (x := y) hby (by omega)) bd76 [] [94000] ?_ (hargs := (.clo rfl .nil))
      refine yA ?_
      refine yA ?_
      refine zD (zS ?_)
      refine yA ?_
      refine zN (zQ (zS ?_))
      refine yM ?_
      refine yP pL ?_
      refine yM ?_
      refine yP pL ?_
      refine yP (PureOp.minN rfl rfl) ?_
      refine yM ?_
      refine zN (zB ?_)
      refine AW.loopw (fun mm σ => ∃ i, (i ≤ (Nat.min (toF x).length (toF y).length)) ∧ mm = (Nat.min (toF x).length (toF y).length) - i ∧ σ = ⟨(upd (upd (upd (upd (upd (upd emp 5 (.bool false)) 9 (.slice (some ⟨91000, 0, none⟩) (toF x).length 0)) 10 (.slice (some ⟨94000, 0, none⟩) (toF y).length 0)) 11 (.bool (begB x y i))) 98 (vi .i64 (Nat.min (toF x).length (toF y).length))) 99 (vi .i64 i)), (upd (upd emp 91000 ⟨(((toF x).map fe).flatten).map (vi .u64), true, 4⟩) 94000 ⟨(((toF y).map fe).flatten).map (vi .u64), true, 4⟩)⟩) (fm := []) (wk [91000, 94000]) ⟨0, Nat.zero_le _, rfl, rfl⟩ ?_
      rintro mm σ ⟨i, hik, rfl, rfl⟩
      refine zS ?_
      refine yP pLt ?_
      refine zN (zQ ?_)
      refine zA (fun hb7 => ?_) (fun hb7 => ?_)
      ·
        have hi : i < (Nat.min (toF x).length (toF y).length) := by simpa using hb7
        have hi1 : i < (toF x).length := Nat.lt_of_lt_of_le hi (Nat.min_le_left _ _)
        have hi2 : i < (toF y).length := Nat.lt_of_lt_of_le hi (Nat.min_le_right _ _)
        have hi3 : i < 9223372036854775807 := Nat.lt_of_lt_of_le hi1 (toF_max hx)
        refine zK (zT (zQ (zB (zS ?_))))
        refine yM ?_
        refine yA ?_
        refine zN ?_
        refine AW.draw mixed ?_
        refine yM ?_
        first | refine AWo.pureB (PureOp.move rfl) rfl rfl (fun hb8 => ?_) (fun hb8 => ?_)
        ·
          refine yM ?_
          refine yM ?_
          refine yP (PureOp.idxN tbok (j := i) rfl rfl rfl rfl hi1) ?_
          refine yLJ (xs := toF x) (i) ?_
          refine yM ?_
          refine yM ?_
          refine yP (PureOp.idxN tbok (j := i) rfl rfl rfl rfl hi2) ?_
          refine yLJ (xs := toF y) (i) ?_
          refine yC (equalF_ctr (x := (toF x).getD i 0) (y := (toF y).getD i 0)) bd77 [] [] ?_
          first | refine AWo.pure ((PureOp.pickT rfl rfl).mono (v' := .bool (begB x y (i + 1))) (congrArg Value.bool (by rw [begB_succ, hb8]; rw [Bool.true_and]))) rfl rfl ?_
          refine yA ?_
          refine zD (zL (zT (zR ?_)))
          refine yP (pAdd (b := 1)) ?_
          refine yM ?_
          refine zN (zT ?_)
          exact ⟨(Nat.min (toF x).length (toF y).length) - (i + 1), [], _, by omega, wk [91000, 94000], i + 1, by omega, rfl, rfl⟩
        ·
          refine yK ?_
          refine yK ?_
          refine yK ?_
          refine yK ?_
          refine yK ?_
          refine yK ?_
          refine yK ?_
          refine yK ?_
          refine yK ?_
          first | refine AWo.pure ((PureOp.pickF rfl rfl).mono (v' := .bool (begB x y (i + 1))) (congrArg Value.bool (by rw [begB_succ, hb8]; rfl))) rfl rfl ?_
          refine yA ?_
          refine zD (zL (zT (zR ?_)))
          refine yP (pAdd (b := 1)) ?_
          refine yM ?_
          refine zN (zT ?_)
          exact ⟨(Nat.min (toF x).length (toF y).length) - (i + 1), [], _, by omega, wk [91000, 94000], i + 1, by omega, rfl, rfl⟩
      ·
        have hi : ¬ i < (Nat.min (toF x).length (toF y).length) := by simpa using hb7
        obtain rfl : i = (Nat.min (toF x).length (toF y).length) := by omega
        refine zX (zV (zV (zH (zT (zS ?_)))))
        refine yM ?_
        refine yM ?_
        first | refine AWo.pure ((PureOp.eqlBool Try.underlying4 rfl rfl).mono (v' := .bool true) (congrArg Value.bool (by rw [begB_ne hbx hby hx hy hne]; rfl))) rfl rfl ?_
        refine yA ?_
        refine zN (zE ?_)
        exact rq [] [.tmp 4]
  ·
    refine yK ?_
    refine yK ?_
    refine yK ?_
    refine yK ?_
    refine yK ?_
    refine yP pE ?_
    refine yM ?_
    refine yK ?_
    refine yK ?_
    refine yK ?_
    refine yK ?_
    refine yK ?_
    refine yP pE ?_
    refine yM ?_
    refine yK ?_
    refine yK ?_
    refine yK ?_
    refine yK ?_
    refine yK ?_
    refine yK ?_
    refine yK ?_
    refine yP pE ?_
    refine yA ?_
    refine zN ?_
    refine AW.seqD mixed ?_
    refine yLA ?_
    refine yC (ofop_ctr (x := x)) bd75 [] [] ?_ (hargs := (.clo rfl .nil)) (hrv := (.clo rfl .nil))
    refine yC (tobytes_ctr (x := x) hbx (by omega)) bd74 [] [69000] ?_ (hargs := (.clo rfl .nil))
    refine yLA ?_
    refine yC (ofop_ctr (x := y)) bd75 [] [] ?_ (hargs := (.clo rfl .nil)) (hrv := (.clo rfl .nil))
    refine yC (tobytes_ctr (x := y) hby (by omega)) bd74 [] [72000] ?_ (hargs := (.clo rfl .nil))
    refine yA ?_
    refine yA ?_
    refine zD (zS ?_)
    refine yM ?_
    refine yP pL ?_
    refine yM ?_
    refine yP pL ?_
    refine yP (PureOp.minN rfl rfl) ?_
    refine yA ?_
    refine zN (zQ ?_)
    refine AW.seqD mixed ?_
    refine yM ?_
    refine yM ?_
    refine AWo.sliceS2 tbok (v := .slice (some ⟨69000, 0, none⟩) (Nat.min (toB x).length (toB y).length) 0) (l := 0) (h := (Nat.min (toB x).length (toB y).length)) (sz := 1) rfl .none (.some rfl) rfl rfl rfl rfl (Nat.zero_le _) (Nat.min_le_left _ _) rfl rfl rfl ?_
    refine AWo.bytesStr tbok ((toB x).take (Nat.min (toB x).length (toB y).length)) rfl rfl (by rw [List.map_take]) (by rw [List.length_take]; exact Nat.min_eq_left (Nat.min_le_left _ _)) rfl Try.underlying5 Try.underlying9 rfl rfl ?_
    refine yM ?_
    refine yM ?_
    refine AWo.sliceS2 tbok (v := .slice (some ⟨72000, 0, none⟩) (Nat.min (toB x).length (toB y).length) 0) (l := 0) (h := (Nat.min (toB x).length (toB y).length)) (sz := 1) rfl .none (.some rfl) rfl rfl rfl rfl (Nat.zero_le _) (Nat.min_le_right _ _) rfl rfl rfl ?_
    refine AWo.bytesStr tbok ((toB y).take (Nat.min (toB x).length (toB y).length)) rfl rfl (by rw [List.map_take]) (by rw [List.length_take]; exact Nat.min_eq_left (Nat.min_le_right _ _)) rfl Try.underlying5 Try.underlying9 rfl rfl ?_
    refine yP ((PureOp.eqStrD rfl rfl (fun z hz => toB_bd hbx z (List.mem_of_mem_take hz)) (fun z hz => toB_bd hby z (List.mem_of_mem_take hz))).mono (v' := .bool false) (congrArg Value.bool (decide_eq_false fun h => hne ((toB_unlike hx hy rfl).1 h)))) ?_
    refine yM ?_
    first | refine AWo.pure ((PureOp.neqBool Try.underlying4 rfl rfl).mono (v' := .bool false) (congrArg Value.bool (rfl))) rfl rfl ?_
    refine zD (zF (zK (zT ?_)))
    refine AW.seqD mixed ?_
    refine yLA ?_
    refine yC (ofop_ctr (x := x)) bd75 [] [] ?_ (hargs := (.clo rfl .nil)) (hrv := (.clo rfl .nil))
    refine yC (tofields_ctr (x := x) hbx (by omega)) bd76 [] [91000] ?_ (hargs := (.clo rfl .nil))
    refine yLA ?_
    refine yC (ofop_ctr (x := y)) bd75 [] [] ?_ (hargs := (.clo rfl .nil)) (hrv := (.clo rfl .nil))
    refine yC (tofields_ctr (x := y) hby (by omega)) bd76 [] [94000] ?_ (hargs := (.clo rfl .nil))
    refine yA ?_
    refine yA ?_
    refine zD (zS ?_)
    refine yA ?_
    refine zN (zQ (zS ?_))
    refine yM ?_
    refine yP pL ?_
    refine yM ?_
    refine yP pL ?_
    refine yP (PureOp.minN rfl rfl) ?_
    refine yM ?_
    refine zN (zB ?_)
    refine AW.loopw (fun mm σ => ∃ i, (i ≤ (Nat.min (toF x).length (toF y).length)) ∧ mm = (Nat.min (toF x).length (toF y).length) - i ∧ σ = ⟨(upd (upd (upd (upd (upd (upd emp 5 (.bool false)) 9 (.slice (some ⟨91000, 0, none⟩) (toF x).length 0)) 10 (.slice (some ⟨94000, 0, none⟩) (toF y).length 0)) 11 (.bool (begB x y i))) 98 (vi .i64 (Nat.min (toF x).length (toF y).length))) 99 (vi .i64 i)), (upd (upd emp 91000 ⟨(((toF x).map fe).flatten).map (vi .u64), true, 4⟩) 94000 ⟨(((toF y).map fe).flatten).map (vi .u64), true, 4⟩)⟩) (fm := []) (wk [91000, 94000]) ⟨0, Nat.zero_le _, rfl, rfl⟩ ?_
    rintro mm σ ⟨i, hik, rfl, rfl⟩
    refine zS ?_
    refine yP pLt ?_
    refine zN (zQ ?_)
    refine zA (fun hb9 => ?_) (fun hb9 => ?_)
    ·
      have hi : i < (Nat.min (toF x).length (toF y).length) := by simpa using hb9
      have hi1 : i < (toF x).length := Nat.lt_of_lt_of_le hi (Nat.min_le_left _ _)
      have hi2 : i < (toF y).length := Nat.lt_of_lt_of_le hi (Nat.min_le_right _ _)
      have hi3 : i < 9223372036854775807 := Nat.lt_of_lt_of_le hi1 (toF_max hx)
      refine zK (zT (zQ (zB (zS ?_))))
      refine yM ?_
      refine yA ?_
      refine zN ?_
      refine AW.draw mixed ?_
      refine yM ?_
      first | refine AWo.pureB (PureOp.move rfl) rfl rfl (fun hb10 => ?_) (fun hb10 => ?_)
      ·
        refine yM ?_
        refine yM ?_
        refine yP (PureOp.idxN tbok (j := i) rfl rfl rfl rfl hi1) ?_
        refine yLJ (xs := toF x) (i) ?_
        refine yM ?_
        refine yM ?_
        refine yP (PureOp.idxN tbok (j := i) rfl rfl rfl rfl hi2) ?_
        refine yLJ (xs := toF y) (i) ?_
        refine yC (equalF_ctr (x := (toF x).getD i 0) (y := (toF y).getD i 0)) bd77 [] [] ?_
        first | refine AWo.pure ((PureOp.pickT rfl rfl).mono (v' := .bool (begB x y (i + 1))) (congrArg Value.bool (by rw [begB_succ, hb10]; rw [Bool.true_and]))) rfl rfl ?_
        refine yA ?_
        refine zD (zL (zT (zR ?_)))
        refine yP (pAdd (b := 1)) ?_
        refine yM ?_
        refine zN (zT ?_)
        exact ⟨(Nat.min (toF x).length (toF y).length) - (i + 1), [], _, by omega, wk [91000, 94000], i + 1, by omega, rfl, rfl⟩
      ·
        refine yK ?_
        refine yK ?_
        refine yK ?_
        refine yK ?_
        refine yK ?_
        refine yK ?_
        refine yK ?_
        refine yK ?_
        refine yK ?_
        first | refine AWo.pure ((PureOp.pickF rfl rfl).mono (v' := .bool (begB x y (i + 1))) (congrArg Value.bool (by rw [begB_succ, hb10]; rfl))) rfl rfl ?_
        refine yA ?_
        refine zD (zL (zT (zR ?_)))
        refine yP (pAdd (b := 1)) ?_
        refine yM ?_
        refine zN (zT ?_)
        exact ⟨(Nat.min (toF x).length (toF y).length) - (i + 1), [], _, by omega, wk [91000, 94000], i + 1, by omega, rfl, rfl⟩
    ·
      have hi : ¬ i < (Nat.min (toF x).length (toF y).length) := by simpa using hb9
      obtain rfl : i = (Nat.min (toF x).length (toF y).length) := by omega
      refine zX (zV (zV (zH (zT (zS ?_)))))
      refine yM ?_
      refine yM ?_
      first | refine AWo.pure ((PureOp.eqlBool Try.underlying4 rfl rfl).mono (v' := .bool true) (congrArg Value.bool (by rw [begB_ne hbx hby hx hy hne]; rfl))) rfl rfl ?_
      refine yA ?_
      refine zN (zE ?_)
      exact rq [] [.tmp 4]
theorem encunlike_ctr {x y : Opn} (hbx : bd 256 x.d) (hby : bd 256 y.d) : GC Try.prog 15 [opV x, opV y] [] [.bool true] [] := by
  rcases Nat.lt_or_ge 700 x.d.length with hx7 | hx7
  · exact encunlike_lx hx7
  rcases Nat.lt_or_ge 700 y.d.length with hy7 | hy7
  · exact encunlike_ly hx7 hy7
  by_cases hx : Rgt x
  · by_cases hy : Rgt y
    · by_cases e : x = y
      · subst e; exact encunlike_same hbx hx7 hx
      · exact encunlike_ne hbx hby hx7 hy7 hx hy e
    · exact encunlike_ny hbx hby hx7 hy7 hx hy
  · exact encunlike_nx hbx hx7 hy7 hx
end Go.Proofs.Ytpahdiljpnfkdaa
namespace Go.Proofs.Ytpahdiljpnfkdaa
open Go
namespace Head
set_option maxRecDepth 100000 in
theorem words : ∃ l, Try.prog.initOrder = String.ofList l ∧ (behindMainWord (wordsSigns l)).head? = some "cut".toList := ⟨_, rfl, by kernel_rfl⟩
theorem head_of {P : Program} (h : ∃ l, P.initOrder = String.ofList l ∧ (behindMainWord (wordsSigns l)).head? = some "cut".toList) :
    ∃ rest, behindMainWord (wordsSigns P.initOrder.toList) = "cut".toList :: rest := by
  obtain ⟨l, h, hh⟩ := h
  rw [h, String.toList_ofList]
  cases hb : behindMainWord (wordsSigns l) with
  | nil => rw [hb] at hh; cases hh
  | cons c r => rw [hb] at hh; simp only [List.head?_cons, Option.some.injEq] at hh; exact ⟨r, by rw [hh]⟩
theorem cut_words : (liftWords.all fun s => !("cut".toList == s.toList)) = true := by decide +kernel
theorem strip_cut (rest : List (List Char)) : stripLifts liftWords ("cut".toList :: rest) = ([], "cut".toList :: rest) := by
  have key : ∀ o : List String, (o.all fun s => !("cut".toList == s.toList)) = true → stripLifts o ("cut".toList :: rest) = ([], "cut".toList :: rest) := by
    intro o
    induction o with
    | nil => intro _; rfl
    | cons s o ih =>
      intro h
      simp only [List.all_cons, Bool.and_eq_true, Bool.not_eq_true'] at h
      rw [stripLifts, if_neg (by rw [h.1]; exact Bool.false_ne_true)]
      exact ih h.2
  exact key liftWords cut_words
theorem mayEnter_of {P : Program} {rest : List (List Char)} (hr : behindMainWord (wordsSigns P.initOrder.toList) = "cut".toList :: rest) (e1 : P.laysLater = false) (e2 : P.bearsReflect = false) (e3 : P.doorFits [] = true) : P.mayEnter = true := by
  unfold Program.mayEnter
  rw [hr]
  simp only [strip_cut, e1, e2, e3]
  simp
theorem headLifts_of {P : Program} {rest : List (List Char)} (hr : behindMainWord (wordsSigns P.initOrder.toList) = "cut".toList :: rest) : P.headLifts = [] := by
  unfold Program.headLifts
  rw [hr, strip_cut]
  simp
theorem cut_ne : ("cut".toList == "carried".toList) = false ∧ ("cut".toList == "gc".toList) = false ∧ ("cut".toList == "spec".toList) = false := by decide +kernel
theorem liftsFinal_of {P : Program} {rest : List (List Char)} (hr : behindMainWord (wordsSigns P.initOrder.toList) = "cut".toList :: rest) : P.liftsFinal = false := by
  unfold Program.liftsFinal
  rw [hr, headLifts_of hr]
  simp
theorem make_of {P : Program} {rest : List (List Char)} (hr : behindMainWord (wordsSigns P.initOrder.toList) = "cut".toList :: rest) : P.make = some .cut := by
  unfold Program.make
  rw [hr]
  simp only [cut_ne.2.1, cut_ne.2.2, beq_self_eq_true]
  simp
theorem laysLater : Try.prog.laysLater = false := by kernel_rfl
theorem bearsReflect : Try.prog.bearsReflect = false := by kernel_rfl
theorem doorFits : Try.prog.doorFits [] = true := by kernel_rfl
theorem mayEnter : Try.prog.mayEnter = true := let ⟨_, hr⟩ := head_of words; mayEnter_of hr laysLater bearsReflect doorFits
theorem liftsFinal : Try.prog.liftsFinal = false := let ⟨_, hr⟩ := head_of words; liftsFinal_of hr
theorem make_cut : Try.prog.make = some .cut := let ⟨_, hr⟩ := head_of words; make_of hr
theorem band {a b : Bool} (ha : a = true) (hb : b = true) : (a && b) = true := by rw [ha, hb]; rfl
end Head
end Go.Proofs.Ytpahdiljpnfkdaa
