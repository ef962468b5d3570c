/- What the proof stands on, part 6: the walk of each function, and plain laws of numbers. -/
import Derived.Test.YtpahdiljpnfkdaaGreatK5
import Derived.Test.YtpahdiljpnfkdaaGreatRows
import Derived.ProofKit
namespace Go.Proofs.YtpahdiljpnfkdaaGreat
open Go Sim
theorem coll_ctr {b : List Nat} {c : Nat} (hc : 1 ≤ c) (hc2 : c < 1000000) (hx : b.length < 1000000000) : GC Tryz.prog 52 [.func (.func 81) #[] #[.pointer (some ⟨0, 0, none⟩), .pointer (some ⟨1, 0, none⟩)]] [⟨[db b], false, 1⟩, ⟨[vi .i64 c], false, 1⟩] [.slice (some ⟨2, 0, none⟩) (chL c b (chunkN c b.length)).length 0] [⟨[db b], false, 1⟩, ⟨[vi .i64 c], false, 1⟩, ⟨(chL c b (chunkN c b.length)).map db, true, 1⟩] := by
 refine gi Tryz.func52 ?_
 refine zS ?_
 refine yA ?_
 refine zN (zS ?_)
 refine yM ?_
 refine yC (appseq_ctr hc hc2 hx) bd80 [(0, 0), (1, 0)] [5000] ?_ (hfit := (.clo rfl (cloM (f := db) (l := [b]) fun _ => rfl) (by intro h; exact h) (.flat rfl (flat1 rfl) (by intro h; exact h) .nil))) (hnew := (.keep rfl (.keep rfl (.new (clo_map_ren (cloM fun _ => rfl)) (OkL.clo (cloM fun _ => rfl)) .nil))))
 refine yA ?_
 refine zN (zE ?_)
 exact rq [5000] [.tmp 2] (hb := OutL.clo (c := [b].map db) rfl (cloM fun _ => rfl) (by intro h; exact h.elim id fun h => absurd h.1 (by simp)) (OutL.flat rfl (flat1 rfl) (by intro h; exact h.elim id fun h => absurd h.1 (by simp)) (OutL.clo rfl (cloM fun _ => rfl) (fun _ => rfl) trivial)))
theorem pcs_ch {t : Int} {b : List Nat} (h2 : t ≠ 2) (h3 : t ≠ 3) (h4 : t ≠ 4) : pcs t b = chL 31 b (chunkN 31 b.length) := by
 unfold pcs chL chunkN np
 rw [if_neg h2, if_neg h3, if_neg h4]
 refine List.map_congr_left fun i _ => ?_
 rw [pc, off, wd, if_neg h2, if_neg h3, if_neg h4, if_neg h2, if_neg h3, if_neg h4]
theorem wd_2 (k : Nat) : [8].getD (k % 1) 0 = wd 2 k := by rw [Nat.mod_one]; rfl
theorem wd_3 (k : Nat) : [32].getD (k % 1) 0 = wd 3 k := by rw [Nat.mod_one]; rfl
theorem wd_4 (k : Nat) : [31, 31, 31, 3].getD (k % 4) 0 = wd 4 k := by
 rw [show wd 4 k = if k % 4 = 3 then 3 else 31 from rfl]
 have h5 : k % 4 = 0 ∨ k % 4 = 1 ∨ k % 4 = 2 ∨ k % 4 = 3 := by omega
 rcases h5 with h5 | h5 | h5 | h5 <;> rw [h5] <;> rfl
theorem np_le {t : Int} {L : Nat} : np t L ≤ L := by unfold np; split <;> (try split) <;> (try split) <;> omega
theorem cut1_ctr {b : List Nat} (hL : b.length < 200000000) : GC Tryz.prog 23 [.int .i64 1, db b] [] [.slice (some ⟨0, 0, none⟩) (np 1 b.length) 0] [⟨(pcs 1 b).map db, true, 1⟩] := by
  refine gi Tryz.func23 ?_
  have hp := pcs_ch (t := 1) (b := b) (by decide) (by decide) (by decide)
  have hn : np 1 b.length = (chL 31 b (chunkN 31 b.length)).length := by rw [← hp, pcs_len]
  rw [hn, hp]
  refine zS ?_
  refine yA ?_
  refine zN (zS ?_)
  refine yM ?_
  refine yC (values1_ctr) bd51 [] [] ?_
  first | refine AWo.pure (PureOp.fldV1 tbok rfl rfl rfl rfl) rfl rfl ?_
  refine yA ?_
  refine zN (zQ (zS ?_))
  refine yM ?_
  refine yP (PureOp.nilEqNilS Tryz.underlying61 rfl) ?_
  refine zN (zC (zS ?_))
  refine yM ?_
  refine yC (chunkwD_ctr (b := b) (c := 31) (by decide)) bd53 [] [15000, 15001] ?_ (hnew := (.new (clo_map_ren (l := [b].map db) (cloM fun _ => rfl)) (OkL.clo (l := [b].map db) (cloM fun _ => rfl)) (.new (flat_map_ren (flat1 rfl)) (OkL.flat (flat1 rfl)) .nil)))
  refine yC (coll_ctr (b := b) (c := 31) (by decide) (by decide) (by omega)) bd52 [(15000, 0), (15001, 0)] [16000] ?_ (hfit := (.clo rfl (cloM (f := db) (l := [b]) fun _ => rfl) (by intro h; rfl) (.flat rfl (flat1 rfl) (by intro h; rfl) .nil))) (hnew := (.keep rfl (.keep rfl (.new (clo_map_ren (cloM fun _ => rfl)) (OkL.clo (cloM fun _ => rfl)) .nil))))
  refine yA ?_
  refine zN (zE (zU ?_))
  exact rq [16000] [.tmp 4] (hb := (OutL.clo rfl (cloM fun _ => rfl) (by intro h; rfl) trivial))
theorem cut0_ctr {t : Int} {b : List Nat} (h1 : t ≠ 1) (h2 : t ≠ 2) (h3 : t ≠ 3) (h4 : t ≠ 4) (hL : b.length < 200000000) : GC Tryz.prog 23 [.int .i64 t, db b] [] [.slice (some ⟨0, 0, none⟩) (np t b.length) 0] [⟨(pcs t b).map db, true, 1⟩] := by
  refine gi Tryz.func23 ?_
  have hp := pcs_ch (t := t) (b := b) h2 h3 h4
  have hn : np t b.length = (chL 31 b (chunkN 31 b.length)).length := by rw [← hp, pcs_len]
  rw [hn, hp]
  refine zS ?_
  refine yA ?_
  refine zN (zS ?_)
  refine yM ?_
  refine yC (values0_ctr h1 h2 h3 h4) bd51 [] [] ?_
  first | refine AWo.pure (PureOp.fldV1 tbok rfl rfl rfl rfl) rfl rfl ?_
  refine yA ?_
  refine zN (zQ (zS ?_))
  refine yM ?_
  refine yP (PureOp.nilEqNilS Tryz.underlying61 rfl) ?_
  refine zN (zC (zS ?_))
  refine yM ?_
  refine yC (chunkwD_ctr (b := b) (c := 31) (by decide)) bd53 [] [15000, 15001] ?_ (hnew := (.new (clo_map_ren (l := [b].map db) (cloM fun _ => rfl)) (OkL.clo (l := [b].map db) (cloM fun _ => rfl)) (.new (flat_map_ren (flat1 rfl)) (OkL.flat (flat1 rfl)) .nil)))
  refine yC (coll_ctr (b := b) (c := 31) (by decide) (by decide) (by omega)) bd52 [(15000, 0), (15001, 0)] [16000] ?_ (hfit := (.clo rfl (cloM (f := db) (l := [b]) fun _ => rfl) (by intro h; rfl) (.flat rfl (flat1 rfl) (by intro h; rfl) .nil))) (hnew := (.keep rfl (.keep rfl (.new (clo_map_ren (cloM fun _ => rfl)) (OkL.clo (cloM fun _ => rfl)) .nil))))
  refine yA ?_
  refine zN (zE (zU ?_))
  exact rq [16000] [.tmp 4] (hb := (OutL.clo rfl (cloM fun _ => rfl) (by intro h; rfl) trivial))
theorem cut2_ctr {b : List Nat} (hf : fits 2 b.length) (hL : b.length < 200000000) : GC Tryz.prog 23 [.int .i64 2, db b] [] [.slice (some ⟨0, 0, none⟩) (np 2 b.length) 0] [⟨(pcs 2 b).map db, true, 1⟩] := by
  have hnp : np 2 b.length ≤ b.length := np_le
  refine gi Tryz.func23 ?_
  refine zS ?_
  refine yA ?_
  refine zN (zS ?_)
  refine yM ?_
  refine yC (values2_ctr) bd51 [] [10000] ?_
  first | refine AWo.pure (PureOp.fldV1 tbok rfl rfl rfl rfl) rfl rfl ?_
  refine yA ?_
  refine zN (zQ (zS ?_))
  refine yM ?_
  refine yP (PureOp.slEqNil Tryz.underlying61 rfl (by decide)) ?_
  refine zN (zF (zK (zT (zS ?_))))
  refine yA ?_
  refine zN (zQ (zS ?_))
  refine yA ?_
  refine zN (zB ?_)
  refine AW.ghost 77000 1 rfl ?_
  refine AW.loopw (fun mm σ => ∃ k, (k ≤ np 2 b.length) ∧ mm = np 2 b.length - k ∧ σ = ⟨(upd (upd (upd (upd emp 1 (db (b.drop (off 2 k)))) 5 (.slice (some ⟨10000, 0, none⟩) 1 0)) 6 (.slice (some ⟨77000, 0, none⟩) k 0)) 7 (vi .i64 (k % 1))), (upd (upd emp 10000 ⟨[8].map (vi .i64), true, 1⟩) 77000 ⟨((List.range k).map (pc 2 b)).map db, true, 1⟩)⟩) (fm := []) (wk [10000, 77000]) ⟨0, Nat.zero_le _, rfl, rfl⟩ ?_
  rintro mm σ ⟨k, hk, rfl, rfl⟩
  refine zQ (zS ?_)
  refine yM ?_
  refine yP pD ?_
  refine yP (pGt (b := 0)) ?_
  refine zN ?_
  refine zA (fun hb0 => ?_) (fun hb0 => ?_)
  ·
    have h0 : 0 < (b.drop (off 2 k)).length := by simpa using hb0
    have hlt : off 2 k < b.length := by rw [List.length_drop] at h0; omega
    have hkn : k < np 2 b.length := (np_lt hf).2 hlt
    have hfit : wd 2 k ≤ (b.drop (off 2 k)).length := by have := off_fit hf (by decide) hlt; rw [List.length_drop]; omega
    refine zK (zT (zQ (zB (zS ?_))))
    refine yM ?_
    refine yM ?_
    refine yM ?_
    refine yM ?_
    refine yP (PureOp.idx1 tbok (j := k % 1) rfl rfl rfl rfl (by omega)) ?_
    refine AWo.loadM tbok 0 rfl rfl rfl (by show k % 1 < 1; omega) rfl rfl ?_
    rw [wd_2 k]
    refine yP ((PureOp.sliceD (l := 0) (h := wd 2 k) rfl .none (.some rfl) (tbok.sl _ _ rfl) (tbok.sz _ _ rfl) (Nat.zero_le _) hfit).mono (v' := db (pc 2 b k)) (by rw [db_part hfit (Nat.zero_le _), List.drop_zero, Nat.sub_zero]; rfl)) ?_
    refine AWo.buildSlice tbok 32000 [(0, db (pc 2 b k))] (out := [pc 2 b k].map db) rfl rfl (by decide) rfl rfl rfl (by decide) rfl rfl rfl rfl rfl ?_
    refine AWo.append tbok (all := ((List.range (k + 1)).map (pc 2 b)).map db) (news := [pc 2 b k].map db) 33000 rfl rfl rfl rfl (by simp) (by show List.take _ (List.drop 0 _) = _; rw [List.drop_zero]; exact List.take_of_length_le (by simp)) (by (simp; done)) (by decide) rfl rfl rfl (by decide) rfl rfl rfl (by omega) (by omega) (by rfl) (by rw [List.range_succ, List.map_append, List.map_append]; rfl) rfl rfl ?_
    refine yA ?_
    refine zN (zR ?_)
    refine yM ?_
    refine yM ?_
    refine yM ?_
    refine yP (PureOp.idx1 tbok (j := k % 1) rfl rfl rfl rfl (by omega)) ?_
    refine AWo.loadM tbok 0 rfl rfl rfl (by show k % 1 < 1; omega) rfl rfl ?_
    rw [wd_2 k]
    refine yP ((PureOp.sliceD (l := wd 2 k) (h := (b.drop (off 2 k)).length) rfl (.some rfl) .none (tbok.sl _ _ rfl) (tbok.sz _ _ rfl) hfit (Nat.le_refl _)).mono (v' := db (b.drop (off 2 (k + 1)))) (by rw [db_part (Nat.le_refl _) hfit, List.drop_drop, List.take_of_length_le (by rw [List.length_drop, List.length_drop]; omega), off_succ])) ?_
    refine yA ?_
    refine zN (zL (zT (zR ?_)))
    refine yM ?_
    refine yP (pAdd (b := 1)) ?_
    refine yM ?_
    refine yP pL ?_
    refine yP ((PureOp.remN rfl rfl (by decide)).mono (v' := vi .i64 ((k + 1) % 1)) (congrArg (vi .i64) (by omega))) ?_
    refine yA ?_
    refine zN (zT ?_)
    exact ⟨np 2 b.length - (k + 1), [(77000, 33000)], _, by omega, wk [10000, 77000], k + 1, by omega, rfl, rfl⟩
  ·
    have h0 : ¬ 0 < (b.drop (off 2 k)).length := by simpa using hb0
    obtain rfl : k = np 2 b.length := by
      refine Nat.le_antisymm hk (Nat.le_of_not_lt fun h => h0 ?_)
      have := (np_lt hf).1 h
      rw [List.length_drop]; omega
    refine zX (zV (zV (zH (zT (zS ?_)))))
    refine yM ?_
    refine yA ?_
    refine zN (zE ?_)
    exact rq [77000] [.tmp 4] (hb := (OutL.clo rfl (cloM fun _ => rfl) (by intro h; rfl) trivial))
theorem cut3_ctr {b : List Nat} (hf : fits 3 b.length) (hL : b.length < 200000000) : GC Tryz.prog 23 [.int .i64 3, db b] [] [.slice (some ⟨0, 0, none⟩) (np 3 b.length) 0] [⟨(pcs 3 b).map db, true, 1⟩] := by
  have hnp : np 3 b.length ≤ b.length := np_le
  refine gi Tryz.func23 ?_
  refine zS ?_
  refine yA ?_
  refine zN (zS ?_)
  refine yM ?_
  refine yC (values3_ctr) bd51 [] [10000] ?_
  first | refine AWo.pure (PureOp.fldV1 tbok rfl rfl rfl rfl) rfl rfl ?_
  refine yA ?_
  refine zN (zQ (zS ?_))
  refine yM ?_
  refine yP (PureOp.slEqNil Tryz.underlying61 rfl (by decide)) ?_
  refine zN (zF (zK (zT (zS ?_))))
  refine yA ?_
  refine zN (zQ (zS ?_))
  refine yA ?_
  refine zN (zB ?_)
  refine AW.ghost 77000 1 rfl ?_
  refine AW.loopw (fun mm σ => ∃ k, (k ≤ np 3 b.length) ∧ mm = np 3 b.length - k ∧ σ = ⟨(upd (upd (upd (upd emp 1 (db (b.drop (off 3 k)))) 5 (.slice (some ⟨10000, 0, none⟩) 1 0)) 6 (.slice (some ⟨77000, 0, none⟩) k 0)) 7 (vi .i64 (k % 1))), (upd (upd emp 10000 ⟨[32].map (vi .i64), true, 1⟩) 77000 ⟨((List.range k).map (pc 3 b)).map db, true, 1⟩)⟩) (fm := []) (wk [10000, 77000]) ⟨0, Nat.zero_le _, rfl, rfl⟩ ?_
  rintro mm σ ⟨k, hk, rfl, rfl⟩
  refine zQ (zS ?_)
  refine yM ?_
  refine yP pD ?_
  refine yP (pGt (b := 0)) ?_
  refine zN ?_
  refine zA (fun hb0 => ?_) (fun hb0 => ?_)
  ·
    have h0 : 0 < (b.drop (off 3 k)).length := by simpa using hb0
    have hlt : off 3 k < b.length := by rw [List.length_drop] at h0; omega
    have hkn : k < np 3 b.length := (np_lt hf).2 hlt
    have hfit : wd 3 k ≤ (b.drop (off 3 k)).length := by have := off_fit hf (by decide) hlt; rw [List.length_drop]; omega
    refine zK (zT (zQ (zB (zS ?_))))
    refine yM ?_
    refine yM ?_
    refine yM ?_
    refine yM ?_
    refine yP (PureOp.idx1 tbok (j := k % 1) rfl rfl rfl rfl (by omega)) ?_
    refine AWo.loadM tbok 0 rfl rfl rfl (by show k % 1 < 1; omega) rfl rfl ?_
    rw [wd_3 k]
    refine yP ((PureOp.sliceD (l := 0) (h := wd 3 k) rfl .none (.some rfl) (tbok.sl _ _ rfl) (tbok.sz _ _ rfl) (Nat.zero_le _) hfit).mono (v' := db (pc 3 b k)) (by rw [db_part hfit (Nat.zero_le _), List.drop_zero, Nat.sub_zero]; rfl)) ?_
    refine AWo.buildSlice tbok 32000 [(0, db (pc 3 b k))] (out := [pc 3 b k].map db) rfl rfl (by decide) rfl rfl rfl (by decide) rfl rfl rfl rfl rfl ?_
    refine AWo.append tbok (all := ((List.range (k + 1)).map (pc 3 b)).map db) (news := [pc 3 b k].map db) 33000 rfl rfl rfl rfl (by simp) (by show List.take _ (List.drop 0 _) = _; rw [List.drop_zero]; exact List.take_of_length_le (by simp)) (by (simp; done)) (by decide) rfl rfl rfl (by decide) rfl rfl rfl (by omega) (by omega) (by rfl) (by rw [List.range_succ, List.map_append, List.map_append]; rfl) rfl rfl ?_
    refine yA ?_
    refine zN (zR ?_)
    refine yM ?_
    refine yM ?_
    refine yM ?_
    refine yP (PureOp.idx1 tbok (j := k % 1) rfl rfl rfl rfl (by omega)) ?_
    refine AWo.loadM tbok 0 rfl rfl rfl (by show k % 1 < 1; omega) rfl rfl ?_
    rw [wd_3 k]
    refine yP ((PureOp.sliceD (l := wd 3 k) (h := (b.drop (off 3 k)).length) rfl (.some rfl) .none (tbok.sl _ _ rfl) (tbok.sz _ _ rfl) hfit (Nat.le_refl _)).mono (v' := db (b.drop (off 3 (k + 1)))) (by rw [db_part (Nat.le_refl _) hfit, List.drop_drop, List.take_of_length_le (by rw [List.length_drop, List.length_drop]; omega), off_succ])) ?_
    refine yA ?_
    refine zN (zL (zT (zR ?_)))
    refine yM ?_
    refine yP (pAdd (b := 1)) ?_
    refine yM ?_
    refine yP pL ?_
    refine yP ((PureOp.remN rfl rfl (by decide)).mono (v' := vi .i64 ((k + 1) % 1)) (congrArg (vi .i64) (by omega))) ?_
    refine yA ?_
    refine zN (zT ?_)
    exact ⟨np 3 b.length - (k + 1), [(77000, 33000)], _, by omega, wk [10000, 77000], k + 1, by omega, rfl, rfl⟩
  ·
    have h0 : ¬ 0 < (b.drop (off 3 k)).length := by simpa using hb0
    obtain rfl : k = np 3 b.length := by
      refine Nat.le_antisymm hk (Nat.le_of_not_lt fun h => h0 ?_)
      have := (np_lt hf).1 h
      rw [List.length_drop]; omega
    refine zX (zV (zV (zH (zT (zS ?_)))))
    refine yM ?_
    refine yA ?_
    refine zN (zE ?_)
    exact rq [77000] [.tmp 4] (hb := (OutL.clo rfl (cloM fun _ => rfl) (by intro h; rfl) trivial))
theorem cut4_ctr {b : List Nat} (hf : fits 4 b.length) (hL : b.length < 200000000) : GC Tryz.prog 23 [.int .i64 4, db b] [] [.slice (some ⟨0, 0, none⟩) (np 4 b.length) 0] [⟨(pcs 4 b).map db, true, 1⟩] := by
  have hnp : np 4 b.length ≤ b.length := np_le
  refine gi Tryz.func23 ?_
  refine zS ?_
  refine yA ?_
  refine zN (zS ?_)
  refine yM ?_
  refine yC (values4_ctr) bd51 [] [10000] ?_
  first | refine AWo.pure (PureOp.fldV1 tbok rfl rfl rfl rfl) rfl rfl ?_
  refine yA ?_
  refine zN (zQ (zS ?_))
  refine yM ?_
  refine yP (PureOp.slEqNil Tryz.underlying61 rfl (by decide)) ?_
  refine zN (zF (zK (zT (zS ?_))))
  refine yA ?_
  refine zN (zQ (zS ?_))
  refine yA ?_
  refine zN (zB ?_)
  refine AW.ghost 77000 1 rfl ?_
  refine AW.loopw (fun mm σ => ∃ k, (k ≤ np 4 b.length) ∧ mm = np 4 b.length - k ∧ σ = ⟨(upd (upd (upd (upd emp 1 (db (b.drop (off 4 k)))) 5 (.slice (some ⟨10000, 0, none⟩) 4 0)) 6 (.slice (some ⟨77000, 0, none⟩) k 0)) 7 (vi .i64 (k % 4))), (upd (upd emp 10000 ⟨[31, 31, 31, 3].map (vi .i64), true, 1⟩) 77000 ⟨((List.range k).map (pc 4 b)).map db, true, 1⟩)⟩) (fm := []) (wk [10000, 77000]) ⟨0, Nat.zero_le _, rfl, rfl⟩ ?_
  rintro mm σ ⟨k, hk, rfl, rfl⟩
  refine zQ (zS ?_)
  refine yM ?_
  refine yP pD ?_
  refine yP (pGt (b := 0)) ?_
  refine zN ?_
  refine zA (fun hb0 => ?_) (fun hb0 => ?_)
  ·
    have h0 : 0 < (b.drop (off 4 k)).length := by simpa using hb0
    have hlt : off 4 k < b.length := by rw [List.length_drop] at h0; omega
    have hkn : k < np 4 b.length := (np_lt hf).2 hlt
    have hfit : wd 4 k ≤ (b.drop (off 4 k)).length := by have := off_fit hf (by decide) hlt; rw [List.length_drop]; omega
    refine zK (zT (zQ (zB (zS ?_))))
    refine yM ?_
    refine yM ?_
    refine yM ?_
    refine yM ?_
    refine yP (PureOp.idx1 tbok (j := k % 4) rfl rfl rfl rfl (by omega)) ?_
    refine AWo.loadM tbok 0 rfl rfl rfl (by show k % 4 < 4; omega) rfl rfl ?_
    rw [wd_4 k]
    refine yP ((PureOp.sliceD (l := 0) (h := wd 4 k) rfl .none (.some rfl) (tbok.sl _ _ rfl) (tbok.sz _ _ rfl) (Nat.zero_le _) hfit).mono (v' := db (pc 4 b k)) (by rw [db_part hfit (Nat.zero_le _), List.drop_zero, Nat.sub_zero]; rfl)) ?_
    refine AWo.buildSlice tbok 32000 [(0, db (pc 4 b k))] (out := [pc 4 b k].map db) rfl rfl (by decide) rfl rfl rfl (by decide) rfl rfl rfl rfl rfl ?_
    refine AWo.append tbok (all := ((List.range (k + 1)).map (pc 4 b)).map db) (news := [pc 4 b k].map db) 33000 rfl rfl rfl rfl (by simp) (by show List.take _ (List.drop 0 _) = _; rw [List.drop_zero]; exact List.take_of_length_le (by simp)) (by (simp; done)) (by decide) rfl rfl rfl (by decide) rfl rfl rfl (by omega) (by omega) (by rfl) (by rw [List.range_succ, List.map_append, List.map_append]; rfl) rfl rfl ?_
    refine yA ?_
    refine zN (zR ?_)
    refine yM ?_
    refine yM ?_
    refine yM ?_
    refine yP (PureOp.idx1 tbok (j := k % 4) rfl rfl rfl rfl (by omega)) ?_
    refine AWo.loadM tbok 0 rfl rfl rfl (by show k % 4 < 4; omega) rfl rfl ?_
    rw [wd_4 k]
    refine yP ((PureOp.sliceD (l := wd 4 k) (h := (b.drop (off 4 k)).length) rfl (.some rfl) .none (tbok.sl _ _ rfl) (tbok.sz _ _ rfl) hfit (Nat.le_refl _)).mono (v' := db (b.drop (off 4 (k + 1)))) (by rw [db_part (Nat.le_refl _) hfit, List.drop_drop, List.take_of_length_le (by rw [List.length_drop, List.length_drop]; omega), off_succ])) ?_
    refine yA ?_
    refine zN (zL (zT (zR ?_)))
    refine yM ?_
    refine yP (pAdd (b := 1)) ?_
    refine yM ?_
    refine yP pL ?_
    refine yP ((PureOp.remN rfl rfl (by decide)).mono (v' := vi .i64 ((k + 1) % 4)) (congrArg (vi .i64) (by omega))) ?_
    refine yA ?_
    refine zN (zT ?_)
    exact ⟨np 4 b.length - (k + 1), [(77000, 33000)], _, by omega, wk [10000, 77000], k + 1, by omega, rfl, rfl⟩
  ·
    have h0 : ¬ 0 < (b.drop (off 4 k)).length := by simpa using hb0
    obtain rfl : k = np 4 b.length := by
      refine Nat.le_antisymm hk (Nat.le_of_not_lt fun h => h0 ?_)
      have := (np_lt hf).1 h
      rw [List.length_drop]; omega
    refine zX (zV (zV (zH (zT (zS ?_)))))
    refine yM ?_
    refine yA ?_
    refine zN (zE ?_)
    exact rq [77000] [.tmp 4] (hb := (OutL.clo rfl (cloM fun _ => rfl) (by intro h; rfl) trivial))
theorem cut_ctr {t : Int} {b : List Nat} (hf : fits t b.length) (hL : b.length < 200000000) : GC Tryz.prog 23 [.int .i64 t, db b] [] [.slice (some ⟨0, 0, none⟩) (np t b.length) 0] [⟨(pcs t b).map db, true, 1⟩] := by
  by_cases h1 : t = 1
  · subst h1; exact cut1_ctr hL
  by_cases h2 : t = 2
  · subst h2; exact cut2_ctr hf hL
  by_cases h3 : t = 3
  · subst h3; exact cut3_ctr hf hL
  by_cases h4 : t = 4
  · subst h4; exact cut4_ctr hf hL
  exact cut0_ctr h1 h2 h3 h4 hL
theorem pcs_getD {t : Int} {b : List Nat} {i : Nat} (hi : i < np t b.length) : (pcs t b).getD i [] = pc t b i := by
  rw [pcs, List.getD_eq_getElem?_getD, List.getElem?_map, List.getElem?_range hi]; rfl
def gP (t : Int) (d : List Nat) (i : Nat) : Fp := fp (num 256 (pc t d i))
theorem or8 {a b : Nat} (ha : a < 256) (hb : b < 256) : a ||| b * 2 ^ 8 % 18446744073709551616 = a + 256 * b := by
  rw [Nat.mod_eq_of_lt (by omega), Nat.or_comm, Nat.mul_comm b, ← Nat.two_pow_add_eq_or_of_lt (by omega : a < 2 ^ 8)]
  omega
theorem or16 {a b : Nat} (ha : a < 65536) (hb : b < 4294967296) : a ||| b * 2 ^ 16 % 18446744073709551616 = a + 65536 * b := by
  rw [Nat.mod_eq_of_lt (by omega), Nat.or_comm, Nat.mul_comm b, ← Nat.two_pow_add_eq_or_of_lt (by omega : a < 2 ^ 16)]
  omega
theorem rgt_len {x : Opn} (h : Rgt x) : x.d.length < 200000000 := by
  have h1 := lng_rgt h
  have hi := itC_inv h.1
  unfold lng at h1
  have h2 := szT_le x.t
  split at h1
  · have : x.c.toNat * szT x.t ≤ 1048576 * 96 := Nat.mul_le_mul (by omega) h2
    omega
  · omega
theorem rgt_nat {x : Opn} (h : Rgt x) : ∃ kn tn cn : Nat, x = ⟨kn, tn, cn, x.d⟩ ∧ kn ≤ 3 ∧ tn ≤ 4 ∧ cn ≤ 1048576 := by
  have hi := itC_inv h.1
  obtain ⟨k, t, c, d⟩ := x
  simp only at hi
  exact ⟨k.toNat, t.toNat, c.toNat, by congr 1 <;> omega, by omega, by omega, by omega⟩
theorem tobN_ctr {x : Opn} (hb : bd 256 x.d) (hl : x.d.length < 9223372036854775808) (hx : ¬ Rgt x) : GC Tryz.prog 6 [opV x] [] [.slice (some ⟨0, 0, none⟩) 0 0] [⟨(([] : List Nat)).map (vi .u8), true, 1⟩] := by
  refine gi Tryz.func6 ?_
  refine AW.ghost 77000 1 rfl ?_
  refine zS ?_
  refine AWo.box 2000 1 [.int .i64 x.k, .int .i64 x.t, .int .i64 x.c, db x.d] rfl rfl rfl rfl rfl ?_
  refine yA ?_
  refine zN (zQ (zS ?_))
  refine yLA ?_
  refine AWo.callX (v := .bool false) (opright_ctr hb hl) bd22 [] [] rfl (.cons rfl .nil) rfl (.clo rfl .nil) .nil rfl .nil frN (by decide) (.cons rfl rfl .nil) (congrArg Value.bool (decide_eq_false hx)) rfl rfl rfl ?_
  refine yP (PureOp.not rfl) ?_
  refine zN (zC (zS ?_))
  refine yA ?_
  refine zN (zE (zU ?_))
  exact rq [77000] [.tmp 2]
theorem tobY_ctr {kn tn cn : Nat} {d : List Nat} (hb : bd 256 d) (hk : kn ≤ 3) (ht : tn ≤ 4) (hc : cn ≤ 1048576) (hd : d.length < 200000000) (hl : d.length < 9223372036854775808) (hx : Rgt ⟨kn, tn, cn, d⟩) : GC Tryz.prog 6 [opV (Opn.mk kn tn cn d)] [] [.slice (some ⟨0, 0, none⟩) (6 + d.length) 0] [⟨(([kn % 256, tn % 256, cn % 256, cn / 2 ^ 8 % 256, cn / 2 ^ 16 % 256, cn / 2 ^ 24 % 256] ++ d)).map (vi .u8), true, 1⟩] := by
  refine gi Tryz.func6 ?_
  refine zS ?_
  refine AWo.box 2000 1 [vi .i64 kn, vi .i64 tn, vi .i64 cn, db d] rfl rfl rfl rfl rfl ?_
  refine yA ?_
  refine zN (zQ (zS ?_))
  refine yLA ?_
  refine AWo.callX (v := .bool true) (opright_ctr (x := ⟨kn, tn, cn, d⟩) hb hl) bd22 [] [] rfl (.cons rfl .nil) rfl (.clo rfl .nil) .nil rfl .nil frN (by decide) (.cons rfl rfl .nil) (congrArg Value.bool (decide_eq_true hx)) rfl rfl rfl ?_
  refine yP (PureOp.not rfl) ?_
  refine zN (zF (zK (zT (zS ?_))))
  refine yP pF ?_
  refine yL1 ?_
  refine yP (PureOp.cvtU tbok 256 rfl rfl rfl rfl rfl) ?_
  refine yP pF ?_
  refine yL1 ?_
  refine yP (PureOp.cvtU tbok 256 rfl rfl rfl rfl rfl) ?_
  refine yP pF ?_
  refine yL1 ?_
  refine yP (PureOp.cvtU tbok 256 rfl rfl rfl rfl rfl) ?_
  refine yP pF ?_
  refine yL1 ?_
  refine yP (PureOp.shrN (b := 8) 64 rfl rfl rfl (by decide)) ?_
  refine yP (PureOp.cvtU tbok 256 rfl rfl rfl rfl rfl) ?_
  refine yP pF ?_
  refine yL1 ?_
  refine yP (PureOp.shrN (b := 16) 64 rfl rfl rfl (by decide)) ?_
  refine yP (PureOp.cvtU tbok 256 rfl rfl rfl rfl rfl) ?_
  refine yP pF ?_
  refine yL1 ?_
  refine yP (PureOp.shrN (b := 24) 64 rfl rfl rfl (by decide)) ?_
  refine yP (PureOp.cvtU tbok 256 rfl rfl rfl rfl rfl) ?_
  refine AWo.buildSlice tbok 29000 [(0, vi .u8 (kn % 256)), (1, vi .u8 (tn % 256)), (2, vi .u8 (cn % 256)), (3, vi .u8 (cn / 2 ^ 8 % 256)), (4, vi .u8 (cn / 2 ^ 16 % 256)), (5, vi .u8 (cn / 2 ^ 24 % 256))] (out := [vi .u8 (kn % 256), vi .u8 (tn % 256), vi .u8 (cn % 256), vi .u8 (cn / 2 ^ 8 % 256), vi .u8 (cn / 2 ^ 16 % 256), vi .u8 (cn / 2 ^ 24 % 256)]) rfl rfl (by decide) rfl rfl rfl (by decide) rfl rfl rfl rfl rfl ?_
  refine yA ?_
  refine zN (zS ?_)
  refine yM ?_
  refine yP pF ?_
  refine AWo.loadX tbok 88000 rfl rfl rfl rfl rfl rfl rfl ?_
  refine AWo.append tbok (all := ([kn % 256, tn % 256, cn % 256, cn / 2 ^ 8 % 256, cn / 2 ^ 16 % 256, cn / 2 ^ 24 % 256] ++ d).map (vi .u8)) (news := d.map (vi .u8)) 33000 rfl rfl rfl rfl (by rfl) (by show List.take _ (List.drop 0 _) = _; rw [List.drop_zero]; exact List.take_of_length_le (by simp)) (by (simp; done)) (by decide) rfl rfl rfl (by decide) rfl rfl rfl (by omega) (by omega) (by exact oneM (fun _ => rfl) _) rfl rfl rfl ?_
  refine yA ?_
  refine zN (zE ?_)
  exact rq [33000] [.tmp 2]
theorem tobytes_ctr {x : Opn} (hb : bd 256 x.d) (hl : x.d.length < 9223372036854775808) : GC Tryz.prog 6 [opV x] [] [.slice (some ⟨0, 0, none⟩) (toB x).length 0] [⟨(toB x).map (vi .u8), true, 1⟩] := by
  by_cases hx : Rgt x
  · have hd := rgt_len hx
    obtain ⟨kn, tn, cn, e, hk, ht, hc⟩ := rgt_nat hx
    generalize x.d = d at *
    subst e
    have h := tobY_ctr hb hk ht hc hd hl hx
    have e2 : toB ⟨kn, tn, cn, d⟩ = [kn % 256, tn % 256, cn % 256, cn / 2 ^ 8 % 256, cn / 2 ^ 16 % 256, cn / 2 ^ 24 % 256] ++ d := by
      rw [toB, if_pos hx]; rfl
    rw [e2, List.length_append]
    exact h
  · rw [toB, if_neg hx]
    exact tobN_ctr hb hl hx
theorem tofN_ctr {x : Opn} (hb : bd 256 x.d) (hl : x.d.length < 9223372036854775808) (hx : ¬ Rgt x) : GC Tryz.prog 8 [opV x] [] [.slice (some ⟨0, 0, none⟩) 0 0] [⟨((([] : List Fp).map fe).flatten).map (vi .u64), true, 4⟩] := by
  refine gi Tryz.func8 ?_
  refine AW.ghost 77000 4 rfl ?_
  refine zS ?_
  refine AWo.box 2000 1 [.int .i64 x.k, .int .i64 x.t, .int .i64 x.c, db x.d] rfl rfl rfl rfl rfl ?_
  refine yA ?_
  refine zN (zQ (zS ?_))
  refine yLA ?_
  refine AWo.callX (v := .bool false) (opright_ctr hb hl) bd22 [] [] rfl (.cons rfl .nil) rfl (.clo rfl .nil) .nil rfl .nil frN (by decide) (.cons rfl rfl .nil) (congrArg Value.bool (decide_eq_false hx)) rfl rfl rfl ?_
  refine yP (PureOp.not rfl) ?_
  refine zN (zC (zS ?_))
  refine yA ?_
  refine zN (zE (zU ?_))
  exact rq [77000] [.tmp 2]
theorem tofY_ctr {kn tn cn : Nat} {d : List Nat} (hb : bd 256 d) (hk : kn ≤ 3) (ht : tn ≤ 4) (hc : cn ≤ 1048576) (hd : d.length < 200000000) (hl : d.length < 9223372036854775808) (hx : Rgt ⟨kn, tn, cn, d⟩) : GC Tryz.prog 8 [opV (Opn.mk kn tn cn d)] [] [.slice (some ⟨0, 0, none⟩) (np tn d.length + 1) 0] [⟨(((fp (kn + 256 * tn + 65536 * cn) :: (List.range (np tn d.length)).map (gP tn d)).map fe).flatten).map (vi .u64), true, 4⟩] := by
  have hnp : np tn d.length ≤ d.length := np_le
  refine gi Tryz.func8 ?_
  refine zS ?_
  refine AWo.box 2000 1 [vi .i64 kn, vi .i64 tn, vi .i64 cn, db d] rfl rfl rfl rfl rfl ?_
  refine yA ?_
  refine zN (zQ (zS ?_))
  refine yLA ?_
  refine AWo.callX (v := .bool true) (opright_ctr (x := ⟨kn, tn, cn, d⟩) hb hl) bd22 [] [] rfl (.cons rfl .nil) rfl (.clo rfl .nil) .nil rfl .nil frN (by decide) (.cons rfl rfl .nil) (congrArg Value.bool (decide_eq_true hx)) rfl rfl rfl ?_
  refine yP (PureOp.not rfl) ?_
  refine zN (zF (zK (zT (zS ?_))))
  refine yP pF ?_
  refine yL1 ?_
  refine yP (PureOp.cvtN tbok 18446744073709551616 rfl rfl rfl (by decide) (by decide) (by omega)) ?_
  refine yP pF ?_
  refine yL1 ?_
  refine yP (PureOp.cvtN tbok 18446744073709551616 rfl rfl rfl (by decide) (by decide) (by omega)) ?_
  refine yP (PureOp.shlUge (b := 8) 18446744073709551616 rfl rfl rfl rfl) ?_
  refine yP ((PureOp.orN (a := kn) (b := tn * 2 ^ 8 % 18446744073709551616) 18446744073709551616 rfl rfl (by decide) (by decide) (by omega) (by omega)).mono (v' := vi .u64 (kn + 256 * tn)) (congrArg (vi .u64) (or8 (by omega) (by omega)))) ?_
  refine yP pF ?_
  refine yL1 ?_
  refine yP (PureOp.cvtN tbok 18446744073709551616 rfl rfl rfl (by decide) (by decide) (by omega)) ?_
  refine yP (PureOp.shlUge (b := 16) 18446744073709551616 rfl rfl rfl rfl) ?_
  refine yP ((PureOp.orN (a := kn + 256 * tn) (b := cn * 2 ^ 16 % 18446744073709551616) 18446744073709551616 rfl rfl (by decide) (by decide) (by omega) (by omega)).mono (v' := vi .u64 (kn + 256 * tn + 65536 * cn)) (congrArg (vi .u64) (or16 (by omega) (by omega)))) ?_
  refine yC (fromuF_ctr (v := kn + 256 * tn + 65536 * cn) (by omega)) bd14 [] [] ?_
  refine AWo.buildSlice tbok 24000 [(0, .agg ((fe (fp (kn + 256 * tn + 65536 * cn))).map (vi .u64)).toArray)] (out := [fe (fp (kn + 256 * tn + 65536 * cn))].flatten.map (vi .u64)) rfl rfl (by decide) rfl rfl rfl (by decide) rfl (fillB1 (fe_len _)) rfl rfl rfl ?_
  refine yA ?_
  refine zN (zQ (zS ?_))
  refine yP pF ?_
  refine yL1 ?_
  refine yP pF ?_
  refine yL1 ?_
  refine yC (cut_ctr (t := tn) (b := d) (rgt_fits hx) (by omega)) bd23 [] [29000] ?_ (hnew := (.new (clo_map_ren (cloM fun _ => rfl)) (OkL.clo (cloM fun _ => rfl)) .nil))
  refine yP pL ?_
  refine yM ?_
  refine zN (zB ?_)
  refine AW.loopw (fun mm σ => ∃ i, (i ≤ np tn d.length) ∧ mm = np tn d.length - i ∧ σ = ⟨(upd (upd (upd (upd emp 3 (.slice (some ⟨24000, 0, none⟩) (i + 1) 0)) 28 (.slice (some ⟨29000, 0, none⟩) (np tn d.length) 0)) 29 (vi .i64 (np tn d.length))) 30 (vi .i64 i)), (upd (upd emp 29000 ⟨(pcs tn d).map db, true, 1⟩) 24000 ⟨(((fp (kn + 256 * tn + 65536 * cn) :: (List.range i).map (gP tn d)).map fe).flatten).map (vi .u64), true, 4⟩)⟩) (fm := []) (wk [29000, 24000]) ⟨0, Nat.zero_le _, rfl, rfl⟩ ?_
  rintro mm σ ⟨i, hik, rfl, rfl⟩
  refine zS ?_
  refine yP pLt ?_
  refine zN (zQ ?_)
  refine zA (fun hb0 => ?_) (fun hb0 => ?_)
  ·
    have hi : i < np tn d.length := by simpa using hb0
    refine zK (zT (zQ (zB (zS ?_))))
    refine yP pJ ?_
    refine AWo.loadM tbok [] rfl rfl rfl (by rw [pcs_len]; exact hi) rfl rfl ?_
    rw [pcs_getD hi]
    refine yA ?_
    refine zN (zR ?_)
    refine yM ?_
    refine yM ?_
    refine yC (fromwideFd (b := pc tn d i) (bd_part hb _ _) (by rw [pc_len]; have := wd_le tn i; omega)) bd18 [] [] ?_
    refine AWo.buildSlice tbok 38000 [(0, .agg ((fe (fp (num 256 (pc tn d i)))).map (vi .u64)).toArray)] (out := [fe (fp (num 256 (pc tn d i)))].flatten.map (vi .u64)) rfl rfl (by decide) rfl rfl rfl (by decide) rfl (fillB1 (fe_len _)) rfl rfl rfl ?_
    refine AWo.append tbok (all := (((fp (kn + 256 * tn + 65536 * cn) :: (List.range (i + 1)).map (gP tn d)).map fe).flatten).map (vi .u64)) (news := [fe (fp (num 256 (pc tn d i)))].flatten.map (vi .u64)) 39000 rfl rfl rfl rfl (by rw [FF_len]; simp) (by show List.take _ (List.drop 0 _) = _; rw [List.drop_zero]; exact List.take_of_length_le (by simp)) (by simp; done) (by decide) rfl rfl rfl (by decide) rfl rfl rfl (by omega) (by omega) (oneM (fun _ => rfl) _) (by rw [List.range_succ, List.map_append, ← List.cons_append, List.map_append, List.flatten_append, List.map_append]; rfl) rfl rfl ?_
    refine yA ?_
    refine zN (zL (zT (zR ?_)))
    refine yP (pAdd (b := 1)) ?_
    refine yM ?_
    refine zN (zT ?_)
    exact ⟨np tn d.length - (i + 1), [(24000, 39000)], _, by omega, wk [29000, 24000], i + 1, by omega, rfl, rfl⟩
  ·
    obtain rfl : i = np tn d.length := by simp at hb0; omega
    refine zX (zV (zV (zH (zT (zS ?_)))))
    refine yM ?_
    refine yA ?_
    refine zN (zE ?_)
    exact rq [24000] [.tmp 2]
theorem tofields_ctr {x : Opn} (hb : bd 256 x.d) (hl : x.d.length < 9223372036854775808) : GC Tryz.prog 8 [opV x] [] [.slice (some ⟨0, 0, none⟩) (toF x).length 0] [⟨(((toF x).map fe).flatten).map (vi .u64), true, 4⟩] := by
  by_cases hx : Rgt x
  · have hd := rgt_len hx
    obtain ⟨kn, tn, cn, e, hk, ht, hc⟩ := rgt_nat hx
    generalize x.d = d at *
    subst e
    have h := tofY_ctr hb hk ht hc hd hl hx
    have e2 : toF ⟨kn, tn, cn, d⟩ = (fp (kn + 256 * tn + 65536 * cn) :: (List.range (np tn d.length)).map (gP tn d)) := by
      rw [toF, if_pos hx, pcs, List.map_map]; rfl
    have e3 : (toF ⟨kn, tn, cn, d⟩).length = np tn d.length + 1 := by rw [toF_len hx, Nat.add_comm]
    rw [e3, e2]
    exact h
  · rw [toF, if_neg hx]
    exact tofN_ctr hb hl hx
end Go.Proofs.YtpahdiljpnfkdaaGreat
namespace Go.Proofs.YtpahdiljpnfkdaaGreat
open Go Sim
theorem rgtX : Rgt (⟨1, 1, 2, [1, 2]⟩ : Opn) := by
 refine ⟨rfl, ?_⟩
 rw [if_pos rfl]
 refine ⟨rfl, ?_⟩
 refine ck_ok rfl (fun i _ => ?_)
 rw [vC, if_neg (by decide), if_neg (by decide)]
theorem toBX : toB (⟨1, 1, 2, [1, 2]⟩ : Opn) = [1, 1, 2, 0, 0, 0, 1, 2] := by rw [toB, if_pos rgtX]; rfl
theorem tobX_ctr : GC Tryz.prog 6 [opV (⟨1, 1, 2, [1, 2]⟩ : Opn)] [] [.slice (some ⟨0, 0, none⟩) 8 0] [⟨([1, 1, 2, 0, 0, 0, 1, 2]).map (vi .u8), true, 1⟩] := by
 have h := tobytes_ctr (x := (⟨1, 1, 2, [1, 2]⟩ : Opn)) (fun x hx => by simp at hx; omega) (by decide)
 rw [toBX] at h
 exact h
theorem tofX_ctr : GC Tryz.prog 8 [opV (⟨1, 1, 2, [1, 2]⟩ : Opn)] [] [.slice (some ⟨0, 0, none⟩) 2 0] [⟨(((toF (⟨1, 1, 2, [1, 2]⟩ : Opn)).map fe).flatten).map (vi .u64), true, 4⟩] := by
 have h := tofields_ctr (x := (⟨1, 1, 2, [1, 2]⟩ : Opn)) (fun x hx => by simp at hx; omega) (by decide)
 rw [show (toF (⟨1, 1, 2, [1, 2]⟩ : Opn)).length = 2 by rw [toF_len rgtX]; rfl] at h
 exact h
theorem speaks15_ctr : GC Tryz.prog 5 [] [] [.bool true] [] := by
 refine gi Tryz.func5 ?_
 refine zS ?_
 refine yA ?_
 refine zN (zS ?_)
 refine AWo.buildSliceF tbok 3000 [(0, vi .u8 1), (1, vi .u8 2)] (out := [vi .u8 1, vi .u8 2]) rfl rfl (by decide) rfl rfl rfl (by decide) rfl rfl rfl rfl (fun x hx => by simp at hx; rcases hx with rfl | rfl <;> rfl) rfl rfl ?_
 refine yP ((PureOp.buildStruct [(0, vi .i64 1), (1, vi .i64 1), (2, vi .i64 2), (3, db [1, 2])] pl27.choose_spec.1 zr27 (by decide) pl27.choose_spec.2 rfl rfl).mono (v' := .agg #[vi .i64 1, vi .i64 1, vi .i64 2, db [1, 2]]) rfl) ?_
 refine yN 2000 1 _ ?_
 refine AWo.storeAllN (vs := [vi .i64 1, vi .i64 1, vi .i64 2, db [1, 2]]) tbok rfl rfl rfl rfl rfl rfl rfl rfl ?_
 refine zN ?_
 refine AW.seqD mixed ?_
 refine yLA ?_
 refine yC (tobX_ctr) bd6 [] [6000] ?_ (hargs := (.clo rfl .nil))
 refine AWo.bytesStr tbok ([1, 1, 2, 0, 0, 0, 1, 2]) rfl rfl (List.take_of_length_le (by simp)) (rfl) rfl Tryz.underlying5 Tryz.underlying9 rfl rfl ?_
 refine AWo.buildSlice tbok 8000 [(0, vi .u8 1), (1, vi .u8 1), (2, vi .u8 2), (3, vi .u8 0), (4, vi .u8 0), (5, vi .u8 0), (6, vi .u8 1), (7, vi .u8 2)] (out := [vi .u8 1, vi .u8 1, vi .u8 2, vi .u8 0, vi .u8 0, vi .u8 0, vi .u8 1, vi .u8 2]) rfl rfl (by decide) rfl rfl rfl (by decide) rfl rfl rfl rfl rfl ?_
 refine AWo.bytesStr tbok ([1, 1, 2, 0, 0, 0, 1, 2]) rfl rfl (List.take_of_length_le (by simp)) (rfl) rfl Tryz.underlying5 Tryz.underlying9 rfl rfl ?_
 refine yP (PureOp.sameStr rfl rfl) ?_
 refine yM ?_
 refine yLA ?_
 refine yC (tofX_ctr) bd8 [] [13000] ?_ (hargs := (.clo rfl .nil))
 refine yP pL ?_
 refine yP ((PureOp.eqN (b := 2) rfl rfl).mono (v' := .bool true) (congrArg Value.bool (rfl))) ?_
 refine yP pT ?_
 refine yA ?_
 refine zD (zE ?_)
 exact rq [] [.tmp 0]
end Go.Proofs.YtpahdiljpnfkdaaGreat
namespace Go.Proofs.YtpahdiljpnfkdaaGreat
open Go Sim
theorem ofop_ctr {x : Opn} : GC Tryz.prog 7 [opV x] [] [opV x] [] := by
  refine gi Tryz.func7 ?_
  refine zS ?_
  refine AWo.box 2000 1 [.int .i64 x.k, .int .i64 x.t, .int .i64 x.c, db x.d] rfl rfl rfl rfl rfl ?_
  refine yN 3000 1 _ ?_
  refine zN (zS ?_)
  refine yP pF ?_
  refine yL1 ?_
  refine yP pF ?_
  refine yL1 ?_
  refine yP pF ?_
  refine yL1 ?_
  refine yP pF ?_
  refine yL1 ?_
  refine yP ((PureOp.buildStruct [(0, .int .i64 x.k), (1, .int .i64 x.t), (2, .int .i64 x.c), (3, db x.d)] pl27.choose_spec.1 zr27 (by decide) pl27.choose_spec.2 rfl rfl).mono (v' := .agg #[.int .i64 x.k, .int .i64 x.t, .int .i64 x.c, db x.d]) rfl) ?_
  refine AWo.storeAllN (vs := [.int .i64 x.k, .int .i64 x.t, .int .i64 x.c, db x.d]) tbok rfl rfl rfl rfl rfl rfl rfl rfl ?_
  refine zN (zE ?_)
  exact rq [] [.cell 2 27] (hres := (.clo rfl .nil))
end Go.Proofs.YtpahdiljpnfkdaaGreat
namespace Go.Proofs.YtpahdiljpnfkdaaGreat
open Go Sim
theorem and255 (n : Nat) : n &&& 255 = n % 256 := Nat.and_two_pow_sub_one_eq_mod n 8
theorem begun_ctr {n : Nat} (hn : n < 18446744073709551616) : GC Tryz.prog 32 [vi .u64 (n)] [] [.agg #[vi .i64 (n % 256), vi .i64 (n / 256 % 256), vi .i64 (n / 65536), .slice none 0 0], .bool (decide (itC (bgn n).k (bgn n).t (bgn n).c = 0))] [] := by
  refine gi Tryz.func32 ?_
  refine zS ?_
  refine yN 3000 1 _ ?_
  refine yA ?_
  refine zN (zS ?_)
  refine yM ?_
  refine yP ((PureOp.andN (a := n) (b := 255) 18446744073709551616 rfl rfl (by decide) (by decide) (by omega) (by omega)).mono (v' := vi .u64 (n % 256)) (congrArg (vi .u64) (and255 _))) ?_
  refine yP (PureOp.cvtN (a := n % 256) tbok 9223372036854775808 rfl rfl rfl (by decide) (by decide) (by omega)) ?_
  refine yM ?_
  refine yP ((PureOp.shrN (a := n) (b := 8) 64 rfl rfl rfl (by decide)).mono (v' := vi .u64 (n / 256)) rfl) ?_
  refine yP ((PureOp.andN (a := n / 256) (b := 255) 18446744073709551616 rfl rfl (by decide) (by decide) (by omega) (by omega)).mono (v' := vi .u64 (n / 256 % 256)) (congrArg (vi .u64) (and255 _))) ?_
  refine yP (PureOp.cvtN (a := n / 256 % 256) tbok 9223372036854775808 rfl rfl rfl (by decide) (by decide) (by omega)) ?_
  refine yM ?_
  refine yP ((PureOp.shrN (a := n) (b := 16) 64 rfl rfl rfl (by decide)).mono (v' := vi .u64 (n / 65536)) rfl) ?_
  refine yP (PureOp.cvtN (a := n / 65536) tbok 9223372036854775808 rfl rfl rfl (by decide) (by decide) (by omega)) ?_
  refine yP ((PureOp.buildStruct [(0, vi .i64 (n % 256)), (1, vi .i64 (n / 256 % 256)), (2, vi .i64 (n / 65536))] pl27.choose_spec.1 zr27 (by decide) pl27.choose_spec.2 rfl rfl).mono (v' := .agg #[vi .i64 (n % 256), vi .i64 (n / 256 % 256), vi .i64 (n / 65536), .slice none 0 0]) rfl) ?_
  refine yN 5000 1 _ ?_
  refine AWo.storeAllN (vs := [vi .i64 (n % 256), vi .i64 (n / 256 % 256), vi .i64 (n / 65536), .slice none 0 0]) tbok rfl rfl rfl rfl rfl rfl rfl rfl ?_
  refine zN ?_
  refine AW.seqD mixed ?_
  refine yLA ?_
  refine yP pF ?_
  refine yL1 ?_
  refine yP pF ?_
  refine yL1 ?_
  refine yP pF ?_
  refine yL1 ?_
  refine yP ((PureOp.buildStruct [(0, vi .i64 (n % 256)), (1, vi .i64 (n / 256 % 256)), (2, vi .i64 (n / 65536))] pl89.choose_spec.1 zr89 (by decide) pl89.choose_spec.2 rfl rfl).mono (v' := itV (bgn n).k (bgn n).t (bgn n).c) rfl) ?_
  refine yC (itck_ctr (k := (bgn n).k) (t := (bgn n).t) (c := (bgn n).c)) bd48 [] [] ?_
  refine yP ((PureOp.eqN (b := 0) rfl rfl).mono (v' := .bool (decide (itC (bgn n).k (bgn n).t (bgn n).c = 0))) rfl) ?_
  refine AWo.storeAllN (vs := [vi .i64 (n % 256), vi .i64 (n / 256 % 256), vi .i64 (n / 65536), .slice none 0 0]) tbok rfl rfl rfl rfl rfl rfl rfl rfl ?_
  refine yA ?_
  refine zD (zE ?_)
  exact rq [] [.cell 2 27, .tmp 3]
theorem same15_ctr {x : Opn} : GC Tryz.prog 16 [opV x, opV x] [] [.bool true] [] := by
  refine gi Tryz.func16 ?_
  refine zS ?_
  refine AWo.box 3000 1 [.int .i64 x.k, .int .i64 x.t, .int .i64 x.c, db x.d] rfl rfl rfl rfl rfl ?_
  refine AWo.box 4000 1 [.int .i64 x.k, .int .i64 x.t, .int .i64 x.c, db x.d] rfl rfl rfl rfl rfl ?_
  refine yA ?_
  refine zN (zS ?_)
  refine yP pF ?_
  refine yL1 ?_
  refine yP pF ?_
  refine yL1 ?_
  refine yP ((PureOp.bin rfl rfl rfl).mono (v' := .bool true) (congrArg Value.bool (beq_self_eq_true _))) ?_
  refine yM ?_
  refine yP pF ?_
  refine yL1 ?_
  refine yP pF ?_
  refine yL1 ?_
  refine yP ((PureOp.bin rfl rfl rfl).mono (v' := .bool true) (congrArg Value.bool (beq_self_eq_true _))) ?_
  refine yP pT ?_
  refine yM ?_
  refine yP pF ?_
  refine yL1 ?_
  refine yP pF ?_
  refine yL1 ?_
  refine yP ((PureOp.bin rfl rfl rfl).mono (v' := .bool true) (congrArg Value.bool (beq_self_eq_true _))) ?_
  refine yP pT ?_
  refine yM ?_
  refine yP pF ?_
  refine AWo.loadX tbok 99000 rfl rfl rfl rfl rfl rfl rfl ?_
  refine AWo.bytesStr tbok (x.d) rfl rfl (List.take_of_length_le (by simp)) (rfl) rfl Tryz.underlying5 Tryz.underlying9 rfl rfl ?_
  refine yP pF ?_
  refine AWo.loadX tbok 99001 rfl rfl rfl rfl rfl rfl rfl ?_
  refine AWo.bytesStr tbok (x.d) rfl rfl (List.take_of_length_le (by simp)) (rfl) rfl Tryz.underlying5 Tryz.underlying9 rfl rfl ?_
  refine yP (PureOp.sameStr rfl rfl) ?_
  refine yP pT ?_
  refine yA ?_
  refine zN (zE ?_)
  exact rq [] [.tmp 4]
theorem long1_ctr {t : Int} {cn : Nat} {d : List Nat} (hc : cn ≤ 1048576) : GC Tryz.prog 34 [opV ⟨1, t, cn, d⟩] [] [vi .i64 (cn * szT t)] [] := by
  have hm : cn * szT t < 9223372036854775808 := Nat.lt_of_le_of_lt (Nat.mul_le_mul hc (szT_le t)) (by decide)
  refine gi Tryz.func34 ?_
  refine zS ?_
  refine AWo.box 2000 1 [.int .i64 1, .int .i64 t, vi .i64 cn, db d] rfl rfl rfl rfl rfl ?_
  refine yA ?_
  refine zN (zQ (zS ?_))
  refine yP pF ?_
  refine yL1 ?_
  refine yP ((PureOp.neN (b := 1) rfl rfl).mono (v' := .bool false) (congrArg Value.bool (rfl))) ?_
  refine zN (zF (zK (zT ?_)))
  refine AW.seqD mixed ?_
  refine yP pF ?_
  refine yL1 ?_
  refine yP pF ?_
  refine yL1 ?_
  refine yC (size_ctr (t := t)) bd58 [] [] ?_
  refine yP (PureOp.mulI (a := cn) (b := szT t) rfl rfl hm) ?_
  refine yA ?_
  refine zD (zE ?_)
  exact rq [] [.tmp 2]
theorem long0_ctr {k t : Int} {cn : Nat} {d : List Nat} (hk : k ≠ 1) : GC Tryz.prog 34 [opV ⟨k, t, cn, d⟩] [] [vi .i64 0] [] := by
  refine gi Tryz.func34 ?_
  refine zS ?_
  refine AWo.box 2000 1 [.int .i64 k, .int .i64 t, vi .i64 cn, db d] rfl rfl rfl rfl rfl ?_
  refine yA ?_
  refine zN (zQ (zS ?_))
  refine yP pF ?_
  refine yL1 ?_
  refine yP ((PureOp.bin rfl rfl rfl).mono (v' := .bool true) (congrArg Value.bool (by simpa using hk))) ?_
  refine zN (zC (zS ?_))
  refine yA ?_
  refine zN (zE (zU ?_))
  exact rq [] [.tmp 2]
theorem long_ctr {k t : Int} {cn : Nat} {d : List Nat} (hc : cn ≤ 1048576) : GC Tryz.prog 34 [opV ⟨k, t, cn, d⟩] [] [vi .i64 (lng ⟨k, t, cn, d⟩)] [] := by
  by_cases hk : k = 1
  · subst hk
    exact long1_ctr hc
  · rw [show lng ⟨k, t, cn, d⟩ = 0 from if_neg hk]
    exact long0_ctr hk
theorem longN_ctr {k t : Int} {cn : Nat} (hc : cn ≤ 1048576) : GC Tryz.prog 34 [.agg #[.int .i64 k, .int .i64 t, vi .i64 cn, .slice none 0 0]] [] [vi .i64 (lng ⟨k, t, cn, []⟩)] [] := GC.opNil (long_ctr (d := []) hc)
theorem clone8_ctr {b : List Nat} {n : Nat} (hn : b.length = n) (hx : n < 200000000) : GC Tryz.prog 35 [.slice (some ⟨0, 0, none⟩) n 0] [⟨b.map (vi .u8), false, 1⟩] [.slice (some ⟨1, 0, none⟩) n 0] [⟨b.map (vi .u8), false, 1⟩, ⟨b.map (vi .u8), true, 1⟩] := by
  refine GC.intro Tryz.func35 rfl (by show 1 ≤ 8; decide) (Nat.le_succ _) ?_
  by_cases h0 : n = 0
  · subst h0
    obtain rfl : b = [] := List.eq_nil_of_length_eq_zero hn
    refine AW.nilCase (t := 0) rfl ?_ ?_
    · refine AW.ghost 9000 1 rfl ?_
      refine zS ?_
      refine yA ?_
      refine zN (zQ (zS ?_))
      refine yM ?_
      refine yP (PureOp.nilEqNilS Tryz.underlying22 rfl) ?_
      refine zN (zC (zS ?_))
      refine yA ?_
      refine zN (zE ?_)
      exact rq [9000] [.tmp 2]
    · refine zS ?_
      refine yA ?_
      refine zN (zQ (zS ?_))
      refine yM ?_
      refine yP (PureOp.slEqDead Tryz.underlying22 rfl) ?_
      refine zN (zF (zK (zT (zS ?_))))
      refine AWo.buildSlice tbok 6000 [] (out := []) rfl rfl (by decide) rfl rfl rfl (by decide) rfl rfl rfl rfl rfl ?_
      refine yM ?_
      refine yP (PureOp.append0 Tryz.underlying22 (tbok.sz _ _ rfl) rfl rfl) ?_
      refine yA ?_
      refine zN (zE ?_)
      exact rq [6000] [.tmp 2]
  · subst hn
    refine zS ?_
    refine yA ?_
    refine zN (zQ (zS ?_))
    refine yM ?_
    refine yP (PureOp.slEqNil Tryz.underlying22 rfl h0) ?_
    refine zN (zF (zK (zT (zS ?_))))
    refine AWo.buildSlice tbok 6000 [] (out := []) rfl rfl (by decide) rfl rfl rfl (by decide) rfl rfl rfl rfl rfl ?_
    refine yM ?_
    refine AWo.append tbok (all := b.map (vi .u8)) (news := b.map (vi .u8)) 8000 rfl rfl rfl rfl rfl (by rw [List.drop_zero]; exact List.take_of_length_le (by simp)) (by simp) (by decide) rfl rfl rfl (by decide) rfl rfl rfl (by omega) (by omega) (oneM (fun _ => rfl) _) rfl rfl rfl ?_
    refine yA ?_
    refine zN (zE ?_)
    exact rq [8000] [.tmp 2] (hres := (.cons rfl (by simp [ren, ren1, hmap]) .nil))
theorem clone8D {b : List Nat} (hx : b.length < 200000000) : GC Tryz.prog 35 [db b] [] [db b] [] := GC.deepen (clone8_ctr (b := b) rfl hx) (.deep .nil) (.new (Nat.le_refl _) rfl (by simp) (cloM fun _ => rfl) .nil)
theorem lw6_ctr {B : List Nat} (hb : bd 256 B) (h6 : 6 ≤ B.length) : GC Tryz.prog 33 [.slice (some ⟨0, 0, none⟩) 6 0] [⟨((B.take 6)).map (vi .u8), false, 1⟩] [.slice (some ⟨1, 0, none⟩) 1 0] [⟨((B.take 6)).map (vi .u8), false, 1⟩, ⟨(digs 18446744073709551616 1 (num 256 (B.take 6))).map (vi .u64), true, 1⟩] := by
  have hl : (B.take 6).length = 6 := by rw [List.length_take]; omega
  have h := lwords_ctr (a := B.take 6) (fun x hx => hb x (List.mem_of_mem_take hx)) (by rw [hl]; decide)
  rw [hl] at h
  exact h
theorem dig6 {B : List Nat} {N : Nat} (hN : num 256 (B.take 6) = N) (hl : N < 281474976710656) : (digs 18446744073709551616 1 (num 256 (B.take 6))).getD 0 0 = N := by
  rw [hN]
  show N % 18446744073709551616 = N
  exact Nat.mod_eq_of_lt (by omega)
theorem ofbytesA_ctr {B : List Nat} (hx : B.length < 4000000000) (h6 : B.length < 6) : GC Tryz.prog 13 [db B] [] [opV op0, vi .i64 0, vi .i64 2] [] := by
  refine gi Tryz.func13 ?_
  refine zS ?_
  refine yN 3000 1 _ ?_
  refine yA ?_
  refine yA ?_
  refine zN (zQ (zS ?_))
  refine yM ?_
  refine yP pD ?_
  refine yP ((PureOp.ltN (b := 6) rfl rfl).mono (v' := .bool true) (congrArg Value.bool (by simpa using h6))) ?_
  refine zN (zC (zS ?_))
  refine yP (PureOp.opNil ((PureOp.buildStruct [] pl27.choose_spec.1 zr27 (by decide) pl27.choose_spec.2 rfl rfl).mono (v' := .agg #[.int .i64 0, .int .i64 0, .int .i64 0, .slice none 0 0]) rfl)) ?_
  refine AWo.storeAllN (vs := [.int .i64 0, .int .i64 0, .int .i64 0, deep 0 1 []]) tbok rfl rfl rfl rfl rfl rfl rfl rfl ?_
  refine yA ?_
  refine yA ?_
  refine zN (zE (zU ?_))
  exact rq [] [.cell 2 27, .tmp 3, .tmp 4] (hres := (.clo rfl (.cons rfl rfl (.cons rfl rfl .nil))))
theorem ofbytesC_ctr {B : List Nat} {N : Nat} (hb : bd 256 B) (hx : B.length < 4000000000) (hN : num 256 (B.take 6) = N) (hNl : N < 281474976710656) (h6 : 6 ≤ B.length) (hi : ¬ itC (bgn N).k (bgn N).t (bgn N).c = 0) : GC Tryz.prog 13 [db B] [] [opV op0, vi .i64 0, vi .i64 3] [] := by
  refine gi Tryz.func13 ?_
  refine zS ?_
  refine yN 3000 1 _ ?_
  refine yA ?_
  refine yA ?_
  refine zN (zQ (zS ?_))
  refine yM ?_
  refine yP pD ?_
  refine yP ((PureOp.ltN (b := 6) rfl rfl).mono (v' := .bool false) (congrArg Value.bool (by simp; omega))) ?_
  refine zN (zF (zK (zT (zS ?_))))
  refine yM ?_
  refine AWo.pureX 88000 ((PureOp.sliceD (l := 0) (h := 6) rfl .none (.some rfl) (tbok.sl _ _ rfl) (tbok.sz _ _ rfl) (by decide) h6).mono (v' := deep 6 1 ((B.take 6).map (vi .u8))) (by rw [List.map_take]; rfl)) rfl rfl rfl ?_
  refine yC (lw6_ctr hb h6) bd33 [(88000, 0)] [15000] ?_
  refine yP (PureOp.idx1 tbok (j := 0) rfl rfl rfl rfl (by decide)) ?_
  refine AWo.loadM tbok 0 rfl rfl rfl (by rw [digs_len]; decide) rfl rfl ?_
  rw [dig6 hN hNl]
  refine yC (v := .tuple #[.agg #[vi .i64 (N % 256), vi .i64 (N / 256 % 256), vi .i64 (N / 65536), .slice none 0 0], .bool false]) (begun_ctr (n := N) (by omega)) bd32 [] [] ?_ (hv := (by rw [decide_eq_false hi]; rfl))
  refine yM ?_
  refine yP pX ?_
  refine yP pX ?_
  refine yN 6000 1 _ ?_
  refine AWo.storeAllN (vs := [vi .i64 (N % 256), vi .i64 (N / 256 % 256), vi .i64 (N / 65536), .slice none 0 0]) tbok rfl rfl rfl rfl rfl rfl rfl rfl ?_
  refine yA ?_
  refine zN (zQ (zB (zS ?_)))
  refine yM ?_
  refine yP (PureOp.not rfl) ?_
  refine yA ?_
  refine zN (zC (zS ?_))
  refine yP (PureOp.opNil ((PureOp.buildStruct [] pl27.choose_spec.1 zr27 (by decide) pl27.choose_spec.2 rfl rfl).mono (v' := .agg #[.int .i64 0, .int .i64 0, .int .i64 0, .slice none 0 0]) rfl)) ?_
  refine AWo.storeAllN (vs := [.int .i64 0, .int .i64 0, .int .i64 0, deep 0 1 []]) tbok rfl rfl rfl rfl rfl rfl rfl rfl ?_
  refine yA ?_
  refine yA ?_
  refine zN (zE (zI (zU ?_)))
  exact rq [] [.cell 2 27, .tmp 3, .tmp 4] (hres := (.clo rfl (.cons rfl rfl (.cons rfl rfl .nil))))
theorem ofbytesD_ctr {B : List Nat} {N : Nat} (hb : bd 256 B) (hx : B.length < 4000000000) (hN : num 256 (B.take 6) = N) (hNl : N < 281474976710656) (h6 : 6 ≤ B.length) (hi : itC (bgn N).k (bgn N).t (bgn N).c = 0) (hcn : N / 65536 ≤ 1048576) (hL : lng (bgn N) < 200000000) (hlg : B.length < 6 + lng (bgn N)) : GC Tryz.prog 13 [db B] [] [opV op0, vi .i64 0, vi .i64 2] [] := by
  refine gi Tryz.func13 ?_
  refine zS ?_
  refine yN 3000 1 _ ?_
  refine yA ?_
  refine yA ?_
  refine zN (zQ (zS ?_))
  refine yM ?_
  refine yP pD ?_
  refine yP ((PureOp.ltN (b := 6) rfl rfl).mono (v' := .bool false) (congrArg Value.bool (by simp; omega))) ?_
  refine zN (zF (zK (zT (zS ?_))))
  refine yM ?_
  refine AWo.pureX 88000 ((PureOp.sliceD (l := 0) (h := 6) rfl .none (.some rfl) (tbok.sl _ _ rfl) (tbok.sz _ _ rfl) (by decide) h6).mono (v' := deep 6 1 ((B.take 6).map (vi .u8))) (by rw [List.map_take]; rfl)) rfl rfl rfl ?_
  refine yC (lw6_ctr hb h6) bd33 [(88000, 0)] [15000] ?_
  refine yP (PureOp.idx1 tbok (j := 0) rfl rfl rfl rfl (by decide)) ?_
  refine AWo.loadM tbok 0 rfl rfl rfl (by rw [digs_len]; decide) rfl rfl ?_
  rw [dig6 hN hNl]
  refine yC (v := .tuple #[.agg #[vi .i64 (N % 256), vi .i64 (N / 256 % 256), vi .i64 (N / 65536), .slice none 0 0], .bool true]) (begun_ctr (n := N) (by omega)) bd32 [] [] ?_ (hv := (by rw [decide_eq_true hi]; rfl))
  refine yM ?_
  refine yP pX ?_
  refine yP pX ?_
  refine yN 6000 1 _ ?_
  refine AWo.storeAllN (vs := [vi .i64 (N % 256), vi .i64 (N / 256 % 256), vi .i64 (N / 65536), .slice none 0 0]) tbok rfl rfl rfl rfl rfl rfl rfl rfl ?_
  refine yA ?_
  refine zN (zQ (zB (zS ?_)))
  refine yM ?_
  refine yP (PureOp.not rfl) ?_
  refine yA ?_
  refine zN (zF (zS ?_))
  refine yM ?_
  refine yP pD ?_
  refine yP (pSub (b := 6)) ?_
  refine yLA ?_
  refine yC (v := vi .i64 (lng (bgn N))) (longN_ctr (k := (bgn N).k) (t := (bgn N).t) (cn := N / 65536) hcn) bd34 [] [] ?_
  refine yP ((PureOp.ltN rfl rfl).mono (v' := .bool true) (congrArg Value.bool (by simp; omega))) ?_
  refine yA ?_
  refine zN (zC (zS ?_))
  refine yP (PureOp.opNil ((PureOp.buildStruct [] pl27.choose_spec.1 zr27 (by decide) pl27.choose_spec.2 rfl rfl).mono (v' := .agg #[.int .i64 0, .int .i64 0, .int .i64 0, .slice none 0 0]) rfl)) ?_
  refine AWo.storeAllN (vs := [.int .i64 0, .int .i64 0, .int .i64 0, deep 0 1 []]) tbok rfl rfl rfl rfl rfl rfl rfl rfl ?_
  refine yA ?_
  refine yA ?_
  refine zN (zE (zI (zU ?_)))
  exact rq [] [.cell 2 27, .tmp 3, .tmp 4] (hres := (.clo rfl (.cons rfl rfl (.cons rfl rfl .nil))))
theorem ofbytesE_ctr {B : List Nat} {N : Nat} (hb : bd 256 B) (hx : B.length < 4000000000) (hN : num 256 (B.take 6) = N) (hNl : N < 281474976710656) (h6 : 6 ≤ B.length) (hi : itC (bgn N).k (bgn N).t (bgn N).c = 0) (hcn : N / 65536 ≤ 1048576) (hL : lng (bgn N) < 200000000) (hlg : 6 + lng (bgn N) ≤ B.length) (hdl : ((B.drop 6).take (lng (bgn N))).length = lng (bgn N)) (hr : ¬ Rgt ⟨(bgn N).k, (bgn N).t, (bgn N).c, (B.drop 6).take (lng (bgn N))⟩) : GC Tryz.prog 13 [db B] [] [opV op0, vi .i64 0, vi .i64 3] [] := by
  refine gi Tryz.func13 ?_
  refine zS ?_
  refine yN 3000 1 _ ?_
  refine yA ?_
  refine yA ?_
  refine zN (zQ (zS ?_))
  refine yM ?_
  refine yP pD ?_
  refine yP ((PureOp.ltN (b := 6) rfl rfl).mono (v' := .bool false) (congrArg Value.bool (by simp; omega))) ?_
  refine zN (zF (zK (zT (zS ?_))))
  refine yM ?_
  refine AWo.pureX 88000 ((PureOp.sliceD (l := 0) (h := 6) rfl .none (.some rfl) (tbok.sl _ _ rfl) (tbok.sz _ _ rfl) (by decide) h6).mono (v' := deep 6 1 ((B.take 6).map (vi .u8))) (by rw [List.map_take]; rfl)) rfl rfl rfl ?_
  refine yC (lw6_ctr hb h6) bd33 [(88000, 0)] [15000] ?_
  refine yP (PureOp.idx1 tbok (j := 0) rfl rfl rfl rfl (by decide)) ?_
  refine AWo.loadM tbok 0 rfl rfl rfl (by rw [digs_len]; decide) rfl rfl ?_
  rw [dig6 hN hNl]
  refine yC (v := .tuple #[.agg #[vi .i64 (N % 256), vi .i64 (N / 256 % 256), vi .i64 (N / 65536), .slice none 0 0], .bool true]) (begun_ctr (n := N) (by omega)) bd32 [] [] ?_ (hv := (by rw [decide_eq_true hi]; rfl))
  refine yM ?_
  refine yP pX ?_
  refine yP pX ?_
  refine yN 6000 1 _ ?_
  refine AWo.storeAllN (vs := [vi .i64 (N % 256), vi .i64 (N / 256 % 256), vi .i64 (N / 65536), .slice none 0 0]) tbok rfl rfl rfl rfl rfl rfl rfl rfl ?_
  refine yA ?_
  refine zN (zQ (zB (zS ?_)))
  refine yM ?_
  refine yP (PureOp.not rfl) ?_
  refine yA ?_
  refine zN (zF (zS ?_))
  refine yM ?_
  refine yP pD ?_
  refine yP (pSub (b := 6)) ?_
  refine yLA ?_
  refine yC (v := vi .i64 (lng (bgn N))) (longN_ctr (k := (bgn N).k) (t := (bgn N).t) (cn := N / 65536) hcn) bd34 [] [] ?_
  refine yP ((PureOp.ltN rfl rfl).mono (v' := .bool false) (congrArg Value.bool (by simp; omega))) ?_
  refine yA ?_
  refine zN (zF (zK (zL (zT (zS ?_)))))
  refine yM ?_
  refine yLA ?_
  refine yC (v := vi .i64 (lng (bgn N))) (longN_ctr (k := (bgn N).k) (t := (bgn N).t) (cn := N / 65536) hcn) bd34 [] [] ?_
  refine yP (PureOp.addI (a := 6) (b := lng (bgn N)) rfl rfl (by omega)) ?_
  refine yP ((PureOp.sliceD (l := 6) (h := 6 + lng (bgn N)) rfl (.some rfl) (.some rfl) (tbok.sl _ _ rfl) (tbok.sz _ _ rfl) (by omega) hlg).mono (v' := db ((B.drop 6).take (lng (bgn N)))) (by rw [db_part hlg (by omega), Nat.add_sub_cancel_left])) ?_
  refine yC (clone8D (b := (B.drop 6).take (lng (bgn N))) (by rw [hdl]; omega)) bd35 [] [] ?_
  refine yP pF ?_
  refine AWo.store1 tbok rfl rfl rfl rfl rfl (by simp) rfl rfl ?_
  refine zN (zQ (zS ?_))
  refine yLA ?_
  refine AWo.callX (v := .bool false) (opright_ctr (x := ⟨(bgn N).k, (bgn N).t, (bgn N).c, (B.drop 6).take (lng (bgn N))⟩) (bd_part hb _ _) (by show List.length ((B.drop 6).take (lng (bgn N))) < _; rw [hdl]; omega)) bd22 [] [] rfl (.cons rfl .nil) rfl (.clo rfl .nil) .nil rfl .nil frN (by decide) (.cons rfl rfl .nil) (congrArg Value.bool (decide_eq_false hr)) rfl rfl rfl ?_
  refine yP (PureOp.not rfl) ?_
  refine zN (zC (zS ?_))
  refine yP (PureOp.opNil ((PureOp.buildStruct [] pl27.choose_spec.1 zr27 (by decide) pl27.choose_spec.2 rfl rfl).mono (v' := .agg #[.int .i64 0, .int .i64 0, .int .i64 0, .slice none 0 0]) rfl)) ?_
  refine AWo.storeAllN (vs := [.int .i64 0, .int .i64 0, .int .i64 0, deep 0 1 []]) tbok rfl rfl rfl rfl rfl rfl rfl rfl ?_
  refine yA ?_
  refine yA ?_
  refine zN (zE (zU ?_))
  exact rq [] [.cell 2 27, .tmp 3, .tmp 4] (hres := (.clo rfl (.cons rfl rfl (.cons rfl rfl .nil))))
theorem ofbytesF_ctr {B : List Nat} {N : Nat} (hb : bd 256 B) (hx : B.length < 4000000000) (hN : num 256 (B.take 6) = N) (hNl : N < 281474976710656) (h6 : 6 ≤ B.length) (hi : itC (bgn N).k (bgn N).t (bgn N).c = 0) (hcn : N / 65536 ≤ 1048576) (hL : lng (bgn N) < 200000000) (hlg : 6 + lng (bgn N) ≤ B.length) (hdl : ((B.drop 6).take (lng (bgn N))).length = lng (bgn N)) (hr : Rgt ⟨(bgn N).k, (bgn N).t, (bgn N).c, (B.drop 6).take (lng (bgn N))⟩) : GC Tryz.prog 13 [db B] [] [opV (Opn.mk (bgn N).k (bgn N).t (bgn N).c ((B.drop 6).take (lng (bgn N)))), vi .i64 (6 + lng (bgn N)), vi .i64 0] [] := by
  refine gi Tryz.func13 ?_
  refine zS ?_
  refine yN 3000 1 _ ?_
  refine yA ?_
  refine yA ?_
  refine zN (zQ (zS ?_))
  refine yM ?_
  refine yP pD ?_
  refine yP ((PureOp.ltN (b := 6) rfl rfl).mono (v' := .bool false) (congrArg Value.bool (by simp; omega))) ?_
  refine zN (zF (zK (zT (zS ?_))))
  refine yM ?_
  refine AWo.pureX 88000 ((PureOp.sliceD (l := 0) (h := 6) rfl .none (.some rfl) (tbok.sl _ _ rfl) (tbok.sz _ _ rfl) (by decide) h6).mono (v' := deep 6 1 ((B.take 6).map (vi .u8))) (by rw [List.map_take]; rfl)) rfl rfl rfl ?_
  refine yC (lw6_ctr hb h6) bd33 [(88000, 0)] [15000] ?_
  refine yP (PureOp.idx1 tbok (j := 0) rfl rfl rfl rfl (by decide)) ?_
  refine AWo.loadM tbok 0 rfl rfl rfl (by rw [digs_len]; decide) rfl rfl ?_
  rw [dig6 hN hNl]
  refine yC (v := .tuple #[.agg #[vi .i64 (N % 256), vi .i64 (N / 256 % 256), vi .i64 (N / 65536), .slice none 0 0], .bool true]) (begun_ctr (n := N) (by omega)) bd32 [] [] ?_ (hv := (by rw [decide_eq_true hi]; rfl))
  refine yM ?_
  refine yP pX ?_
  refine yP pX ?_
  refine yN 6000 1 _ ?_
  refine AWo.storeAllN (vs := [vi .i64 (N % 256), vi .i64 (N / 256 % 256), vi .i64 (N / 65536), .slice none 0 0]) tbok rfl rfl rfl rfl rfl rfl rfl rfl ?_
  refine yA ?_
  refine zN (zQ (zB (zS ?_)))
  refine yM ?_
  refine yP (PureOp.not rfl) ?_
  refine yA ?_
  refine zN (zF (zS ?_))
  refine yM ?_
  refine yP pD ?_
  refine yP (pSub (b := 6)) ?_
  refine yLA ?_
  refine yC (v := vi .i64 (lng (bgn N))) (longN_ctr (k := (bgn N).k) (t := (bgn N).t) (cn := N / 65536) hcn) bd34 [] [] ?_
  refine yP ((PureOp.ltN rfl rfl).mono (v' := .bool false) (congrArg Value.bool (by simp; omega))) ?_
  refine yA ?_
  refine zN (zF (zK (zL (zT (zS ?_)))))
  refine yM ?_
  refine yLA ?_
  refine yC (v := vi .i64 (lng (bgn N))) (longN_ctr (k := (bgn N).k) (t := (bgn N).t) (cn := N / 65536) hcn) bd34 [] [] ?_
  refine yP (PureOp.addI (a := 6) (b := lng (bgn N)) rfl rfl (by omega)) ?_
  refine yP ((PureOp.sliceD (l := 6) (h := 6 + lng (bgn N)) rfl (.some rfl) (.some rfl) (tbok.sl _ _ rfl) (tbok.sz _ _ rfl) (by omega) hlg).mono (v' := db ((B.drop 6).take (lng (bgn N)))) (by rw [db_part hlg (by omega), Nat.add_sub_cancel_left])) ?_
  refine yC (clone8D (b := (B.drop 6).take (lng (bgn N))) (by rw [hdl]; omega)) bd35 [] [] ?_
  refine yP pF ?_
  refine AWo.store1 tbok rfl rfl rfl rfl rfl (by simp) rfl rfl ?_
  refine zN (zQ (zS ?_))
  refine yLA ?_
  refine AWo.callX (v := .bool true) (opright_ctr (x := ⟨(bgn N).k, (bgn N).t, (bgn N).c, (B.drop 6).take (lng (bgn N))⟩) (bd_part hb _ _) (by show List.length ((B.drop 6).take (lng (bgn N))) < _; rw [hdl]; omega)) bd22 [] [] rfl (.cons rfl .nil) rfl (.clo rfl .nil) .nil rfl .nil frN (by decide) (.cons rfl rfl .nil) (congrArg Value.bool (decide_eq_true hr)) rfl rfl rfl ?_
  refine yP (PureOp.not rfl) ?_
  refine zN (zF (zK (zT ?_)))
  refine AW.seqD mixed ?_
  refine yLA ?_
  refine yP pF ?_
  refine yL1 ?_
  refine yP pD ?_
  refine yP ((PureOp.addI (a := 6) (b := ((B.drop 6).take (lng (bgn N))).length) rfl rfl (by rw [hdl]; omega)).mono (v' := vi .i64 (6 + lng (bgn N))) (congrArg (fun z => vi .i64 (6 + z)) hdl)) ?_
  refine AWo.storeAllN (vs := [vi .i64 (N % 256), vi .i64 (N / 256 % 256), vi .i64 (N / 65536), db ((B.drop 6).take (lng (bgn N)))]) tbok rfl rfl rfl rfl rfl rfl rfl rfl ?_
  refine yA ?_
  refine yA ?_
  refine zD (zE ?_)
  exact rq [] [.cell 2 27, .tmp 3, .tmp 4] (hres := (.clo rfl (.cons rfl rfl (.cons rfl rfl .nil))))
theorem lng_lt {x : Opn} (h : itC x.k x.t x.c = 0) : lng x < 200000000 := by
  have hi := itC_inv h
  unfold lng
  split
  · have := Nat.mul_le_mul (show x.c.toNat ≤ 1048576 by omega) (szT_le x.t)
    omega
  · omega
theorem ofbytes_ctr {B : List Nat} (hb : bd 256 B) (hx : B.length < 4000000000) : GC Tryz.prog 13 [db B] [] [opV (ofB B).1, vi .i64 (ofB B).2.1, vi .i64 (ofB B).2.2] [] := by
  rcases Nat.lt_or_ge B.length 6 with h6 | h6
  · rw [show ofB B = (op0, 0, 2) from if_pos h6]
    exact ofbytesA_ctr hx h6
  obtain ⟨N, hN⟩ : ∃ N, num 256 (B.take 6) = N := ⟨_, rfl⟩
  have hNl : N < 281474976710656 := by
    have := num_lt (l := B.take 6) (fun x hx => hb x (List.mem_of_mem_take hx))
    rw [List.length_take, Nat.min_eq_left h6, hN] at this
    exact this
  by_cases hi : itC (bgn N).k (bgn N).t (bgn N).c = 0
  · have hcn : N / 65536 ≤ 1048576 := by
      have := (itC_inv hi).2.2.2.2.2.1
      change ((N / 65536 : Nat) : Int) ≤ 1048576 at this
      omega
    have hL := lng_lt hi
    rcases Nat.lt_or_ge B.length (6 + lng (bgn N)) with hlg | hlg
    · rw [show ofB B = (op0, 0, 2) by unfold ofB; rw [hN, if_neg (by omega), if_neg (by simpa using hi), if_pos hlg]]
      exact ofbytesD_ctr hb hx hN hNl h6 hi hcn hL hlg
    · have hdl : ((B.drop 6).take (lng (bgn N))).length = lng (bgn N) := by rw [List.length_take, List.length_drop]; omega
      by_cases hr : Rgt ⟨(bgn N).k, (bgn N).t, (bgn N).c, (B.drop 6).take (lng (bgn N))⟩
      · rw [show ofB B = (⟨(bgn N).k, (bgn N).t, (bgn N).c, (B.drop 6).take (lng (bgn N))⟩, 6 + lng (bgn N), 0) by unfold ofB; rw [hN, if_neg (by omega), if_neg (by simpa using hi), if_neg (by omega), if_pos hr]]
        exact ofbytesF_ctr hb hx hN hNl h6 hi hcn hL hlg hdl hr
      · rw [show ofB B = (op0, 0, 3) by unfold ofB; rw [hN, if_neg (by omega), if_neg (by simpa using hi), if_neg (by omega), if_neg hr]]
        exact ofbytesE_ctr hb hx hN hNl h6 hi hcn hL hlg hdl hr
  · rw [show ofB B = (op0, 0, 3) by unfold ofB; rw [hN, if_neg (by omega), if_pos hi]]
    exact ofbytesC_ctr hb hx hN hNl h6 hi
end Go.Proofs.YtpahdiljpnfkdaaGreat
namespace Go.Proofs.YtpahdiljpnfkdaaGreat
open Go Sim
theorem val_lt (x : Fp) : x.val < 256 ^ 32 := Nat.lt_of_lt_of_le x.isLt (by decide)
theorem digs_drop (B : Nat) : ∀ (p n v : Nat), p ≤ n → (digs B n v).drop p = digs B (n - p) (v / B ^ p)
  | 0, n, v, _ => by simp
  | p + 1, 0, v, h => absurd h (by omega)
  | p + 1, n + 1, v, h => by
    show (digs B n (v / B)).drop p = _
    rw [digs_drop B p n _ (by omega), Nat.div_div_eq_div_mul, Nat.add_sub_add_right, Nat.pow_succ, Nat.mul_comm]
theorem digs_take (B : Nat) : ∀ (p n v : Nat), p ≤ n → (digs B n v).take p = digs B p v
  | 0, n, v, _ => rfl
  | p + 1, 0, v, h => absurd h (by omega)
  | p + 1, n + 1, v, h => by
    show v % B :: (digs B n (v / B)).take p = v % B :: digs B p (v / B)
    rw [digs_take B p n _ (by omega)]
theorem num_drop {v p : Nat} (hv : v < 256 ^ 32) (hp : p ≤ 32) : num 256 ((digs 256 32 v).drop p) = v / 256 ^ p := by
  rw [digs_drop _ _ _ _ hp]
  refine num_digs_lt ?_
  rw [Nat.div_lt_iff_lt_mul (Nat.pow_pos (by decide)), ← Nat.pow_add, Nat.sub_add_cancel hp]
  exact hv
theorem bd_dropP {v p : Nat} : bd 256 ((digs 256 32 v).drop p) := fun x hx => digs_bd (by decide) 32 v x (List.mem_of_mem_drop hx)
theorem lw32_ctr {v : Nat} (hv : v < 256 ^ 32) : GC Tryz.prog 33 [.slice (some ⟨0, 0, none⟩) 32 0] [⟨(digs 256 32 v).map (vi .u8), false, 1⟩] [.slice (some ⟨1, 0, none⟩) 4 0] [⟨(digs 256 32 v).map (vi .u8), false, 1⟩, ⟨(digs 18446744073709551616 4 v).map (vi .u64), true, 1⟩] := by
  have h := lwords_ctr (a := digs 256 32 v) (digs_bd (by decide) _ _) (by rw [digs_len]; decide)
  rw [digs_len, num_digs_lt hv] at h
  exact h
theorem lb4v_ctr {v : Nat} (hv : v < 256 ^ 32) : GC Tryz.prog 38 [.slice (some ⟨0, 0, none⟩) 4 0] [⟨(digs 18446744073709551616 4 v).map (vi .u64), false, 1⟩] [vi .i64 (blen v)] [⟨(digs 18446744073709551616 4 v).map (vi .u64), false, 1⟩] := by
  have h := lbits_ctr (a := digs 18446744073709551616 4 v) (digs_bd (by decide) _ _) (by rw [digs_len]; decide)
  rw [digs_len, num_digs_lt (Nat.lt_of_lt_of_le hv (by decide))] at h
  exact h
theorem lwP_ctr {v p : Nat} (hv : v < 256 ^ 32) (hp : p ≤ 32) : GC Tryz.prog 33 [.slice (some ⟨0, 0, none⟩) (32 - p) 0] [⟨((digs 256 32 v).drop p).map (vi .u8), false, 1⟩] [.slice (some ⟨1, 0, none⟩) ((32 - p + 7) / 8) 0] [⟨((digs 256 32 v).drop p).map (vi .u8), false, 1⟩, ⟨(digs 18446744073709551616 ((32 - p + 7) / 8) (v / 256 ^ p)).map (vi .u64), true, 1⟩] := by
  have h := lwords_ctr (a := (digs 256 32 v).drop p) bd_dropP (by rw [List.length_drop, digs_len]; omega)
  rw [num_drop hv hp, List.length_drop, digs_len] at h
  exact h
theorem lbP_ctr {v p : Nat} (hv : v < 256 ^ 32) (hp : p ≤ 32) : GC Tryz.prog 38 [.slice (some ⟨0, 0, none⟩) ((32 - p + 7) / 8) 0] [⟨(digs 18446744073709551616 ((32 - p + 7) / 8) (v / 256 ^ p)).map (vi .u64), false, 1⟩] [vi .i64 (blen (v / 256 ^ p))] [⟨(digs 18446744073709551616 ((32 - p + 7) / 8) (v / 256 ^ p)).map (vi .u64), false, 1⟩] := by
  have h := lbits_ctr (a := digs 18446744073709551616 ((32 - p + 7) / 8) (v / 256 ^ p)) (digs_bd (by decide) _ _) (by rw [digs_len]; omega)
  have e := reads_num (b := (digs 256 32 v).drop p) bd_dropP
  rw [num_drop hv hp, List.length_drop, digs_len] at e
  rw [digs_len, e] at h
  exact h
theorem cutZ_ctr {t : Int} {L : Nat} (hf : fits t L) (hL : L < 200000000) : GC Tryz.prog 23 [.int .i64 t, db (List.replicate L 0)] [] [.slice (some ⟨0, 0, none⟩) (np t L) 0] [⟨(pcs t (List.replicate L 0)).map db, true, 1⟩] := by
  have h := cut_ctr (t := t) (b := List.replicate L 0) (by rw [List.length_replicate]; exact hf) (by rw [List.length_replicate]; exact hL)
  rw [List.length_replicate] at h
  exact h
theorem deepZ (L : Nat) : deep L 1 ((List.replicate L 0).map (vi .u8)) = db (List.replicate L 0) := by unfold db; rw [List.length_replicate]
theorem dig4 {v N : Nat} (h : v % 18446744073709551616 = N) : (digs 18446744073709551616 4 v).getD 0 0 = N := h
theorem blen_gt {v : Nat} : 64 < blen v ↔ 18446744073709551616 ≤ v := by
  constructor
  · intro h
    refine Nat.le_of_not_lt fun hlt => Nat.not_le.2 h (blen_lt (k := 64) hlt)
  · intro h
    refine Nat.lt_of_not_le fun hle => ?_
    have h1 := num_lt_blen v
    rw [Nat.div_eq_zero_iff] at h1
    rcases h1 with h1 | h1
    · exact absurd h1 (Nat.ne_of_gt (Nat.pow_pos (by decide)))
    · exact Nat.not_le.2 (Nat.lt_of_lt_of_le h1 (Nat.pow_le_pow_right (by decide) hle)) h
theorem blen_0 {v p : Nat} : 0 < blen (v / 256 ^ p) ↔ 256 ^ p ≤ v := by
  constructor
  · intro h
    refine Nat.le_of_not_lt fun hlt => ?_
    rw [Nat.div_eq_of_lt hlt] at h
    exact absurd h (by decide)
  · intro h
    refine Nat.pos_of_ne_zero fun e => ?_
    have h1 := num_lt_blen (v / 256 ^ p)
    rw [e, Nat.pow_zero, Nat.div_one] at h1
    have := Nat.div_pos h (Nat.pow_pos (by decide))
    omega
theorem bad_succ {t : Int} {L : Nat} {l : List Fp} {k : Nat} : bad t L l (k + 1) = (bad t L l k || decide (256 ^ plen t L k ≤ (l.getD (1 + k) 0).val)) := by
  rw [bad, List.range_succ, List.any_append]; simp [bad]
theorem bad_mono {t : Int} {L : Nat} {l : List Fp} {k n : Nat} (h : bad t L l k = true) (hkn : k ≤ n) : bad t L l n = true := by
  rw [bad, List.any_eq_true] at *
  obtain ⟨x, hx, h1⟩ := h
  exact ⟨x, List.mem_range.2 (Nat.lt_of_lt_of_le (List.mem_range.1 hx) hkn), h1⟩
theorem rdD_succ {t : Int} {L : Nat} {l : List Fp} {k : Nat} : rdD t L l (k + 1) = rdD t L l k ++ digs 256 (plen t L k) (l.getD (1 + k) 0).val := by
  rw [rdD, List.range_succ, List.map_append, List.flatten_append]; simp [rdD]
theorem rdD_le (t : Int) (L : Nat) (l : List Fp) : ∀ k, (rdD t L l k).length ≤ 32 * k
  | 0 => Nat.le_refl _
  | k + 1 => by
    have h1 := rdD_le t L l k
    have h2 : plen t L k ≤ 32 := Nat.le_trans (Nat.min_le_left _ _) (wd_le _ _)
    rw [rdD_succ, List.length_append, digs_len]; omega
theorem rdD_bd (t : Int) (L : Nat) (l : List Fp) : ∀ k, bd 256 (rdD t L l k)
  | 0 => fun x hx => by simp [rdD] at hx
  | k + 1 => fun x hx => by
    rw [rdD_succ] at hx
    rcases List.mem_append.1 hx with h | h
    · exact rdD_bd t L l k x h
    · exact digs_bd (by decide) _ _ x h
theorem partP {v p : Nat} (hp : p ≤ 32) : (((digs 256 32 v).map (vi .u8)).drop p).take (((digs 256 32 v).drop p).map (vi .u8)).length = ((digs 256 32 v).drop p).map (vi .u8) := by
  rw [← List.map_drop]; exact List.take_of_length_le (Nat.le_refl _)
theorem newsP {v p : Nat} (hp : p ≤ 32) : (((digs 256 32 v).map (vi .u8)).drop 0).take (p * 1) = (digs 256 p v).map (vi .u8) := by
  rw [List.drop_zero, Nat.mul_one, ← List.map_take, digs_take _ _ _ _ hp]
theorem fits_lng {x : Opn} (h : itC x.k x.t x.c = 0) : fits x.t (lng x) := by
  unfold lng
  split
  · refine ⟨fun e => ?_, fun e => ?_, fun e => ?_⟩ <;> rw [e]
    · show x.c.toNat * 8 % 8 = 0; omega
    · show x.c.toNat * 32 % 32 = 0; omega
    · show x.c.toNat * 96 % 96 = 0; omega
  · exact ⟨fun _ => rfl, fun _ => rfl, fun _ => rfl⟩
theorem WkM.nil3 {Dm : Nat → Prop} {fm : List (Nat × Nat)} {M N : Mem} {i id : Nat} {a b c : Int} {rw rw' : Bool} {es : Nat} (h1 : M ((fm.lookup i).getD i) = some ⟨[.int .i64 a, .int .i64 b, .int .i64 c, .slice none 0 0], rw', es⟩)
    (h3 : rw = true → rw' = true) (h : WkM Dm fm M N) : WkM Dm fm M (Sim.upd N i ⟨[.int .i64 a, .int .i64 b, .int .i64 c, .slice (some ⟨id, 0, none⟩) 0 0], rw, es⟩) :=
  WkM.upd h1 (fun k x hx => by
    match k, hx with
    | 0, hx => cases hx; exact ⟨_, rfl, .flat _ rfl⟩
    | 1, hx => cases hx; exact ⟨_, rfl, .flat _ rfl⟩
    | 2, hx => cases hx; exact ⟨_, rfl, .flat _ rfl⟩
    | 3, hx => cases hx; exact ⟨_, rfl, .nilS _ (by simp)⟩
    | k + 4, hx => simp at hx) h3 rfl (Nat.le_refl _) h
theorem offieldsA_ctr {l : List Fp} (hl0 : l.length = 0) : GC Tryz.prog 15 [.slice (some ⟨0, 0, none⟩) l.length 0] [⟨((l.map fe).flatten).map (vi .u64), false, 4⟩] [opV op0, vi .i64 0, vi .i64 2] [⟨((l.map fe).flatten).map (vi .u64), false, 4⟩] := by
  refine gi Tryz.func15 ?_
  refine zS ?_
  refine yN 3000 1 _ ?_
  refine yA ?_
  refine yA ?_
  refine zN (zQ (zS ?_))
  refine yM ?_
  refine yP pL ?_
  refine yP ((PureOp.eqN (b := 0) rfl rfl).mono (v' := .bool true) (congrArg Value.bool (beq_iff_eq.2 hl0))) ?_
  refine zN (zC (zS ?_))
  refine yP (PureOp.opNil ((PureOp.buildStruct [] pl27.choose_spec.1 zr27 (by decide) pl27.choose_spec.2 rfl rfl).mono (v' := .agg #[.int .i64 0, .int .i64 0, .int .i64 0, .slice none 0 0]) rfl)) ?_
  refine AWo.storeAllN (vs := [.int .i64 0, .int .i64 0, .int .i64 0, deep 0 1 []]) tbok rfl rfl rfl rfl rfl rfl rfl rfl ?_
  refine yA ?_
  refine yA ?_
  refine zN (zE (zU ?_))
  exact rq [] [.cell 2 27, .tmp 3, .tmp 4] (hres := (.clo rfl (.cons rfl rfl (.cons rfl rfl .nil))))
theorem offieldsC_ctr {l : List Fp} {N : Nat} (hx : l.length < 1000000) (hl0 : 0 < l.length) (hN : (l.getD 0 0).val % 18446744073709551616 = N) (hNl : N < 18446744073709551616) (hi : ¬ itC (bgn N).k (bgn N).t (bgn N).c = 0) : GC Tryz.prog 15 [.slice (some ⟨0, 0, none⟩) l.length 0] [⟨((l.map fe).flatten).map (vi .u64), false, 4⟩] [opV op0, vi .i64 0, vi .i64 3] [⟨((l.map fe).flatten).map (vi .u64), false, 4⟩] := by
  refine gi Tryz.func15 ?_
  refine zS ?_
  refine yN 3000 1 _ ?_
  refine yA ?_
  refine yA ?_
  refine zN (zQ (zS ?_))
  refine yM ?_
  refine yP pL ?_
  refine yP ((PureOp.eqN (b := 0) rfl rfl).mono (v' := .bool false) (congrArg Value.bool (beq_eq_false_iff_ne.2 (by omega)))) ?_
  refine zN (zF (zK (zT (zS ?_))))
  refine yM ?_
  refine yP (PureOp.idxN tbok (j := 0) rfl rfl rfl rfl hl0) ?_
  refine yLJ (xs := l) (0) ?_
  refine yC (bytesF_ctr (x := l.getD 0 0)) bd37 [] [] ?_
  refine yN 6000 1 ((List.replicate 32 0).map (vi .u8)) ?_
  refine AWo.storeAllN tbok rfl rfl rfl rfl (by rw [List.length_map, digs_len]) (by rfl) (oneM (fun _ => rfl) _) rfl ?_
  refine zN (zS ?_)
  refine AWo.sliceA2 (v := .slice (some ⟨6000, 0, none⟩) 32 0) (l := 0) (h := 32) tbok rfl .none .none rfl rfl rfl rfl (by decide) (by decide) (by simp [digs_len]) rfl rfl rfl ?_
  refine yC (lw32_ctr (v := (l.getD 0 0).val) (val_lt _)) bd33 [(6000, 0)] [23000] ?_
  refine yA ?_
  refine zN (zS ?_)
  refine yM ?_
  refine yP (PureOp.idx1 tbok (j := 0) rfl rfl rfl rfl (by decide)) ?_
  refine AWo.loadM tbok 0 rfl rfl rfl (by rw [digs_len]; decide) rfl rfl ?_
  rw [dig4 hN]
  refine yC (v := .tuple #[.agg #[vi .i64 (N % 256), vi .i64 (N / 256 % 256), vi .i64 (N / 65536), .slice none 0 0], .bool false]) (begun_ctr (n := N) hNl) bd32 [] [] ?_ (hv := (by rw [decide_eq_false hi]; rfl))
  refine yM ?_
  refine yP pX ?_
  refine yP pX ?_
  refine yN 8000 1 _ ?_
  refine AWo.storeAllN (vs := [vi .i64 (N % 256), vi .i64 (N / 256 % 256), vi .i64 (N / 65536), .slice none 0 0]) tbok rfl rfl rfl rfl rfl rfl rfl rfl ?_
  refine yA ?_
  refine zN (zQ (zS ?_))
  refine yM ?_
  refine yP (PureOp.not rfl) ?_
  refine yM ?_
  refine yK ?_
  refine yK ?_
  refine yK ?_
  refine yP pT ?_
  refine zN (zC (zS ?_))
  refine yP (PureOp.opNil ((PureOp.buildStruct [] pl27.choose_spec.1 zr27 (by decide) pl27.choose_spec.2 rfl rfl).mono (v' := .agg #[.int .i64 0, .int .i64 0, .int .i64 0, .slice none 0 0]) rfl)) ?_
  refine AWo.storeAllN (vs := [.int .i64 0, .int .i64 0, .int .i64 0, deep 0 1 []]) tbok rfl rfl rfl rfl rfl rfl rfl rfl ?_
  refine yA ?_
  refine yA ?_
  refine zN (zE (zU ?_))
  exact rq [] [.cell 2 27, .tmp 3, .tmp 4] (hres := (.clo rfl (.cons rfl rfl (.cons rfl rfl .nil))))
theorem offieldsB_ctr {l : List Fp} {N : Nat} (hx : l.length < 1000000) (hl0 : 0 < l.length) (hN : (l.getD 0 0).val % 18446744073709551616 = N) (hNl : N < 18446744073709551616) (hi : itC (bgn N).k (bgn N).t (bgn N).c = 0) (hcn : N / 65536 ≤ 1048576) (hL : (lng (bgn N)) < 200000000) (hv : 18446744073709551616 ≤ (l.getD 0 0).val) : GC Tryz.prog 15 [.slice (some ⟨0, 0, none⟩) l.length 0] [⟨((l.map fe).flatten).map (vi .u64), false, 4⟩] [opV op0, vi .i64 0, vi .i64 3] [⟨((l.map fe).flatten).map (vi .u64), false, 4⟩] := by
  refine gi Tryz.func15 ?_
  refine zS ?_
  refine yN 3000 1 _ ?_
  refine yA ?_
  refine yA ?_
  refine zN (zQ (zS ?_))
  refine yM ?_
  refine yP pL ?_
  refine yP ((PureOp.eqN (b := 0) rfl rfl).mono (v' := .bool false) (congrArg Value.bool (beq_eq_false_iff_ne.2 (by omega)))) ?_
  refine zN (zF (zK (zT (zS ?_))))
  refine yM ?_
  refine yP (PureOp.idxN tbok (j := 0) rfl rfl rfl rfl hl0) ?_
  refine yLJ (xs := l) (0) ?_
  refine yC (bytesF_ctr (x := l.getD 0 0)) bd37 [] [] ?_
  refine yN 6000 1 ((List.replicate 32 0).map (vi .u8)) ?_
  refine AWo.storeAllN tbok rfl rfl rfl rfl (by rw [List.length_map, digs_len]) (by rfl) (oneM (fun _ => rfl) _) rfl ?_
  refine zN (zS ?_)
  refine AWo.sliceA2 (v := .slice (some ⟨6000, 0, none⟩) 32 0) (l := 0) (h := 32) tbok rfl .none .none rfl rfl rfl rfl (by decide) (by decide) (by simp [digs_len]) rfl rfl rfl ?_
  refine yC (lw32_ctr (v := (l.getD 0 0).val) (val_lt _)) bd33 [(6000, 0)] [23000] ?_
  refine yA ?_
  refine zN (zS ?_)
  refine yM ?_
  refine yP (PureOp.idx1 tbok (j := 0) rfl rfl rfl rfl (by decide)) ?_
  refine AWo.loadM tbok 0 rfl rfl rfl (by rw [digs_len]; decide) rfl rfl ?_
  rw [dig4 hN]
  refine yC (v := .tuple #[.agg #[vi .i64 (N % 256), vi .i64 (N / 256 % 256), vi .i64 (N / 65536), .slice none 0 0], .bool true]) (begun_ctr (n := N) hNl) bd32 [] [] ?_ (hv := (by rw [decide_eq_true hi]; rfl))
  refine yM ?_
  refine yP pX ?_
  refine yP pX ?_
  refine yN 8000 1 _ ?_
  refine AWo.storeAllN (vs := [vi .i64 (N % 256), vi .i64 (N / 256 % 256), vi .i64 (N / 65536), .slice none 0 0]) tbok rfl rfl rfl rfl rfl rfl rfl rfl ?_
  refine yA ?_
  refine zN (zQ (zS ?_))
  refine yM ?_
  refine yP (PureOp.not rfl) ?_
  refine yM ?_
  refine yM ?_
  refine yC (lb4v_ctr (v := (l.getD 0 0).val) (val_lt _)) bd38 [(23000, 0)] [] ?_
  refine yP ((PureOp.gtN (b := 64) rfl rfl).mono (v' := .bool true) (congrArg Value.bool (decide_eq_true (blen_gt.2 hv)))) ?_
  refine yP pE ?_
  refine zN (zC (zS ?_))
  refine yP (PureOp.opNil ((PureOp.buildStruct [] pl27.choose_spec.1 zr27 (by decide) pl27.choose_spec.2 rfl rfl).mono (v' := .agg #[.int .i64 0, .int .i64 0, .int .i64 0, .slice none 0 0]) rfl)) ?_
  refine AWo.storeAllN (vs := [.int .i64 0, .int .i64 0, .int .i64 0, deep 0 1 []]) tbok rfl rfl rfl rfl rfl rfl rfl rfl ?_
  refine yA ?_
  refine yA ?_
  refine zN (zE (zU ?_))
  exact rq [] [.cell 2 27, .tmp 3, .tmp 4] (hres := (.clo rfl (.cons rfl rfl (.cons rfl rfl .nil))))
theorem offieldsD_ctr {l : List Fp} {N : Nat} (hx : l.length < 1000000) (hl0 : 0 < l.length) (hN : (l.getD 0 0).val % 18446744073709551616 = N) (hNl : N < 18446744073709551616) (hi : itC (bgn N).k (bgn N).t (bgn N).c = 0) (hcn : N / 65536 ≤ 1048576) (hL : (lng (bgn N)) < 200000000) (hv : (l.getD 0 0).val < 18446744073709551616) (hd : 32 * l.length < (lng (bgn N))) : GC Tryz.prog 15 [.slice (some ⟨0, 0, none⟩) l.length 0] [⟨((l.map fe).flatten).map (vi .u64), false, 4⟩] [opV op0, vi .i64 0, vi .i64 2] [⟨((l.map fe).flatten).map (vi .u64), false, 4⟩] := by
  refine gi Tryz.func15 ?_
  refine zS ?_
  refine yN 3000 1 _ ?_
  refine yA ?_
  refine yA ?_
  refine zN (zQ (zS ?_))
  refine yM ?_
  refine yP pL ?_
  refine yP ((PureOp.eqN (b := 0) rfl rfl).mono (v' := .bool false) (congrArg Value.bool (beq_eq_false_iff_ne.2 (by omega)))) ?_
  refine zN (zF (zK (zT (zS ?_))))
  refine yM ?_
  refine yP (PureOp.idxN tbok (j := 0) rfl rfl rfl rfl hl0) ?_
  refine yLJ (xs := l) (0) ?_
  refine yC (bytesF_ctr (x := l.getD 0 0)) bd37 [] [] ?_
  refine yN 6000 1 ((List.replicate 32 0).map (vi .u8)) ?_
  refine AWo.storeAllN tbok rfl rfl rfl rfl (by rw [List.length_map, digs_len]) (by rfl) (oneM (fun _ => rfl) _) rfl ?_
  refine zN (zS ?_)
  refine AWo.sliceA2 (v := .slice (some ⟨6000, 0, none⟩) 32 0) (l := 0) (h := 32) tbok rfl .none .none rfl rfl rfl rfl (by decide) (by decide) (by simp [digs_len]) rfl rfl rfl ?_
  refine yC (lw32_ctr (v := (l.getD 0 0).val) (val_lt _)) bd33 [(6000, 0)] [23000] ?_
  refine yA ?_
  refine zN (zS ?_)
  refine yM ?_
  refine yP (PureOp.idx1 tbok (j := 0) rfl rfl rfl rfl (by decide)) ?_
  refine AWo.loadM tbok 0 rfl rfl rfl (by rw [digs_len]; decide) rfl rfl ?_
  rw [dig4 hN]
  refine yC (v := .tuple #[.agg #[vi .i64 (N % 256), vi .i64 (N / 256 % 256), vi .i64 (N / 65536), .slice none 0 0], .bool true]) (begun_ctr (n := N) hNl) bd32 [] [] ?_ (hv := (by rw [decide_eq_true hi]; rfl))
  refine yM ?_
  refine yP pX ?_
  refine yP pX ?_
  refine yN 8000 1 _ ?_
  refine AWo.storeAllN (vs := [vi .i64 (N % 256), vi .i64 (N / 256 % 256), vi .i64 (N / 65536), .slice none 0 0]) tbok rfl rfl rfl rfl rfl rfl rfl rfl ?_
  refine yA ?_
  refine zN (zQ (zS ?_))
  refine yM ?_
  refine yP (PureOp.not rfl) ?_
  refine yM ?_
  refine yM ?_
  refine yC (lb4v_ctr (v := (l.getD 0 0).val) (val_lt _)) bd38 [(23000, 0)] [] ?_
  refine yP ((PureOp.gtN (b := 64) rfl rfl).mono (v' := .bool false) (congrArg Value.bool (decide_eq_false (fun h => Nat.not_le.2 hv (blen_gt.1 h))))) ?_
  refine yP pE ?_
  refine zN (zF (zK (zT (zQ (zS ?_)))))
  refine yLA ?_
  refine yC (v := vi .i64 (lng (bgn N))) (longN_ctr (k := (bgn N).k) (t := (bgn N).t) (cn := N / 65536) hcn) bd34 [] [] ?_
  refine yM ?_
  refine yP pL ?_
  refine yP (PureOp.mulI (a := 32) (b := l.length) rfl rfl (by omega)) ?_
  refine yP ((PureOp.gtN rfl rfl).mono (v' := .bool true) (congrArg Value.bool (by simp; omega))) ?_
  refine zN (zC (zS ?_))
  refine yP (PureOp.opNil ((PureOp.buildStruct [] pl27.choose_spec.1 zr27 (by decide) pl27.choose_spec.2 rfl rfl).mono (v' := .agg #[.int .i64 0, .int .i64 0, .int .i64 0, .slice none 0 0]) rfl)) ?_
  refine AWo.storeAllN (vs := [.int .i64 0, .int .i64 0, .int .i64 0, deep 0 1 []]) tbok rfl rfl rfl rfl rfl rfl rfl rfl ?_
  refine yA ?_
  refine yA ?_
  refine zN (zE (zU ?_))
  exact rq [] [.cell 2 27, .tmp 3, .tmp 4] (hres := (.clo rfl (.cons rfl rfl (.cons rfl rfl .nil))))
theorem offieldsQ_ctr {l : List Fp} {N : Nat} (hx : l.length < 1000000) (hl0 : 0 < l.length) (hN : (l.getD 0 0).val % 18446744073709551616 = N) (hNl : N < 18446744073709551616) (hi : itC (bgn N).k (bgn N).t (bgn N).c = 0) (hcn : N / 65536 ≤ 1048576) (hL : (lng (bgn N)) < 200000000) (hv : (l.getD 0 0).val < 18446744073709551616) (hd : (lng (bgn N)) ≤ 32 * l.length) (hq : l.length < 1 + (np (bgn N).t (lng (bgn N)))) : GC Tryz.prog 15 [.slice (some ⟨0, 0, none⟩) l.length 0] [⟨((l.map fe).flatten).map (vi .u64), false, 4⟩] [opV op0, vi .i64 0, vi .i64 2] [⟨((l.map fe).flatten).map (vi .u64), false, 4⟩] := by
  refine gi Tryz.func15 ?_
  refine zS ?_
  refine yN 3000 1 _ ?_
  refine yA ?_
  refine yA ?_
  refine zN (zQ (zS ?_))
  refine yM ?_
  refine yP pL ?_
  refine yP ((PureOp.eqN (b := 0) rfl rfl).mono (v' := .bool false) (congrArg Value.bool (beq_eq_false_iff_ne.2 (by omega)))) ?_
  refine zN (zF (zK (zT (zS ?_))))
  refine yM ?_
  refine yP (PureOp.idxN tbok (j := 0) rfl rfl rfl rfl hl0) ?_
  refine yLJ (xs := l) (0) ?_
  refine yC (bytesF_ctr (x := l.getD 0 0)) bd37 [] [] ?_
  refine yN 6000 1 ((List.replicate 32 0).map (vi .u8)) ?_
  refine AWo.storeAllN tbok rfl rfl rfl rfl (by rw [List.length_map, digs_len]) (by rfl) (oneM (fun _ => rfl) _) rfl ?_
  refine zN (zS ?_)
  refine AWo.sliceA2 (v := .slice (some ⟨6000, 0, none⟩) 32 0) (l := 0) (h := 32) tbok rfl .none .none rfl rfl rfl rfl (by decide) (by decide) (by simp [digs_len]) rfl rfl rfl ?_
  refine yC (lw32_ctr (v := (l.getD 0 0).val) (val_lt _)) bd33 [(6000, 0)] [23000] ?_
  refine yA ?_
  refine zN (zS ?_)
  refine yM ?_
  refine yP (PureOp.idx1 tbok (j := 0) rfl rfl rfl rfl (by decide)) ?_
  refine AWo.loadM tbok 0 rfl rfl rfl (by rw [digs_len]; decide) rfl rfl ?_
  rw [dig4 hN]
  refine yC (v := .tuple #[.agg #[vi .i64 (N % 256), vi .i64 (N / 256 % 256), vi .i64 (N / 65536), .slice none 0 0], .bool true]) (begun_ctr (n := N) hNl) bd32 [] [] ?_ (hv := (by rw [decide_eq_true hi]; rfl))
  refine yM ?_
  refine yP pX ?_
  refine yP pX ?_
  refine yN 8000 1 _ ?_
  refine AWo.storeAllN (vs := [vi .i64 (N % 256), vi .i64 (N / 256 % 256), vi .i64 (N / 65536), .slice none 0 0]) tbok rfl rfl rfl rfl rfl rfl rfl rfl ?_
  refine yA ?_
  refine zN (zQ (zS ?_))
  refine yM ?_
  refine yP (PureOp.not rfl) ?_
  refine yM ?_
  refine yM ?_
  refine yC (lb4v_ctr (v := (l.getD 0 0).val) (val_lt _)) bd38 [(23000, 0)] [] ?_
  refine yP ((PureOp.gtN (b := 64) rfl rfl).mono (v' := .bool false) (congrArg Value.bool (decide_eq_false (fun h => Nat.not_le.2 hv (blen_gt.1 h))))) ?_
  refine yP pE ?_
  refine zN (zF (zK (zT (zQ (zS ?_)))))
  refine yLA ?_
  refine yC (v := vi .i64 (lng (bgn N))) (longN_ctr (k := (bgn N).k) (t := (bgn N).t) (cn := N / 65536) hcn) bd34 [] [] ?_
  refine yM ?_
  refine yP pL ?_
  refine yP (PureOp.mulI (a := 32) (b := l.length) rfl rfl (by omega)) ?_
  refine yP ((PureOp.gtN rfl rfl).mono (v' := .bool false) (congrArg Value.bool (by simp; omega))) ?_
  refine zN (zF (zK (zT ?_)))
  refine AW.seqD mixed ?_
  refine yP pF ?_
  refine yL1 ?_
  refine yLA ?_
  refine yC (v := vi .i64 (lng (bgn N))) (longN_ctr (k := (bgn N).k) (t := (bgn N).t) (cn := N / 65536) hcn) bd34 [] [] ?_
  refine AWo.makeF (n := (lng (bgn N))) tbok 50000 ((List.replicate (lng (bgn N)) 0).map (vi .u8)) rfl rfl rfl rfl rfl rfl rfl rfl (by omega) (by omega) (by simp [vi]) rfl rfl rfl ?_
  rw [deepZ]
  refine yC (cutZ_ctr (t := (bgn N).t) (L := (lng (bgn N))) (fits_lng hi) hL) bd23 [] [51000] ?_ (hnew := (.new (clo_map_ren (cloM fun _ => rfl)) (OkL.clo (cloM fun _ => rfl)) .nil))
  refine yA ?_
  refine zD (zQ (zS ?_))
  refine yM ?_
  refine yP pL ?_
  refine yP (PureOp.subI (a := l.length) (b := 1) rfl rfl hl0 (by omega)) ?_
  refine yM ?_
  refine yP pL ?_
  refine yP ((PureOp.ltN rfl rfl).mono (v' := .bool true) (congrArg Value.bool (by simp; omega))) ?_
  refine zN (zC (zS ?_))
  refine yP (PureOp.opNil ((PureOp.buildStruct [] pl27.choose_spec.1 zr27 (by decide) pl27.choose_spec.2 rfl rfl).mono (v' := .agg #[.int .i64 0, .int .i64 0, .int .i64 0, .slice none 0 0]) rfl)) ?_
  refine AWo.storeAllN (vs := [.int .i64 0, .int .i64 0, .int .i64 0, deep 0 1 []]) tbok rfl rfl rfl rfl rfl rfl rfl rfl ?_
  refine yA ?_
  refine yA ?_
  refine zN (zE (zU ?_))
  exact rq [] [.cell 2 27, .tmp 3, .tmp 4] (hres := (.clo rfl (.cons rfl rfl (.cons rfl rfl .nil))))
theorem offieldsE_ctr {l : List Fp} {N : Nat} (hx : l.length < 1000000) (hl0 : 0 < l.length) (hN : (l.getD 0 0).val % 18446744073709551616 = N) (hNl : N < 18446744073709551616) (hi : itC (bgn N).k (bgn N).t (bgn N).c = 0) (hcn : N / 65536 ≤ 1048576) (hL : (lng (bgn N)) < 200000000) (hv : (l.getD 0 0).val < 18446744073709551616) (hd : (lng (bgn N)) ≤ 32 * l.length) (hq : 1 + (np (bgn N).t (lng (bgn N))) ≤ l.length) (hbd : bad (bgn N).t (lng (bgn N)) l (np (bgn N).t (lng (bgn N))) = true) : GC Tryz.prog 15 [.slice (some ⟨0, 0, none⟩) l.length 0] [⟨((l.map fe).flatten).map (vi .u64), false, 4⟩] [opV op0, vi .i64 0, vi .i64 3] [⟨((l.map fe).flatten).map (vi .u64), false, 4⟩] := by
  refine gi Tryz.func15 ?_
  refine zS ?_
  refine yN 3000 1 _ ?_
  refine yA ?_
  refine yA ?_
  refine zN (zQ (zS ?_))
  refine yM ?_
  refine yP pL ?_
  refine yP ((PureOp.eqN (b := 0) rfl rfl).mono (v' := .bool false) (congrArg Value.bool (beq_eq_false_iff_ne.2 (by omega)))) ?_
  refine zN (zF (zK (zT (zS ?_))))
  refine yM ?_
  refine yP (PureOp.idxN tbok (j := 0) rfl rfl rfl rfl hl0) ?_
  refine yLJ (xs := l) (0) ?_
  refine yC (bytesF_ctr (x := l.getD 0 0)) bd37 [] [] ?_
  refine yN 6000 1 ((List.replicate 32 0).map (vi .u8)) ?_
  refine AWo.storeAllN tbok rfl rfl rfl rfl (by rw [List.length_map, digs_len]) (by rfl) (oneM (fun _ => rfl) _) rfl ?_
  refine zN (zS ?_)
  refine AWo.sliceA2 (v := .slice (some ⟨6000, 0, none⟩) 32 0) (l := 0) (h := 32) tbok rfl .none .none rfl rfl rfl rfl (by decide) (by decide) (by simp [digs_len]) rfl rfl rfl ?_
  refine yC (lw32_ctr (v := (l.getD 0 0).val) (val_lt _)) bd33 [(6000, 0)] [23000] ?_
  refine yA ?_
  refine zN (zS ?_)
  refine yM ?_
  refine yP (PureOp.idx1 tbok (j := 0) rfl rfl rfl rfl (by decide)) ?_
  refine AWo.loadM tbok 0 rfl rfl rfl (by rw [digs_len]; decide) rfl rfl ?_
  rw [dig4 hN]
  refine yC (v := .tuple #[.agg #[vi .i64 (N % 256), vi .i64 (N / 256 % 256), vi .i64 (N / 65536), .slice none 0 0], .bool true]) (begun_ctr (n := N) hNl) bd32 [] [] ?_ (hv := (by rw [decide_eq_true hi]; rfl))
  refine yM ?_
  refine yP pX ?_
  refine yP pX ?_
  refine yN 8000 1 _ ?_
  refine AWo.storeAllN (vs := [vi .i64 (N % 256), vi .i64 (N / 256 % 256), vi .i64 (N / 65536), .slice none 0 0]) tbok rfl rfl rfl rfl rfl rfl rfl rfl ?_
  refine yA ?_
  refine zN (zQ (zS ?_))
  refine yM ?_
  refine yP (PureOp.not rfl) ?_
  refine yM ?_
  refine yM ?_
  refine yC (lb4v_ctr (v := (l.getD 0 0).val) (val_lt _)) bd38 [(23000, 0)] [] ?_
  refine yP ((PureOp.gtN (b := 64) rfl rfl).mono (v' := .bool false) (congrArg Value.bool (decide_eq_false (fun h => Nat.not_le.2 hv (blen_gt.1 h))))) ?_
  refine yP pE ?_
  refine zN (zF (zK (zT (zQ (zS ?_)))))
  refine yLA ?_
  refine yC (v := vi .i64 (lng (bgn N))) (longN_ctr (k := (bgn N).k) (t := (bgn N).t) (cn := N / 65536) hcn) bd34 [] [] ?_
  refine yM ?_
  refine yP pL ?_
  refine yP (PureOp.mulI (a := 32) (b := l.length) rfl rfl (by omega)) ?_
  refine yP ((PureOp.gtN rfl rfl).mono (v' := .bool false) (congrArg Value.bool (by simp; omega))) ?_
  refine zN (zF (zK (zT ?_)))
  refine AW.seqD mixed ?_
  refine yP pF ?_
  refine yL1 ?_
  refine yLA ?_
  refine yC (v := vi .i64 (lng (bgn N))) (longN_ctr (k := (bgn N).k) (t := (bgn N).t) (cn := N / 65536) hcn) bd34 [] [] ?_
  refine AWo.makeF (n := (lng (bgn N))) tbok 50000 ((List.replicate (lng (bgn N)) 0).map (vi .u8)) rfl rfl rfl rfl rfl rfl rfl rfl (by omega) (by omega) (by simp [vi]) rfl rfl rfl ?_
  rw [deepZ]
  refine yC (cutZ_ctr (t := (bgn N).t) (L := (lng (bgn N))) (fits_lng hi) hL) bd23 [] [51000] ?_ (hnew := (.new (clo_map_ren (cloM fun _ => rfl)) (OkL.clo (cloM fun _ => rfl)) .nil))
  refine yA ?_
  refine zD (zQ (zS ?_))
  refine yM ?_
  refine yP pL ?_
  refine yP (PureOp.subI (a := l.length) (b := 1) rfl rfl hl0 (by omega)) ?_
  refine yM ?_
  refine yP pL ?_
  refine yP ((PureOp.ltN rfl rfl).mono (v' := .bool false) (congrArg Value.bool (by simp; omega))) ?_
  refine zN (zF (zK (zT (zQ (zS ?_)))))
  refine yM ?_
  refine yP pL ?_
  refine yM ?_
  refine zN (zB ?_)
  refine AW.ghost 77000 1 rfl ?_
  refine AW.loopw (fun mm σ => ∃ i, (i ≤ (np (bgn N).t (lng (bgn N))) ∧ bad (bgn N).t (lng (bgn N)) l i = false) ∧ mm = (np (bgn N).t (lng (bgn N))) - i ∧ σ = ⟨(upd (upd (upd (upd (upd (upd (upd emp 0 (.slice (some ⟨0, 0, none⟩) l.length 0)) 2 (.pointer (some ⟨3000, 0, none⟩))) 7 (.pointer (some ⟨8000, 0, none⟩))) 9 (.slice (some ⟨51000, 0, none⟩) (np (bgn N).t (lng (bgn N))) 0)) 58 (.slice (some ⟨51000, 0, none⟩) (np (bgn N).t (lng (bgn N))) 0)) 59 (vi .i64 (np (bgn N).t (lng (bgn N))))) 60 (vi .i64 i)), (upd (upd (upd (upd (upd emp 0 ⟨((l.map fe).flatten).map (vi .u64), false, 4⟩) 3000 ⟨[.int .i64 0, .int .i64 0, .int .i64 0, .slice none 0 0], true, 1⟩) 8000 ⟨[vi .i64 (N % 256), vi .i64 (N / 256 % 256), vi .i64 (N / 65536), .slice (some ⟨77000, 0, none⟩) (rdD (bgn N).t (lng (bgn N)) l i).length 0], true, 1⟩) 77000 ⟨(rdD (bgn N).t (lng (bgn N)) l i).map (vi .u8), true, 1⟩) 51000 ⟨(pcs (bgn N).t (List.replicate (lng (bgn N)) 0)).map db, true, 1⟩)⟩) (fm := []) ?_ ⟨0, ⟨Nat.zero_le _, rfl⟩, rfl, rfl⟩ ?_
  ·
    refine Wk.of [0, 3000, 8000, 77000, 51000] ?_ ?_ ?_ (by decide) rfl
    ·
      refine WkE.upd rfl (by exact VR.flat _ rfl) ?_
      refine WkE.upd rfl (by exact VR.flat _ rfl) ?_
      refine WkE.upd rfl (.slice (51000) 0 _ 0 ⟨_, rfl⟩ (by simp) (by simp)) ?_
      refine WkE.upd rfl (.slice (51000) 0 _ 0 ⟨_, rfl⟩ (by simp) (by simp)) ?_
      refine WkE.upd rfl (.ptr (8000) 0 ⟨_, rfl⟩) ?_
      refine WkE.upd rfl (.ptr (3000) 0 ⟨_, rfl⟩) ?_
      refine WkE.upd rfl (.slice (0) 0 _ 0 ⟨_, rfl⟩ (by simp) (by simp)) ?_
      exact WkE.emp
    ·
      refine WkM.cloM rfl rfl (fun _ => rfl) (fun h => h) ?_
      refine WkM.flat rfl (flatM flat_vi) (fun h => h) ?_
      refine WkM.nil3 rfl (fun h => h) ?_
      refine WkM.flat rfl (by simp [flatV, flat_vi]) (fun h => h) ?_
      refine WkM.flat rfl (flatM flat_vi) (fun h => h) ?_
      exact WkM.emp
    ·
      repeat (refine dom_upd_mem (by decide) ?_)
      exact dom_emp
  ·
    rintro mm σ ⟨i, ⟨hik, hbi⟩, rfl, rfl⟩
    refine zS ?_
    refine yP pLt ?_
    refine zN (zQ ?_)
    refine zA (fun hb0 => ?_) (fun hb0 => ?_)
    ·
      have hi : i < (np (bgn N).t (lng (bgn N))) := by simpa using hb0
      have hi1 : 1 + i < l.length := by omega
      have hp : (plen (bgn N).t (lng (bgn N)) i) ≤ 32 := Nat.le_trans (Nat.min_le_left _ _) (wd_le _ _)
      have hrd := rdD_le (bgn N).t (lng (bgn N)) l i
      refine zK (zT (zQ (zB (zS ?_))))
      refine yM ?_
      refine yP (PureOp.idx1 tbok (j := i) rfl rfl rfl rfl hi) ?_
      refine AWo.loadM tbok [] rfl rfl rfl (by rw [pcs_len, List.length_replicate]; exact hi) rfl rfl ?_
      rw [pcs_getD (by rw [List.length_replicate]; exact hi)]
      refine yA ?_
      refine yA ?_
      refine zN (zS ?_)
      refine yM ?_
      refine yM ?_
      refine yP (pAdd (a := 1) (b := i)) ?_
      refine yP (PureOp.idxN tbok (j := 1 + i) rfl rfl rfl rfl hi1) ?_
      refine yLJ (xs := l) (1 + i) ?_
      refine yC (bytesF_ctr (x := l.getD (1 + i) 0)) bd37 [] [] ?_
      refine yN 13000 1 ((List.replicate 32 0).map (vi .u8)) ?_
      refine AWo.storeAllN tbok rfl rfl rfl rfl (by rw [List.length_map, digs_len]) (by rfl) (oneM (fun _ => rfl) _) rfl ?_
      refine zN (zQ (zS ?_))
      refine yM ?_
      refine yP ((PureOp.lenD tbok rfl rfl).mono (v' := vi .i64 (plen (bgn N).t (lng (bgn N)) i)) (congrArg (vi .i64) (by rw [pc_len, List.length_replicate]; rfl))) ?_
      refine AWo.sliceA2 (v := .slice (some ⟨13000, (plen (bgn N).t (lng (bgn N)) i), none⟩) (32 - (plen (bgn N).t (lng (bgn N)) i)) 0) (l := (plen (bgn N).t (lng (bgn N)) i)) (h := 32) tbok rfl (.some rfl) .none rfl rfl rfl rfl hp (by decide) (by simp [digs_len]) (by rw [Nat.zero_add, Nat.mul_one]) rfl rfl ?_
      refine yC (lwP_ctr (v := (l.getD (1 + i) 0).val) (p := (plen (bgn N).t (lng (bgn N)) i)) (val_lt _) hp) bd33 [(13000, (plen (bgn N).t (lng (bgn N)) i))] [75000] ?_ (hfit := (.part rfl (partP hp) (flatM flat_vi) (by simp [digs_len]; omega) .nil))
      refine yC (lbP_ctr (v := (l.getD (1 + i) 0).val) (p := (plen (bgn N).t (lng (bgn N)) i)) (val_lt _) hp) bd38 [(75000, 0)] [] ?_
      refine yP ((PureOp.gtN (b := 0) rfl rfl).mono (v' := .bool (decide (256 ^ (plen (bgn N).t (lng (bgn N)) i) ≤ (l.getD (1 + i) 0).val))) (congrArg Value.bool (by rw [Bool.eq_iff_iff, decide_eq_true_eq, decide_eq_true_eq]; exact blen_0))) ?_
      refine zN ?_
      refine zA (fun hb1 => ?_) (fun hb1 => ?_)
      ·
        have hz : 256 ^ (plen (bgn N).t (lng (bgn N)) i) ≤ (l.getD (1 + i) 0).val := of_decide_eq_true hb1
        refine zS ?_
        refine yP (PureOp.opNil ((PureOp.buildStruct [] pl27.choose_spec.1 zr27 (by decide) pl27.choose_spec.2 rfl rfl).mono (v' := .agg #[.int .i64 0, .int .i64 0, .int .i64 0, .slice none 0 0]) rfl)) ?_
        refine AWo.storeAllN (vs := [.int .i64 0, .int .i64 0, .int .i64 0, deep 0 1 []]) tbok rfl rfl rfl rfl rfl rfl rfl rfl ?_
        refine yA ?_
        refine yA ?_
        refine zN (zE (zU (zI (zU (zU (zI (zU ?_)))))))
        exact rq [] [.cell 2 27, .tmp 3, .tmp 4] (hres := (.clo rfl (.cons rfl rfl (.cons rfl rfl .nil))))
      ·
        have hz : ¬ 256 ^ (plen (bgn N).t (lng (bgn N)) i) ≤ (l.getD (1 + i) 0).val := of_decide_eq_false hb1
        refine zK (zT ?_)
        refine AW.draw mixed ?_
        refine yP pF ?_
        refine yL1 ?_
        refine yM ?_
        refine yP ((PureOp.lenD tbok rfl rfl).mono (v' := vi .i64 (plen (bgn N).t (lng (bgn N)) i)) (congrArg (vi .i64) (by rw [pc_len, List.length_replicate]; rfl))) ?_
        refine AWo.sliceA2 (v := .slice (some ⟨13000, 0, none⟩) (plen (bgn N).t (lng (bgn N)) i) 0) (l := 0) (h := (plen (bgn N).t (lng (bgn N)) i)) tbok rfl .none (.some rfl) rfl rfl rfl rfl (Nat.zero_le _) hp (by simp [digs_len]) rfl rfl rfl ?_
        refine AWo.append tbok (all := (rdD (bgn N).t (lng (bgn N)) l (i + 1)).map (vi .u8)) (news := (digs 256 (plen (bgn N).t (lng (bgn N)) i) (l.getD (1 + i) 0).val).map (vi .u8)) 84000 rfl rfl rfl rfl (by simp) (newsP hp) (by simp [digs_len]; omega) (by decide) rfl rfl rfl (by decide) rfl rfl rfl (by omega) (by omega) (oneM (fun _ => rfl) _) (by rw [rdD_succ, List.map_append]) rfl rfl ?_
        refine yP pF ?_
        refine AWo.store1 tbok rfl rfl rfl rfl rfl (by simp) rfl rfl ?_
        refine zD (zL (zT (zR ?_)))
        refine yP (pAdd (b := 1)) ?_
        refine yM ?_
        refine zN (zT ?_)
        rw [show (rdD (bgn N).t (lng (bgn N)) l i).length + (plen (bgn N).t (lng (bgn N)) i) = (rdD (bgn N).t (lng (bgn N)) l (i + 1)).length by rw [rdD_succ, List.length_append, digs_len]]
        exact ⟨(np (bgn N).t (lng (bgn N))) - (i + 1), [(77000, 84000)], _, by omega, wk [0, 3000, 8000, 77000, 51000], i + 1, ⟨by omega, by rw [bad_succ, hbi, decide_eq_false hz]; rfl⟩, rfl, rfl⟩
    ·
      exact absurd hbi (by rw [show i = (np (bgn N).t (lng (bgn N))) by simp at hb0; omega, hbd]; decide)
theorem offieldsF_ctr {l : List Fp} {N : Nat} (hx : l.length < 1000000) (hl0 : 0 < l.length) (hN : (l.getD 0 0).val % 18446744073709551616 = N) (hNl : N < 18446744073709551616) (hi : itC (bgn N).k (bgn N).t (bgn N).c = 0) (hcn : N / 65536 ≤ 1048576) (hL : (lng (bgn N)) < 200000000) (hv : (l.getD 0 0).val < 18446744073709551616) (hd : (lng (bgn N)) ≤ 32 * l.length) (hq : 1 + (np (bgn N).t (lng (bgn N))) ≤ l.length) (hbd : bad (bgn N).t (lng (bgn N)) l (np (bgn N).t (lng (bgn N))) = false) (hr : ¬ Rgt ⟨(bgn N).k, (bgn N).t, (bgn N).c, rdD (bgn N).t (lng (bgn N)) l (np (bgn N).t (lng (bgn N)))⟩) : GC Tryz.prog 15 [.slice (some ⟨0, 0, none⟩) l.length 0] [⟨((l.map fe).flatten).map (vi .u64), false, 4⟩] [opV op0, vi .i64 0, vi .i64 3] [⟨((l.map fe).flatten).map (vi .u64), false, 4⟩] := by
  refine gi Tryz.func15 ?_
  refine zS ?_
  refine yN 3000 1 _ ?_
  refine yA ?_
  refine yA ?_
  refine zN (zQ (zS ?_))
  refine yM ?_
  refine yP pL ?_
  refine yP ((PureOp.eqN (b := 0) rfl rfl).mono (v' := .bool false) (congrArg Value.bool (beq_eq_false_iff_ne.2 (by omega)))) ?_
  refine zN (zF (zK (zT (zS ?_))))
  refine yM ?_
  refine yP (PureOp.idxN tbok (j := 0) rfl rfl rfl rfl hl0) ?_
  refine yLJ (xs := l) (0) ?_
  refine yC (bytesF_ctr (x := l.getD 0 0)) bd37 [] [] ?_
  refine yN 6000 1 ((List.replicate 32 0).map (vi .u8)) ?_
  refine AWo.storeAllN tbok rfl rfl rfl rfl (by rw [List.length_map, digs_len]) (by rfl) (oneM (fun _ => rfl) _) rfl ?_
  refine zN (zS ?_)
  refine AWo.sliceA2 (v := .slice (some ⟨6000, 0, none⟩) 32 0) (l := 0) (h := 32) tbok rfl .none .none rfl rfl rfl rfl (by decide) (by decide) (by simp [digs_len]) rfl rfl rfl ?_
  refine yC (lw32_ctr (v := (l.getD 0 0).val) (val_lt _)) bd33 [(6000, 0)] [23000] ?_
  refine yA ?_
  refine zN (zS ?_)
  refine yM ?_
  refine yP (PureOp.idx1 tbok (j := 0) rfl rfl rfl rfl (by decide)) ?_
  refine AWo.loadM tbok 0 rfl rfl rfl (by rw [digs_len]; decide) rfl rfl ?_
  rw [dig4 hN]
  refine yC (v := .tuple #[.agg #[vi .i64 (N % 256), vi .i64 (N / 256 % 256), vi .i64 (N / 65536), .slice none 0 0], .bool true]) (begun_ctr (n := N) hNl) bd32 [] [] ?_ (hv := (by rw [decide_eq_true hi]; rfl))
  refine yM ?_
  refine yP pX ?_
  refine yP pX ?_
  refine yN 8000 1 _ ?_
  refine AWo.storeAllN (vs := [vi .i64 (N % 256), vi .i64 (N / 256 % 256), vi .i64 (N / 65536), .slice none 0 0]) tbok rfl rfl rfl rfl rfl rfl rfl rfl ?_
  refine yA ?_
  refine zN (zQ (zS ?_))
  refine yM ?_
  refine yP (PureOp.not rfl) ?_
  refine yM ?_
  refine yM ?_
  refine yC (lb4v_ctr (v := (l.getD 0 0).val) (val_lt _)) bd38 [(23000, 0)] [] ?_
  refine yP ((PureOp.gtN (b := 64) rfl rfl).mono (v' := .bool false) (congrArg Value.bool (decide_eq_false (fun h => Nat.not_le.2 hv (blen_gt.1 h))))) ?_
  refine yP pE ?_
  refine zN (zF (zK (zT (zQ (zS ?_)))))
  refine yLA ?_
  refine yC (v := vi .i64 (lng (bgn N))) (longN_ctr (k := (bgn N).k) (t := (bgn N).t) (cn := N / 65536) hcn) bd34 [] [] ?_
  refine yM ?_
  refine yP pL ?_
  refine yP (PureOp.mulI (a := 32) (b := l.length) rfl rfl (by omega)) ?_
  refine yP ((PureOp.gtN rfl rfl).mono (v' := .bool false) (congrArg Value.bool (by simp; omega))) ?_
  refine zN (zF (zK (zT ?_)))
  refine AW.seqD mixed ?_
  refine yP pF ?_
  refine yL1 ?_
  refine yLA ?_
  refine yC (v := vi .i64 (lng (bgn N))) (longN_ctr (k := (bgn N).k) (t := (bgn N).t) (cn := N / 65536) hcn) bd34 [] [] ?_
  refine AWo.makeF (n := (lng (bgn N))) tbok 50000 ((List.replicate (lng (bgn N)) 0).map (vi .u8)) rfl rfl rfl rfl rfl rfl rfl rfl (by omega) (by omega) (by simp [vi]) rfl rfl rfl ?_
  rw [deepZ]
  refine yC (cutZ_ctr (t := (bgn N).t) (L := (lng (bgn N))) (fits_lng hi) hL) bd23 [] [51000] ?_ (hnew := (.new (clo_map_ren (cloM fun _ => rfl)) (OkL.clo (cloM fun _ => rfl)) .nil))
  refine yA ?_
  refine zD (zQ (zS ?_))
  refine yM ?_
  refine yP pL ?_
  refine yP (PureOp.subI (a := l.length) (b := 1) rfl rfl hl0 (by omega)) ?_
  refine yM ?_
  refine yP pL ?_
  refine yP ((PureOp.ltN rfl rfl).mono (v' := .bool false) (congrArg Value.bool (by simp; omega))) ?_
  refine zN (zF (zK (zT (zQ (zS ?_)))))
  refine yM ?_
  refine yP pL ?_
  refine yM ?_
  refine zN (zB ?_)
  refine AW.ghost 77000 1 rfl ?_
  refine AW.loopw (fun mm σ => ∃ i, (i ≤ (np (bgn N).t (lng (bgn N))) ∧ bad (bgn N).t (lng (bgn N)) l i = false) ∧ mm = (np (bgn N).t (lng (bgn N))) - i ∧ σ = ⟨(upd (upd (upd (upd (upd (upd (upd emp 0 (.slice (some ⟨0, 0, none⟩) l.length 0)) 2 (.pointer (some ⟨3000, 0, none⟩))) 7 (.pointer (some ⟨8000, 0, none⟩))) 9 (.slice (some ⟨51000, 0, none⟩) (np (bgn N).t (lng (bgn N))) 0)) 58 (.slice (some ⟨51000, 0, none⟩) (np (bgn N).t (lng (bgn N))) 0)) 59 (vi .i64 (np (bgn N).t (lng (bgn N))))) 60 (vi .i64 i)), (upd (upd (upd (upd (upd emp 0 ⟨((l.map fe).flatten).map (vi .u64), false, 4⟩) 3000 ⟨[.int .i64 0, .int .i64 0, .int .i64 0, .slice none 0 0], true, 1⟩) 8000 ⟨[vi .i64 (N % 256), vi .i64 (N / 256 % 256), vi .i64 (N / 65536), .slice (some ⟨77000, 0, none⟩) (rdD (bgn N).t (lng (bgn N)) l i).length 0], true, 1⟩) 77000 ⟨(rdD (bgn N).t (lng (bgn N)) l i).map (vi .u8), true, 1⟩) 51000 ⟨(pcs (bgn N).t (List.replicate (lng (bgn N)) 0)).map db, true, 1⟩)⟩) (fm := []) ?_ ⟨0, ⟨Nat.zero_le _, rfl⟩, rfl, rfl⟩ ?_
  ·
    refine Wk.of [0, 3000, 8000, 77000, 51000] ?_ ?_ ?_ (by decide) rfl
    ·
      refine WkE.upd rfl (by exact VR.flat _ rfl) ?_
      refine WkE.upd rfl (by exact VR.flat _ rfl) ?_
      refine WkE.upd rfl (.slice (51000) 0 _ 0 ⟨_, rfl⟩ (by simp) (by simp)) ?_
      refine WkE.upd rfl (.slice (51000) 0 _ 0 ⟨_, rfl⟩ (by simp) (by simp)) ?_
      refine WkE.upd rfl (.ptr (8000) 0 ⟨_, rfl⟩) ?_
      refine WkE.upd rfl (.ptr (3000) 0 ⟨_, rfl⟩) ?_
      refine WkE.upd rfl (.slice (0) 0 _ 0 ⟨_, rfl⟩ (by simp) (by simp)) ?_
      exact WkE.emp
    ·
      refine WkM.cloM rfl rfl (fun _ => rfl) (fun h => h) ?_
      refine WkM.flat rfl (flatM flat_vi) (fun h => h) ?_
      refine WkM.nil3 rfl (fun h => h) ?_
      refine WkM.flat rfl (by simp [flatV, flat_vi]) (fun h => h) ?_
      refine WkM.flat rfl (flatM flat_vi) (fun h => h) ?_
      exact WkM.emp
    ·
      repeat (refine dom_upd_mem (by decide) ?_)
      exact dom_emp
  ·
    rintro mm σ ⟨i, ⟨hik, hbi⟩, rfl, rfl⟩
    refine zS ?_
    refine yP pLt ?_
    refine zN (zQ ?_)
    refine zA (fun hb0 => ?_) (fun hb0 => ?_)
    ·
      have hi : i < (np (bgn N).t (lng (bgn N))) := by simpa using hb0
      have hi1 : 1 + i < l.length := by omega
      have hp : (plen (bgn N).t (lng (bgn N)) i) ≤ 32 := Nat.le_trans (Nat.min_le_left _ _) (wd_le _ _)
      have hrd := rdD_le (bgn N).t (lng (bgn N)) l i
      refine zK (zT (zQ (zB (zS ?_))))
      refine yM ?_
      refine yP (PureOp.idx1 tbok (j := i) rfl rfl rfl rfl hi) ?_
      refine AWo.loadM tbok [] rfl rfl rfl (by rw [pcs_len, List.length_replicate]; exact hi) rfl rfl ?_
      rw [pcs_getD (by rw [List.length_replicate]; exact hi)]
      refine yA ?_
      refine yA ?_
      refine zN (zS ?_)
      refine yM ?_
      refine yM ?_
      refine yP (pAdd (a := 1) (b := i)) ?_
      refine yP (PureOp.idxN tbok (j := 1 + i) rfl rfl rfl rfl hi1) ?_
      refine yLJ (xs := l) (1 + i) ?_
      refine yC (bytesF_ctr (x := l.getD (1 + i) 0)) bd37 [] [] ?_
      refine yN 13000 1 ((List.replicate 32 0).map (vi .u8)) ?_
      refine AWo.storeAllN tbok rfl rfl rfl rfl (by rw [List.length_map, digs_len]) (by rfl) (oneM (fun _ => rfl) _) rfl ?_
      refine zN (zQ (zS ?_))
      refine yM ?_
      refine yP ((PureOp.lenD tbok rfl rfl).mono (v' := vi .i64 (plen (bgn N).t (lng (bgn N)) i)) (congrArg (vi .i64) (by rw [pc_len, List.length_replicate]; rfl))) ?_
      refine AWo.sliceA2 (v := .slice (some ⟨13000, (plen (bgn N).t (lng (bgn N)) i), none⟩) (32 - (plen (bgn N).t (lng (bgn N)) i)) 0) (l := (plen (bgn N).t (lng (bgn N)) i)) (h := 32) tbok rfl (.some rfl) .none rfl rfl rfl rfl hp (by decide) (by simp [digs_len]) (by rw [Nat.zero_add, Nat.mul_one]) rfl rfl ?_
      refine yC (lwP_ctr (v := (l.getD (1 + i) 0).val) (p := (plen (bgn N).t (lng (bgn N)) i)) (val_lt _) hp) bd33 [(13000, (plen (bgn N).t (lng (bgn N)) i))] [75000] ?_ (hfit := (.part rfl (partP hp) (flatM flat_vi) (by simp [digs_len]; omega) .nil))
      refine yC (lbP_ctr (v := (l.getD (1 + i) 0).val) (p := (plen (bgn N).t (lng (bgn N)) i)) (val_lt _) hp) bd38 [(75000, 0)] [] ?_
      refine yP ((PureOp.gtN (b := 0) rfl rfl).mono (v' := .bool (decide (256 ^ (plen (bgn N).t (lng (bgn N)) i) ≤ (l.getD (1 + i) 0).val))) (congrArg Value.bool (by rw [Bool.eq_iff_iff, decide_eq_true_eq, decide_eq_true_eq]; exact blen_0))) ?_
      refine zN ?_
      refine zA (fun hb1 => ?_) (fun hb1 => ?_)
      ·
        exact absurd (bad_mono (by rw [bad_succ, hbi, hb1]; rfl) (show i + 1 ≤ (np (bgn N).t (lng (bgn N))) from hi)) (by rw [hbd]; decide)
      ·
        have hz : ¬ 256 ^ (plen (bgn N).t (lng (bgn N)) i) ≤ (l.getD (1 + i) 0).val := of_decide_eq_false hb1
        refine zK (zT ?_)
        refine AW.draw mixed ?_
        refine yP pF ?_
        refine yL1 ?_
        refine yM ?_
        refine yP ((PureOp.lenD tbok rfl rfl).mono (v' := vi .i64 (plen (bgn N).t (lng (bgn N)) i)) (congrArg (vi .i64) (by rw [pc_len, List.length_replicate]; rfl))) ?_
        refine AWo.sliceA2 (v := .slice (some ⟨13000, 0, none⟩) (plen (bgn N).t (lng (bgn N)) i) 0) (l := 0) (h := (plen (bgn N).t (lng (bgn N)) i)) tbok rfl .none (.some rfl) rfl rfl rfl rfl (Nat.zero_le _) hp (by simp [digs_len]) rfl rfl rfl ?_
        refine AWo.append tbok (all := (rdD (bgn N).t (lng (bgn N)) l (i + 1)).map (vi .u8)) (news := (digs 256 (plen (bgn N).t (lng (bgn N)) i) (l.getD (1 + i) 0).val).map (vi .u8)) 84000 rfl rfl rfl rfl (by simp) (newsP hp) (by simp [digs_len]; omega) (by decide) rfl rfl rfl (by decide) rfl rfl rfl (by omega) (by omega) (oneM (fun _ => rfl) _) (by rw [rdD_succ, List.map_append]) rfl rfl ?_
        refine yP pF ?_
        refine AWo.store1 tbok rfl rfl rfl rfl rfl (by simp) rfl rfl ?_
        refine zD (zL (zT (zR ?_)))
        refine yP (pAdd (b := 1)) ?_
        refine yM ?_
        refine zN (zT ?_)
        rw [show (rdD (bgn N).t (lng (bgn N)) l i).length + (plen (bgn N).t (lng (bgn N)) i) = (rdD (bgn N).t (lng (bgn N)) l (i + 1)).length by rw [rdD_succ, List.length_append, digs_len]]
        exact ⟨(np (bgn N).t (lng (bgn N))) - (i + 1), [(77000, 84000)], _, by omega, wk [0, 3000, 8000, 77000, 51000], i + 1, ⟨by omega, by rw [bad_succ, hbi, decide_eq_false hz]; rfl⟩, rfl, rfl⟩
    ·
      obtain rfl : i = (np (bgn N).t (lng (bgn N))) := by simp at hb0; omega
      refine zX (zV (zV (zH (zT (zQ ?_)))))
      refine AW.freezeC 8000 77000 3 ((rdD (bgn N).t (lng (bgn N)) l (np (bgn N).t (lng (bgn N)))).map (vi .u8)) [vi .i64 (N % 256), vi .i64 (N / 256 % 256), vi .i64 (N / 65536), db (rdD (bgn N).t (lng (bgn N)) l (np (bgn N).t (lng (bgn N))))] rfl rfl rfl rfl (by decide) (cloM fun _ => rfl) (by simp) (by rw [List.drop_zero]; exact List.take_of_length_le (by simp)) ?_
      refine zS ?_
      refine yLA ?_
      refine AWo.callX (v := .bool false) (opright_ctr (x := ⟨(bgn N).k, (bgn N).t, (bgn N).c, rdD (bgn N).t (lng (bgn N)) l (np (bgn N).t (lng (bgn N)))⟩) (rdD_bd _ _ _ _) (by show List.length (rdD (bgn N).t (lng (bgn N)) l (np (bgn N).t (lng (bgn N)))) < _; have := rdD_le (bgn N).t (lng (bgn N)) l (np (bgn N).t (lng (bgn N))); omega)) bd22 [] [] rfl (.cons rfl .nil) rfl (.clo rfl .nil) .nil rfl .nil frN (by decide) (.cons rfl rfl .nil) (congrArg Value.bool (decide_eq_false hr)) rfl rfl rfl ?_
      refine yP (PureOp.not rfl) ?_
      refine zN (zC (zS ?_))
      refine yP (PureOp.opNil ((PureOp.buildStruct [] pl27.choose_spec.1 zr27 (by decide) pl27.choose_spec.2 rfl rfl).mono (v' := .agg #[.int .i64 0, .int .i64 0, .int .i64 0, .slice none 0 0]) rfl)) ?_
      refine AWo.storeAllN (vs := [.int .i64 0, .int .i64 0, .int .i64 0, deep 0 1 []]) tbok rfl rfl rfl rfl rfl rfl rfl rfl ?_
      refine yA ?_
      refine yA ?_
      refine zN (zE (zU ?_))
      exact rq [] [.cell 2 27, .tmp 3, .tmp 4] (hres := (.clo rfl (.cons rfl rfl (.cons rfl rfl .nil))))
theorem offieldsG_ctr {l : List Fp} {N : Nat} (hx : l.length < 1000000) (hl0 : 0 < l.length) (hN : (l.getD 0 0).val % 18446744073709551616 = N) (hNl : N < 18446744073709551616) (hi : itC (bgn N).k (bgn N).t (bgn N).c = 0) (hcn : N / 65536 ≤ 1048576) (hL : (lng (bgn N)) < 200000000) (hv : (l.getD 0 0).val < 18446744073709551616) (hd : (lng (bgn N)) ≤ 32 * l.length) (hq : 1 + (np (bgn N).t (lng (bgn N))) ≤ l.length) (hbd : bad (bgn N).t (lng (bgn N)) l (np (bgn N).t (lng (bgn N))) = false) (hr : Rgt ⟨(bgn N).k, (bgn N).t, (bgn N).c, rdD (bgn N).t (lng (bgn N)) l (np (bgn N).t (lng (bgn N)))⟩) : GC Tryz.prog 15 [.slice (some ⟨0, 0, none⟩) l.length 0] [⟨((l.map fe).flatten).map (vi .u64), false, 4⟩] [opV (Opn.mk (bgn N).k (bgn N).t (bgn N).c (rdD (bgn N).t (lng (bgn N)) l (np (bgn N).t (lng (bgn N))))), vi .i64 (1 + (np (bgn N).t (lng (bgn N)))), vi .i64 0] [⟨((l.map fe).flatten).map (vi .u64), false, 4⟩] := by
  refine gi Tryz.func15 ?_
  refine zS ?_
  refine yN 3000 1 _ ?_
  refine yA ?_
  refine yA ?_
  refine zN (zQ (zS ?_))
  refine yM ?_
  refine yP pL ?_
  refine yP ((PureOp.eqN (b := 0) rfl rfl).mono (v' := .bool false) (congrArg Value.bool (beq_eq_false_iff_ne.2 (by omega)))) ?_
  refine zN (zF (zK (zT (zS ?_))))
  refine yM ?_
  refine yP (PureOp.idxN tbok (j := 0) rfl rfl rfl rfl hl0) ?_
  refine yLJ (xs := l) (0) ?_
  refine yC (bytesF_ctr (x := l.getD 0 0)) bd37 [] [] ?_
  refine yN 6000 1 ((List.replicate 32 0).map (vi .u8)) ?_
  refine AWo.storeAllN tbok rfl rfl rfl rfl (by rw [List.length_map, digs_len]) (by rfl) (oneM (fun _ => rfl) _) rfl ?_
  refine zN (zS ?_)
  refine AWo.sliceA2 (v := .slice (some ⟨6000, 0, none⟩) 32 0) (l := 0) (h := 32) tbok rfl .none .none rfl rfl rfl rfl (by decide) (by decide) (by simp [digs_len]) rfl rfl rfl ?_
  refine yC (lw32_ctr (v := (l.getD 0 0).val) (val_lt _)) bd33 [(6000, 0)] [23000] ?_
  refine yA ?_
  refine zN (zS ?_)
  refine yM ?_
  refine yP (PureOp.idx1 tbok (j := 0) rfl rfl rfl rfl (by decide)) ?_
  refine AWo.loadM tbok 0 rfl rfl rfl (by rw [digs_len]; decide) rfl rfl ?_
  rw [dig4 hN]
  refine yC (v := .tuple #[.agg #[vi .i64 (N % 256), vi .i64 (N / 256 % 256), vi .i64 (N / 65536), .slice none 0 0], .bool true]) (begun_ctr (n := N) hNl) bd32 [] [] ?_ (hv := (by rw [decide_eq_true hi]; rfl))
  refine yM ?_
  refine yP pX ?_
  refine yP pX ?_
  refine yN 8000 1 _ ?_
  refine AWo.storeAllN (vs := [vi .i64 (N % 256), vi .i64 (N / 256 % 256), vi .i64 (N / 65536), .slice none 0 0]) tbok rfl rfl rfl rfl rfl rfl rfl rfl ?_
  refine yA ?_
  refine zN (zQ (zS ?_))
  refine yM ?_
  refine yP (PureOp.not rfl) ?_
  refine yM ?_
  refine yM ?_
  refine yC (lb4v_ctr (v := (l.getD 0 0).val) (val_lt _)) bd38 [(23000, 0)] [] ?_
  refine yP ((PureOp.gtN (b := 64) rfl rfl).mono (v' := .bool false) (congrArg Value.bool (decide_eq_false (fun h => Nat.not_le.2 hv (blen_gt.1 h))))) ?_
  refine yP pE ?_
  refine zN (zF (zK (zT (zQ (zS ?_)))))
  refine yLA ?_
  refine yC (v := vi .i64 (lng (bgn N))) (longN_ctr (k := (bgn N).k) (t := (bgn N).t) (cn := N / 65536) hcn) bd34 [] [] ?_
  refine yM ?_
  refine yP pL ?_
  refine yP (PureOp.mulI (a := 32) (b := l.length) rfl rfl (by omega)) ?_
  refine yP ((PureOp.gtN rfl rfl).mono (v' := .bool false) (congrArg Value.bool (by simp; omega))) ?_
  refine zN (zF (zK (zT ?_)))
  refine AW.seqD mixed ?_
  refine yP pF ?_
  refine yL1 ?_
  refine yLA ?_
  refine yC (v := vi .i64 (lng (bgn N))) (longN_ctr (k := (bgn N).k) (t := (bgn N).t) (cn := N / 65536) hcn) bd34 [] [] ?_
  refine AWo.makeF (n := (lng (bgn N))) tbok 50000 ((List.replicate (lng (bgn N)) 0).map (vi .u8)) rfl rfl rfl rfl rfl rfl rfl rfl (by omega) (by omega) (by simp [vi]) rfl rfl rfl ?_
  rw [deepZ]
  refine yC (cutZ_ctr (t := (bgn N).t) (L := (lng (bgn N))) (fits_lng hi) hL) bd23 [] [51000] ?_ (hnew := (.new (clo_map_ren (cloM fun _ => rfl)) (OkL.clo (cloM fun _ => rfl)) .nil))
  refine yA ?_
  refine zD (zQ (zS ?_))
  refine yM ?_
  refine yP pL ?_
  refine yP (PureOp.subI (a := l.length) (b := 1) rfl rfl hl0 (by omega)) ?_
  refine yM ?_
  refine yP pL ?_
  refine yP ((PureOp.ltN rfl rfl).mono (v' := .bool false) (congrArg Value.bool (by simp; omega))) ?_
  refine zN (zF (zK (zT (zQ (zS ?_)))))
  refine yM ?_
  refine yP pL ?_
  refine yM ?_
  refine zN (zB ?_)
  refine AW.ghost 77000 1 rfl ?_
  refine AW.loopw (fun mm σ => ∃ i, (i ≤ (np (bgn N).t (lng (bgn N))) ∧ bad (bgn N).t (lng (bgn N)) l i = false) ∧ mm = (np (bgn N).t (lng (bgn N))) - i ∧ σ = ⟨(upd (upd (upd (upd (upd (upd (upd emp 0 (.slice (some ⟨0, 0, none⟩) l.length 0)) 2 (.pointer (some ⟨3000, 0, none⟩))) 7 (.pointer (some ⟨8000, 0, none⟩))) 9 (.slice (some ⟨51000, 0, none⟩) (np (bgn N).t (lng (bgn N))) 0)) 58 (.slice (some ⟨51000, 0, none⟩) (np (bgn N).t (lng (bgn N))) 0)) 59 (vi .i64 (np (bgn N).t (lng (bgn N))))) 60 (vi .i64 i)), (upd (upd (upd (upd (upd emp 0 ⟨((l.map fe).flatten).map (vi .u64), false, 4⟩) 3000 ⟨[.int .i64 0, .int .i64 0, .int .i64 0, .slice none 0 0], true, 1⟩) 8000 ⟨[vi .i64 (N % 256), vi .i64 (N / 256 % 256), vi .i64 (N / 65536), .slice (some ⟨77000, 0, none⟩) (rdD (bgn N).t (lng (bgn N)) l i).length 0], true, 1⟩) 77000 ⟨(rdD (bgn N).t (lng (bgn N)) l i).map (vi .u8), true, 1⟩) 51000 ⟨(pcs (bgn N).t (List.replicate (lng (bgn N)) 0)).map db, true, 1⟩)⟩) (fm := []) ?_ ⟨0, ⟨Nat.zero_le _, rfl⟩, rfl, rfl⟩ ?_
  ·
    refine Wk.of [0, 3000, 8000, 77000, 51000] ?_ ?_ ?_ (by decide) rfl
    ·
      refine WkE.upd rfl (by exact VR.flat _ rfl) ?_
      refine WkE.upd rfl (by exact VR.flat _ rfl) ?_
      refine WkE.upd rfl (.slice (51000) 0 _ 0 ⟨_, rfl⟩ (by simp) (by simp)) ?_
      refine WkE.upd rfl (.slice (51000) 0 _ 0 ⟨_, rfl⟩ (by simp) (by simp)) ?_
      refine WkE.upd rfl (.ptr (8000) 0 ⟨_, rfl⟩) ?_
      refine WkE.upd rfl (.ptr (3000) 0 ⟨_, rfl⟩) ?_
      refine WkE.upd rfl (.slice (0) 0 _ 0 ⟨_, rfl⟩ (by simp) (by simp)) ?_
      exact WkE.emp
    ·
      refine WkM.cloM rfl rfl (fun _ => rfl) (fun h => h) ?_
      refine WkM.flat rfl (flatM flat_vi) (fun h => h) ?_
      refine WkM.nil3 rfl (fun h => h) ?_
      refine WkM.flat rfl (by simp [flatV, flat_vi]) (fun h => h) ?_
      refine WkM.flat rfl (flatM flat_vi) (fun h => h) ?_
      exact WkM.emp
    ·
      repeat (refine dom_upd_mem (by decide) ?_)
      exact dom_emp
  ·
    rintro mm σ ⟨i, ⟨hik, hbi⟩, rfl, rfl⟩
    refine zS ?_
    refine yP pLt ?_
    refine zN (zQ ?_)
    refine zA (fun hb0 => ?_) (fun hb0 => ?_)
    ·
      have hi : i < (np (bgn N).t (lng (bgn N))) := by simpa using hb0
      have hi1 : 1 + i < l.length := by omega
      have hp : (plen (bgn N).t (lng (bgn N)) i) ≤ 32 := Nat.le_trans (Nat.min_le_left _ _) (wd_le _ _)
      have hrd := rdD_le (bgn N).t (lng (bgn N)) l i
      refine zK (zT (zQ (zB (zS ?_))))
      refine yM ?_
      refine yP (PureOp.idx1 tbok (j := i) rfl rfl rfl rfl hi) ?_
      refine AWo.loadM tbok [] rfl rfl rfl (by rw [pcs_len, List.length_replicate]; exact hi) rfl rfl ?_
      rw [pcs_getD (by rw [List.length_replicate]; exact hi)]
      refine yA ?_
      refine yA ?_
      refine zN (zS ?_)
      refine yM ?_
      refine yM ?_
      refine yP (pAdd (a := 1) (b := i)) ?_
      refine yP (PureOp.idxN tbok (j := 1 + i) rfl rfl rfl rfl hi1) ?_
      refine yLJ (xs := l) (1 + i) ?_
      refine yC (bytesF_ctr (x := l.getD (1 + i) 0)) bd37 [] [] ?_
      refine yN 13000 1 ((List.replicate 32 0).map (vi .u8)) ?_
      refine AWo.storeAllN tbok rfl rfl rfl rfl (by rw [List.length_map, digs_len]) (by rfl) (oneM (fun _ => rfl) _) rfl ?_
      refine zN (zQ (zS ?_))
      refine yM ?_
      refine yP ((PureOp.lenD tbok rfl rfl).mono (v' := vi .i64 (plen (bgn N).t (lng (bgn N)) i)) (congrArg (vi .i64) (by rw [pc_len, List.length_replicate]; rfl))) ?_
      refine AWo.sliceA2 (v := .slice (some ⟨13000, (plen (bgn N).t (lng (bgn N)) i), none⟩) (32 - (plen (bgn N).t (lng (bgn N)) i)) 0) (l := (plen (bgn N).t (lng (bgn N)) i)) (h := 32) tbok rfl (.some rfl) .none rfl rfl rfl rfl hp (by decide) (by simp [digs_len]) (by rw [Nat.zero_add, Nat.mul_one]) rfl rfl ?_
      refine yC (lwP_ctr (v := (l.getD (1 + i) 0).val) (p := (plen (bgn N).t (lng (bgn N)) i)) (val_lt _) hp) bd33 [(13000, (plen (bgn N).t (lng (bgn N)) i))] [75000] ?_ (hfit := (.part rfl (partP hp) (flatM flat_vi) (by simp [digs_len]; omega) .nil))
      refine yC (lbP_ctr (v := (l.getD (1 + i) 0).val) (p := (plen (bgn N).t (lng (bgn N)) i)) (val_lt _) hp) bd38 [(75000, 0)] [] ?_
      refine yP ((PureOp.gtN (b := 0) rfl rfl).mono (v' := .bool (decide (256 ^ (plen (bgn N).t (lng (bgn N)) i) ≤ (l.getD (1 + i) 0).val))) (congrArg Value.bool (by rw [Bool.eq_iff_iff, decide_eq_true_eq, decide_eq_true_eq]; exact blen_0))) ?_
      refine zN ?_
      refine zA (fun hb1 => ?_) (fun hb1 => ?_)
      ·
        exact absurd (bad_mono (by rw [bad_succ, hbi, hb1]; rfl) (show i + 1 ≤ (np (bgn N).t (lng (bgn N))) from hi)) (by rw [hbd]; decide)
      ·
        have hz : ¬ 256 ^ (plen (bgn N).t (lng (bgn N)) i) ≤ (l.getD (1 + i) 0).val := of_decide_eq_false hb1
        refine zK (zT ?_)
        refine AW.draw mixed ?_
        refine yP pF ?_
        refine yL1 ?_
        refine yM ?_
        refine yP ((PureOp.lenD tbok rfl rfl).mono (v' := vi .i64 (plen (bgn N).t (lng (bgn N)) i)) (congrArg (vi .i64) (by rw [pc_len, List.length_replicate]; rfl))) ?_
        refine AWo.sliceA2 (v := .slice (some ⟨13000, 0, none⟩) (plen (bgn N).t (lng (bgn N)) i) 0) (l := 0) (h := (plen (bgn N).t (lng (bgn N)) i)) tbok rfl .none (.some rfl) rfl rfl rfl rfl (Nat.zero_le _) hp (by simp [digs_len]) rfl rfl rfl ?_
        refine AWo.append tbok (all := (rdD (bgn N).t (lng (bgn N)) l (i + 1)).map (vi .u8)) (news := (digs 256 (plen (bgn N).t (lng (bgn N)) i) (l.getD (1 + i) 0).val).map (vi .u8)) 84000 rfl rfl rfl rfl (by simp) (newsP hp) (by simp [digs_len]; omega) (by decide) rfl rfl rfl (by decide) rfl rfl rfl (by omega) (by omega) (oneM (fun _ => rfl) _) (by rw [rdD_succ, List.map_append]) rfl rfl ?_
        refine yP pF ?_
        refine AWo.store1 tbok rfl rfl rfl rfl rfl (by simp) rfl rfl ?_
        refine zD (zL (zT (zR ?_)))
        refine yP (pAdd (b := 1)) ?_
        refine yM ?_
        refine zN (zT ?_)
        rw [show (rdD (bgn N).t (lng (bgn N)) l i).length + (plen (bgn N).t (lng (bgn N)) i) = (rdD (bgn N).t (lng (bgn N)) l (i + 1)).length by rw [rdD_succ, List.length_append, digs_len]]
        exact ⟨(np (bgn N).t (lng (bgn N))) - (i + 1), [(77000, 84000)], _, by omega, wk [0, 3000, 8000, 77000, 51000], i + 1, ⟨by omega, by rw [bad_succ, hbi, decide_eq_false hz]; rfl⟩, rfl, rfl⟩
    ·
      obtain rfl : i = (np (bgn N).t (lng (bgn N))) := by simp at hb0; omega
      refine zX (zV (zV (zH (zT (zQ ?_)))))
      refine AW.freezeC 8000 77000 3 ((rdD (bgn N).t (lng (bgn N)) l (np (bgn N).t (lng (bgn N)))).map (vi .u8)) [vi .i64 (N % 256), vi .i64 (N / 256 % 256), vi .i64 (N / 65536), db (rdD (bgn N).t (lng (bgn N)) l (np (bgn N).t (lng (bgn N))))] rfl rfl rfl rfl (by decide) (cloM fun _ => rfl) (by simp) (by rw [List.drop_zero]; exact List.take_of_length_le (by simp)) ?_
      refine zS ?_
      refine yLA ?_
      refine AWo.callX (v := .bool true) (opright_ctr (x := ⟨(bgn N).k, (bgn N).t, (bgn N).c, rdD (bgn N).t (lng (bgn N)) l (np (bgn N).t (lng (bgn N)))⟩) (rdD_bd _ _ _ _) (by show List.length (rdD (bgn N).t (lng (bgn N)) l (np (bgn N).t (lng (bgn N)))) < _; have := rdD_le (bgn N).t (lng (bgn N)) l (np (bgn N).t (lng (bgn N))); omega)) bd22 [] [] rfl (.cons rfl .nil) rfl (.clo rfl .nil) .nil rfl .nil frN (by decide) (.cons rfl rfl .nil) (congrArg Value.bool (decide_eq_true hr)) rfl rfl rfl ?_
      refine yP (PureOp.not rfl) ?_
      refine zN (zF (zK (zT (zS ?_))))
      refine yLA ?_
      refine yM ?_
      refine yP pL ?_
      refine yP (PureOp.addI (a := 1) (b := (np (bgn N).t (lng (bgn N)))) rfl rfl (by omega)) ?_
      refine AWo.storeAllN (vs := [vi .i64 (N % 256), vi .i64 (N / 256 % 256), vi .i64 (N / 65536), db (rdD (bgn N).t (lng (bgn N)) l (np (bgn N).t (lng (bgn N))))]) tbok rfl rfl rfl rfl rfl rfl rfl rfl ?_
      refine yA ?_
      refine yA ?_
      refine zN (zE ?_)
      exact rq [] [.cell 2 27, .tmp 3, .tmp 4] (hres := (.clo rfl (.cons rfl rfl (.cons rfl rfl .nil))))
theorem offields_ctr {l : List Fp} (hx : l.length < 1000000) : GC Tryz.prog 15 [.slice (some ⟨0, 0, none⟩) l.length 0] [⟨((l.map fe).flatten).map (vi .u64), false, 4⟩] [opV (ofF l).1, vi .i64 (ofF l).2.1, vi .i64 (ofF l).2.2] [⟨((l.map fe).flatten).map (vi .u64), false, 4⟩] := by
  rcases Nat.eq_zero_or_pos l.length with hl0 | hl0
  · rw [show ofF l = (op0, 0, 2) from if_pos hl0]
    exact offieldsA_ctr hl0
  obtain ⟨N, hN⟩ : ∃ N, (l.getD 0 0).val % 18446744073709551616 = N := ⟨_, rfl⟩
  have hNl : N < 18446744073709551616 := hN ▸ Nat.mod_lt _ (by decide)
  by_cases hi : itC (bgn N).k (bgn N).t (bgn N).c = 0
  · have hcn : N / 65536 ≤ 1048576 := by
      have := (itC_inv hi).2.2.2.2.2.1
      change ((N / 65536 : Nat) : Int) ≤ 1048576 at this
      omega
    have hL := lng_lt hi
    rcases Nat.lt_or_ge (l.getD 0 0).val 18446744073709551616 with hv | hv
    · have e0 : ofF l = ofF1 l (bgn N) := by
        unfold ofF
        rw [hN, if_neg (by omega), if_neg (by rintro (h | h); exact h hi; exact Nat.not_le.2 hv h)]
      rw [e0]
      rcases Nat.lt_or_ge (32 * l.length) (lng (bgn N)) with hd | hd
      · rw [show ofF1 l (bgn N) = (op0, 0, 2) from if_pos hd]
        exact offieldsD_ctr hx hl0 hN hNl hi hcn hL hv hd
      rcases Nat.lt_or_ge l.length (1 + (np (bgn N).t (lng (bgn N)))) with hq | hq
      · rw [show ofF1 l (bgn N) = (op0, 0, 2) by unfold ofF1; rw [if_neg (by omega), if_pos hq]]
        exact offieldsQ_ctr hx hl0 hN hNl hi hcn hL hv hd hq
      cases hbd : bad (bgn N).t (lng (bgn N)) l (np (bgn N).t (lng (bgn N))) with
      | true =>
        rw [show ofF1 l (bgn N) = (op0, 0, 3) by unfold ofF1; rw [if_neg (by omega), if_neg (by omega), if_pos hbd]]
        exact offieldsE_ctr hx hl0 hN hNl hi hcn hL hv hd hq hbd
      | false =>
        by_cases hr : Rgt ⟨(bgn N).k, (bgn N).t, (bgn N).c, rdD (bgn N).t (lng (bgn N)) l (np (bgn N).t (lng (bgn N)))⟩
        · rw [show ofF1 l (bgn N) = (⟨(bgn N).k, (bgn N).t, (bgn N).c, rdD (bgn N).t (lng (bgn N)) l (np (bgn N).t (lng (bgn N)))⟩, 1 + (np (bgn N).t (lng (bgn N))), 0) by unfold ofF1; rw [if_neg (by omega), if_neg (by omega), if_neg (by rw [hbd]; decide), if_pos hr]]
          exact offieldsG_ctr hx hl0 hN hNl hi hcn hL hv hd hq hbd hr
        · rw [show ofF1 l (bgn N) = (op0, 0, 3) by unfold ofF1; rw [if_neg (by omega), if_neg (by omega), if_neg (by rw [hbd]; decide), if_neg hr]]
          exact offieldsF_ctr hx hl0 hN hNl hi hcn hL hv hd hq hbd hr
    · rw [show ofF l = (op0, 0, 3) by unfold ofF; rw [hN, if_neg (by omega), if_pos (.inr hv)]]
      exact offieldsB_ctr hx hl0 hN hNl hi hcn hL hv
  · rw [show ofF l = (op0, 0, 3) by unfold ofF; rw [hN, if_neg (by omega), if_pos (.inl hi)]]
    exact offieldsC_ctr hx hl0 hN hNl hi
end Go.Proofs.YtpahdiljpnfkdaaGreat
namespace Go.Proofs.YtpahdiljpnfkdaaGreat
open Go Sim
theorem toB_bd' {x : Opn} (hb : bd 256 x.d) : bd 256 (toB x) := by
  unfold toB
  split
  · intro z hz
    rcases List.mem_append.1 hz with h | h
    · simp only [hdr, List.mem_cons, List.not_mem_nil, or_false] at h
      omega
    · exact hb z h
  · intro z hz; simp at hz
end Go.Proofs.YtpahdiljpnfkdaaGreat
namespace Go.Proofs.YtpahdiljpnfkdaaGreat
open Go Sim
theorem dsnocG (B : Nat) : ∀ (i n : Nat), digs B (i + 1) n = digs B i n ++ [n / B ^ i % B]
  | 0, n => by show [n % B] = [] ++ [n / B ^ 0 % B]; rw [Nat.pow_zero, Nat.div_one]; rfl
  | i + 1, n => by
    show n % B :: digs B (i + 1) (n / B) = (n % B :: digs B i (n / B)) ++ _
    rw [dsnocG B i, Nat.div_div_eq_div_mul, Nat.pow_succ, Nat.mul_comm B]; rfl
theorem number12_ctr {n w : Nat} (hn : n < 9223372036854775808) (hw : w ≤ 100) : GC Tryz.prog 24 [vi .i64 n, vi .i64 w] [] [.slice (some ⟨0, 0, none⟩) w 0] [⟨(digs 256 w n).map (vi .u8), true, 1⟩] := by
  refine gi Tryz.func24 ?_
  refine zS ?_
  refine yA ?_
  refine zN (zS ?_)
  refine AWo.buildSlice tbok 8000 [] (out := []) rfl rfl (by decide) rfl rfl rfl (by decide) rfl rfl rfl rfl rfl ?_
  refine yA ?_
  refine zN (zQ (zS ?_))
  refine yA ?_
  refine zN (zB ?_)
  refine AW.loopw (fun mm σ => ∃ i, (i ≤ w) ∧ mm = w - i ∧ σ = ⟨(upd (upd (upd (upd emp 0 (vi .i64 (n / 256 ^ i))) 1 (vi .i64 w)) 5 (.slice (some ⟨8000, 0, none⟩) i 0)) 6 (vi .i64 i)), (upd emp 8000 ⟨(digs 256 i n).map (vi .u8), true, 1⟩)⟩) (fm := []) ?_ ⟨0, Nat.zero_le _, rfl, by rw [Nat.pow_zero, Nat.div_one]⟩ ?_
  ·
    exact wk [8000]
  ·
    rintro mm σ ⟨i, hi0, rfl, rfl⟩
    have hq : n / 256 ^ i < 9223372036854775808 := Nat.lt_of_le_of_lt (Nat.div_le_self _ _) hn
    refine zQ (zS ?_)
    refine yM ?_
    refine yM ?_
    refine yP pLt ?_
    refine zN ?_
    refine zA (fun hb0 => ?_) (fun hb0 => ?_)
    ·
      have hi : i < w := by simpa using hb0
      refine zK (zT (zQ (zB (zS ?_))))
      refine yM ?_
      refine yM ?_
      refine yP (PureOp.remN (b := 256) rfl rfl (by decide)) ?_
      refine yP (PureOp.cvtN (a := n / 256 ^ i % 256) tbok 256 rfl rfl rfl (by decide) (by decide) (Nat.mod_lt _ (by decide))) ?_
      refine AWo.buildSlice tbok 18000 [(0, vi .u8 (n / 256 ^ i % 256))] (out := [vi .u8 (n / 256 ^ i % 256)]) rfl rfl (by decide) rfl rfl rfl (by decide) rfl rfl rfl rfl rfl ?_
      refine AWo.append tbok (all := (digs 256 (i + 1) n).map (vi .u8)) (news := [n / 256 ^ i % 256].map (vi .u8)) 19000 rfl rfl rfl rfl (by simp [digs_len]) rfl (by (simp; done)) (by decide) rfl rfl rfl (by decide) rfl rfl rfl (by omega) (by omega) rfl (by rw [dsnocG, List.map_append]) rfl rfl ?_
      refine yA ?_
      refine zN (zR ?_)
      refine yM ?_
      refine yP ((PureOp.quoN (b := 256) 9223372036854775808 rfl rfl (by decide) (by decide) (by decide) (by omega)).mono (v' := vi .i64 (n / 256 ^ (i + 1))) (congrArg (vi .i64) (by rw [Nat.pow_succ, Nat.div_div_eq_div_mul]))) ?_
      refine yA ?_
      refine zN (zL (zT (zR ?_)))
      refine yM ?_
      refine yP (pAdd (b := 1)) ?_
      refine yA ?_
      refine zN (zT ?_)
      exact ⟨w - (i + 1), [(8000, 19000)], _, by omega, wk [8000], i + 1, by omega, rfl, rfl⟩
    ·
      obtain rfl : i = w := by simp at hb0; omega
      refine zX (zV (zV (zH (zT (zS ?_)))))
      refine yM ?_
      refine yA ?_
      refine zN (zE ?_)
      exact rq [8000] [.tmp 4]
theorem rtobN_ctr {x : Opn} (hb : bd 256 x.d) (hl : x.d.length < 9223372036854775808) (hx : ¬ Rgt x) : GC Tryz.prog 9 [opV x] [] [.slice (some ⟨0, 0, none⟩) 0 0] [⟨(([] : List Nat)).map (vi .u8), true, 1⟩] := by
  refine gi Tryz.func9 ?_
  refine AW.ghost 77000 1 rfl ?_
  refine zS ?_
  refine AWo.box 2000 1 [.int .i64 x.k, .int .i64 x.t, .int .i64 x.c, db x.d] rfl rfl rfl rfl rfl ?_
  refine yA ?_
  refine zN (zQ (zS ?_))
  refine yLA ?_
  refine AWo.callX (v := .bool false) (right15_ctr hb hl) bd12 [] [] rfl (.cons rfl .nil) rfl (.clo rfl .nil) .nil rfl .nil frN (by decide) (.cons rfl rfl .nil) (congrArg Value.bool (decide_eq_false hx)) rfl rfl rfl ?_
  refine yP (PureOp.not rfl) ?_
  refine zN (zC (zS ?_))
  refine yA ?_
  refine zN (zE (zU ?_))
  exact rq [77000] [.tmp 2]
theorem rtobY_ctr {kn tn cn : Nat} {d : List Nat} (hb : bd 256 d) (hk : kn ≤ 3) (ht : tn ≤ 4) (hc : cn ≤ 1048576) (hd : d.length < 200000000) (hl : d.length < 9223372036854775808) (hx : Rgt ⟨kn, tn, cn, d⟩) : GC Tryz.prog 9 [opV (Opn.mk kn tn cn d)] [] [.slice (some ⟨0, 0, none⟩) (6 + d.length) 0] [⟨((digs 256 1 kn ++ digs 256 1 tn ++ digs 256 4 cn ++ d)).map (vi .u8), true, 1⟩] := by
  refine gi Tryz.func9 ?_
  refine zS ?_
  refine AWo.box 2000 1 [vi .i64 kn, vi .i64 tn, vi .i64 cn, db d] rfl rfl rfl rfl rfl ?_
  refine yA ?_
  refine zN (zQ (zS ?_))
  refine yLA ?_
  refine AWo.callX (v := .bool true) (right15_ctr (x := ⟨kn, tn, cn, d⟩) hb hl) bd12 [] [] rfl (.cons rfl .nil) rfl (.clo rfl .nil) .nil rfl .nil frN (by decide) (.cons rfl rfl .nil) (congrArg Value.bool (decide_eq_true hx)) rfl rfl rfl ?_
  refine yP (PureOp.not rfl) ?_
  refine zN (zF (zK (zT ?_)))
  refine AW.seqD mixed ?_
  refine yP pF ?_
  refine yL1 ?_
  refine yC (number12_ctr (n := kn) (w := 1) (by omega) (by decide)) bd24 [] [10000] ?_
  refine yP pF ?_
  refine yL1 ?_
  refine yC (number12_ctr (n := tn) (w := 1) (by omega) (by decide)) bd24 [] [13000] ?_
  refine AWo.append tbok (all := (digs 256 1 kn ++ digs 256 1 tn).map (vi .u8)) (news := (digs 256 1 tn).map (vi .u8)) 14000 rfl rfl rfl rfl (by simp [digs_len]) (by show List.take _ (List.drop 0 _) = _; rw [List.drop_zero]; exact List.take_of_length_le (by simp [digs_len])) (by show 0 + _ ≤ _; simp [digs_len]) (by decide) rfl rfl rfl (by exact Nat.one_ne_zero) rfl rfl rfl (by decide) (by decide) (oneM (fun _ => rfl) _) (by simp only [List.map_append]) rfl rfl ?_
  refine yA ?_
  refine zD ?_
  refine AW.seqD mixed ?_
  refine yM ?_
  refine yP pF ?_
  refine yL1 ?_
  refine yC (number12_ctr (n := cn) (w := 4) (by omega) (by decide)) bd24 [] [18000] ?_
  refine AWo.append tbok (all := (digs 256 1 kn ++ digs 256 1 tn ++ digs 256 4 cn).map (vi .u8)) (news := (digs 256 4 cn).map (vi .u8)) 19000 rfl rfl rfl rfl (by simp [digs_len]) (by show List.take _ (List.drop 0 _) = _; rw [List.drop_zero]; exact List.take_of_length_le (by simp [digs_len])) (by show 0 + _ ≤ _; simp [digs_len]) (by decide) rfl rfl rfl (by exact Nat.one_ne_zero) rfl rfl rfl (by decide) (by decide) (oneM (fun _ => rfl) _) (by simp only [List.map_append]) rfl rfl ?_
  refine yP pF ?_
  refine AWo.loadX tbok 88000 rfl rfl rfl rfl rfl rfl rfl ?_
  refine AWo.append tbok (all := ((digs 256 1 kn ++ digs 256 1 tn ++ digs 256 4 cn ++ d)).map (vi .u8)) (news := (d).map (vi .u8)) 22000 rfl rfl rfl rfl (by simp [digs_len]) (by show List.take _ (List.drop 0 _) = _; rw [List.drop_zero]; exact List.take_of_length_le (by simp)) (by (simp; done)) (by decide) rfl rfl rfl (by exact Nat.one_ne_zero) rfl rfl rfl (by omega) (by omega) (oneM (fun _ => rfl) _) (by simp only [List.map_append]) rfl rfl ?_
  refine yA ?_
  refine zD (zE ?_)
  exact rq [22000] [.tmp 2]
theorem rtob_ctr {x : Opn} (hb : bd 256 x.d) (hl : x.d.length < 9223372036854775808) : GC Tryz.prog 9 [opV x] [] [.slice (some ⟨0, 0, none⟩) (toB x).length 0] [⟨(toB x).map (vi .u8), true, 1⟩] := by
  by_cases hx : Rgt x
  · have hd := rgt_len hx
    obtain ⟨kn, tn, cn, e, hk, ht, hc⟩ := rgt_nat hx
    generalize x.d = d at *
    subst e
    have h := rtobY_ctr hb hk ht hc hd hl hx
    have e2 : toB ⟨kn, tn, cn, d⟩ = digs 256 1 kn ++ digs 256 1 tn ++ digs 256 4 cn ++ d := by
      rw [toB, if_pos hx]
      simp only [hdr, digs, Int.toNat_natCast, Nat.div_div_eq_div_mul]
      rfl
    have e3 : (toB ⟨kn, tn, cn, d⟩).length = 6 + d.length := toB_len hx
    rw [e3, e2]
    exact h
  · rw [toB, if_neg hx]
    exact rtobN_ctr hb hl hx
theorem pieces2_ctr {L : Nat} (hf : fits 2 L) (hL : L < 200000000) : GC Tryz.prog 28 [.int .i64 2, vi .i64 L] [] [.slice (some ⟨0, 0, none⟩) (np 2 L) 0] [⟨((List.range (np 2 L)).map (plen 2 L)).map (vi .i64), true, 1⟩] := by
  have hnp : np 2 L ≤ L := np_le
  refine gi Tryz.func28 ?_
  refine zS ?_
  refine yA ?_
  refine zN (zS ?_)
  refine AWo.buildSlice tbok 8000 [] (out := []) rfl rfl (by decide) rfl rfl rfl (by decide) rfl rfl rfl rfl rfl ?_
  refine yA ?_
  refine zN (zQ (zB ?_))
  refine AW.loopw (fun mm σ => ∃ k, (k ≤ np 2 L) ∧ mm = np 2 L - k ∧ σ = ⟨(upd (upd (upd emp 0 (.int .i64 2)) 1 (vi .i64 (L - off 2 k))) 5 (.slice (some ⟨8000, 0, none⟩) k 0)), (upd emp 8000 ⟨((List.range k).map (plen 2 L)).map (vi .i64), true, 1⟩)⟩) (fm := []) ?_ ⟨0, Nat.zero_le _, rfl, by rw [off_zero, Nat.sub_zero]⟩ ?_
  ·
    exact wk [8000]
  ·
    rintro mm σ ⟨k, hk, rfl, rfl⟩
    refine zQ (zS ?_)
    refine yM ?_
    refine yP ((PureOp.bin rfl rfl rfl).mono (v' := .bool (decide (0 < L - off 2 k))) (congrArg Value.bool (by rw [Bool.eq_iff_iff]; simp))) ?_
    refine zN ?_
    refine zA (fun hb0 => ?_) (fun hb0 => ?_)
    ·
      have hlt : off 2 k < L := by simp at hb0; omega
      have hkn : k < np 2 L := (np_lt hf).2 hlt
      have hos := off_succ 2 k
      have hw : wd 2 k = 8 := rfl
      have hfit := off_fit hf (by decide) hlt
      have hpl : plen 2 L k = 8 := by rw [plen, hw]; omega
      have hsl : 8 ≤ L - off 2 k := by omega
      have hsb : L - off 2 k - 8 = L - off 2 (k + 1) := by omega
      refine zK (zT (zB (zS ?_)))
      refine yA ?_
      refine zN (zQ (zS ?_))
      refine yM ?_
      refine zN (zB (zS ?_))
      refine yP ((PureOp.eqN (b := 2) rfl rfl).mono (v' := .bool true) (congrArg Value.bool (by decide))) ?_
      refine yA ?_
      refine zN (zC (zR ?_))
      refine yA ?_
      refine zN (zL (zT (zQ (zS ?_))))
      refine yM ?_
      refine yM ?_
      refine yP ((PureOp.bin rfl rfl rfl).mono (v' := .bool false) (congrArg Value.bool (decide_eq_false (by omega)))) ?_
      refine zN (zF (zK (zT (zS ?_))))
      refine yM ?_
      refine yM ?_
      refine AWo.buildSlice tbok 28000 [(0, vi .i64 (plen 2 L k))] (out := [plen 2 L k].map (vi .i64)) rfl rfl (by decide) rfl rfl rfl (by decide) (by rw [hpl]; rfl) rfl rfl rfl rfl ?_
      refine AWo.append tbok (all := ((List.range (k + 1)).map (plen 2 L)).map (vi .i64)) (news := [plen 2 L k].map (vi .i64)) 29000 rfl rfl rfl rfl (by simp) rfl (by (simp; done)) (by decide) rfl rfl rfl (by decide) rfl rfl rfl (by omega) (by omega) rfl (by rw [List.range_succ, List.map_append, List.map_append]; rfl) rfl rfl ?_
      refine yA ?_
      refine zN (zR ?_)
      refine yM ?_
      refine yM ?_
      refine yP ((PureOp.subI rfl rfl hsl (by omega)).mono (v' := vi .i64 (L - off 2 (k + 1))) (congrArg (vi .i64) hsb)) ?_
      refine yA ?_
      refine zN (zL (zT ?_))
      exact ⟨np 2 L - (k + 1), [(8000, 29000)], _, by omega, wk [8000], k + 1, by omega, rfl, rfl⟩
    ·
      obtain rfl : k = np 2 L := by
        refine Nat.le_antisymm hk (Nat.le_of_not_lt fun h => ?_)
        have := (np_lt hf).1 h
        simp at hb0; omega
      refine zX (zV (zV (zH (zT (zS ?_)))))
      refine yM ?_
      refine yA ?_
      refine zN (zE ?_)
      exact rq [8000] [.tmp 4]
theorem pieces3_ctr {L : Nat} (hf : fits 3 L) (hL : L < 200000000) : GC Tryz.prog 28 [.int .i64 3, vi .i64 L] [] [.slice (some ⟨0, 0, none⟩) (np 3 L) 0] [⟨((List.range (np 3 L)).map (plen 3 L)).map (vi .i64), true, 1⟩] := by
  have hnp : np 3 L ≤ L := np_le
  refine gi Tryz.func28 ?_
  refine zS ?_
  refine yA ?_
  refine zN (zS ?_)
  refine AWo.buildSlice tbok 8000 [] (out := []) rfl rfl (by decide) rfl rfl rfl (by decide) rfl rfl rfl rfl rfl ?_
  refine yA ?_
  refine zN (zQ (zB ?_))
  refine AW.loopw (fun mm σ => ∃ k, (k ≤ np 3 L) ∧ mm = np 3 L - k ∧ σ = ⟨(upd (upd (upd emp 0 (.int .i64 3)) 1 (vi .i64 (L - off 3 k))) 5 (.slice (some ⟨8000, 0, none⟩) k 0)), (upd emp 8000 ⟨((List.range k).map (plen 3 L)).map (vi .i64), true, 1⟩)⟩) (fm := []) ?_ ⟨0, Nat.zero_le _, rfl, by rw [off_zero, Nat.sub_zero]⟩ ?_
  ·
    exact wk [8000]
  ·
    rintro mm σ ⟨k, hk, rfl, rfl⟩
    refine zQ (zS ?_)
    refine yM ?_
    refine yP ((PureOp.bin rfl rfl rfl).mono (v' := .bool (decide (0 < L - off 3 k))) (congrArg Value.bool (by rw [Bool.eq_iff_iff]; simp))) ?_
    refine zN ?_
    refine zA (fun hb0 => ?_) (fun hb0 => ?_)
    ·
      have hlt : off 3 k < L := by simp at hb0; omega
      have hkn : k < np 3 L := (np_lt hf).2 hlt
      have hos := off_succ 3 k
      have hw : wd 3 k = 32 := rfl
      have hfit := off_fit hf (by decide) hlt
      have hpl : plen 3 L k = 32 := by rw [plen, hw]; omega
      have hsl : 32 ≤ L - off 3 k := by omega
      have hsb : L - off 3 k - 32 = L - off 3 (k + 1) := by omega
      refine zK (zT (zB (zS ?_)))
      refine yA ?_
      refine zN (zQ (zS ?_))
      refine yM ?_
      refine zN (zB (zS ?_))
      refine yP ((PureOp.eqN (b := 2) rfl rfl).mono (v' := .bool false) (congrArg Value.bool (by decide))) ?_
      refine yA ?_
      refine zN (zF (zS ?_))
      refine yP ((PureOp.eqN (b := 3) rfl rfl).mono (v' := .bool true) (congrArg Value.bool (by decide))) ?_
      refine yA ?_
      refine zN (zC (zR ?_))
      refine yA ?_
      refine zN (zL (zT (zQ (zS ?_))))
      refine yM ?_
      refine yM ?_
      refine yP ((PureOp.bin rfl rfl rfl).mono (v' := .bool false) (congrArg Value.bool (decide_eq_false (by omega)))) ?_
      refine zN (zF (zK (zT (zS ?_))))
      refine yM ?_
      refine yM ?_
      refine AWo.buildSlice tbok 28000 [(0, vi .i64 (plen 3 L k))] (out := [plen 3 L k].map (vi .i64)) rfl rfl (by decide) rfl rfl rfl (by decide) (by rw [hpl]; rfl) rfl rfl rfl rfl ?_
      refine AWo.append tbok (all := ((List.range (k + 1)).map (plen 3 L)).map (vi .i64)) (news := [plen 3 L k].map (vi .i64)) 29000 rfl rfl rfl rfl (by simp) rfl (by (simp; done)) (by decide) rfl rfl rfl (by decide) rfl rfl rfl (by omega) (by omega) rfl (by rw [List.range_succ, List.map_append, List.map_append]; rfl) rfl rfl ?_
      refine yA ?_
      refine zN (zR ?_)
      refine yM ?_
      refine yM ?_
      refine yP ((PureOp.subI rfl rfl hsl (by omega)).mono (v' := vi .i64 (L - off 3 (k + 1))) (congrArg (vi .i64) hsb)) ?_
      refine yA ?_
      refine zN (zL (zT ?_))
      exact ⟨np 3 L - (k + 1), [(8000, 29000)], _, by omega, wk [8000], k + 1, by omega, rfl, rfl⟩
    ·
      obtain rfl : k = np 3 L := by
        refine Nat.le_antisymm hk (Nat.le_of_not_lt fun h => ?_)
        have := (np_lt hf).1 h
        simp at hb0; omega
      refine zX (zV (zV (zH (zT (zS ?_)))))
      refine yM ?_
      refine yA ?_
      refine zN (zE ?_)
      exact rq [8000] [.tmp 4]
theorem pieces4_ctr {L : Nat} (hf : fits 4 L) (hL : L < 200000000) : GC Tryz.prog 28 [.int .i64 4, vi .i64 L] [] [.slice (some ⟨0, 0, none⟩) (np 4 L) 0] [⟨((List.range (np 4 L)).map (plen 4 L)).map (vi .i64), true, 1⟩] := by
  have hnp : np 4 L ≤ L := np_le
  refine gi Tryz.func28 ?_
  refine zS ?_
  refine yA ?_
  refine zN (zS ?_)
  refine AWo.buildSlice tbok 8000 [] (out := []) rfl rfl (by decide) rfl rfl rfl (by decide) rfl rfl rfl rfl rfl ?_
  refine yA ?_
  refine zN (zQ (zB ?_))
  refine AW.loopw (fun mm σ => ∃ k, (k ≤ np 4 L) ∧ mm = np 4 L - k ∧ σ = ⟨(upd (upd (upd emp 0 (.int .i64 4)) 1 (vi .i64 (L - off 4 k))) 5 (.slice (some ⟨8000, 0, none⟩) k 0)), (upd emp 8000 ⟨((List.range k).map (plen 4 L)).map (vi .i64), true, 1⟩)⟩) (fm := []) ?_ ⟨0, Nat.zero_le _, rfl, by rw [off_zero, Nat.sub_zero]⟩ ?_
  ·
    exact wk [8000]
  ·
    rintro mm σ ⟨k, hk, rfl, rfl⟩
    refine zQ (zS ?_)
    refine yM ?_
    refine yP ((PureOp.bin rfl rfl rfl).mono (v' := .bool (decide (0 < L - off 4 k))) (congrArg Value.bool (by rw [Bool.eq_iff_iff]; simp))) ?_
    refine zN ?_
    refine zA (fun hb0 => ?_) (fun hb0 => ?_)
    ·
      have hlt : off 4 k < L := by simp at hb0; omega
      have hkn : k < np 4 L := (np_lt hf).2 hlt
      have hos := off_succ 4 k
      refine zK (zT (zB (zS ?_)))
      refine yA ?_
      refine zN (zQ (zS ?_))
      refine yM ?_
      refine zN (zB (zS ?_))
      refine yP ((PureOp.eqN (b := 2) rfl rfl).mono (v' := .bool false) (congrArg Value.bool (by decide))) ?_
      refine yA ?_
      refine zN (zF (zS ?_))
      refine yP ((PureOp.eqN (b := 3) rfl rfl).mono (v' := .bool false) (congrArg Value.bool (by decide))) ?_
      refine yA ?_
      refine zN (zF (zS ?_))
      refine yP ((PureOp.eqN (b := 4) rfl rfl).mono (v' := .bool true) (congrArg Value.bool (by decide))) ?_
      refine yA ?_
      refine zN (zC (zS ?_))
      refine yM ?_
      refine yP pL ?_
      refine yP (PureOp.remN (b := 4) rfl rfl (by decide)) ?_
      refine yP (pEq (b := 3)) ?_
      refine zN ?_
      refine zA (fun hb1 => ?_) (fun hb1 => ?_)
      ·
        have h43 : k % 4 = 3 := by simpa using hb1
        have hw : wd 4 k = 3 := by rw [show wd 4 k = if k % 4 = 3 then 3 else 31 from rfl, if_pos h43]
        have hfit := off_fit hf (by decide) hlt
        have hpl : plen 4 L k = 3 := by rw [plen, hw]; omega
        have hsl : 3 ≤ L - off 4 k := by omega
        have hsb : L - off 4 k - 3 = L - off 4 (k + 1) := by omega
        refine zR ?_
        refine yA ?_
        refine zN (zL (zT (zQ (zS ?_))))
        refine yM ?_
        refine yM ?_
        refine yP ((PureOp.bin rfl rfl rfl).mono (v' := .bool false) (congrArg Value.bool (decide_eq_false (by omega)))) ?_
        refine zN (zF (zK (zT (zS ?_))))
        refine yM ?_
        refine yM ?_
        refine AWo.buildSlice tbok 28000 [(0, vi .i64 (plen 4 L k))] (out := [plen 4 L k].map (vi .i64)) rfl rfl (by decide) rfl rfl rfl (by decide) (by rw [hpl]; rfl) rfl rfl rfl rfl ?_
        refine AWo.append tbok (all := ((List.range (k + 1)).map (plen 4 L)).map (vi .i64)) (news := [plen 4 L k].map (vi .i64)) 29000 rfl rfl rfl rfl (by simp) rfl (by (simp; done)) (by decide) rfl rfl rfl (by decide) rfl rfl rfl (by omega) (by omega) rfl (by rw [List.range_succ, List.map_append, List.map_append]; rfl) rfl rfl ?_
        refine yA ?_
        refine zN (zR ?_)
        refine yM ?_
        refine yM ?_
        refine yP ((PureOp.subI rfl rfl hsl (by omega)).mono (v' := vi .i64 (L - off 4 (k + 1))) (congrArg (vi .i64) hsb)) ?_
        refine yA ?_
        refine zN (zL (zT ?_))
        exact ⟨np 4 L - (k + 1), [(8000, 29000)], _, by omega, wk [8000], k + 1, by omega, rfl, rfl⟩
      ·
        have h43 : ¬ k % 4 = 3 := by simpa using hb1
        have hw : wd 4 k = 31 := by rw [show wd 4 k = if k % 4 = 3 then 3 else 31 from rfl, if_neg h43]
        have hfit := off_fit hf (by decide) hlt
        have hpl : plen 4 L k = 31 := by rw [plen, hw]; omega
        have hsl : 31 ≤ L - off 4 k := by omega
        have hsb : L - off 4 k - 31 = L - off 4 (k + 1) := by omega
        refine zK (zL (zT (zQ (zS ?_))))
        refine yM ?_
        refine yM ?_
        refine yP ((PureOp.bin rfl rfl rfl).mono (v' := .bool false) (congrArg Value.bool (decide_eq_false (by omega)))) ?_
        refine zN (zF (zK (zT (zS ?_))))
        refine yM ?_
        refine yM ?_
        refine AWo.buildSlice tbok 28000 [(0, vi .i64 (plen 4 L k))] (out := [plen 4 L k].map (vi .i64)) rfl rfl (by decide) rfl rfl rfl (by decide) (by rw [hpl]; rfl) rfl rfl rfl rfl ?_
        refine AWo.append tbok (all := ((List.range (k + 1)).map (plen 4 L)).map (vi .i64)) (news := [plen 4 L k].map (vi .i64)) 29000 rfl rfl rfl rfl (by simp) rfl (by (simp; done)) (by decide) rfl rfl rfl (by decide) rfl rfl rfl (by omega) (by omega) rfl (by rw [List.range_succ, List.map_append, List.map_append]; rfl) rfl rfl ?_
        refine yA ?_
        refine zN (zR ?_)
        refine yM ?_
        refine yM ?_
        refine yP ((PureOp.subI rfl rfl hsl (by omega)).mono (v' := vi .i64 (L - off 4 (k + 1))) (congrArg (vi .i64) hsb)) ?_
        refine yA ?_
        refine zN (zL (zT ?_))
        exact ⟨np 4 L - (k + 1), [(8000, 29000)], _, by omega, wk [8000], k + 1, by omega, rfl, rfl⟩
    ·
      obtain rfl : k = np 4 L := by
        refine Nat.le_antisymm hk (Nat.le_of_not_lt fun h => ?_)
        have := (np_lt hf).1 h
        simp at hb0; omega
      refine zX (zV (zV (zH (zT (zS ?_)))))
      refine yM ?_
      refine yA ?_
      refine zN (zE ?_)
      exact rq [8000] [.tmp 4]
theorem pieces0_ctr {t : Int} {L : Nat} (h2 : t ≠ 2) (h3 : t ≠ 3) (h4 : t ≠ 4) (hf : fits t L) (hL : L < 200000000) : GC Tryz.prog 28 [.int .i64 t, vi .i64 L] [] [.slice (some ⟨0, 0, none⟩) (np t L) 0] [⟨((List.range (np t L)).map (plen t L)).map (vi .i64), true, 1⟩] := by
  have hnp : np t L ≤ L := np_le
  refine gi Tryz.func28 ?_
  refine zS ?_
  refine yA ?_
  refine zN (zS ?_)
  refine AWo.buildSlice tbok 8000 [] (out := []) rfl rfl (by decide) rfl rfl rfl (by decide) rfl rfl rfl rfl rfl ?_
  refine yA ?_
  refine zN (zQ (zB ?_))
  refine AW.loopw (fun mm σ => ∃ k, (k ≤ np t L) ∧ mm = np t L - k ∧ σ = ⟨(upd (upd (upd emp 0 (.int .i64 t)) 1 (vi .i64 (L - off t k))) 5 (.slice (some ⟨8000, 0, none⟩) k 0)), (upd emp 8000 ⟨((List.range k).map (plen t L)).map (vi .i64), true, 1⟩)⟩) (fm := []) ?_ ⟨0, Nat.zero_le _, rfl, by rw [off_zero, Nat.sub_zero]⟩ ?_
  ·
    exact wk [8000]
  ·
    rintro mm σ ⟨k, hk, rfl, rfl⟩
    refine zQ (zS ?_)
    refine yM ?_
    refine yP ((PureOp.bin rfl rfl rfl).mono (v' := .bool (decide (0 < L - off t k))) (congrArg Value.bool (by rw [Bool.eq_iff_iff]; simp))) ?_
    refine zN ?_
    refine zA (fun hb0 => ?_) (fun hb0 => ?_)
    ·
      have hlt : off t k < L := by simp at hb0; omega
      have hkn : k < np t L := (np_lt hf).2 hlt
      have hos := off_succ t k
      have hw : wd t k = 31 := by unfold wd; rw [if_neg h2, if_neg h3, if_neg h4]
      refine zK (zT (zB (zS ?_)))
      refine yA ?_
      refine zN (zQ (zS ?_))
      refine yM ?_
      refine zN (zB (zS ?_))
      refine yP ((PureOp.bin rfl rfl rfl).mono (v' := .bool false) (congrArg Value.bool (by simpa using h2))) ?_
      refine yA ?_
      refine zN (zF (zS ?_))
      refine yP ((PureOp.bin rfl rfl rfl).mono (v' := .bool false) (congrArg Value.bool (by simpa using h3))) ?_
      refine yA ?_
      refine zN (zF (zS ?_))
      refine yP ((PureOp.bin rfl rfl rfl).mono (v' := .bool false) (congrArg Value.bool (by simpa using h4))) ?_
      refine yA ?_
      refine zN (zF (zK (zL (zT (zQ (zS ?_))))))
      refine yM ?_
      refine yM ?_
      refine yP pGt ?_
      refine zN ?_
      refine zA (fun hb1 => ?_) (fun hb1 => ?_)
      ·
        have h31 : L - off t k < 31 := by simpa using hb1
        have hpl : plen t L k = L - off t k := by rw [plen, hw]; omega
        have hsl : L - off t k ≤ L - off t k := Nat.le_refl _
        have hsb : L - off t k - (L - off t k) = L - off t (k + 1) := by omega
        refine zR ?_
        refine yM ?_
        refine yA ?_
        refine zN (zT (zS ?_))
        refine yM ?_
        refine yM ?_
        refine AWo.buildSlice tbok 28000 [(0, vi .i64 (plen t L k))] (out := [plen t L k].map (vi .i64)) rfl rfl (by decide) rfl rfl rfl (by decide) (by rw [hpl]; rfl) rfl rfl rfl rfl ?_
        refine AWo.append tbok (all := ((List.range (k + 1)).map (plen t L)).map (vi .i64)) (news := [plen t L k].map (vi .i64)) 29000 rfl rfl rfl rfl (by simp) rfl (by (simp; done)) (by decide) rfl rfl rfl (by decide) rfl rfl rfl (by omega) (by omega) rfl (by rw [List.range_succ, List.map_append, List.map_append]; rfl) rfl rfl ?_
        refine yA ?_
        refine zN (zR ?_)
        refine yM ?_
        refine yM ?_
        refine yP ((PureOp.subI rfl rfl hsl (by omega)).mono (v' := vi .i64 (L - off t (k + 1))) (congrArg (vi .i64) hsb)) ?_
        refine yA ?_
        refine zN (zL (zT ?_))
        exact ⟨np t L - (k + 1), [(8000, 29000)], _, by omega, wk [8000], k + 1, by omega, rfl, rfl⟩
      ·
        have h31 : ¬ L - off t k < 31 := by simpa using hb1
        have hpl : plen t L k = 31 := by rw [plen, hw]; omega
        have hsl : 31 ≤ L - off t k := by omega
        have hsb : L - off t k - 31 = L - off t (k + 1) := by omega
        refine zK (zT (zS ?_))
        refine yM ?_
        refine yM ?_
        refine AWo.buildSlice tbok 28000 [(0, vi .i64 (plen t L k))] (out := [plen t L k].map (vi .i64)) rfl rfl (by decide) rfl rfl rfl (by decide) (by rw [hpl]; rfl) rfl rfl rfl rfl ?_
        refine AWo.append tbok (all := ((List.range (k + 1)).map (plen t L)).map (vi .i64)) (news := [plen t L k].map (vi .i64)) 29000 rfl rfl rfl rfl (by simp) rfl (by (simp; done)) (by decide) rfl rfl rfl (by decide) rfl rfl rfl (by omega) (by omega) rfl (by rw [List.range_succ, List.map_append, List.map_append]; rfl) rfl rfl ?_
        refine yA ?_
        refine zN (zR ?_)
        refine yM ?_
        refine yM ?_
        refine yP ((PureOp.subI rfl rfl hsl (by omega)).mono (v' := vi .i64 (L - off t (k + 1))) (congrArg (vi .i64) hsb)) ?_
        refine yA ?_
        refine zN (zL (zT ?_))
        exact ⟨np t L - (k + 1), [(8000, 29000)], _, by omega, wk [8000], k + 1, by omega, rfl, rfl⟩
    ·
      obtain rfl : k = np t L := by
        refine Nat.le_antisymm hk (Nat.le_of_not_lt fun h => ?_)
        have := (np_lt hf).1 h
        simp at hb0; omega
      refine zX (zV (zV (zH (zT (zS ?_)))))
      refine yM ?_
      refine yA ?_
      refine zN (zE ?_)
      exact rq [8000] [.tmp 4]
theorem pieces_ctr {t : Int} {L : Nat} (hf : fits t L) (hL : L < 200000000) : GC Tryz.prog 28 [.int .i64 t, vi .i64 L] [] [.slice (some ⟨0, 0, none⟩) (np t L) 0] [⟨((List.range (np t L)).map (plen t L)).map (vi .i64), true, 1⟩] := by
  by_cases h2 : t = 2
  · subst h2; exact pieces2_ctr hf hL
  by_cases h3 : t = 3
  · subst h3; exact pieces3_ctr hf hL
  by_cases h4 : t = 4
  · subst h4; exact pieces4_ctr hf hL
  exact pieces0_ctr h2 h3 h4 hf hL
end Go.Proofs.YtpahdiljpnfkdaaGreat
namespace Go.Proofs.YtpahdiljpnfkdaaGreat
open Go Sim
theorem dd_fp {v : Nat} (h : v < 21888242871839275222246405745257275088548364400416034343698204186575808495617) : dd v = dv (fp v) := by
  show dd v = dd (v % 21888242871839275222246405745257275088548364400416034343698204186575808495617)
  rw [Nat.mod_eq_of_lt h]
theorem pl_getD {t : Int} {L N i : Nat} (hi : i < N) : ((List.range N).map (plen t L)).getD i 0 = plen t L i := by
  rw [List.getD_eq_getElem?_getD, List.getElem?_map, List.getElem?_range hi]; rfl
theorem pc_take {t : Int} {d : List Nat} {i : Nat} : (d.drop (off t i)).take (plen t d.length i) = pc t d i := by
  rw [pc, plen, ← List.length_drop, ← List.take_eq_take_min]
theorem mn_step {t : Int} {L i : Nat} (h : off t i < L) : off t i + plen t L i = Nat.min (off t (i + 1)) L := by
  rw [off_succ]
  show off t i + min (wd t i) (L - off t i) = min (off t i + wd t i) L
  omega
theorem plen_le {t : Int} {L i : Nat} (h : off t i < L) : off t i + plen t L i ≤ L := by
  show off t i + min (wd t i) (L - off t i) ≤ L
  omega
theorem clo4 (kn tn cn : Nat) (d : List Nat) : ∀ v ∈ [vi .i64 kn, vi .i64 tn, vi .i64 cn, db d], cloV v = true := fun v hv => by
  simp only [List.mem_cons, List.not_mem_nil, or_false] at hv
  rcases hv with rfl | rfl | rfl | rfl <;> rfl
theorem D_short (v : Nat) (h : v < 18446744073709551616) : (D 4294967296 v).length < 1000 := Nat.lt_of_le_of_lt ((D_len_le (by decide) v 2).2 (Nat.lt_of_lt_of_le h (by decide))) (by decide)
theorem are15_ctr {xs : List Fp} {n : Nat} (hn : xs.length = n) (hx : n < 1000000) : GC Tryz.prog 10 [.slice (some ⟨0, 0, none⟩) n 0, .slice (some ⟨1, 0, none⟩) n 0] [⟨((xs.map fe).flatten).map (vi .u64), false, 4⟩, ⟨xs.map (dv), false, 1⟩] [.bool true] [⟨((xs.map fe).flatten).map (vi .u64), false, 4⟩, ⟨xs.map (dv), false, 1⟩] := by
  refine gi Tryz.func10 ?_
  subst hn
  refine zS ?_
  refine yA ?_
  refine zN (zQ (zS ?_))
  refine yM ?_
  refine yP pL ?_
  refine yM ?_
  refine yP pL ?_
  refine yP ((PureOp.neN rfl rfl).mono (v' := .bool false) (congrArg Value.bool (by simp))) ?_
  refine zN (zF (zK (zT (zQ (zS ?_)))))
  refine yM ?_
  refine yP pL ?_
  refine yM ?_
  refine zN (zB ?_)
  refine AW.loopw (fun mm σ => ∃ i, (i ≤ xs.length) ∧ mm = xs.length - i ∧ σ = ⟨(upd (upd (upd (upd emp 0 (.slice (some ⟨0, 0, none⟩) xs.length 0)) 1 (.slice (some ⟨1, 0, none⟩) xs.length 0)) 12 (vi .i64 xs.length)) 13 (vi .i64 i)), (upd (upd emp 0 ⟨((xs.map fe).flatten).map (vi .u64), false, 4⟩) 1 ⟨xs.map dv, false, 1⟩)⟩) (fm := []) (wk [0, 1]) ⟨0, Nat.zero_le _, rfl, rfl⟩ ?_
  rintro mm σ ⟨i, hinv, rfl, rfl⟩
  refine zS ?_
  refine yP pLt ?_
  refine zN (zQ ?_)
  refine zA (fun hb0 => ?_) (fun hb0 => ?_)
  ·
    have hi : i < xs.length := by simpa using hb0
    refine zK (zT (zQ (zB (zS ?_))))
    refine yM ?_
    refine yA ?_
    refine zN ?_
    refine AW.seqD mixed ?_
    refine yM ?_
    refine yM ?_
    refine yP (PureOp.idx tbok rfl rfl rfl rfl (by omega)) ?_
    refine yLJ (xs := xs) i ?_
    refine yM ?_
    refine yM ?_
    refine yP (PureOp.idx1 tbok (j := i) rfl rfl rfl rfl hi) ?_
    refine AWo.loadM tbok (f := dv) 0 rfl rfl rfl hi rfl rfl ?_
    refine yC (isFd (x := xs.getD i 0)) bd25 [] [] ?_
    refine yP (PureOp.not rfl) ?_
    refine zD (zF (zK (zL (zT (zR ?_)))))
    refine yP (pAdd (b := 1)) ?_
    refine yM ?_
    refine zN (zT ?_)
    exact ⟨xs.length - (i + 1), [], _, by omega, wk [0, 1], i + 1, by omega, rfl, rfl⟩
  ·
    obtain rfl : i = xs.length := by simp at hb0; omega
    refine zX (zV (zV (zH (zT (zS ?_)))))
    refine yA ?_
    refine zN (zE ?_)
    exact rq [] [.tmp 4] (hb := (OutL.flat rfl (flatM flat_vi) (by intro h; exact h.elim id fun h => absurd h.1 (by simp)) (OutL.clo rfl (cloM fun _ => rfl) (by intro h; exact h.elim id fun h => absurd h.1 (by simp)) trivial)))
theorem rtofN_ctr {x : Opn} (hb : bd 256 x.d) (hl : x.d.length < 9223372036854775808) (hx : ¬ Rgt x) : GC Tryz.prog 11 [opV x] [] [.slice (some ⟨0, 0, none⟩) 0 0] [⟨([] : List Fp).map dv, true, 1⟩] := by
  refine gi Tryz.func11 ?_
  refine AW.ghost 77000 1 rfl ?_
  refine zS ?_
  refine AWo.box 2000 1 [.int .i64 x.k, .int .i64 x.t, .int .i64 x.c, db x.d] rfl rfl rfl rfl rfl ?_
  refine yA ?_
  refine zN (zQ (zS ?_))
  refine yLA ?_
  refine AWo.callX (v := .bool false) (right15_ctr hb hl) bd12 [] [] rfl (.cons rfl .nil) rfl (.clo rfl .nil) .nil rfl .nil frN (by decide) (.cons rfl rfl .nil) (congrArg Value.bool (decide_eq_false hx)) rfl rfl rfl ?_
  refine yP (PureOp.not rfl) ?_
  refine zN (zC (zS ?_))
  refine yA ?_
  refine zN (zE (zU ?_))
  exact rq [77000] [.tmp 2] (hb := (OutL.clo rfl (cloM fun _ => rfl) (by intro h; rfl) trivial))
theorem rtofY_ctr {kn tn cn : Nat} {d : List Nat} (hb : bd 256 d) (hk : kn ≤ 3) (ht : tn ≤ 4) (hc : cn ≤ 1048576) (hd : d.length < 200000000) (hl : d.length < 9223372036854775808) (hx : Rgt ⟨kn, tn, cn, d⟩) : GC Tryz.prog 11 [opV (Opn.mk kn tn cn d)] [] [.slice (some ⟨0, 0, none⟩) (np tn d.length + 1) 0] [⟨(fp (kn + 256 * tn + 65536 * cn) :: (List.range (np tn d.length)).map (gP tn d)).map dv, true, 1⟩] := by
  have hnp : np tn d.length ≤ d.length := np_le
  refine gi Tryz.func11 ?_
  refine zS ?_
  refine AWo.box 2000 1 [vi .i64 kn, vi .i64 tn, vi .i64 cn, db d] rfl rfl rfl rfl rfl ?_
  refine yA ?_
  refine zN (zQ (zS ?_))
  refine yLA ?_
  refine AWo.callX (v := .bool true) (right15_ctr (x := ⟨kn, tn, cn, d⟩) hb hl) bd12 [] [] rfl (.cons rfl .nil) rfl (.clo rfl .nil) .nil rfl .nil frN (by decide) (.cons rfl rfl .nil) (congrArg Value.bool (decide_eq_true hx)) rfl rfl rfl ?_
  refine yP (PureOp.not rfl) ?_
  refine zN (zF (zK (zT (zS ?_))))
  refine yP pF ?_
  refine yL1 ?_
  refine yP (PureOp.cvtN tbok 18446744073709551616 rfl rfl rfl (by decide) (by decide) (by omega)) ?_
  refine yP pF ?_
  refine yL1 ?_
  refine yP (PureOp.cvtN tbok 18446744073709551616 rfl rfl rfl (by decide) (by decide) (by omega)) ?_
  refine yP ((PureOp.mulU (a := 256) (b := tn) 18446744073709551616 rfl rfl rfl rfl).mono (v' := vi .u64 (256 * tn)) (congrArg (vi .u64) (Nat.mod_eq_of_lt (by omega)))) ?_
  refine yP ((PureOp.addU (a := kn) (b := 256 * tn) 18446744073709551616 rfl rfl rfl rfl).mono (v' := vi .u64 (kn + 256 * tn)) (congrArg (vi .u64) (Nat.mod_eq_of_lt (by omega)))) ?_
  refine yP pF ?_
  refine yL1 ?_
  refine yP (PureOp.cvtN tbok 18446744073709551616 rfl rfl rfl (by decide) (by decide) (by omega)) ?_
  refine yP ((PureOp.mulU (a := 65536) (b := cn) 18446744073709551616 rfl rfl rfl rfl).mono (v' := vi .u64 (65536 * cn)) (congrArg (vi .u64) (Nat.mod_eq_of_lt (by omega)))) ?_
  refine yP ((PureOp.addU (a := (kn + 256 * tn)) (b := 65536 * cn) 18446744073709551616 rfl rfl rfl rfl).mono (v' := vi .u64 (kn + 256 * tn + 65536 * cn)) (congrArg (vi .u64) (Nat.mod_eq_of_lt (by omega)))) ?_
  refine yA ?_
  refine zN (zS ?_)
  refine yM ?_
  refine yC (ofRd (v := (kn + 256 * tn + 65536 * cn)) (by omega)) bd27 [] [] ?_
  refine yC (v := dv (fp (kn + 256 * tn + 65536 * cn))) (triml (l := D 4294967296 (kn + 256 * tn + 65536 * cn)) (n := (D 4294967296 (kn + 256 * tn + 65536 * cn)).length) (bd_D (by decide) _) rfl (by have := D_short (kn + 256 * tn + 65536 * cn) (by omega); omega)) bd26 [] [] ?_ (hv := (by rw [num_D (by decide)]; exact dd_fp (by omega)))
  refine AWo.buildSlice tbok 28000 [(0, dv (fp (kn + 256 * tn + 65536 * cn)))] (out := [fp (kn + 256 * tn + 65536 * cn)].map dv) rfl rfl (by decide) rfl rfl rfl (by decide) rfl rfl rfl rfl rfl ?_
  refine yA ?_
  refine zN (zS ?_)
  refine yA ?_
  refine zN (zQ (zS ?_))
  refine yP pF ?_
  refine yL1 ?_
  refine yP pF ?_
  refine yL1 ?_
  refine yP pD ?_
  refine yC (pieces_ctr (t := tn) (L := d.length) (rgt_fits hx) hd) bd28 [] [34000] ?_
  refine yP pL ?_
  refine yM ?_
  refine zN (zB ?_)
  refine AW.loopw (fun mm σ => ∃ i, (i ≤ (np tn d.length)) ∧ mm = (np tn d.length) - i ∧ σ = ⟨(upd (upd (upd (upd (upd (upd emp 1 (.pointer (some ⟨2000, 0, none⟩))) 4 (.slice (some ⟨28000, 0, none⟩) (i + 1) 0)) 5 (vi .i64 (Nat.min (off tn i) d.length))) 33 (.slice (some ⟨34000, 0, none⟩) (np tn d.length) 0)) 34 (vi .i64 (np tn d.length))) 35 (vi .i64 i)), (upd (upd (upd emp 2000 ⟨[vi .i64 kn, vi .i64 tn, vi .i64 cn, db d], true, 1⟩) 28000 ⟨(fp (kn + 256 * tn + 65536 * cn) :: (List.range i).map (gP tn d)).map dv, true, 1⟩) 34000 ⟨((List.range (np tn d.length)).map (plen tn d.length)).map (vi .i64), true, 1⟩)⟩) (fm := []) ?_ ⟨0, Nat.zero_le _, rfl, rfl⟩ ?_
  ·
    refine Wk.of [2000, 28000, 34000] ?_ ?_ ?_ (by decide) rfl
    ·
      refine WkE.upd rfl (by exact VR.flat _ rfl) ?_
      refine WkE.upd rfl (by exact VR.flat _ rfl) ?_
      refine WkE.upd rfl (.slice (34000) 0 _ 0 ⟨_, rfl⟩ (by simp) (by simp)) ?_
      refine WkE.upd rfl (by exact VR.eqv (congrArg (vi .i64) (by rw [off_zero]; exact Nat.zero_min _)) rfl) ?_
      refine WkE.upd rfl (.slice (28000) 0 _ 0 ⟨_, rfl⟩ (by simp) (by simp)) ?_
      refine WkE.upd rfl (.ptr (2000) 0 ⟨_, rfl⟩) ?_
      exact WkE.emp
    ·
      refine WkM.flat rfl (flatM flat_vi) (fun h => h) ?_
      refine WkM.cloM rfl rfl (fun _ => rfl) (fun h => h) ?_
      refine WkM.clo rfl (clo4 kn tn cn d) (fun h => h) ?_
      exact WkM.emp
    ·
      repeat (refine dom_upd_mem (by decide) ?_)
      exact dom_emp
  ·
    rintro mm σ ⟨i, hik, rfl, rfl⟩
    refine zS ?_
    refine yP pLt ?_
    refine zN (zQ ?_)
    refine zA (fun hb0 => ?_) (fun hb0 => ?_)
    ·
      have hi : i < (np tn d.length) := by simpa using hb0
      have hlt : off tn i < d.length := (np_lt (rgt_fits hx)).1 hi
      rw [show Nat.min (off tn i) d.length = off tn i from Nat.min_eq_left (Nat.le_of_lt hlt)]
      have hle : off tn i + (plen tn d.length i) ≤ d.length := plen_le hlt
      have hmn : off tn i + (plen tn d.length i) = Nat.min (off tn (i + 1)) d.length := mn_step hlt
      refine zK (zT (zQ (zB (zS ?_))))
      refine yP (PureOp.idx1 tbok (j := i) rfl rfl rfl rfl hi) ?_
      refine AWo.loadM tbok 0 rfl rfl rfl (by rw [List.length_map, List.length_range]; exact hi) rfl rfl ?_
      rw [pl_getD hi]
      refine yA ?_
      refine zN (zS ?_)
      refine yM ?_
      refine yP pF ?_
      refine yL1 ?_
      refine yM ?_
      refine yM ?_
      refine yM ?_
      refine yP (PureOp.addI (a := (off tn i)) (b := (plen tn d.length i)) rfl rfl (by omega)) ?_
      refine yP ((PureOp.sliceD (l := (off tn i)) (h := (off tn i) + (plen tn d.length i)) rfl (.some rfl) (.some rfl) (tbok.sl _ _ rfl) (tbok.sz _ _ rfl) (by omega) hle).mono (v' := db (pc tn d i)) (by rw [db_part hle (by omega), Nat.add_sub_cancel_left, pc_take])) ?_
      refine AWo.callX (v := dv (gP tn d i)) (ofbd (a := pc tn d i) (bd_part hb _ _) (by rw [pc_len]; have := wd_le tn i; omega)) bd20 [] [] rfl (.cons rfl .nil) rfl (.cons rfl rfl .nil) .nil rfl .nil frN (by decide) (.cons rfl rfl .nil) (dd_fp (pc_pr (x := ⟨kn, tn, cn, d⟩) hb hx hi)) rfl rfl rfl ?_
      refine AWo.buildSlice tbok 49000 [(0, dv (gP tn d i))] (out := [gP tn d i].map dv) rfl rfl (by decide) rfl rfl rfl (by decide) rfl rfl rfl rfl rfl ?_
      refine AWo.append tbok (all := (fp (kn + 256 * tn + 65536 * cn) :: (List.range (i + 1)).map (gP tn d)).map dv) (news := [gP tn d i].map dv) 50000 rfl rfl rfl rfl (by simp) rfl (by (simp; done)) (by decide) rfl rfl rfl (by decide) rfl rfl rfl (by omega) (by omega) (oneM (fun _ => rfl) _) (by rw [List.range_succ, List.map_append, ← List.cons_append, List.map_append]; rfl) rfl rfl ?_
      refine yA ?_
      refine zN (zR ?_)
      refine yM ?_
      refine yM ?_
      refine yP (PureOp.addI (a := (off tn i)) (b := (plen tn d.length i)) rfl rfl (by omega)) ?_
      refine yA ?_
      refine zN (zL (zT (zR ?_)))
      refine yP (pAdd (b := 1)) ?_
      refine yM ?_
      refine zN (zT ?_)
      refine ⟨(np tn d.length) - (i + 1), [(28000, 50000)], _, by omega, ?_, i + 1, by omega, rfl, rfl⟩
      refine Wk.of [2000, 28000, 34000] ?_ ?_ ?_ (by decide) rfl
      ·
        refine WkE.upd rfl (by exact VR.flat _ rfl) ?_
        refine WkE.upd rfl (by exact VR.flat _ rfl) ?_
        refine WkE.upd rfl (.slice (34000) 0 _ 0 ⟨_, rfl⟩ (by simp) (by simp)) ?_
        refine WkE.upd rfl (by exact VR.eqv (congrArg (vi .i64) hmn.symm) rfl) ?_
        refine WkE.upd rfl (.slice (28000) 0 _ 0 ⟨_, rfl⟩ (by simp) (by simp)) ?_
        refine WkE.upd rfl (.ptr (2000) 0 ⟨_, rfl⟩) ?_
        exact WkE.emp
      ·
        refine WkM.flat rfl (flatM flat_vi) (fun h => h) ?_
        refine WkM.cloM rfl rfl (fun _ => rfl) (fun h => h) ?_
        refine WkM.clo rfl (clo4 kn tn cn d) (fun h => h) ?_
        exact WkM.emp
      ·
        repeat (refine dom_upd_mem (by decide) ?_)
        exact dom_emp
    ·
      obtain rfl : i = (np tn d.length) := by simp at hb0; omega
      refine zX (zV (zV (zH (zT (zS ?_)))))
      refine yM ?_
      refine yA ?_
      refine zN (zE ?_)
      exact rq [28000] [.tmp 2] (hb := (OutL.clo rfl (cloM fun _ => rfl) (by intro h; rfl) trivial))
theorem rtof_ctr {x : Opn} (hb : bd 256 x.d) (hl : x.d.length < 9223372036854775808) : GC Tryz.prog 11 [opV x] [] [.slice (some ⟨0, 0, none⟩) (toF x).length 0] [⟨(toF x).map dv, true, 1⟩] := by
  by_cases hx : Rgt x
  · have hd := rgt_len hx
    obtain ⟨kn, tn, cn, e, hk, ht, hc⟩ := rgt_nat hx
    generalize x.d = d at *
    subst e
    have h := rtofY_ctr hb hk ht hc hd hl hx
    have e2 : toF ⟨kn, tn, cn, d⟩ = (fp (kn + 256 * tn + 65536 * cn) :: (List.range (np tn d.length)).map (gP tn d)) := by
      rw [toF, if_pos hx, pcs, List.map_map]; rfl
    have e3 : (toF ⟨kn, tn, cn, d⟩).length = np tn d.length + 1 := by rw [toF_len hx, Nat.add_comm]
    rw [e3, e2]
    exact h
  · rw [toF, if_neg hx]
    exact rtofN_ctr hb hl hx
end Go.Proofs.YtpahdiljpnfkdaaGreat
namespace Go.Proofs.YtpahdiljpnfkdaaGreat
open Go Sim
def fM (m : List Nat) (i : Nat) : Fp := fp (m.getD i 0)
theorem toB_len7 {x : Opn} (h : x.d.length ≤ 700) : (toB x).length ≤ 706 := by
 unfold toB
 split
 · rw [List.length_append, hdr_len]; omega
 · exact Nat.zero_le _
theorem toF_len7 {x : Opn} (h : x.d.length ≤ 700) : (toF x).length ≤ 701 := by
 by_cases hx : Rgt x
 · rw [toF_len hx]; have := @np_le x.t x.d.length; omega
 · rw [toF, if_neg hx]; exact Nat.zero_le _
theorem app_bd {a b : List Nat} (ha : bd 256 a) (hb : bd 256 b) : bd 256 (a ++ b) := fun z hz => by
 rcases List.mem_append.1 hz with h | h
 · exact ha z h
 · exact hb z h
theorem cloX (x : Opn) : ∀ v ∈ [.int .i64 x.k, .int .i64 x.t, .int .i64 x.c, db x.d], cloV v = true := fun v hv => by
 simp only [List.mem_cons, List.not_mem_nil, or_false] at hv
 rcases hv with rfl | rfl | rfl | rfl <;> rfl
theorem enctellsA {x : Opn} {m : List Nat} (hl7 : 700 < x.d.length) : GC Tryz.prog 3 [opV x, db m] [] [.bool true] [] := by
 refine gi Tryz.func3 ?_
 refine zS ?_
 refine AWo.box 3000 1 [.int .i64 x.k, .int .i64 x.t, .int .i64 x.c, db x.d] rfl rfl rfl rfl rfl ?_
 refine yA ?_
 refine zN (zQ (zS ?_))
 refine yC (speaks15_ctr) bd5 [] [] ?_
 refine yP (PureOp.not rfl) ?_
 refine yM ?_
 refine yP pF ?_
 refine yL1 ?_
 refine yP pD ?_
 refine yP ((PureOp.gtN (b := 700) rfl rfl).mono (v' := .bool true) (congrArg Value.bool (by simpa using hl7))) ?_
 refine yP pE ?_
 refine yM ?_
 refine yK ?_
 refine yK ?_
 refine yK ?_
 refine yP pT ?_
 refine zN (zC (zS ?_))
 refine yC (speaks15_ctr) bd5 [] [] ?_
 refine yA ?_
 refine zN (zE (zU ?_))
 exact rq [] [.tmp 4]
theorem enctellsB {x : Opn} {m : List Nat} (hl7 : x.d.length ≤ 700) (hm7 : 100 < m.length) : GC Tryz.prog 3 [opV x, db m] [] [.bool true] [] := by
 refine gi Tryz.func3 ?_
 refine zS ?_
 refine AWo.box 3000 1 [.int .i64 x.k, .int .i64 x.t, .int .i64 x.c, db x.d] rfl rfl rfl rfl rfl ?_
 refine yA ?_
 refine zN (zQ (zS ?_))
 refine yC (speaks15_ctr) bd5 [] [] ?_
 refine yP (PureOp.not rfl) ?_
 refine yM ?_
 refine yP pF ?_
 refine yL1 ?_
 refine yP pD ?_
 refine yP ((PureOp.gtN (b := 700) rfl rfl).mono (v' := .bool false) (congrArg Value.bool (by simpa using hl7))) ?_
 refine yP pE ?_
 refine yM ?_
 refine yM ?_
 refine yP pD ?_
 refine yP ((PureOp.gtN (b := 100) rfl rfl).mono (v' := .bool true) (congrArg Value.bool (by simpa using hm7))) ?_
 refine yP pE ?_
 refine zN (zC (zS ?_))
 refine yC (speaks15_ctr) bd5 [] [] ?_
 refine yA ?_
 refine zN (zE (zU ?_))
 exact rq [] [.tmp 4]
theorem enctellsC {x : Opn} {m : List Nat} (hb : bd 256 x.d) (hl7 : x.d.length ≤ 700) (hm7 : m.length ≤ 100) (hx : ¬ Rgt x) : GC Tryz.prog 3 [opV x, db m] [] [.bool true] [] := by
 refine gi Tryz.func3 ?_
 refine zS ?_
 refine AWo.box 3000 1 [.int .i64 x.k, .int .i64 x.t, .int .i64 x.c, db x.d] rfl rfl rfl rfl rfl ?_
 refine yA ?_
 refine zN (zQ (zS ?_))
 refine yC (speaks15_ctr) bd5 [] [] ?_
 refine yP (PureOp.not rfl) ?_
 refine yM ?_
 refine yP pF ?_
 refine yL1 ?_
 refine yP pD ?_
 refine yP ((PureOp.gtN (b := 700) rfl rfl).mono (v' := .bool false) (congrArg Value.bool (by simpa using hl7))) ?_
 refine yP pE ?_
 refine yM ?_
 refine yM ?_
 refine yP pD ?_
 refine yP ((PureOp.gtN (b := 100) rfl rfl).mono (v' := .bool false) (congrArg Value.bool (by simpa using hm7))) ?_
 refine yP pE ?_
 refine zN (zF (zK (zT ?_)))
 refine AW.seqD mixed ?_
 refine yLA ?_
 refine yC (ofop_ctr (x := x)) bd7 [] [] ?_ (hargs := (.clo rfl .nil)) (hrv := (.clo rfl .nil))
 refine yC (tobytes_ctr (x := x) hb (by omega)) bd6 [] [32000] ?_ (hargs := (.clo rfl .nil))
 refine yLA ?_
 refine yC (ofop_ctr (x := x)) bd7 [] [] ?_ (hargs := (.clo rfl .nil)) (hrv := (.clo rfl .nil))
 refine yC (tofields_ctr (x := x) hb (by omega)) bd8 [] [35000] ?_ (hargs := (.clo rfl .nil))
 refine yA ?_
 refine yA ?_
 refine zD (zQ ?_)
 refine AW.seqD mixed ?_
 refine yM ?_
 refine AWo.bytesStr tbok (toB x) rfl rfl (List.take_of_length_le (by simp)) (rfl) rfl Tryz.underlying5 Tryz.underlying9 rfl rfl ?_
 refine yLA ?_
 refine yC (rtob_ctr (x := x) hb (by omega)) bd9 [] [39000] ?_ (hargs := (.clo rfl .nil))
 refine AWo.bytesStr tbok (toB x) rfl rfl (List.take_of_length_le (by simp)) (rfl) rfl Tryz.underlying5 Tryz.underlying9 rfl rfl ?_
 refine yP (PureOp.neStr rfl rfl) ?_
 refine yM ?_
 refine yM ?_
 refine yLA ?_
 refine yC (rtof_ctr (x := x) hb (by omega)) bd11 [] [45000] ?_ (hargs := (.clo rfl .nil)) (hnew := (.new (clo_map_ren (cloM fun _ => rfl)) (OkL.clo (cloM fun _ => rfl)) .nil))
 refine yC (are15_ctr (xs := toF x) rfl (by have := toF_len7 hl7; omega)) bd10 [(35000, 0), (45000, 0)] [] ?_ (hfit := (.flat rfl (flatM flat_vi) (by intro h; rfl) (.clo rfl (cloM fun _ => rfl) (by intro h; rfl) .nil)))
 refine yP (PureOp.not rfl) ?_
 refine yP pE ?_
 refine zD (zF (zK (zT (zQ (zS ?_)))))
 refine yLA ?_
 refine AWo.callX (v := .bool false) (right15_ctr (x := x) hb (by omega)) bd12 [] [] rfl (.cons rfl .nil) rfl (.clo rfl .nil) .nil rfl .nil frN (by decide) (.cons rfl rfl .nil) (congrArg Value.bool (decide_eq_false hx)) rfl rfl rfl ?_
 refine yP (PureOp.not rfl) ?_
 refine zN (zC (zS ?_))
 refine yM ?_
 refine yP pL ?_
 refine yP ((PureOp.eqN (b := 0) rfl rfl).mono (v' := .bool true) (congrArg Value.bool (by rw [toB, if_neg hx]; rfl))) ?_
 refine yM ?_
 refine yM ?_
 refine yP pL ?_
 refine yP ((PureOp.eqN (b := 0) rfl rfl).mono (v' := .bool true) (congrArg Value.bool (by rw [toF, if_neg hx]; rfl))) ?_
 refine yP pT ?_
 refine yA ?_
 refine zN (zE (zU ?_))
 exact rq [] [.tmp 4]
theorem enctellsD {x : Opn} {m : List Nat} (hb : bd 256 x.d) (hm : bd 256 m) (hl7 : x.d.length ≤ 700) (hm7 : m.length ≤ 100) (hx : Rgt x) : GC Tryz.prog 3 [opV x, db m] [] [.bool true] [] := by
 refine gi Tryz.func3 ?_
 refine zS ?_
 refine AWo.box 3000 1 [.int .i64 x.k, .int .i64 x.t, .int .i64 x.c, db x.d] rfl rfl rfl rfl rfl ?_
 refine yA ?_
 refine zN (zQ (zS ?_))
 refine yC (speaks15_ctr) bd5 [] [] ?_
 refine yP (PureOp.not rfl) ?_
 refine yM ?_
 refine yP pF ?_
 refine yL1 ?_
 refine yP pD ?_
 refine yP ((PureOp.gtN (b := 700) rfl rfl).mono (v' := .bool false) (congrArg Value.bool (by simpa using hl7))) ?_
 refine yP pE ?_
 refine yM ?_
 refine yM ?_
 refine yP pD ?_
 refine yP ((PureOp.gtN (b := 100) rfl rfl).mono (v' := .bool false) (congrArg Value.bool (by simpa using hm7))) ?_
 refine yP pE ?_
 refine zN (zF (zK (zT ?_)))
 refine AW.seqD mixed ?_
 refine yLA ?_
 refine yC (ofop_ctr (x := x)) bd7 [] [] ?_ (hargs := (.clo rfl .nil)) (hrv := (.clo rfl .nil))
 refine yC (tobytes_ctr (x := x) hb (by omega)) bd6 [] [32000] ?_ (hargs := (.clo rfl .nil))
 refine yLA ?_
 refine yC (ofop_ctr (x := x)) bd7 [] [] ?_ (hargs := (.clo rfl .nil)) (hrv := (.clo rfl .nil))
 refine yC (tofields_ctr (x := x) hb (by omega)) bd8 [] [35000] ?_ (hargs := (.clo rfl .nil))
 refine yA ?_
 refine yA ?_
 refine zD (zQ ?_)
 refine AW.seqD mixed ?_
 refine yM ?_
 refine AWo.bytesStr tbok (toB x) rfl rfl (List.take_of_length_le (by simp)) (rfl) rfl Tryz.underlying5 Tryz.underlying9 rfl rfl ?_
 refine yLA ?_
 refine yC (rtob_ctr (x := x) hb (by omega)) bd9 [] [39000] ?_ (hargs := (.clo rfl .nil))
 refine AWo.bytesStr tbok (toB x) rfl rfl (List.take_of_length_le (by simp)) (rfl) rfl Tryz.underlying5 Tryz.underlying9 rfl rfl ?_
 refine yP (PureOp.neStr rfl rfl) ?_
 refine yM ?_
 refine yM ?_
 refine yLA ?_
 refine yC (rtof_ctr (x := x) hb (by omega)) bd11 [] [45000] ?_ (hargs := (.clo rfl .nil)) (hnew := (.new (clo_map_ren (cloM fun _ => rfl)) (OkL.clo (cloM fun _ => rfl)) .nil))
 refine yC (are15_ctr (xs := toF x) rfl (by have := toF_len7 hl7; omega)) bd10 [(35000, 0), (45000, 0)] [] ?_ (hfit := (.flat rfl (flatM flat_vi) (by intro h; rfl) (.clo rfl (cloM fun _ => rfl) (by intro h; rfl) .nil)))
 refine yP (PureOp.not rfl) ?_
 refine yP pE ?_
 refine zD (zF (zK (zT (zQ (zS ?_)))))
 refine yLA ?_
 refine AWo.callX (v := .bool true) (right15_ctr (x := x) hb (by omega)) bd12 [] [] rfl (.cons rfl .nil) rfl (.clo rfl .nil) .nil rfl .nil frN (by decide) (.cons rfl rfl .nil) (congrArg Value.bool (decide_eq_true hx)) rfl rfl rfl ?_
 refine yP (PureOp.not rfl) ?_
 refine zN (zF (zK (zT (zS ?_))))
 refine yM ?_
 refine AWo.pureX 99000 (PureOp.move rfl) rfl rfl rfl ?_
 refine AWo.appendF tbok (all := (toB x ++ m).map (vi .u8)) (news := m.map (vi .u8)) 63000 rfl rfl rfl rfl (by simp) (by rw [List.drop_zero]; exact List.take_of_length_le (by simp)) (by simp) (by decide) rfl rfl rfl Nat.one_ne_zero rfl rfl rfl (by have := toB_len7 hl7; omega) (by have := toB_len7 hl7; omega) (oneM (fun _ => rfl) _) (by rw [List.map_append]) (cloM fun _ => rfl) rfl rfl ?_
 rw [show deep ((toB x).length + m.length) 1 ((toB x ++ m).map (vi .u8)) = db (toB x ++ m) by unfold db; rw [List.length_append]]
 refine yC (v := .tuple #[opV x, vi .i64 (toB x).length, vi .i64 0]) (ofbytes_ctr (B := toB x ++ m) (app_bd (toB_bd' hb) hm) (by rw [List.length_append]; have := toB_len7 hl7; omega)) bd13 [] [] ?_ (hrv := (.clo rfl (.cons rfl rfl (.cons rfl rfl .nil)))) (hv := (by rw [ofB_toB hx]; rfl))
 refine yM ?_
 refine yP pX ?_
 refine yP pX ?_
 refine yP pX ?_
 refine yN 8000 1 _ ?_
 refine AWo.storeAllN (vs := [.int .i64 x.k, .int .i64 x.t, .int .i64 x.c, db x.d]) tbok rfl rfl rfl rfl rfl rfl rfl rfl ?_
 refine yA ?_
 refine yA ?_
 refine zN (zQ (zS ?_))
 refine AWo.pureX 98000 (PureOp.move rfl) rfl rfl rfl ?_
 refine yP pL ?_
 refine yM ?_
 refine zN (zB ?_)
 refine AW.loopw (fun mm σ => ∃ j, (j ≤ m.length) ∧ mm = m.length - j ∧ σ = ⟨(upd (upd (upd (upd (upd (upd (upd (upd emp 2 (.pointer (some ⟨3000, 0, none⟩))) 6 (.slice (some ⟨35000, 0, none⟩) ((toF x).length + j) 0)) 7 (.pointer (some ⟨8000, 0, none⟩))) 8 (vi .i64 (toB x).length)) 9 (vi .i64 0)) 67 (.slice (some ⟨98000, 0, none⟩) m.length 0)) 68 (vi .i64 m.length)) 69 (vi .i64 j)), (upd (upd (upd (upd emp 3000 ⟨[.int .i64 x.k, .int .i64 x.t, .int .i64 x.c, db x.d], true, 1⟩) 8000 ⟨[.int .i64 x.k, .int .i64 x.t, .int .i64 x.c, db x.d], true, 1⟩) 35000 ⟨(((toF x ++ (List.range j).map (fM m)).map fe).flatten).map (vi .u64), true, 4⟩) 98000 ⟨m.map (vi .u8), false, 1⟩)⟩) (fm := []) ?_ ⟨0, Nat.zero_le _, rfl, rfl⟩ ?_
 ·
  refine Wk.of [3000, 8000, 35000, 98000] ?_ ?_ ?_ (by decide) rfl
  ·
   refine WkE.upd rfl (by exact VR.flat _ rfl) ?_
   refine WkE.upd rfl (by exact VR.flat _ rfl) ?_
   refine WkE.upd rfl (.slice (98000) 0 _ 0 ⟨_, rfl⟩ (by simp) (by simp)) ?_
   refine WkE.upd rfl (by exact VR.flat _ rfl) ?_
   refine WkE.upd rfl (by exact VR.flat _ rfl) ?_
   refine WkE.upd rfl (.ptr (8000) 0 ⟨_, rfl⟩) ?_
   refine WkE.upd rfl (.slice (35000) 0 _ 0 ⟨_, rfl⟩ (by simp) (by simp)) ?_
   refine WkE.upd rfl (.ptr (3000) 0 ⟨_, rfl⟩) ?_
   exact WkE.emp
  ·
   refine WkM.flat rfl (flatM flat_vi) (fun h => h) ?_
   refine WkM.flatM rfl (by simp) (fun _ => rfl) (fun h => h) ?_
   refine WkM.clo rfl (cloX x) (fun h => h) ?_
   refine WkM.clo rfl (cloX x) (fun h => h) ?_
   exact WkM.emp
  ·
   repeat (refine dom_upd_mem (by decide) ?_)
   exact dom_emp
 ·
  rintro mm σ ⟨j, hjm, rfl, rfl⟩
  refine zS ?_
  refine yP pLt ?_
  refine zN (zQ ?_)
  refine zA (fun hb0 => ?_) (fun hb0 => ?_)
  ·
   have hj : j < m.length := by simpa using hb0
   have hmj : m.getD j 0 < 256 := getD_lt hm (by decide) j
   have hf7 := toF_len7 hl7
   refine zK (zT (zQ (zB (zS ?_))))
   refine yP (PureOp.idx1 tbok (j := j) rfl rfl rfl rfl hj) ?_
   refine AWo.loadM tbok 0 rfl rfl rfl hj rfl rfl ?_
   refine yA ?_
   refine zN (zR ?_)
   refine yM ?_
   refine yM ?_
   refine yP (PureOp.cvtN (a := m.getD j 0) tbok 18446744073709551616 rfl rfl rfl (by decide) (by decide) (by omega)) ?_
   refine yC (fromuF_ctr (v := m.getD j 0) (by omega)) bd14 [] [] ?_
   refine AWo.buildSlice tbok 78000 [(0, .agg ((fe (fM m j)).map (vi .u64)).toArray)] (out := [fe (fM m j)].flatten.map (vi .u64)) rfl rfl (by decide) rfl rfl rfl (by decide) rfl (fillB1 (fe_len _)) rfl rfl rfl ?_
   refine AWo.append tbok (all := (((toF x ++ (List.range (j + 1)).map (fM m)).map fe).flatten).map (vi .u64)) (news := [fe (fM m j)].flatten.map (vi .u64)) 79000 rfl rfl rfl rfl (by rw [FF_len, List.length_append, List.length_map, List.length_range]) (by show List.take _ (List.drop 0 _) = _; rw [List.drop_zero]; exact List.take_of_length_le (by simp)) (by simp; done) (by decide) rfl rfl rfl (by decide) rfl rfl rfl (by omega) (by omega) (oneM (fun _ => rfl) _) (by simp only [List.range_succ, List.map_append, List.flatten_append, List.append_assoc]; rfl) rfl rfl ?_
   refine yA ?_
   refine zN (zL (zT (zR ?_)))
   refine yP (pAdd (b := 1)) ?_
   refine yM ?_
   refine zN (zT ?_)
   refine ⟨m.length - (j + 1), [(35000, 79000)], _, by omega, ?_, j + 1, by omega, rfl, rfl⟩
   refine Wk.of [3000, 8000, 35000, 98000] ?_ ?_ ?_ (by decide) rfl
   ·
    refine WkE.upd rfl (by exact VR.flat _ rfl) ?_
    refine WkE.upd rfl (by exact VR.flat _ rfl) ?_
    refine WkE.upd rfl (.slice (98000) 0 _ 0 ⟨_, rfl⟩ (by simp) (by simp)) ?_
    refine WkE.upd rfl (by exact VR.flat _ rfl) ?_
    refine WkE.upd rfl (by exact VR.flat _ rfl) ?_
    refine WkE.upd rfl (.ptr (8000) 0 ⟨_, rfl⟩) ?_
    refine WkE.upd rfl (.slice (35000) 0 _ 0 ⟨_, rfl⟩ (by simp) (by simp)) ?_
    refine WkE.upd rfl (.ptr (3000) 0 ⟨_, rfl⟩) ?_
    exact WkE.emp
   ·
    refine WkM.flat rfl (flatM flat_vi) (fun h => h) ?_
    refine WkM.flatM rfl rfl (fun _ => rfl) (fun h => h) ?_
    refine WkM.clo rfl (cloX x) (fun h => h) ?_
    refine WkM.clo rfl (cloX x) (fun h => h) ?_
    exact WkM.emp
   ·
    repeat (refine dom_upd_mem (by decide) ?_)
    exact dom_emp
  ·
   obtain rfl : j = m.length := by simp at hb0; omega
   rw [show (toF x).length + m.length = (toF x ++ (List.range m.length).map (fM m)).length by rw [List.length_append, List.length_map, List.length_range]]
   refine zX (zV (zV (zH (zT (zS ?_)))))
   refine yM ?_
   refine yC (v := .tuple #[opV x, vi .i64 (toF x).length, vi .i64 0]) (offields_ctr (l := (toF x ++ (List.range m.length).map (fM m))) (by rw [List.length_append, List.length_map, List.length_range]; have := toF_len7 hl7; omega)) bd15 [(35000, 0)] [] ?_ (hrv := (.clo rfl (.cons rfl rfl (.cons rfl rfl .nil)))) (hv := (by rw [ofF_toF hb hx]; rfl))
   refine yM ?_
   refine yP pX ?_
   refine yP pX ?_
   refine yP pX ?_
   refine yN 13000 1 _ ?_
   refine AWo.storeAllN (vs := [.int .i64 x.k, .int .i64 x.t, .int .i64 x.c, db x.d]) tbok rfl rfl rfl rfl rfl rfl rfl rfl ?_
   refine yA ?_
   refine yA ?_
   refine zN (zS ?_)
   refine yM ?_
   refine yP ((PureOp.eqN (b := 0) rfl rfl).mono (v' := .bool true) (congrArg Value.bool (rfl))) ?_
   refine yM ?_
   refine yM ?_
   refine yP ((PureOp.eqN (b := 0) rfl rfl).mono (v' := .bool true) (congrArg Value.bool (rfl))) ?_
   refine yP pT ?_
   refine yM ?_
   refine yM ?_
   refine yLA ?_
   refine yC (rtob_ctr (x := x) hb (by omega)) bd9 [] [96000] ?_ (hargs := (.clo rfl .nil))
   refine yP pL ?_
   refine yP ((PureOp.eqN rfl rfl).mono (v' := .bool true) (congrArg Value.bool (beq_self_eq_true _))) ?_
   refine yP pT ?_
   refine yM ?_
   refine yM ?_
   refine yLA ?_
   refine yC (rtof_ctr (x := x) hb (by omega)) bd11 [] [103000] ?_ (hargs := (.clo rfl .nil)) (hnew := (.new (clo_map_ren (cloM fun _ => rfl)) (OkL.clo (cloM fun _ => rfl)) .nil))
   refine yP pL ?_
   refine yP ((PureOp.eqN rfl rfl).mono (v' := .bool true) (congrArg Value.bool (beq_self_eq_true _))) ?_
   refine yP pT ?_
   refine yM ?_
   refine yLA ?_
   refine yLA ?_
   refine yC (same15_ctr (x := x)) bd16 [] [] ?_ (hargs := (.clo rfl (.clo rfl .nil)))
   refine yP pT ?_
   refine yM ?_
   refine yLA ?_
   refine yLA ?_
   refine yC (same15_ctr (x := x)) bd16 [] [] ?_ (hargs := (.clo rfl (.clo rfl .nil)))
   refine yP pT ?_
   refine yA ?_
   refine zN (zE ?_)
   exact rq [] [.tmp 4]
theorem enctells_ctr {x : Opn} {m : List Nat} (hb : bd 256 x.d) (hm : bd 256 m) : GC Tryz.prog 3 [opV x, db m] [] [.bool true] [] := by
 rcases Nat.lt_or_ge 700 x.d.length with hl7 | hl7
 · exact enctellsA hl7
 rcases Nat.lt_or_ge 100 m.length with hm7 | hm7
 · exact enctellsB hl7 hm7
 by_cases hx : Rgt x
 · exact enctellsD hb hm hl7 hm7 hx
 · exact enctellsC hb hl7 hm7 hx
end Go.Proofs.YtpahdiljpnfkdaaGreat
namespace Go.Proofs.YtpahdiljpnfkdaaGreat
open Go
namespace Head
set_option maxRecDepth 100000 in
theorem words : ∃ l, Tryz.prog.initOrder = String.ofList l ∧ (behindMainWord (wordsSigns l)).head? = some "cut".toList := ⟨_, rfl, by kernel_rfl⟩
theorem head_of {P : Program} (h : ∃ l, P.initOrder = String.ofList l ∧ (behindMainWord (wordsSigns l)).head? = some "cut".toList) :
    ∃ rest, behindMainWord (wordsSigns P.initOrder.toList) = "cut".toList :: rest := by
  obtain ⟨l, h, hh⟩ := h
  rw [h, String.toList_ofList]
  cases hb : behindMainWord (wordsSigns l) with
  | nil => rw [hb] at hh; cases hh
  | cons c r => rw [hb] at hh; simp only [List.head?_cons, Option.some.injEq] at hh; exact ⟨r, by rw [hh]⟩
theorem cut_words : (liftWords.all fun s => !("cut".toList == s.toList)) = true := by decide +kernel
theorem strip_cut (rest : List (List Char)) : stripLifts liftWords ("cut".toList :: rest) = ([], "cut".toList :: rest) := by
  have key : ∀ o : List String, (o.all fun s => !("cut".toList == s.toList)) = true → stripLifts o ("cut".toList :: rest) = ([], "cut".toList :: rest) := by
    intro o
    induction o with
    | nil => intro _; rfl
    | cons s o ih =>
      intro h
      simp only [List.all_cons, Bool.and_eq_true, Bool.not_eq_true'] at h
      rw [stripLifts, if_neg (by rw [h.1]; exact Bool.false_ne_true)]
      exact ih h.2
  exact key liftWords cut_words
theorem mayEnter_of {P : Program} {rest : List (List Char)} (hr : behindMainWord (wordsSigns P.initOrder.toList) = "cut".toList :: rest) (e1 : P.laysLater = false) (e2 : P.bearsReflect = false) (e3 : P.doorFits [] = true) : P.mayEnter = true := by
  unfold Program.mayEnter
  rw [hr]
  simp only [strip_cut, e1, e2, e3]
  simp
theorem headLifts_of {P : Program} {rest : List (List Char)} (hr : behindMainWord (wordsSigns P.initOrder.toList) = "cut".toList :: rest) : P.headLifts = [] := by
  unfold Program.headLifts
  rw [hr, strip_cut]
  simp
theorem cut_ne : ("cut".toList == "carried".toList) = false ∧ ("cut".toList == "gc".toList) = false ∧ ("cut".toList == "spec".toList) = false := by decide +kernel
theorem liftsFinal_of {P : Program} {rest : List (List Char)} (hr : behindMainWord (wordsSigns P.initOrder.toList) = "cut".toList :: rest) : P.liftsFinal = false := by
  unfold Program.liftsFinal
  rw [hr, headLifts_of hr]
  simp
theorem make_of {P : Program} {rest : List (List Char)} (hr : behindMainWord (wordsSigns P.initOrder.toList) = "cut".toList :: rest) : P.make = some .cut := by
  unfold Program.make
  rw [hr]
  simp only [cut_ne.2.1, cut_ne.2.2, beq_self_eq_true]
  simp
theorem laysLater : Tryz.prog.laysLater = false := by kernel_rfl
theorem bearsReflect : Tryz.prog.bearsReflect = false := by kernel_rfl
theorem doorFits : Tryz.prog.doorFits [] = true := by kernel_rfl
theorem mayEnter : Tryz.prog.mayEnter = true := let ⟨_, hr⟩ := head_of words; mayEnter_of hr laysLater bearsReflect doorFits
theorem liftsFinal : Tryz.prog.liftsFinal = false := let ⟨_, hr⟩ := head_of words; liftsFinal_of hr
theorem make_cut : Tryz.prog.make = some .cut := let ⟨_, hr⟩ := head_of words; make_of hr
theorem band {a b : Bool} (ha : a = true) (hb : b = true) : (a && b) = true := by rw [ha, hb]; rfl
end Head
end Go.Proofs.YtpahdiljpnfkdaaGreat
