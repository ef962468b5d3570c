/- What the proof stands on, part 6: the walk of each function, and plain laws of numbers. -/
import Derived.Test.YtpahdiljpnfkdaaGreatK5
import Derived.Test.YtpahdiljpnfkdaaGreatRows
import Derived.ProofKit
namespace Go.Proofs.YtpahdiljpnfkdaaGreat
open Go Sim
theorem and255 (n : Nat) : n &&& 255 = n % 256 := Nat.and_two_pow_sub_one_eq_mod n 8
theorem begun_ctr {n : Nat} (hn : n < 18446744073709551616) : GC Tryz.prog 32 [vi .u64 (n)] [] [.agg #[vi .i64 (n % 256), vi .i64 (n / 256 % 256), vi .i64 (n / 65536), .slice none 0 0], .bool (decide (itC (bgn n).k (bgn n).t (bgn n).c = 0))] [] := by
  refine gi Tryz.func32 ?_
  refine zS ?_
  refine yN 3000 1 _ ?_
  refine yA ?_
  refine zN (zS ?_)
  refine yM ?_
  refine yP ((PureOp.andN (a := n) (b := 255) 18446744073709551616 rfl rfl (by decide) (by decide) (by omega) (by omega)).mono (v' := vi .u64 (n % 256)) (congrArg (vi .u64) (and255 _))) ?_
  refine yP (PureOp.cvtN (a := n % 256) tbok 9223372036854775808 rfl rfl rfl (by decide) (by decide) (by omega)) ?_
  refine yM ?_
  refine yP ((PureOp.shrN (a := n) (b := 8) 64 rfl rfl rfl (by decide)).mono (v' := vi .u64 (n / 256)) rfl) ?_
  refine yP ((PureOp.andN (a := n / 256) (b := 255) 18446744073709551616 rfl rfl (by decide) (by decide) (by omega) (by omega)).mono (v' := vi .u64 (n / 256 % 256)) (congrArg (vi .u64) (and255 _))) ?_
  refine yP (PureOp.cvtN (a := n / 256 % 256) tbok 9223372036854775808 rfl rfl rfl (by decide) (by decide) (by omega)) ?_
  refine yM ?_
  refine yP ((PureOp.shrN (a := n) (b := 16) 64 rfl rfl rfl (by decide)).mono (v' := vi .u64 (n / 65536)) rfl) ?_
  refine yP (PureOp.cvtN (a := n / 65536) tbok 9223372036854775808 rfl rfl rfl (by decide) (by decide) (by omega)) ?_
  refine yP ((PureOp.buildStruct [(0, vi .i64 (n % 256)), (1, vi .i64 (n / 256 % 256)), (2, vi .i64 (n / 65536))] pl27.choose_spec.1 zr27 (by decide) pl27.choose_spec.2 rfl rfl).mono (v' := .agg #[vi .i64 (n % 256), vi .i64 (n / 256 % 256), vi .i64 (n / 65536), .slice none 0 0]) rfl) ?_
  refine yN 5000 1 _ ?_
  refine AWo.storeAllN (vs := [vi .i64 (n % 256), vi .i64 (n / 256 % 256), vi .i64 (n / 65536), .slice none 0 0]) tbok rfl rfl rfl rfl rfl rfl rfl rfl ?_
  refine zN ?_
  refine AW.seqD mixed ?_
  refine yLA ?_
  refine yP pF ?_
  refine yL1 ?_
  refine yP pF ?_
  refine yL1 ?_
  refine yP pF ?_
  refine yL1 ?_
  refine yP ((PureOp.buildStruct [(0, vi .i64 (n % 256)), (1, vi .i64 (n / 256 % 256)), (2, vi .i64 (n / 65536))] pl89.choose_spec.1 zr89 (by decide) pl89.choose_spec.2 rfl rfl).mono (v' := itV (bgn n).k (bgn n).t (bgn n).c) rfl) ?_
  refine yC (itck_ctr (k := (bgn n).k) (t := (bgn n).t) (c := (bgn n).c)) bd48 [] [] ?_
  refine yP ((PureOp.eqN (b := 0) rfl rfl).mono (v' := .bool (decide (itC (bgn n).k (bgn n).t (bgn n).c = 0))) rfl) ?_
  refine AWo.storeAllN (vs := [vi .i64 (n % 256), vi .i64 (n / 256 % 256), vi .i64 (n / 65536), .slice none 0 0]) tbok rfl rfl rfl rfl rfl rfl rfl rfl ?_
  refine yA ?_
  refine zD (zE ?_)
  exact rq [] [.cell 2 27, .tmp 3]
theorem same15_ctr {x : Opn} : GC Tryz.prog 16 [opV x, opV x] [] [.bool true] [] := by
  refine gi Tryz.func16 ?_
  refine zS ?_
  refine AWo.box 3000 1 [.int .i64 x.k, .int .i64 x.t, .int .i64 x.c, db x.d] rfl rfl rfl rfl rfl ?_
  refine AWo.box 4000 1 [.int .i64 x.k, .int .i64 x.t, .int .i64 x.c, db x.d] rfl rfl rfl rfl rfl ?_
  refine yA ?_
  refine zN (zS ?_)
  refine yP pF ?_
  refine yL1 ?_
  refine yP pF ?_
  refine yL1 ?_
  refine yP ((PureOp.bin rfl rfl rfl).mono (v' := .bool true) (congrArg Value.bool (beq_self_eq_true _))) ?_
  refine yM ?_
  refine yP pF ?_
  refine yL1 ?_
  refine yP pF ?_
  refine yL1 ?_
  refine yP ((PureOp.bin rfl rfl rfl).mono (v' := .bool true) (congrArg Value.bool (beq_self_eq_true _))) ?_
  refine yP pT ?_
  refine yM ?_
  refine yP pF ?_
  refine yL1 ?_
  refine yP pF ?_
  refine yL1 ?_
  refine yP ((PureOp.bin rfl rfl rfl).mono (v' := .bool true) (congrArg Value.bool (beq_self_eq_true _))) ?_
  refine yP pT ?_
  refine yM ?_
  refine yP pF ?_
  refine AWo.loadX tbok 99000 rfl rfl rfl rfl rfl rfl rfl ?_
  refine AWo.bytesStr tbok (x.d) rfl rfl (List.take_of_length_le (by simp)) (rfl) rfl Tryz.underlying5 Tryz.underlying9 rfl rfl ?_
  refine yP pF ?_
  refine AWo.loadX tbok 99001 rfl rfl rfl rfl rfl rfl rfl ?_
  refine AWo.bytesStr tbok (x.d) rfl rfl (List.take_of_length_le (by simp)) (rfl) rfl Tryz.underlying5 Tryz.underlying9 rfl rfl ?_
  refine yP (PureOp.sameStr rfl rfl) ?_
  refine yP pT ?_
  refine yA ?_
  refine zN (zE ?_)
  exact rq [] [.tmp 4]
theorem long1_ctr {t : Int} {cn : Nat} {d : List Nat} (hc : cn ≤ 1048576) : GC Tryz.prog 34 [opV ⟨1, t, cn, d⟩] [] [vi .i64 (cn * szT t)] [] := by
  have hm : cn * szT t < 9223372036854775808 := Nat.lt_of_le_of_lt (Nat.mul_le_mul hc (szT_le t)) (by decide)
  refine gi Tryz.func34 ?_
  refine zS ?_
  refine AWo.box 2000 1 [.int .i64 1, .int .i64 t, vi .i64 cn, db d] rfl rfl rfl rfl rfl ?_
  refine yA ?_
  refine zN (zQ (zS ?_))
  refine yP pF ?_
  refine yL1 ?_
  refine yP ((PureOp.neN (b := 1) rfl rfl).mono (v' := .bool false) (congrArg Value.bool (rfl))) ?_
  refine zN (zF (zK (zT ?_)))
  refine AW.seqD mixed ?_
  refine yP pF ?_
  refine yL1 ?_
  refine yP pF ?_
  refine yL1 ?_
  refine yC (size_ctr (t := t)) bd58 [] [] ?_
  refine yP (PureOp.mulI (a := cn) (b := szT t) rfl rfl hm) ?_
  refine yA ?_
  refine zD (zE ?_)
  exact rq [] [.tmp 2]
theorem long0_ctr {k t : Int} {cn : Nat} {d : List Nat} (hk : k ≠ 1) : GC Tryz.prog 34 [opV ⟨k, t, cn, d⟩] [] [vi .i64 0] [] := by
  refine gi Tryz.func34 ?_
  refine zS ?_
  refine AWo.box 2000 1 [.int .i64 k, .int .i64 t, vi .i64 cn, db d] rfl rfl rfl rfl rfl ?_
  refine yA ?_
  refine zN (zQ (zS ?_))
  refine yP pF ?_
  refine yL1 ?_
  refine yP ((PureOp.bin rfl rfl rfl).mono (v' := .bool true) (congrArg Value.bool (by simpa using hk))) ?_
  refine zN (zC (zS ?_))
  refine yA ?_
  refine zN (zE (zU ?_))
  exact rq [] [.tmp 2]
theorem long_ctr {k t : Int} {cn : Nat} {d : List Nat} (hc : cn ≤ 1048576) : GC Tryz.prog 34 [opV ⟨k, t, cn, d⟩] [] [vi .i64 (lng ⟨k, t, cn, d⟩)] [] := by
  by_cases hk : k = 1
  · subst hk
    exact long1_ctr hc
  · rw [show lng ⟨k, t, cn, d⟩ = 0 from if_neg hk]
    exact long0_ctr hk
theorem longN_ctr {k t : Int} {cn : Nat} (hc : cn ≤ 1048576) : GC Tryz.prog 34 [.agg #[.int .i64 k, .int .i64 t, vi .i64 cn, .slice none 0 0]] [] [vi .i64 (lng ⟨k, t, cn, []⟩)] [] := GC.opNil (long_ctr (d := []) hc)
theorem clone8_ctr {b : List Nat} {n : Nat} (hn : b.length = n) (hx : n < 200000000) : GC Tryz.prog 35 [.slice (some ⟨0, 0, none⟩) n 0] [⟨b.map (vi .u8), false, 1⟩] [.slice (some ⟨1, 0, none⟩) n 0] [⟨b.map (vi .u8), false, 1⟩, ⟨b.map (vi .u8), true, 1⟩] := by
  refine GC.intro Tryz.func35 rfl (by show 1 ≤ 8; decide) (Nat.le_succ _) ?_
  by_cases h0 : n = 0
  · subst h0
    obtain rfl : b = [] := List.eq_nil_of_length_eq_zero hn
    refine AW.nilCase (t := 0) rfl ?_ ?_
    · refine AW.ghost 9000 1 rfl ?_
      refine zS ?_
      refine yA ?_
      refine zN (zQ (zS ?_))
      refine yM ?_
      refine yP (PureOp.nilEqNilS Tryz.underlying22 rfl) ?_
      refine zN (zC (zS ?_))
      refine yA ?_
      refine zN (zE ?_)
      exact rq [9000] [.tmp 2]
    · refine zS ?_
      refine yA ?_
      refine zN (zQ (zS ?_))
      refine yM ?_
      refine yP (PureOp.slEqDead Tryz.underlying22 rfl) ?_
      refine zN (zF (zK (zT (zS ?_))))
      refine AWo.buildSlice tbok 6000 [] (out := []) rfl rfl (by decide) rfl rfl rfl (by decide) rfl rfl rfl rfl rfl ?_
      refine yM ?_
      refine yP (PureOp.append0 Tryz.underlying22 (tbok.sz _ _ rfl) rfl rfl) ?_
      refine yA ?_
      refine zN (zE ?_)
      exact rq [6000] [.tmp 2]
  · subst hn
    refine zS ?_
    refine yA ?_
    refine zN (zQ (zS ?_))
    refine yM ?_
    refine yP (PureOp.slEqNil Tryz.underlying22 rfl h0) ?_
    refine zN (zF (zK (zT (zS ?_))))
    refine AWo.buildSlice tbok 6000 [] (out := []) rfl rfl (by decide) rfl rfl rfl (by decide) rfl rfl rfl rfl rfl ?_
    refine yM ?_
    refine AWo.append tbok (all := b.map (vi .u8)) (news := b.map (vi .u8)) 8000 rfl rfl rfl rfl rfl (by rw [List.drop_zero]; exact List.take_of_length_le (by simp)) (by simp) (by decide) rfl rfl rfl (by decide) rfl rfl rfl (by omega) (by omega) (oneM (fun _ => rfl) _) rfl rfl rfl ?_
    refine yA ?_
    refine zN (zE ?_)
    exact rq [8000] [.tmp 2] (hres := (.cons rfl (by simp [ren, ren1, hmap]) .nil))
theorem clone8D {b : List Nat} (hx : b.length < 200000000) : GC Tryz.prog 35 [db b] [] [db b] [] := GC.deepen (clone8_ctr (b := b) rfl hx) (.deep .nil) (.new (Nat.le_refl _) rfl (by simp) (cloM fun _ => rfl) .nil)
theorem lw6_ctr {B : List Nat} (hb : bd 256 B) (h6 : 6 ≤ B.length) : GC Tryz.prog 33 [.slice (some ⟨0, 0, none⟩) 6 0] [⟨((B.take 6)).map (vi .u8), false, 1⟩] [.slice (some ⟨1, 0, none⟩) 1 0] [⟨((B.take 6)).map (vi .u8), false, 1⟩, ⟨(digs 18446744073709551616 1 (num 256 (B.take 6))).map (vi .u64), true, 1⟩] := by
  have hl : (B.take 6).length = 6 := by rw [List.length_take]; omega
  have h := lwords_ctr (a := B.take 6) (fun x hx => hb x (List.mem_of_mem_take hx)) (by rw [hl]; decide)
  rw [hl] at h
  exact h
theorem dig6 {B : List Nat} {N : Nat} (hN : num 256 (B.take 6) = N) (hl : N < 281474976710656) : (digs 18446744073709551616 1 (num 256 (B.take 6))).getD 0 0 = N := by
  rw [hN]
  show N % 18446744073709551616 = N
  exact Nat.mod_eq_of_lt (by omega)
theorem ofbytesA_ctr {B : List Nat} (hx : B.length < 4000000000) (h6 : B.length < 6) : GC Tryz.prog 13 [db B] [] [opV op0, vi .i64 0, vi .i64 2] [] := by
  refine gi Tryz.func13 ?_
  refine zS ?_
  refine yN 3000 1 _ ?_
  refine yA ?_
  refine yA ?_
  refine zN (zQ (zS ?_))
  refine yM ?_
  refine yP pD ?_
  refine yP ((PureOp.ltN (b := 6) rfl rfl).mono (v' := .bool true) (congrArg Value.bool (by simpa using h6))) ?_
  refine zN (zC (zS ?_))
  refine yP (PureOp.opNil ((PureOp.buildStruct [] pl27.choose_spec.1 zr27 (by decide) pl27.choose_spec.2 rfl rfl).mono (v' := .agg #[.int .i64 0, .int .i64 0, .int .i64 0, .slice none 0 0]) rfl)) ?_
  refine AWo.storeAllN (vs := [.int .i64 0, .int .i64 0, .int .i64 0, deep 0 1 []]) tbok rfl rfl rfl rfl rfl rfl rfl rfl ?_
  refine yA ?_
  refine yA ?_
  refine zN (zE (zU ?_))
  exact rq [] [.cell 2 27, .tmp 3, .tmp 4] (hres := (.clo rfl (.cons rfl rfl (.cons rfl rfl .nil))))
theorem ofbytesC_ctr {B : List Nat} {N : Nat} (hb : bd 256 B) (hx : B.length < 4000000000) (hN : num 256 (B.take 6) = N) (hNl : N < 281474976710656) (h6 : 6 ≤ B.length) (hi : ¬ itC (bgn N).k (bgn N).t (bgn N).c = 0) : GC Tryz.prog 13 [db B] [] [opV op0, vi .i64 0, vi .i64 3] [] := by
  refine gi Tryz.func13 ?_
  refine zS ?_
  refine yN 3000 1 _ ?_
  refine yA ?_
  refine yA ?_
  refine zN (zQ (zS ?_))
  refine yM ?_
  refine yP pD ?_
  refine yP ((PureOp.ltN (b := 6) rfl rfl).mono (v' := .bool false) (congrArg Value.bool (by simp; omega))) ?_
  refine zN (zF (zK (zT (zS ?_))))
  refine yM ?_
  refine AWo.pureX 88000 ((PureOp.sliceD (l := 0) (h := 6) rfl .none (.some rfl) (tbok.sl _ _ rfl) (tbok.sz _ _ rfl) (by decide) h6).mono (v' := deep 6 1 ((B.take 6).map (vi .u8))) (by rw [List.map_take]; rfl)) rfl rfl rfl ?_
  refine yC (lw6_ctr hb h6) bd33 [(88000, 0)] [15000] ?_
  refine yP (PureOp.idx1 tbok (j := 0) rfl rfl rfl rfl (by decide)) ?_
  refine AWo.loadM tbok 0 rfl rfl rfl (by rw [digs_len]; decide) rfl rfl ?_
  rw [dig6 hN hNl]
  refine yC (v := .tuple #[.agg #[vi .i64 (N % 256), vi .i64 (N / 256 % 256), vi .i64 (N / 65536), .slice none 0 0], .bool false]) (begun_ctr (n := N) (by omega)) bd32 [] [] ?_ (hv := (by rw [decide_eq_false hi]; rfl))
  refine yM ?_
  refine yP pX ?_
  refine yP pX ?_
  refine yN 6000 1 _ ?_
  refine AWo.storeAllN (vs := [vi .i64 (N % 256), vi .i64 (N / 256 % 256), vi .i64 (N / 65536), .slice none 0 0]) tbok rfl rfl rfl rfl rfl rfl rfl rfl ?_
  refine yA ?_
  refine zN (zQ (zB (zS ?_)))
  refine yM ?_
  refine yP (PureOp.not rfl) ?_
  refine yA ?_
  refine zN (zC (zS ?_))
  refine yP (PureOp.opNil ((PureOp.buildStruct [] pl27.choose_spec.1 zr27 (by decide) pl27.choose_spec.2 rfl rfl).mono (v' := .agg #[.int .i64 0, .int .i64 0, .int .i64 0, .slice none 0 0]) rfl)) ?_
  refine AWo.storeAllN (vs := [.int .i64 0, .int .i64 0, .int .i64 0, deep 0 1 []]) tbok rfl rfl rfl rfl rfl rfl rfl rfl ?_
  refine yA ?_
  refine yA ?_
  refine zN (zE (zI (zU ?_)))
  exact rq [] [.cell 2 27, .tmp 3, .tmp 4] (hres := (.clo rfl (.cons rfl rfl (.cons rfl rfl .nil))))
theorem ofbytesD_ctr {B : List Nat} {N : Nat} (hb : bd 256 B) (hx : B.length < 4000000000) (hN : num 256 (B.take 6) = N) (hNl : N < 281474976710656) (h6 : 6 ≤ B.length) (hi : itC (bgn N).k (bgn N).t (bgn N).c = 0) (hcn : N / 65536 ≤ 1048576) (hL : lng (bgn N) < 200000000) (hlg : B.length < 6 + lng (bgn N)) : GC Tryz.prog 13 [db B] [] [opV op0, vi .i64 0, vi .i64 2] [] := by
  refine gi Tryz.func13 ?_
  refine zS ?_
  refine yN 3000 1 _ ?_
  refine yA ?_
  refine yA ?_
  refine zN (zQ (zS ?_))
  refine yM ?_
  refine yP pD ?_
  refine yP ((PureOp.ltN (b := 6) rfl rfl).mono (v' := .bool false) (congrArg Value.bool (by simp; omega))) ?_
  refine zN (zF (zK (zT (zS ?_))))
  refine yM ?_
  refine AWo.pureX 88000 ((PureOp.sliceD (l := 0) (h := 6) rfl .none (.some rfl) (tbok.sl _ _ rfl) (tbok.sz _ _ rfl) (by decide) h6).mono (v' := deep 6 1 ((B.take 6).map (vi .u8))) (by rw [List.map_take]; rfl)) rfl rfl rfl ?_
  refine yC (lw6_ctr hb h6) bd33 [(88000, 0)] [15000] ?_
  refine yP (PureOp.idx1 tbok (j := 0) rfl rfl rfl rfl (by decide)) ?_
  refine AWo.loadM tbok 0 rfl rfl rfl (by rw [digs_len]; decide) rfl rfl ?_
  rw [dig6 hN hNl]
  refine yC (v := .tuple #[.agg #[vi .i64 (N % 256), vi .i64 (N / 256 % 256), vi .i64 (N / 65536), .slice none 0 0], .bool true]) (begun_ctr (n := N) (by omega)) bd32 [] [] ?_ (hv := (by rw [decide_eq_true hi]; rfl))
  refine yM ?_
  refine yP pX ?_
  refine yP pX ?_
  refine yN 6000 1 _ ?_
  refine AWo.storeAllN (vs := [vi .i64 (N % 256), vi .i64 (N / 256 % 256), vi .i64 (N / 65536), .slice none 0 0]) tbok rfl rfl rfl rfl rfl rfl rfl rfl ?_
  refine yA ?_
  refine zN (zQ (zB (zS ?_)))
  refine yM ?_
  refine yP (PureOp.not rfl) ?_
  refine yA ?_
  refine zN (zF (zS ?_))
  refine yM ?_
  refine yP pD ?_
  refine yP (pSub (b := 6)) ?_
  refine yLA ?_
  refine yC (v := vi .i64 (lng (bgn N))) (longN_ctr (k := (bgn N).k) (t := (bgn N).t) (cn := N / 65536) hcn) bd34 [] [] ?_
  refine yP ((PureOp.ltN rfl rfl).mono (v' := .bool true) (congrArg Value.bool (by simp; omega))) ?_
  refine yA ?_
  refine zN (zC (zS ?_))
  refine yP (PureOp.opNil ((PureOp.buildStruct [] pl27.choose_spec.1 zr27 (by decide) pl27.choose_spec.2 rfl rfl).mono (v' := .agg #[.int .i64 0, .int .i64 0, .int .i64 0, .slice none 0 0]) rfl)) ?_
  refine AWo.storeAllN (vs := [.int .i64 0, .int .i64 0, .int .i64 0, deep 0 1 []]) tbok rfl rfl rfl rfl rfl rfl rfl rfl ?_
  refine yA ?_
  refine yA ?_
  refine zN (zE (zI (zU ?_)))
  exact rq [] [.cell 2 27, .tmp 3, .tmp 4] (hres := (.clo rfl (.cons rfl rfl (.cons rfl rfl .nil))))
theorem ofbytesE_ctr {B : List Nat} {N : Nat} (hb : bd 256 B) (hx : B.length < 4000000000) (hN : num 256 (B.take 6) = N) (hNl : N < 281474976710656) (h6 : 6 ≤ B.length) (hi : itC (bgn N).k (bgn N).t (bgn N).c = 0) (hcn : N / 65536 ≤ 1048576) (hL : lng (bgn N) < 200000000) (hlg : 6 + lng (bgn N) ≤ B.length) (hdl : ((B.drop 6).take (lng (bgn N))).length = lng (bgn N)) (hr : ¬ Rgt ⟨(bgn N).k, (bgn N).t, (bgn N).c, (B.drop 6).take (lng (bgn N))⟩) : GC Tryz.prog 13 [db B] [] [opV op0, vi .i64 0, vi .i64 3] [] := by
  refine gi Tryz.func13 ?_
  refine zS ?_
  refine yN 3000 1 _ ?_
  refine yA ?_
  refine yA ?_
  refine zN (zQ (zS ?_))
  refine yM ?_
  refine yP pD ?_
  refine yP ((PureOp.ltN (b := 6) rfl rfl).mono (v' := .bool false) (congrArg Value.bool (by simp; omega))) ?_
  refine zN (zF (zK (zT (zS ?_))))
  refine yM ?_
  refine AWo.pureX 88000 ((PureOp.sliceD (l := 0) (h := 6) rfl .none (.some rfl) (tbok.sl _ _ rfl) (tbok.sz _ _ rfl) (by decide) h6).mono (v' := deep 6 1 ((B.take 6).map (vi .u8))) (by rw [List.map_take]; rfl)) rfl rfl rfl ?_
  refine yC (lw6_ctr hb h6) bd33 [(88000, 0)] [15000] ?_
  refine yP (PureOp.idx1 tbok (j := 0) rfl rfl rfl rfl (by decide)) ?_
  refine AWo.loadM tbok 0 rfl rfl rfl (by rw [digs_len]; decide) rfl rfl ?_
  rw [dig6 hN hNl]
  refine yC (v := .tuple #[.agg #[vi .i64 (N % 256), vi .i64 (N / 256 % 256), vi .i64 (N / 65536), .slice none 0 0], .bool true]) (begun_ctr (n := N) (by omega)) bd32 [] [] ?_ (hv := (by rw [decide_eq_true hi]; rfl))
  refine yM ?_
  refine yP pX ?_
  refine yP pX ?_
  refine yN 6000 1 _ ?_
  refine AWo.storeAllN (vs := [vi .i64 (N % 256), vi .i64 (N / 256 % 256), vi .i64 (N / 65536), .slice none 0 0]) tbok rfl rfl rfl rfl rfl rfl rfl rfl ?_
  refine yA ?_
  refine zN (zQ (zB (zS ?_)))
  refine yM ?_
  refine yP (PureOp.not rfl) ?_
  refine yA ?_
  refine zN (zF (zS ?_))
  refine yM ?_
  refine yP pD ?_
  refine yP (pSub (b := 6)) ?_
  refine yLA ?_
  refine yC (v := vi .i64 (lng (bgn N))) (longN_ctr (k := (bgn N).k) (t := (bgn N).t) (cn := N / 65536) hcn) bd34 [] [] ?_
  refine yP ((PureOp.ltN rfl rfl).mono (v' := .bool false) (congrArg Value.bool (by simp; omega))) ?_
  refine yA ?_
  refine zN (zF (zK (zL (zT (zS ?_)))))
  refine yM ?_
  refine yLA ?_
  refine yC (v := vi .i64 (lng (bgn N))) (longN_ctr (k := (bgn N).k) (t := (bgn N).t) (cn := N / 65536) hcn) bd34 [] [] ?_
  refine yP (PureOp.addI (a := 6) (b := lng (bgn N)) rfl rfl (by omega)) ?_
  refine yP ((PureOp.sliceD (l := 6) (h := 6 + lng (bgn N)) rfl (.some rfl) (.some rfl) (tbok.sl _ _ rfl) (tbok.sz _ _ rfl) (by omega) hlg).mono (v' := db ((B.drop 6).take (lng (bgn N)))) (by rw [db_part hlg (by omega), Nat.add_sub_cancel_left])) ?_
  refine yC (clone8D (b := (B.drop 6).take (lng (bgn N))) (by rw [hdl]; omega)) bd35 [] [] ?_
  refine yP pF ?_
  refine AWo.store1 tbok rfl rfl rfl rfl rfl (by simp) rfl rfl ?_
  refine zN (zQ (zS ?_))
  refine yLA ?_
  refine AWo.callX (v := .bool false) (opright_ctr (x := ⟨(bgn N).k, (bgn N).t, (bgn N).c, (B.drop 6).take (lng (bgn N))⟩) (bd_part hb _ _) (by show List.length ((B.drop 6).take (lng (bgn N))) < _; rw [hdl]; omega)) bd22 [] [] rfl (.cons rfl .nil) rfl (.clo rfl .nil) .nil rfl .nil frN (by decide) (.cons rfl rfl .nil) (congrArg Value.bool (decide_eq_false hr)) rfl rfl rfl ?_
  refine yP (PureOp.not rfl) ?_
  refine zN (zC (zS ?_))
  refine yP (PureOp.opNil ((PureOp.buildStruct [] pl27.choose_spec.1 zr27 (by decide) pl27.choose_spec.2 rfl rfl).mono (v' := .agg #[.int .i64 0, .int .i64 0, .int .i64 0, .slice none 0 0]) rfl)) ?_
  refine AWo.storeAllN (vs := [.int .i64 0, .int .i64 0, .int .i64 0, deep 0 1 []]) tbok rfl rfl rfl rfl rfl rfl rfl rfl ?_
  refine yA ?_
  refine yA ?_
  refine zN (zE (zU ?_))
  exact rq [] [.cell 2 27, .tmp 3, .tmp 4] (hres := (.clo rfl (.cons rfl rfl (.cons rfl rfl .nil))))
theorem ofbytesF_ctr {B : List Nat} {N : Nat} (hb : bd 256 B) (hx : B.length < 4000000000) (hN : num 256 (B.take 6) = N) (hNl : N < 281474976710656) (h6 : 6 ≤ B.length) (hi : itC (bgn N).k (bgn N).t (bgn N).c = 0) (hcn : N / 65536 ≤ 1048576) (hL : lng (bgn N) < 200000000) (hlg : 6 + lng (bgn N) ≤ B.length) (hdl : ((B.drop 6).take (lng (bgn N))).length = lng (bgn N)) (hr : Rgt ⟨(bgn N).k, (bgn N).t, (bgn N).c, (B.drop 6).take (lng (bgn N))⟩) : GC Tryz.prog 13 [db B] [] [opV (Opn.mk (bgn N).k (bgn N).t (bgn N).c ((B.drop 6).take (lng (bgn N)))), vi .i64 (6 + lng (bgn N)), vi .i64 0] [] := by
  refine gi Tryz.func13 ?_
  refine zS ?_
  refine yN 3000 1 _ ?_
  refine yA ?_
  refine yA ?_
  refine zN (zQ (zS ?_))
  refine yM ?_
  refine yP pD ?_
  refine yP ((PureOp.ltN (b := 6) rfl rfl).mono (v' := .bool false) (congrArg Value.bool (by simp; omega))) ?_
  refine zN (zF (zK (zT (zS ?_))))
  refine yM ?_
  refine AWo.pureX 88000 ((PureOp.sliceD (l := 0) (h := 6) rfl .none (.some rfl) (tbok.sl _ _ rfl) (tbok.sz _ _ rfl) (by decide) h6).mono (v' := deep 6 1 ((B.take 6).map (vi .u8))) (by rw [List.map_take]; rfl)) rfl rfl rfl ?_
  refine yC (lw6_ctr hb h6) bd33 [(88000, 0)] [15000] ?_
  refine yP (PureOp.idx1 tbok (j := 0) rfl rfl rfl rfl (by decide)) ?_
  refine AWo.loadM tbok 0 rfl rfl rfl (by rw [digs_len]; decide) rfl rfl ?_
  rw [dig6 hN hNl]
  refine yC (v := .tuple #[.agg #[vi .i64 (N % 256), vi .i64 (N / 256 % 256), vi .i64 (N / 65536), .slice none 0 0], .bool true]) (begun_ctr (n := N) (by omega)) bd32 [] [] ?_ (hv := (by rw [decide_eq_true hi]; rfl))
  refine yM ?_
  refine yP pX ?_
  refine yP pX ?_
  refine yN 6000 1 _ ?_
  refine AWo.storeAllN (vs := [vi .i64 (N % 256), vi .i64 (N / 256 % 256), vi .i64 (N / 65536), .slice none 0 0]) tbok rfl rfl rfl rfl rfl rfl rfl rfl ?_
  refine yA ?_
  refine zN (zQ (zB (zS ?_)))
  refine yM ?_
  refine yP (PureOp.not rfl) ?_
  refine yA ?_
  refine zN (zF (zS ?_))
  refine yM ?_
  refine yP pD ?_
  refine yP (pSub (b := 6)) ?_
  refine yLA ?_
  refine yC (v := vi .i64 (lng (bgn N))) (longN_ctr (k := (bgn N).k) (t := (bgn N).t) (cn := N / 65536) hcn) bd34 [] [] ?_
  refine yP ((PureOp.ltN rfl rfl).mono (v' := .bool false) (congrArg Value.bool (by simp; omega))) ?_
  refine yA ?_
  refine zN (zF (zK (zL (zT (zS ?_)))))
  refine yM ?_
  refine yLA ?_
  refine yC (v := vi .i64 (lng (bgn N))) (longN_ctr (k := (bgn N).k) (t := (bgn N).t) (cn := N / 65536) hcn) bd34 [] [] ?_
  refine yP (PureOp.addI (a := 6) (b := lng (bgn N)) rfl rfl (by omega)) ?_
  refine yP ((PureOp.sliceD (l := 6) (h := 6 + lng (bgn N)) rfl (.some rfl) (.some rfl) (tbok.sl _ _ rfl) (tbok.sz _ _ rfl) (by omega) hlg).mono (v' := db ((B.drop 6).take (lng (bgn N)))) (by rw [db_part hlg (by omega), Nat.add_sub_cancel_left])) ?_
  refine yC (clone8D (b := (B.drop 6).take (lng (bgn N))) (by rw [hdl]; omega)) bd35 [] [] ?_
  refine yP pF ?_
  refine AWo.store1 tbok rfl rfl rfl rfl rfl (by simp) rfl rfl ?_
  refine zN (zQ (zS ?_))
  refine yLA ?_
  refine AWo.callX (v := .bool true) (opright_ctr (x := ⟨(bgn N).k, (bgn N).t, (bgn N).c, (B.drop 6).take (lng (bgn N))⟩) (bd_part hb _ _) (by show List.length ((B.drop 6).take (lng (bgn N))) < _; rw [hdl]; omega)) bd22 [] [] rfl (.cons rfl .nil) rfl (.clo rfl .nil) .nil rfl .nil frN (by decide) (.cons rfl rfl .nil) (congrArg Value.bool (decide_eq_true hr)) rfl rfl rfl ?_
  refine yP (PureOp.not rfl) ?_
  refine zN (zF (zK (zT ?_)))
  refine AW.seqD mixed ?_
  refine yLA ?_
  refine yP pF ?_
  refine yL1 ?_
  refine yP pD ?_
  refine yP ((PureOp.addI (a := 6) (b := ((B.drop 6).take (lng (bgn N))).length) rfl rfl (by rw [hdl]; omega)).mono (v' := vi .i64 (6 + lng (bgn N))) (congrArg (fun z => vi .i64 (6 + z)) hdl)) ?_
  refine AWo.storeAllN (vs := [vi .i64 (N % 256), vi .i64 (N / 256 % 256), vi .i64 (N / 65536), db ((B.drop 6).take (lng (bgn N)))]) tbok rfl rfl rfl rfl rfl rfl rfl rfl ?_
  refine yA ?_
  refine yA ?_
  refine zD (zE ?_)
  exact rq [] [.cell 2 27, .tmp 3, .tmp 4] (hres := (.clo rfl (.cons rfl rfl (.cons rfl rfl .nil))))
theorem lng_lt {x : Opn} (h : itC x.k x.t x.c = 0) : lng x < 200000000 := by
  have hi := itC_inv h
  unfold lng
  split
  · have := Nat.mul_le_mul (show x.c.toNat ≤ 1048576 by omega) (szT_le x.t)
    omega
  · omega
theorem ofbytes_ctr {B : List Nat} (hb : bd 256 B) (hx : B.length < 4000000000) : GC Tryz.prog 13 [db B] [] [opV (ofB B).1, vi .i64 (ofB B).2.1, vi .i64 (ofB B).2.2] [] := by
  rcases Nat.lt_or_ge B.length 6 with h6 | h6
  · rw [show ofB B = (op0, 0, 2) from if_pos h6]
    exact ofbytesA_ctr hx h6
  obtain ⟨N, hN⟩ : ∃ N, num 256 (B.take 6) = N := ⟨_, rfl⟩
  have hNl : N < 281474976710656 := by
    have := num_lt (l := B.take 6) (fun x hx => hb x (List.mem_of_mem_take hx))
    rw [List.length_take, Nat.min_eq_left h6, hN] at this
    exact this
  by_cases hi : itC (bgn N).k (bgn N).t (bgn N).c = 0
  · have hcn : N / 65536 ≤ 1048576 := by
      have := (itC_inv hi).2.2.2.2.2.1
      change ((N / 65536 : Nat) : Int) ≤ 1048576 at this
      omega
    have hL := lng_lt hi
    rcases Nat.lt_or_ge B.length (6 + lng (bgn N)) with hlg | hlg
    · rw [show ofB B = (op0, 0, 2) by unfold ofB; rw [hN, if_neg (by omega), if_neg (by simpa using hi), if_pos hlg]]
      exact ofbytesD_ctr hb hx hN hNl h6 hi hcn hL hlg
    · have hdl : ((B.drop 6).take (lng (bgn N))).length = lng (bgn N) := by rw [List.length_take, List.length_drop]; omega
      by_cases hr : Rgt ⟨(bgn N).k, (bgn N).t, (bgn N).c, (B.drop 6).take (lng (bgn N))⟩
      · rw [show ofB B = (⟨(bgn N).k, (bgn N).t, (bgn N).c, (B.drop 6).take (lng (bgn N))⟩, 6 + lng (bgn N), 0) by unfold ofB; rw [hN, if_neg (by omega), if_neg (by simpa using hi), if_neg (by omega), if_pos hr]]
        exact ofbytesF_ctr hb hx hN hNl h6 hi hcn hL hlg hdl hr
      · rw [show ofB B = (op0, 0, 3) by unfold ofB; rw [hN, if_neg (by omega), if_neg (by simpa using hi), if_neg (by omega), if_neg hr]]
        exact ofbytesE_ctr hb hx hN hNl h6 hi hcn hL hlg hdl hr
  · rw [show ofB B = (op0, 0, 3) by unfold ofB; rw [hN, if_neg (by omega), if_pos hi]]
    exact ofbytesC_ctr hb hx hN hNl h6 hi
end Go.Proofs.YtpahdiljpnfkdaaGreat
namespace Go.Proofs.YtpahdiljpnfkdaaGreat
open Go Sim
theorem val_lt (x : Fp) : x.val < 256 ^ 32 := Nat.lt_of_lt_of_le x.isLt (by decide)
theorem digs_drop (B : Nat) : ∀ (p n v : Nat), p ≤ n → (digs B n v).drop p = digs B (n - p) (v / B ^ p)
  | 0, n, v, _ => by simp
  | p + 1, 0, v, h => absurd h (by omega)
  | p + 1, n + 1, v, h => by
    show (digs B n (v / B)).drop p = _
    rw [digs_drop B p n _ (by omega), Nat.div_div_eq_div_mul, Nat.add_sub_add_right, Nat.pow_succ, Nat.mul_comm]
theorem digs_take (B : Nat) : ∀ (p n v : Nat), p ≤ n → (digs B n v).take p = digs B p v
  | 0, n, v, _ => rfl
  | p + 1, 0, v, h => absurd h (by omega)
  | p + 1, n + 1, v, h => by
    show v % B :: (digs B n (v / B)).take p = v % B :: digs B p (v / B)
    rw [digs_take B p n _ (by omega)]
theorem num_drop {v p : Nat} (hv : v < 256 ^ 32) (hp : p ≤ 32) : num 256 ((digs 256 32 v).drop p) = v / 256 ^ p := by
  rw [digs_drop _ _ _ _ hp]
  refine num_digs_lt ?_
  rw [Nat.div_lt_iff_lt_mul (Nat.pow_pos (by decide)), ← Nat.pow_add, Nat.sub_add_cancel hp]
  exact hv
theorem bd_dropP {v p : Nat} : bd 256 ((digs 256 32 v).drop p) := fun x hx => digs_bd (by decide) 32 v x (List.mem_of_mem_drop hx)
theorem lw32_ctr {v : Nat} (hv : v < 256 ^ 32) : GC Tryz.prog 33 [.slice (some ⟨0, 0, none⟩) 32 0] [⟨(digs 256 32 v).map (vi .u8), false, 1⟩] [.slice (some ⟨1, 0, none⟩) 4 0] [⟨(digs 256 32 v).map (vi .u8), false, 1⟩, ⟨(digs 18446744073709551616 4 v).map (vi .u64), true, 1⟩] := by
  have h := lwords_ctr (a := digs 256 32 v) (digs_bd (by decide) _ _) (by rw [digs_len]; decide)
  rw [digs_len, num_digs_lt hv] at h
  exact h
theorem lb4v_ctr {v : Nat} (hv : v < 256 ^ 32) : GC Tryz.prog 38 [.slice (some ⟨0, 0, none⟩) 4 0] [⟨(digs 18446744073709551616 4 v).map (vi .u64), false, 1⟩] [vi .i64 (blen v)] [⟨(digs 18446744073709551616 4 v).map (vi .u64), false, 1⟩] := by
  have h := lbits_ctr (a := digs 18446744073709551616 4 v) (digs_bd (by decide) _ _) (by rw [digs_len]; decide)
  rw [digs_len, num_digs_lt (Nat.lt_of_lt_of_le hv (by decide))] at h
  exact h
theorem lwP_ctr {v p : Nat} (hv : v < 256 ^ 32) (hp : p ≤ 32) : GC Tryz.prog 33 [.slice (some ⟨0, 0, none⟩) (32 - p) 0] [⟨((digs 256 32 v).drop p).map (vi .u8), false, 1⟩] [.slice (some ⟨1, 0, none⟩) ((32 - p + 7) / 8) 0] [⟨((digs 256 32 v).drop p).map (vi .u8), false, 1⟩, ⟨(digs 18446744073709551616 ((32 - p + 7) / 8) (v / 256 ^ p)).map (vi .u64), true, 1⟩] := by
  have h := lwords_ctr (a := (digs 256 32 v).drop p) bd_dropP (by rw [List.length_drop, digs_len]; omega)
  rw [num_drop hv hp, List.length_drop, digs_len] at h
  exact h
theorem lbP_ctr {v p : Nat} (hv : v < 256 ^ 32) (hp : p ≤ 32) : GC Tryz.prog 38 [.slice (some ⟨0, 0, none⟩) ((32 - p + 7) / 8) 0] [⟨(digs 18446744073709551616 ((32 - p + 7) / 8) (v / 256 ^ p)).map (vi .u64), false, 1⟩] [vi .i64 (blen (v / 256 ^ p))] [⟨(digs 18446744073709551616 ((32 - p + 7) / 8) (v / 256 ^ p)).map (vi .u64), false, 1⟩] := by
  have h := lbits_ctr (a := digs 18446744073709551616 ((32 - p + 7) / 8) (v / 256 ^ p)) (digs_bd (by decide) _ _) (by rw [digs_len]; omega)
  have e := reads_num (b := (digs 256 32 v).drop p) bd_dropP
  rw [num_drop hv hp, List.length_drop, digs_len] at e
  rw [digs_len, e] at h
  exact h
theorem cutZ_ctr {t : Int} {L : Nat} (hf : fits t L) (hL : L < 200000000) : GC Tryz.prog 23 [.int .i64 t, db (List.replicate L 0)] [] [.slice (some ⟨0, 0, none⟩) (np t L) 0] [⟨(pcs t (List.replicate L 0)).map db, true, 1⟩] := by
  have h := cut_ctr (t := t) (b := List.replicate L 0) (by rw [List.length_replicate]; exact hf) (by rw [List.length_replicate]; exact hL)
  rw [List.length_replicate] at h
  exact h
theorem deepZ (L : Nat) : deep L 1 ((List.replicate L 0).map (vi .u8)) = db (List.replicate L 0) := by unfold db; rw [List.length_replicate]
theorem dig4 {v N : Nat} (h : v % 18446744073709551616 = N) : (digs 18446744073709551616 4 v).getD 0 0 = N := h
theorem blen_gt {v : Nat} : 64 < blen v ↔ 18446744073709551616 ≤ v := by
  constructor
  · intro h
    refine Nat.le_of_not_lt fun hlt => Nat.not_le.2 h (blen_lt (k := 64) hlt)
  · intro h
    refine Nat.lt_of_not_le fun hle => ?_
    have h1 := num_lt_blen v
    rw [Nat.div_eq_zero_iff] at h1
    rcases h1 with h1 | h1
    · exact absurd h1 (Nat.ne_of_gt (Nat.pow_pos (by decide)))
    · exact Nat.not_le.2 (Nat.lt_of_lt_of_le h1 (Nat.pow_le_pow_right (by decide) hle)) h
theorem blen_0 {v p : Nat} : 0 < blen (v / 256 ^ p) ↔ 256 ^ p ≤ v := by
  constructor
  · intro h
    refine Nat.le_of_not_lt fun hlt => ?_
    rw [Nat.div_eq_of_lt hlt] at h
    exact absurd h (by decide)
  · intro h
    refine Nat.pos_of_ne_zero fun e => ?_
    have h1 := num_lt_blen (v / 256 ^ p)
    rw [e, Nat.pow_zero, Nat.div_one] at h1
    have := Nat.div_pos h (Nat.pow_pos (by decide))
    omega
theorem bad_succ {t : Int} {L : Nat} {l : List Fp} {k : Nat} : bad t L l (k + 1) = (bad t L l k || decide (256 ^ plen t L k ≤ (l.getD (1 + k) 0).val)) := by
  rw [bad, List.range_succ, List.any_append]; simp [bad]
theorem bad_mono {t : Int} {L : Nat} {l : List Fp} {k n : Nat} (h : bad t L l k = true) (hkn : k ≤ n) : bad t L l n = true := by
  rw [bad, List.any_eq_true] at *
  obtain ⟨x, hx, h1⟩ := h
  exact ⟨x, List.mem_range.2 (Nat.lt_of_lt_of_le (List.mem_range.1 hx) hkn), h1⟩
theorem rdD_succ {t : Int} {L : Nat} {l : List Fp} {k : Nat} : rdD t L l (k + 1) = rdD t L l k ++ digs 256 (plen t L k) (l.getD (1 + k) 0).val := by
  rw [rdD, List.range_succ, List.map_append, List.flatten_append]; simp [rdD]
theorem rdD_le (t : Int) (L : Nat) (l : List Fp) : ∀ k, (rdD t L l k).length ≤ 32 * k
  | 0 => Nat.le_refl _
  | k + 1 => by
    have h1 := rdD_le t L l k
    have h2 : plen t L k ≤ 32 := Nat.le_trans (Nat.min_le_left _ _) (wd_le _ _)
    rw [rdD_succ, List.length_append, digs_len]; omega
theorem rdD_bd (t : Int) (L : Nat) (l : List Fp) : ∀ k, bd 256 (rdD t L l k)
  | 0 => fun x hx => by simp [rdD] at hx
  | k + 1 => fun x hx => by
    rw [rdD_succ] at hx
    rcases List.mem_append.1 hx with h | h
    · exact rdD_bd t L l k x h
    · exact digs_bd (by decide) _ _ x h
theorem partP {v p : Nat} (hp : p ≤ 32) : (((digs 256 32 v).map (vi .u8)).drop p).take (((digs 256 32 v).drop p).map (vi .u8)).length = ((digs 256 32 v).drop p).map (vi .u8) := by
  rw [← List.map_drop]; exact List.take_of_length_le (Nat.le_refl _)
theorem newsP {v p : Nat} (hp : p ≤ 32) : (((digs 256 32 v).map (vi .u8)).drop 0).take (p * 1) = (digs 256 p v).map (vi .u8) := by
  rw [List.drop_zero, Nat.mul_one, ← List.map_take, digs_take _ _ _ _ hp]
theorem fits_lng {x : Opn} (h : itC x.k x.t x.c = 0) : fits x.t (lng x) := by
  unfold lng
  split
  · refine ⟨fun e => ?_, fun e => ?_, fun e => ?_⟩ <;> rw [e]
    · show x.c.toNat * 8 % 8 = 0; omega
    · show x.c.toNat * 32 % 32 = 0; omega
    · show x.c.toNat * 96 % 96 = 0; omega
  · exact ⟨fun _ => rfl, fun _ => rfl, fun _ => rfl⟩
theorem WkM.nil3 {Dm : Nat → Prop} {fm : List (Nat × Nat)} {M N : Mem} {i id : Nat} {a b c : Int} {rw rw' : Bool} {es : Nat} (h1 : M ((fm.lookup i).getD i) = some ⟨[.int .i64 a, .int .i64 b, .int .i64 c, .slice none 0 0], rw', es⟩)
    (h3 : rw = true → rw' = true) (h : WkM Dm fm M N) : WkM Dm fm M (Sim.upd N i ⟨[.int .i64 a, .int .i64 b, .int .i64 c, .slice (some ⟨id, 0, none⟩) 0 0], rw, es⟩) :=
  WkM.upd h1 (fun k x hx => by
    match k, hx with
    | 0, hx => cases hx; exact ⟨_, rfl, .flat _ rfl⟩
    | 1, hx => cases hx; exact ⟨_, rfl, .flat _ rfl⟩
    | 2, hx => cases hx; exact ⟨_, rfl, .flat _ rfl⟩
    | 3, hx => cases hx; exact ⟨_, rfl, .nilS _ (by simp)⟩
    | k + 4, hx => simp at hx) h3 rfl (Nat.le_refl _) h
theorem offieldsA_ctr {l : List Fp} (hl0 : l.length = 0) : GC Tryz.prog 15 [.slice (some ⟨0, 0, none⟩) l.length 0] [⟨((l.map fe).flatten).map (vi .u64), false, 4⟩] [opV op0, vi .i64 0, vi .i64 2] [⟨((l.map fe).flatten).map (vi .u64), false, 4⟩] := by
  refine gi Tryz.func15 ?_
  refine zS ?_
  refine yN 3000 1 _ ?_
  refine yA ?_
  refine yA ?_
  refine zN (zQ (zS ?_))
  refine yM ?_
  refine yP pL ?_
  refine yP ((PureOp.eqN (b := 0) rfl rfl).mono (v' := .bool true) (congrArg Value.bool (beq_iff_eq.2 hl0))) ?_
  refine zN (zC (zS ?_))
  refine yP (PureOp.opNil ((PureOp.buildStruct [] pl27.choose_spec.1 zr27 (by decide) pl27.choose_spec.2 rfl rfl).mono (v' := .agg #[.int .i64 0, .int .i64 0, .int .i64 0, .slice none 0 0]) rfl)) ?_
  refine AWo.storeAllN (vs := [.int .i64 0, .int .i64 0, .int .i64 0, deep 0 1 []]) tbok rfl rfl rfl rfl rfl rfl rfl rfl ?_
  refine yA ?_
  refine yA ?_
  refine zN (zE (zU ?_))
  exact rq [] [.cell 2 27, .tmp 3, .tmp 4] (hres := (.clo rfl (.cons rfl rfl (.cons rfl rfl .nil))))
theorem offieldsC_ctr {l : List Fp} {N : Nat} (hx : l.length < 1000000) (hl0 : 0 < l.length) (hN : (l.getD 0 0).val % 18446744073709551616 = N) (hNl : N < 18446744073709551616) (hi : ¬ itC (bgn N).k (bgn N).t (bgn N).c = 0) : GC Tryz.prog 15 [.slice (some ⟨0, 0, none⟩) l.length 0] [⟨((l.map fe).flatten).map (vi .u64), false, 4⟩] [opV op0, vi .i64 0, vi .i64 3] [⟨((l.map fe).flatten).map (vi .u64), false, 4⟩] := by
  refine gi Tryz.func15 ?_
  refine zS ?_
  refine yN 3000 1 _ ?_
  refine yA ?_
  refine yA ?_
  refine zN (zQ (zS ?_))
  refine yM ?_
  refine yP pL ?_
  refine yP ((PureOp.eqN (b := 0) rfl rfl).mono (v' := .bool false) (congrArg Value.bool (beq_eq_false_iff_ne.2 (by omega)))) ?_
  refine zN (zF (zK (zT (zS ?_))))
  refine yM ?_
  refine yP (PureOp.idxN tbok (j := 0) rfl rfl rfl rfl hl0) ?_
  refine yLJ (xs := l) (0) ?_
  refine yC (bytesF_ctr (x := l.getD 0 0)) bd37 [] [] ?_
  refine yN 6000 1 ((List.replicate 32 0).map (vi .u8)) ?_
  refine AWo.storeAllN tbok rfl rfl rfl rfl (by rw [List.length_map, digs_len]) (by rfl) (oneM (fun _ => rfl) _) rfl ?_
  refine zN (zS ?_)
  refine AWo.sliceA2 (v := .slice (some ⟨6000, 0, none⟩) 32 0) (l := 0) (h := 32) tbok rfl .none .none rfl rfl rfl rfl (by decide) (by decide) (by simp [digs_len]) rfl rfl rfl ?_
  refine yC (lw32_ctr (v := (l.getD 0 0).val) (val_lt _)) bd33 [(6000, 0)] [23000] ?_
  refine yA ?_
  refine zN (zS ?_)
  refine yM ?_
  refine yP (PureOp.idx1 tbok (j := 0) rfl rfl rfl rfl (by decide)) ?_
  refine AWo.loadM tbok 0 rfl rfl rfl (by rw [digs_len]; decide) rfl rfl ?_
  rw [dig4 hN]
  refine yC (v := .tuple #[.agg #[vi .i64 (N % 256), vi .i64 (N / 256 % 256), vi .i64 (N / 65536), .slice none 0 0], .bool false]) (begun_ctr (n := N) hNl) bd32 [] [] ?_ (hv := (by rw [decide_eq_false hi]; rfl))
  refine yM ?_
  refine yP pX ?_
  refine yP pX ?_
  refine yN 8000 1 _ ?_
  refine AWo.storeAllN (vs := [vi .i64 (N % 256), vi .i64 (N / 256 % 256), vi .i64 (N / 65536), .slice none 0 0]) tbok rfl rfl rfl rfl rfl rfl rfl rfl ?_
  refine yA ?_
  refine zN (zQ (zS ?_))
  refine yM ?_
  refine yP (PureOp.not rfl) ?_
  refine yM ?_
  refine yK ?_
  refine yK ?_
  refine yK ?_
  refine yP pT ?_
  refine zN (zC (zS ?_))
  refine yP (PureOp.opNil ((PureOp.buildStruct [] pl27.choose_spec.1 zr27 (by decide) pl27.choose_spec.2 rfl rfl).mono (v' := .agg #[.int .i64 0, .int .i64 0, .int .i64 0, .slice none 0 0]) rfl)) ?_
  refine AWo.storeAllN (vs := [.int .i64 0, .int .i64 0, .int .i64 0, deep 0 1 []]) tbok rfl rfl rfl rfl rfl rfl rfl rfl ?_
  refine yA ?_
  refine yA ?_
  refine zN (zE (zU ?_))
  exact rq [] [.cell 2 27, .tmp 3, .tmp 4] (hres := (.clo rfl (.cons rfl rfl (.cons rfl rfl .nil))))
theorem offieldsB_ctr {l : List Fp} {N : Nat} (hx : l.length < 1000000) (hl0 : 0 < l.length) (hN : (l.getD 0 0).val % 18446744073709551616 = N) (hNl : N < 18446744073709551616) (hi : itC (bgn N).k (bgn N).t (bgn N).c = 0) (hcn : N / 65536 ≤ 1048576) (hL : (lng (bgn N)) < 200000000) (hv : 18446744073709551616 ≤ (l.getD 0 0).val) : GC Tryz.prog 15 [.slice (some ⟨0, 0, none⟩) l.length 0] [⟨((l.map fe).flatten).map (vi .u64), false, 4⟩] [opV op0, vi .i64 0, vi .i64 3] [⟨((l.map fe).flatten).map (vi .u64), false, 4⟩] := by
  refine gi Tryz.func15 ?_
  refine zS ?_
  refine yN 3000 1 _ ?_
  refine yA ?_
  refine yA ?_
  refine zN (zQ (zS ?_))
  refine yM ?_
  refine yP pL ?_
  refine yP ((PureOp.eqN (b := 0) rfl rfl).mono (v' := .bool false) (congrArg Value.bool (beq_eq_false_iff_ne.2 (by omega)))) ?_
  refine zN (zF (zK (zT (zS ?_))))
  refine yM ?_
  refine yP (PureOp.idxN tbok (j := 0) rfl rfl rfl rfl hl0) ?_
  refine yLJ (xs := l) (0) ?_
  refine yC (bytesF_ctr (x := l.getD 0 0)) bd37 [] [] ?_
  refine yN 6000 1 ((List.replicate 32 0).map (vi .u8)) ?_
  refine AWo.storeAllN tbok rfl rfl rfl rfl (by rw [List.length_map, digs_len]) (by rfl) (oneM (fun _ => rfl) _) rfl ?_
  refine zN (zS ?_)
  refine AWo.sliceA2 (v := .slice (some ⟨6000, 0, none⟩) 32 0) (l := 0) (h := 32) tbok rfl .none .none rfl rfl rfl rfl (by decide) (by decide) (by simp [digs_len]) rfl rfl rfl ?_
  refine yC (lw32_ctr (v := (l.getD 0 0).val) (val_lt _)) bd33 [(6000, 0)] [23000] ?_
  refine yA ?_
  refine zN (zS ?_)
  refine yM ?_
  refine yP (PureOp.idx1 tbok (j := 0) rfl rfl rfl rfl (by decide)) ?_
  refine AWo.loadM tbok 0 rfl rfl rfl (by rw [digs_len]; decide) rfl rfl ?_
  rw [dig4 hN]
  refine yC (v := .tuple #[.agg #[vi .i64 (N % 256), vi .i64 (N / 256 % 256), vi .i64 (N / 65536), .slice none 0 0], .bool true]) (begun_ctr (n := N) hNl) bd32 [] [] ?_ (hv := (by rw [decide_eq_true hi]; rfl))
  refine yM ?_
  refine yP pX ?_
  refine yP pX ?_
  refine yN 8000 1 _ ?_
  refine AWo.storeAllN (vs := [vi .i64 (N % 256), vi .i64 (N / 256 % 256), vi .i64 (N / 65536), .slice none 0 0]) tbok rfl rfl rfl rfl rfl rfl rfl rfl ?_
  refine yA ?_
  refine zN (zQ (zS ?_))
  refine yM ?_
  refine yP (PureOp.not rfl) ?_
  refine yM ?_
  refine yM ?_
  refine yC (lb4v_ctr (v := (l.getD 0 0).val) (val_lt _)) bd38 [(23000, 0)] [] ?_
  refine yP ((PureOp.gtN (b := 64) rfl rfl).mono (v' := .bool true) (congrArg Value.bool (decide_eq_true (blen_gt.2 hv)))) ?_
  refine yP pE ?_
  refine zN (zC (zS ?_))
  refine yP (PureOp.opNil ((PureOp.buildStruct [] pl27.choose_spec.1 zr27 (by decide) pl27.choose_spec.2 rfl rfl).mono (v' := .agg #[.int .i64 0, .int .i64 0, .int .i64 0, .slice none 0 0]) rfl)) ?_
  refine AWo.storeAllN (vs := [.int .i64 0, .int .i64 0, .int .i64 0, deep 0 1 []]) tbok rfl rfl rfl rfl rfl rfl rfl rfl ?_
  refine yA ?_
  refine yA ?_
  refine zN (zE (zU ?_))
  exact rq [] [.cell 2 27, .tmp 3, .tmp 4] (hres := (.clo rfl (.cons rfl rfl (.cons rfl rfl .nil))))
theorem offieldsD_ctr {l : List Fp} {N : Nat} (hx : l.length < 1000000) (hl0 : 0 < l.length) (hN : (l.getD 0 0).val % 18446744073709551616 = N) (hNl : N < 18446744073709551616) (hi : itC (bgn N).k (bgn N).t (bgn N).c = 0) (hcn : N / 65536 ≤ 1048576) (hL : (lng (bgn N)) < 200000000) (hv : (l.getD 0 0).val < 18446744073709551616) (hd : 32 * l.length < (lng (bgn N))) : GC Tryz.prog 15 [.slice (some ⟨0, 0, none⟩) l.length 0] [⟨((l.map fe).flatten).map (vi .u64), false, 4⟩] [opV op0, vi .i64 0, vi .i64 2] [⟨((l.map fe).flatten).map (vi .u64), false, 4⟩] := by
  refine gi Tryz.func15 ?_
  refine zS ?_
  refine yN 3000 1 _ ?_
  refine yA ?_
  refine yA ?_
  refine zN (zQ (zS ?_))
  refine yM ?_
  refine yP pL ?_
  refine yP ((PureOp.eqN (b := 0) rfl rfl).mono (v' := .bool false) (congrArg Value.bool (beq_eq_false_iff_ne.2 (by omega)))) ?_
  refine zN (zF (zK (zT (zS ?_))))
  refine yM ?_
  refine yP (PureOp.idxN tbok (j := 0) rfl rfl rfl rfl hl0) ?_
  refine yLJ (xs := l) (0) ?_
  refine yC (bytesF_ctr (x := l.getD 0 0)) bd37 [] [] ?_
  refine yN 6000 1 ((List.replicate 32 0).map (vi .u8)) ?_
  refine AWo.storeAllN tbok rfl rfl rfl rfl (by rw [List.length_map, digs_len]) (by rfl) (oneM (fun _ => rfl) _) rfl ?_
  refine zN (zS ?_)
  refine AWo.sliceA2 (v := .slice (some ⟨6000, 0, none⟩) 32 0) (l := 0) (h := 32) tbok rfl .none .none rfl rfl rfl rfl (by decide) (by decide) (by simp [digs_len]) rfl rfl rfl ?_
  refine yC (lw32_ctr (v := (l.getD 0 0).val) (val_lt _)) bd33 [(6000, 0)] [23000] ?_
  refine yA ?_
  refine zN (zS ?_)
  refine yM ?_
  refine yP (PureOp.idx1 tbok (j := 0) rfl rfl rfl rfl (by decide)) ?_
  refine AWo.loadM tbok 0 rfl rfl rfl (by rw [digs_len]; decide) rfl rfl ?_
  rw [dig4 hN]
  refine yC (v := .tuple #[.agg #[vi .i64 (N % 256), vi .i64 (N / 256 % 256), vi .i64 (N / 65536), .slice none 0 0], .bool true]) (begun_ctr (n := N) hNl) bd32 [] [] ?_ (hv := (by rw [decide_eq_true hi]; rfl))
  refine yM ?_
  refine yP pX ?_
  refine yP pX ?_
  refine yN 8000 1 _ ?_
  refine AWo.storeAllN (vs := [vi .i64 (N % 256), vi .i64 (N / 256 % 256), vi .i64 (N / 65536), .slice none 0 0]) tbok rfl rfl rfl rfl rfl rfl rfl rfl ?_
  refine yA ?_
  refine zN (zQ (zS ?_))
  refine yM ?_
  refine yP (PureOp.not rfl) ?_
  refine yM ?_
  refine yM ?_
  refine yC (lb4v_ctr (v := (l.getD 0 0).val) (val_lt _)) bd38 [(23000, 0)] [] ?_
  refine yP ((PureOp.gtN (b := 64) rfl rfl).mono (v' := .bool false) (congrArg Value.bool (decide_eq_false (fun h => Nat.not_le.2 hv (blen_gt.1 h))))) ?_
  refine yP pE ?_
  refine zN (zF (zK (zT (zQ (zS ?_)))))
  refine yLA ?_
  refine yC (v := vi .i64 (lng (bgn N))) (longN_ctr (k := (bgn N).k) (t := (bgn N).t) (cn := N / 65536) hcn) bd34 [] [] ?_
  refine yM ?_
  refine yP pL ?_
  refine yP (PureOp.mulI (a := 32) (b := l.length) rfl rfl (by omega)) ?_
  refine yP ((PureOp.gtN rfl rfl).mono (v' := .bool true) (congrArg Value.bool (by simp; omega))) ?_
  refine zN (zC (zS ?_))
  refine yP (PureOp.opNil ((PureOp.buildStruct [] pl27.choose_spec.1 zr27 (by decide) pl27.choose_spec.2 rfl rfl).mono (v' := .agg #[.int .i64 0, .int .i64 0, .int .i64 0, .slice none 0 0]) rfl)) ?_
  refine AWo.storeAllN (vs := [.int .i64 0, .int .i64 0, .int .i64 0, deep 0 1 []]) tbok rfl rfl rfl rfl rfl rfl rfl rfl ?_
  refine yA ?_
  refine yA ?_
  refine zN (zE (zU ?_))
  exact rq [] [.cell 2 27, .tmp 3, .tmp 4] (hres := (.clo rfl (.cons rfl rfl (.cons rfl rfl .nil))))
theorem offieldsQ_ctr {l : List Fp} {N : Nat} (hx : l.length < 1000000) (hl0 : 0 < l.length) (hN : (l.getD 0 0).val % 18446744073709551616 = N) (hNl : N < 18446744073709551616) (hi : itC (bgn N).k (bgn N).t (bgn N).c = 0) (hcn : N / 65536 ≤ 1048576) (hL : (lng (bgn N)) < 200000000) (hv : (l.getD 0 0).val < 18446744073709551616) (hd : (lng (bgn N)) ≤ 32 * l.length) (hq : l.length < 1 + (np (bgn N).t (lng (bgn N)))) : GC Tryz.prog 15 [.slice (some ⟨0, 0, none⟩) l.length 0] [⟨((l.map fe).flatten).map (vi .u64), false, 4⟩] [opV op0, vi .i64 0, vi .i64 2] [⟨((l.map fe).flatten).map (vi .u64), false, 4⟩] := by
  refine gi Tryz.func15 ?_
  refine zS ?_
  refine yN 3000 1 _ ?_
  refine yA ?_
  refine yA ?_
  refine zN (zQ (zS ?_))
  refine yM ?_
  refine yP pL ?_
  refine yP ((PureOp.eqN (b := 0) rfl rfl).mono (v' := .bool false) (congrArg Value.bool (beq_eq_false_iff_ne.2 (by omega)))) ?_
  refine zN (zF (zK (zT (zS ?_))))
  refine yM ?_
  refine yP (PureOp.idxN tbok (j := 0) rfl rfl rfl rfl hl0) ?_
  refine yLJ (xs := l) (0) ?_
  refine yC (bytesF_ctr (x := l.getD 0 0)) bd37 [] [] ?_
  refine yN 6000 1 ((List.replicate 32 0).map (vi .u8)) ?_
  refine AWo.storeAllN tbok rfl rfl rfl rfl (by rw [List.length_map, digs_len]) (by rfl) (oneM (fun _ => rfl) _) rfl ?_
  refine zN (zS ?_)
  refine AWo.sliceA2 (v := .slice (some ⟨6000, 0, none⟩) 32 0) (l := 0) (h := 32) tbok rfl .none .none rfl rfl rfl rfl (by decide) (by decide) (by simp [digs_len]) rfl rfl rfl ?_
  refine yC (lw32_ctr (v := (l.getD 0 0).val) (val_lt _)) bd33 [(6000, 0)] [23000] ?_
  refine yA ?_
  refine zN (zS ?_)
  refine yM ?_
  refine yP (PureOp.idx1 tbok (j := 0) rfl rfl rfl rfl (by decide)) ?_
  refine AWo.loadM tbok 0 rfl rfl rfl (by rw [digs_len]; decide) rfl rfl ?_
  rw [dig4 hN]
  refine yC (v := .tuple #[.agg #[vi .i64 (N % 256), vi .i64 (N / 256 % 256), vi .i64 (N / 65536), .slice none 0 0], .bool true]) (begun_ctr (n := N) hNl) bd32 [] [] ?_ (hv := (by rw [decide_eq_true hi]; rfl))
  refine yM ?_
  refine yP pX ?_
  refine yP pX ?_
  refine yN 8000 1 _ ?_
  refine AWo.storeAllN (vs := [vi .i64 (N % 256), vi .i64 (N / 256 % 256), vi .i64 (N / 65536), .slice none 0 0]) tbok rfl rfl rfl rfl rfl rfl rfl rfl ?_
  refine yA ?_
  refine zN (zQ (zS ?_))
  refine yM ?_
  refine yP (PureOp.not rfl) ?_
  refine yM ?_
  refine yM ?_
  refine yC (lb4v_ctr (v := (l.getD 0 0).val) (val_lt _)) bd38 [(23000, 0)] [] ?_
  refine yP ((PureOp.gtN (b := 64) rfl rfl).mono (v' := .bool false) (congrArg Value.bool (decide_eq_false (fun h => Nat.not_le.2 hv (blen_gt.1 h))))) ?_
  refine yP pE ?_
  refine zN (zF (zK (zT (zQ (zS ?_)))))
  refine yLA ?_
  refine yC (v := vi .i64 (lng (bgn N))) (longN_ctr (k := (bgn N).k) (t := (bgn N).t) (cn := N / 65536) hcn) bd34 [] [] ?_
  refine yM ?_
  refine yP pL ?_
  refine yP (PureOp.mulI (a := 32) (b := l.length) rfl rfl (by omega)) ?_
  refine yP ((PureOp.gtN rfl rfl).mono (v' := .bool false) (congrArg Value.bool (by simp; omega))) ?_
  refine zN (zF (zK (zT ?_)))
  refine AW.seqD mixed ?_
  refine yP pF ?_
  refine yL1 ?_
  refine yLA ?_
  refine yC (v := vi .i64 (lng (bgn N))) (longN_ctr (k := (bgn N).k) (t := (bgn N).t) (cn := N / 65536) hcn) bd34 [] [] ?_
  refine AWo.makeF (n := (lng (bgn N))) tbok 50000 ((List.replicate (lng (bgn N)) 0).map (vi .u8)) rfl rfl rfl rfl rfl rfl rfl rfl (by omega) (by omega) (by simp [vi]) rfl rfl rfl ?_
  rw [deepZ]
  refine yC (cutZ_ctr (t := (bgn N).t) (L := (lng (bgn N))) (fits_lng hi) hL) bd23 [] [51000] ?_ (hnew := (.new (clo_map_ren (cloM fun _ => rfl)) (OkL.clo (cloM fun _ => rfl)) .nil))
  refine yA ?_
  refine zD (zQ (zS ?_))
  refine yM ?_
  refine yP pL ?_
  refine yP (PureOp.subI (a := l.length) (b := 1) rfl rfl hl0 (by omega)) ?_
  refine yM ?_
  refine yP pL ?_
  refine yP ((PureOp.ltN rfl rfl).mono (v' := .bool true) (congrArg Value.bool (by simp; omega))) ?_
  refine zN (zC (zS ?_))
  refine yP (PureOp.opNil ((PureOp.buildStruct [] pl27.choose_spec.1 zr27 (by decide) pl27.choose_spec.2 rfl rfl).mono (v' := .agg #[.int .i64 0, .int .i64 0, .int .i64 0, .slice none 0 0]) rfl)) ?_
  refine AWo.storeAllN (vs := [.int .i64 0, .int .i64 0, .int .i64 0, deep 0 1 []]) tbok rfl rfl rfl rfl rfl rfl rfl rfl ?_
  refine yA ?_
  refine yA ?_
  refine zN (zE (zU ?_))
  exact rq [] [.cell 2 27, .tmp 3, .tmp 4] (hres := (.clo rfl (.cons rfl rfl (.cons rfl rfl .nil))))
theorem offieldsE_ctr {l : List Fp} {N : Nat} (hx : l.length < 1000000) (hl0 : 0 < l.length) (hN : (l.getD 0 0).val % 18446744073709551616 = N) (hNl : N < 18446744073709551616) (hi : itC (bgn N).k (bgn N).t (bgn N).c = 0) (hcn : N / 65536 ≤ 1048576) (hL : (lng (bgn N)) < 200000000) (hv : (l.getD 0 0).val < 18446744073709551616) (hd : (lng (bgn N)) ≤ 32 * l.length) (hq : 1 + (np (bgn N).t (lng (bgn N))) ≤ l.length) (hbd : bad (bgn N).t (lng (bgn N)) l (np (bgn N).t (lng (bgn N))) = true) : GC Tryz.prog 15 [.slice (some ⟨0, 0, none⟩) l.length 0] [⟨((l.map fe).flatten).map (vi .u64), false, 4⟩] [opV op0, vi .i64 0, vi .i64 3] [⟨((l.map fe).flatten).map (vi .u64), false, 4⟩] := by
  refine gi Tryz.func15 ?_
  refine zS ?_
  refine yN 3000 1 _ ?_
  refine yA ?_
  refine yA ?_
  refine zN (zQ (zS ?_))
  refine yM ?_
  refine yP pL ?_
  refine yP ((PureOp.eqN (b := 0) rfl rfl).mono (v' := .bool false) (congrArg Value.bool (beq_eq_false_iff_ne.2 (by omega)))) ?_
  refine zN (zF (zK (zT (zS ?_))))
  refine yM ?_
  refine yP (PureOp.idxN tbok (j := 0) rfl rfl rfl rfl hl0) ?_
  refine yLJ (xs := l) (0) ?_
  refine yC (bytesF_ctr (x := l.getD 0 0)) bd37 [] [] ?_
  refine yN 6000 1 ((List.replicate 32 0).map (vi .u8)) ?_
  refine AWo.storeAllN tbok rfl rfl rfl rfl (by rw [List.length_map, digs_len]) (by rfl) (oneM (fun _ => rfl) _) rfl ?_
  refine zN (zS ?_)
  refine AWo.sliceA2 (v := .slice (some ⟨6000, 0, none⟩) 32 0) (l := 0) (h := 32) tbok rfl .none .none rfl rfl rfl rfl (by decide) (by decide) (by simp [digs_len]) rfl rfl rfl ?_
  refine yC (lw32_ctr (v := (l.getD 0 0).val) (val_lt _)) bd33 [(6000, 0)] [23000] ?_
  refine yA ?_
  refine zN (zS ?_)
  refine yM ?_
  refine yP (PureOp.idx1 tbok (j := 0) rfl rfl rfl rfl (by decide)) ?_
  refine AWo.loadM tbok 0 rfl rfl rfl (by rw [digs_len]; decide) rfl rfl ?_
  rw [dig4 hN]
  refine yC (v := .tuple #[.agg #[vi .i64 (N % 256), vi .i64 (N / 256 % 256), vi .i64 (N / 65536), .slice none 0 0], .bool true]) (begun_ctr (n := N) hNl) bd32 [] [] ?_ (hv := (by rw [decide_eq_true hi]; rfl))
  refine yM ?_
  refine yP pX ?_
  refine yP pX ?_
  refine yN 8000 1 _ ?_
  refine AWo.storeAllN (vs := [vi .i64 (N % 256), vi .i64 (N / 256 % 256), vi .i64 (N / 65536), .slice none 0 0]) tbok rfl rfl rfl rfl rfl rfl rfl rfl ?_
  refine yA ?_
  refine zN (zQ (zS ?_))
  refine yM ?_
  refine yP (PureOp.not rfl) ?_
  refine yM ?_
  refine yM ?_
  refine yC (lb4v_ctr (v := (l.getD 0 0).val) (val_lt _)) bd38 [(23000, 0)] [] ?_
  refine yP ((PureOp.gtN (b := 64) rfl rfl).mono (v' := .bool false) (congrArg Value.bool (decide_eq_false (fun h => Nat.not_le.2 hv (blen_gt.1 h))))) ?_
  refine yP pE ?_
  refine zN (zF (zK (zT (zQ (zS ?_)))))
  refine yLA ?_
  refine yC (v := vi .i64 (lng (bgn N))) (longN_ctr (k := (bgn N).k) (t := (bgn N).t) (cn := N / 65536) hcn) bd34 [] [] ?_
  refine yM ?_
  refine yP pL ?_
  refine yP (PureOp.mulI (a := 32) (b := l.length) rfl rfl (by omega)) ?_
  refine yP ((PureOp.gtN rfl rfl).mono (v' := .bool false) (congrArg Value.bool (by simp; omega))) ?_
  refine zN (zF (zK (zT ?_)))
  refine AW.seqD mixed ?_
  refine yP pF ?_
  refine yL1 ?_
  refine yLA ?_
  refine yC (v := vi .i64 (lng (bgn N))) (longN_ctr (k := (bgn N).k) (t := (bgn N).t) (cn := N / 65536) hcn) bd34 [] [] ?_
  refine AWo.makeF (n := (lng (bgn N))) tbok 50000 ((List.replicate (lng (bgn N)) 0).map (vi .u8)) rfl rfl rfl rfl rfl rfl rfl rfl (by omega) (by omega) (by simp [vi]) rfl rfl rfl ?_
  rw [deepZ]
  refine yC (cutZ_ctr (t := (bgn N).t) (L := (lng (bgn N))) (fits_lng hi) hL) bd23 [] [51000] ?_ (hnew := (.new (clo_map_ren (cloM fun _ => rfl)) (OkL.clo (cloM fun _ => rfl)) .nil))
  refine yA ?_
  refine zD (zQ (zS ?_))
  refine yM ?_
  refine yP pL ?_
  refine yP (PureOp.subI (a := l.length) (b := 1) rfl rfl hl0 (by omega)) ?_
  refine yM ?_
  refine yP pL ?_
  refine yP ((PureOp.ltN rfl rfl).mono (v' := .bool false) (congrArg Value.bool (by simp; omega))) ?_
  refine zN (zF (zK (zT (zQ (zS ?_)))))
  refine yM ?_
  refine yP pL ?_
  refine yM ?_
  refine zN (zB ?_)
  refine AW.ghost 77000 1 rfl ?_
  refine AW.loopw (fun mm σ => ∃ i, (i ≤ (np (bgn N).t (lng (bgn N))) ∧ bad (bgn N).t (lng (bgn N)) l i = false) ∧ mm = (np (bgn N).t (lng (bgn N))) - i ∧ σ = ⟨(upd (upd (upd (upd (upd (upd (upd emp 0 (.slice (some ⟨0, 0, none⟩) l.length 0)) 2 (.pointer (some ⟨3000, 0, none⟩))) 7 (.pointer (some ⟨8000, 0, none⟩))) 9 (.slice (some ⟨51000, 0, none⟩) (np (bgn N).t (lng (bgn N))) 0)) 58 (.slice (some ⟨51000, 0, none⟩) (np (bgn N).t (lng (bgn N))) 0)) 59 (vi .i64 (np (bgn N).t (lng (bgn N))))) 60 (vi .i64 i)), (upd (upd (upd (upd (upd emp 0 ⟨((l.map fe).flatten).map (vi .u64), false, 4⟩) 3000 ⟨[.int .i64 0, .int .i64 0, .int .i64 0, .slice none 0 0], true, 1⟩) 8000 ⟨[vi .i64 (N % 256), vi .i64 (N / 256 % 256), vi .i64 (N / 65536), .slice (some ⟨77000, 0, none⟩) (rdD (bgn N).t (lng (bgn N)) l i).length 0], true, 1⟩) 77000 ⟨(rdD (bgn N).t (lng (bgn N)) l i).map (vi .u8), true, 1⟩) 51000 ⟨(pcs (bgn N).t (List.replicate (lng (bgn N)) 0)).map db, true, 1⟩)⟩) (fm := []) ?_ ⟨0, ⟨Nat.zero_le _, rfl⟩, rfl, rfl⟩ ?_
  ·
    refine Wk.of [0, 3000, 8000, 77000, 51000] ?_ ?_ ?_ (by decide) rfl
    ·
      refine WkE.upd rfl (by exact VR.flat _ rfl) ?_
      refine WkE.upd rfl (by exact VR.flat _ rfl) ?_
      refine WkE.upd rfl (.slice (51000) 0 _ 0 ⟨_, rfl⟩ (by simp) (by simp)) ?_
      refine WkE.upd rfl (.slice (51000) 0 _ 0 ⟨_, rfl⟩ (by simp) (by simp)) ?_
      refine WkE.upd rfl (.ptr (8000) 0 ⟨_, rfl⟩) ?_
      refine WkE.upd rfl (.ptr (3000) 0 ⟨_, rfl⟩) ?_
      refine WkE.upd rfl (.slice (0) 0 _ 0 ⟨_, rfl⟩ (by simp) (by simp)) ?_
      exact WkE.emp
    ·
      refine WkM.cloM rfl rfl (fun _ => rfl) (fun h => h) ?_
      refine WkM.flat rfl (flatM flat_vi) (fun h => h) ?_
      refine WkM.nil3 rfl (fun h => h) ?_
      refine WkM.flat rfl (by simp [flatV, flat_vi]) (fun h => h) ?_
      refine WkM.flat rfl (flatM flat_vi) (fun h => h) ?_
      exact WkM.emp
    ·
      repeat (refine dom_upd_mem (by decide) ?_)
      exact dom_emp
  ·
    rintro mm σ ⟨i, ⟨hik, hbi⟩, rfl, rfl⟩
    refine zS ?_
    refine yP pLt ?_
    refine zN (zQ ?_)
    refine zA (fun hb0 => ?_) (fun hb0 => ?_)
    ·
      have hi : i < (np (bgn N).t (lng (bgn N))) := by simpa using hb0
      have hi1 : 1 + i < l.length := by omega
      have hp : (plen (bgn N).t (lng (bgn N)) i) ≤ 32 := Nat.le_trans (Nat.min_le_left _ _) (wd_le _ _)
      have hrd := rdD_le (bgn N).t (lng (bgn N)) l i
      refine zK (zT (zQ (zB (zS ?_))))
      refine yM ?_
      refine yP (PureOp.idx1 tbok (j := i) rfl rfl rfl rfl hi) ?_
      refine AWo.loadM tbok [] rfl rfl rfl (by rw [pcs_len, List.length_replicate]; exact hi) rfl rfl ?_
      rw [pcs_getD (by rw [List.length_replicate]; exact hi)]
      refine yA ?_
      refine yA ?_
      refine zN (zS ?_)
      refine yM ?_
      refine yM ?_
      refine yP (pAdd (a := 1) (b := i)) ?_
      refine yP (PureOp.idxN tbok (j := 1 + i) rfl rfl rfl rfl hi1) ?_
      refine yLJ (xs := l) (1 + i) ?_
      refine yC (bytesF_ctr (x := l.getD (1 + i) 0)) bd37 [] [] ?_
      refine yN 13000 1 ((List.replicate 32 0).map (vi .u8)) ?_
      refine AWo.storeAllN tbok rfl rfl rfl rfl (by rw [List.length_map, digs_len]) (by rfl) (oneM (fun _ => rfl) _) rfl ?_
      refine zN (zQ (zS ?_))
      refine yM ?_
      refine yP ((PureOp.lenD tbok rfl rfl).mono (v' := vi .i64 (plen (bgn N).t (lng (bgn N)) i)) (congrArg (vi .i64) (by rw [pc_len, List.length_replicate]; rfl))) ?_
      refine AWo.sliceA2 (v := .slice (some ⟨13000, (plen (bgn N).t (lng (bgn N)) i), none⟩) (32 - (plen (bgn N).t (lng (bgn N)) i)) 0) (l := (plen (bgn N).t (lng (bgn N)) i)) (h := 32) tbok rfl (.some rfl) .none rfl rfl rfl rfl hp (by decide) (by simp [digs_len]) (by rw [Nat.zero_add, Nat.mul_one]) rfl rfl ?_
      refine yC (lwP_ctr (v := (l.getD (1 + i) 0).val) (p := (plen (bgn N).t (lng (bgn N)) i)) (val_lt _) hp) bd33 [(13000, (plen (bgn N).t (lng (bgn N)) i))] [75000] ?_ (hfit := (.part rfl (partP hp) (flatM flat_vi) (by simp [digs_len]; omega) .nil))
      refine yC (lbP_ctr (v := (l.getD (1 + i) 0).val) (p := (plen (bgn N).t (lng (bgn N)) i)) (val_lt _) hp) bd38 [(75000, 0)] [] ?_
      refine yP ((PureOp.gtN (b := 0) rfl rfl).mono (v' := .bool (decide (256 ^ (plen (bgn N).t (lng (bgn N)) i) ≤ (l.getD (1 + i) 0).val))) (congrArg Value.bool (by rw [Bool.eq_iff_iff, decide_eq_true_eq, decide_eq_true_eq]; exact blen_0))) ?_
      refine zN ?_
      refine zA (fun hb1 => ?_) (fun hb1 => ?_)
      ·
        have hz : 256 ^ (plen (bgn N).t (lng (bgn N)) i) ≤ (l.getD (1 + i) 0).val := of_decide_eq_true hb1
        refine zS ?_
        refine yP (PureOp.opNil ((PureOp.buildStruct [] pl27.choose_spec.1 zr27 (by decide) pl27.choose_spec.2 rfl rfl).mono (v' := .agg #[.int .i64 0, .int .i64 0, .int .i64 0, .slice none 0 0]) rfl)) ?_
        refine AWo.storeAllN (vs := [.int .i64 0, .int .i64 0, .int .i64 0, deep 0 1 []]) tbok rfl rfl rfl rfl rfl rfl rfl rfl ?_
        refine yA ?_
        refine yA ?_
        refine zN (zE (zU (zI (zU (zU (zI (zU ?_)))))))
        exact rq [] [.cell 2 27, .tmp 3, .tmp 4] (hres := (.clo rfl (.cons rfl rfl (.cons rfl rfl .nil))))
      ·
        have hz : ¬ 256 ^ (plen (bgn N).t (lng (bgn N)) i) ≤ (l.getD (1 + i) 0).val := of_decide_eq_false hb1
        refine zK (zT ?_)
        refine AW.draw mixed ?_
        refine yP pF ?_
        refine yL1 ?_
        refine yM ?_
        refine yP ((PureOp.lenD tbok rfl rfl).mono (v' := vi .i64 (plen (bgn N).t (lng (bgn N)) i)) (congrArg (vi .i64) (by rw [pc_len, List.length_replicate]; rfl))) ?_
        refine AWo.sliceA2 (v := .slice (some ⟨13000, 0, none⟩) (plen (bgn N).t (lng (bgn N)) i) 0) (l := 0) (h := (plen (bgn N).t (lng (bgn N)) i)) tbok rfl .none (.some rfl) rfl rfl rfl rfl (Nat.zero_le _) hp (by simp [digs_len]) rfl rfl rfl ?_
        refine AWo.append tbok (all := (rdD (bgn N).t (lng (bgn N)) l (i + 1)).map (vi .u8)) (news := (digs 256 (plen (bgn N).t (lng (bgn N)) i) (l.getD (1 + i) 0).val).map (vi .u8)) 84000 rfl rfl rfl rfl (by simp) (newsP hp) (by simp [digs_len]; omega) (by decide) rfl rfl rfl (by decide) rfl rfl rfl (by omega) (by omega) (oneM (fun _ => rfl) _) (by rw [rdD_succ, List.map_append]) rfl rfl ?_
        refine yP pF ?_
        refine AWo.store1 tbok rfl rfl rfl rfl rfl (by simp) rfl rfl ?_
        refine zD (zL (zT (zR ?_)))
        refine yP (pAdd (b := 1)) ?_
        refine yM ?_
        refine zN (zT ?_)
        rw [show (rdD (bgn N).t (lng (bgn N)) l i).length + (plen (bgn N).t (lng (bgn N)) i) = (rdD (bgn N).t (lng (bgn N)) l (i + 1)).length by rw [rdD_succ, List.length_append, digs_len]]
        exact ⟨(np (bgn N).t (lng (bgn N))) - (i + 1), [(77000, 84000)], _, by omega, wk [0, 3000, 8000, 77000, 51000], i + 1, ⟨by omega, by rw [bad_succ, hbi, decide_eq_false hz]; rfl⟩, rfl, rfl⟩
    ·
      exact absurd hbi (by rw [show i = (np (bgn N).t (lng (bgn N))) by simp at hb0; omega, hbd]; decide)
theorem offieldsF_ctr {l : List Fp} {N : Nat} (hx : l.length < 1000000) (hl0 : 0 < l.length) (hN : (l.getD 0 0).val % 18446744073709551616 = N) (hNl : N < 18446744073709551616) (hi : itC (bgn N).k (bgn N).t (bgn N).c = 0) (hcn : N / 65536 ≤ 1048576) (hL : (lng (bgn N)) < 200000000) (hv : (l.getD 0 0).val < 18446744073709551616) (hd : (lng (bgn N)) ≤ 32 * l.length) (hq : 1 + (np (bgn N).t (lng (bgn N))) ≤ l.length) (hbd : bad (bgn N).t (lng (bgn N)) l (np (bgn N).t (lng (bgn N))) = false) (hr : ¬ Rgt ⟨(bgn N).k, (bgn N).t, (bgn N).c, rdD (bgn N).t (lng (bgn N)) l (np (bgn N).t (lng (bgn N)))⟩) : GC Tryz.prog 15 [.slice (some ⟨0, 0, none⟩) l.length 0] [⟨((l.map fe).flatten).map (vi .u64), false, 4⟩] [opV op0, vi .i64 0, vi .i64 3] [⟨((l.map fe).flatten).map (vi .u64), false, 4⟩] := by
  refine gi Tryz.func15 ?_
  refine zS ?_
  refine yN 3000 1 _ ?_
  refine yA ?_
  refine yA ?_
  refine zN (zQ (zS ?_))
  refine yM ?_
  refine yP pL ?_
  refine yP ((PureOp.eqN (b := 0) rfl rfl).mono (v' := .bool false) (congrArg Value.bool (beq_eq_false_iff_ne.2 (by omega)))) ?_
  refine zN (zF (zK (zT (zS ?_))))
  refine yM ?_
  refine yP (PureOp.idxN tbok (j := 0) rfl rfl rfl rfl hl0) ?_
  refine yLJ (xs := l) (0) ?_
  refine yC (bytesF_ctr (x := l.getD 0 0)) bd37 [] [] ?_
  refine yN 6000 1 ((List.replicate 32 0).map (vi .u8)) ?_
  refine AWo.storeAllN tbok rfl rfl rfl rfl (by rw [List.length_map, digs_len]) (by rfl) (oneM (fun _ => rfl) _) rfl ?_
  refine zN (zS ?_)
  refine AWo.sliceA2 (v := .slice (some ⟨6000, 0, none⟩) 32 0) (l := 0) (h := 32) tbok rfl .none .none rfl rfl rfl rfl (by decide) (by decide) (by simp [digs_len]) rfl rfl rfl ?_
  refine yC (lw32_ctr (v := (l.getD 0 0).val) (val_lt _)) bd33 [(6000, 0)] [23000] ?_
  refine yA ?_
  refine zN (zS ?_)
  refine yM ?_
  refine yP (PureOp.idx1 tbok (j := 0) rfl rfl rfl rfl (by decide)) ?_
  refine AWo.loadM tbok 0 rfl rfl rfl (by rw [digs_len]; decide) rfl rfl ?_
  rw [dig4 hN]
  refine yC (v := .tuple #[.agg #[vi .i64 (N % 256), vi .i64 (N / 256 % 256), vi .i64 (N / 65536), .slice none 0 0], .bool true]) (begun_ctr (n := N) hNl) bd32 [] [] ?_ (hv := (by rw [decide_eq_true hi]; rfl))
  refine yM ?_
  refine yP pX ?_
  refine yP pX ?_
  refine yN 8000 1 _ ?_
  refine AWo.storeAllN (vs := [vi .i64 (N % 256), vi .i64 (N / 256 % 256), vi .i64 (N / 65536), .slice none 0 0]) tbok rfl rfl rfl rfl rfl rfl rfl rfl ?_
  refine yA ?_
  refine zN (zQ (zS ?_))
  refine yM ?_
  refine yP (PureOp.not rfl) ?_
  refine yM ?_
  refine yM ?_
  refine yC (lb4v_ctr (v := (l.getD 0 0).val) (val_lt _)) bd38 [(23000, 0)] [] ?_
  refine yP ((PureOp.gtN (b := 64) rfl rfl).mono (v' := .bool false) (congrArg Value.bool (decide_eq_false (fun h => Nat.not_le.2 hv (blen_gt.1 h))))) ?_
  refine yP pE ?_
  refine zN (zF (zK (zT (zQ (zS ?_)))))
  refine yLA ?_
  refine yC (v := vi .i64 (lng (bgn N))) (longN_ctr (k := (bgn N).k) (t := (bgn N).t) (cn := N / 65536) hcn) bd34 [] [] ?_
  refine yM ?_
  refine yP pL ?_
  refine yP (PureOp.mulI (a := 32) (b := l.length) rfl rfl (by omega)) ?_
  refine yP ((PureOp.gtN rfl rfl).mono (v' := .bool false) (congrArg Value.bool (by simp; omega))) ?_
  refine zN (zF (zK (zT ?_)))
  refine AW.seqD mixed ?_
  refine yP pF ?_
  refine yL1 ?_
  refine yLA ?_
  refine yC (v := vi .i64 (lng (bgn N))) (longN_ctr (k := (bgn N).k) (t := (bgn N).t) (cn := N / 65536) hcn) bd34 [] [] ?_
  refine AWo.makeF (n := (lng (bgn N))) tbok 50000 ((List.replicate (lng (bgn N)) 0).map (vi .u8)) rfl rfl rfl rfl rfl rfl rfl rfl (by omega) (by omega) (by simp [vi]) rfl rfl rfl ?_
  rw [deepZ]
  refine yC (cutZ_ctr (t := (bgn N).t) (L := (lng (bgn N))) (fits_lng hi) hL) bd23 [] [51000] ?_ (hnew := (.new (clo_map_ren (cloM fun _ => rfl)) (OkL.clo (cloM fun _ => rfl)) .nil))
  refine yA ?_
  refine zD (zQ (zS ?_))
  refine yM ?_
  refine yP pL ?_
  refine yP (PureOp.subI (a := l.length) (b := 1) rfl rfl hl0 (by omega)) ?_
  refine yM ?_
  refine yP pL ?_
  refine yP ((PureOp.ltN rfl rfl).mono (v' := .bool false) (congrArg Value.bool (by simp; omega))) ?_
  refine zN (zF (zK (zT (zQ (zS ?_)))))
  refine yM ?_
  refine yP pL ?_
  refine yM ?_
  refine zN (zB ?_)
  refine AW.ghost 77000 1 rfl ?_
  refine AW.loopw (fun mm σ => ∃ i, (i ≤ (np (bgn N).t (lng (bgn N))) ∧ bad (bgn N).t (lng (bgn N)) l i = false) ∧ mm = (np (bgn N).t (lng (bgn N))) - i ∧ σ = ⟨(upd (upd (upd (upd (upd (upd (upd emp 0 (.slice (some ⟨0, 0, none⟩) l.length 0)) 2 (.pointer (some ⟨3000, 0, none⟩))) 7 (.pointer (some ⟨8000, 0, none⟩))) 9 (.slice (some ⟨51000, 0, none⟩) (np (bgn N).t (lng (bgn N))) 0)) 58 (.slice (some ⟨51000, 0, none⟩) (np (bgn N).t (lng (bgn N))) 0)) 59 (vi .i64 (np (bgn N).t (lng (bgn N))))) 60 (vi .i64 i)), (upd (upd (upd (upd (upd emp 0 ⟨((l.map fe).flatten).map (vi .u64), false, 4⟩) 3000 ⟨[.int .i64 0, .int .i64 0, .int .i64 0, .slice none 0 0], true, 1⟩) 8000 ⟨[vi .i64 (N % 256), vi .i64 (N / 256 % 256), vi .i64 (N / 65536), .slice (some ⟨77000, 0, none⟩) (rdD (bgn N).t (lng (bgn N)) l i).length 0], true, 1⟩) 77000 ⟨(rdD (bgn N).t (lng (bgn N)) l i).map (vi .u8), true, 1⟩) 51000 ⟨(pcs (bgn N).t (List.replicate (lng (bgn N)) 0)).map db, true, 1⟩)⟩) (fm := []) ?_ ⟨0, ⟨Nat.zero_le _, rfl⟩, rfl, rfl⟩ ?_
  ·
    refine Wk.of [0, 3000, 8000, 77000, 51000] ?_ ?_ ?_ (by decide) rfl
    ·
      refine WkE.upd rfl (by exact VR.flat _ rfl) ?_
      refine WkE.upd rfl (by exact VR.flat _ rfl) ?_
      refine WkE.upd rfl (.slice (51000) 0 _ 0 ⟨_, rfl⟩ (by simp) (by simp)) ?_
      refine WkE.upd rfl (.slice (51000) 0 _ 0 ⟨_, rfl⟩ (by simp) (by simp)) ?_
      refine WkE.upd rfl (.ptr (8000) 0 ⟨_, rfl⟩) ?_
      refine WkE.upd rfl (.ptr (3000) 0 ⟨_, rfl⟩) ?_
      refine WkE.upd rfl (.slice (0) 0 _ 0 ⟨_, rfl⟩ (by simp) (by simp)) ?_
      exact WkE.emp
    ·
      refine WkM.cloM rfl rfl (fun _ => rfl) (fun h => h) ?_
      refine WkM.flat rfl (flatM flat_vi) (fun h => h) ?_
      refine WkM.nil3 rfl (fun h => h) ?_
      refine WkM.flat rfl (by simp [flatV, flat_vi]) (fun h => h) ?_
      refine WkM.flat rfl (flatM flat_vi) (fun h => h) ?_
      exact WkM.emp
    ·
      repeat (refine dom_upd_mem (by decide) ?_)
      exact dom_emp
  ·
    rintro mm σ ⟨i, ⟨hik, hbi⟩, rfl, rfl⟩
    refine zS ?_
    refine yP pLt ?_
    refine zN (zQ ?_)
    refine zA (fun hb0 => ?_) (fun hb0 => ?_)
    ·
      have hi : i < (np (bgn N).t (lng (bgn N))) := by simpa using hb0
      have hi1 : 1 + i < l.length := by omega
      have hp : (plen (bgn N).t (lng (bgn N)) i) ≤ 32 := Nat.le_trans (Nat.min_le_left _ _) (wd_le _ _)
      have hrd := rdD_le (bgn N).t (lng (bgn N)) l i
      refine zK (zT (zQ (zB (zS ?_))))
      refine yM ?_
      refine yP (PureOp.idx1 tbok (j := i) rfl rfl rfl rfl hi) ?_
      refine AWo.loadM tbok [] rfl rfl rfl (by rw [pcs_len, List.length_replicate]; exact hi) rfl rfl ?_
      rw [pcs_getD (by rw [List.length_replicate]; exact hi)]
      refine yA ?_
      refine yA ?_
      refine zN (zS ?_)
      refine yM ?_
      refine yM ?_
      refine yP (pAdd (a := 1) (b := i)) ?_
      refine yP (PureOp.idxN tbok (j := 1 + i) rfl rfl rfl rfl hi1) ?_
      refine yLJ (xs := l) (1 + i) ?_
      refine yC (bytesF_ctr (x := l.getD (1 + i) 0)) bd37 [] [] ?_
      refine yN 13000 1 ((List.replicate 32 0).map (vi .u8)) ?_
      refine AWo.storeAllN tbok rfl rfl rfl rfl (by rw [List.length_map, digs_len]) (by rfl) (oneM (fun _ => rfl) _) rfl ?_
      refine zN (zQ (zS ?_))
      refine yM ?_
      refine yP ((PureOp.lenD tbok rfl rfl).mono (v' := vi .i64 (plen (bgn N).t (lng (bgn N)) i)) (congrArg (vi .i64) (by rw [pc_len, List.length_replicate]; rfl))) ?_
      refine AWo.sliceA2 (v := .slice (some ⟨13000, (plen (bgn N).t (lng (bgn N)) i), none⟩) (32 - (plen (bgn N).t (lng (bgn N)) i)) 0) (l := (plen (bgn N).t (lng (bgn N)) i)) (h := 32) tbok rfl (.some rfl) .none rfl rfl rfl rfl hp (by decide) (by simp [digs_len]) (by rw [Nat.zero_add, Nat.mul_one]) rfl rfl ?_
      refine yC (lwP_ctr (v := (l.getD (1 + i) 0).val) (p := (plen (bgn N).t (lng (bgn N)) i)) (val_lt _) hp) bd33 [(13000, (plen (bgn N).t (lng (bgn N)) i))] [75000] ?_ (hfit := (.part rfl (partP hp) (flatM flat_vi) (by simp [digs_len]; omega) .nil))
      refine yC (lbP_ctr (v := (l.getD (1 + i) 0).val) (p := (plen (bgn N).t (lng (bgn N)) i)) (val_lt _) hp) bd38 [(75000, 0)] [] ?_
      refine yP ((PureOp.gtN (b := 0) rfl rfl).mono (v' := .bool (decide (256 ^ (plen (bgn N).t (lng (bgn N)) i) ≤ (l.getD (1 + i) 0).val))) (congrArg Value.bool (by rw [Bool.eq_iff_iff, decide_eq_true_eq, decide_eq_true_eq]; exact blen_0))) ?_
      refine zN ?_
      refine zA (fun hb1 => ?_) (fun hb1 => ?_)
      ·
        exact absurd (bad_mono (by rw [bad_succ, hbi, hb1]; rfl) (show i + 1 ≤ (np (bgn N).t (lng (bgn N))) from hi)) (by rw [hbd]; decide)
      ·
        have hz : ¬ 256 ^ (plen (bgn N).t (lng (bgn N)) i) ≤ (l.getD (1 + i) 0).val := of_decide_eq_false hb1
        refine zK (zT ?_)
        refine AW.draw mixed ?_
        refine yP pF ?_
        refine yL1 ?_
        refine yM ?_
        refine yP ((PureOp.lenD tbok rfl rfl).mono (v' := vi .i64 (plen (bgn N).t (lng (bgn N)) i)) (congrArg (vi .i64) (by rw [pc_len, List.length_replicate]; rfl))) ?_
        refine AWo.sliceA2 (v := .slice (some ⟨13000, 0, none⟩) (plen (bgn N).t (lng (bgn N)) i) 0) (l := 0) (h := (plen (bgn N).t (lng (bgn N)) i)) tbok rfl .none (.some rfl) rfl rfl rfl rfl (Nat.zero_le _) hp (by simp [digs_len]) rfl rfl rfl ?_
        refine AWo.append tbok (all := (rdD (bgn N).t (lng (bgn N)) l (i + 1)).map (vi .u8)) (news := (digs 256 (plen (bgn N).t (lng (bgn N)) i) (l.getD (1 + i) 0).val).map (vi .u8)) 84000 rfl rfl rfl rfl (by simp) (newsP hp) (by simp [digs_len]; omega) (by decide) rfl rfl rfl (by decide) rfl rfl rfl (by omega) (by omega) (oneM (fun _ => rfl) _) (by rw [rdD_succ, List.map_append]) rfl rfl ?_
        refine yP pF ?_
        refine AWo.store1 tbok rfl rfl rfl rfl rfl (by simp) rfl rfl ?_
        refine zD (zL (zT (zR ?_)))
        refine yP (pAdd (b := 1)) ?_
        refine yM ?_
        refine zN (zT ?_)
        rw [show (rdD (bgn N).t (lng (bgn N)) l i).length + (plen (bgn N).t (lng (bgn N)) i) = (rdD (bgn N).t (lng (bgn N)) l (i + 1)).length by rw [rdD_succ, List.length_append, digs_len]]
        exact ⟨(np (bgn N).t (lng (bgn N))) - (i + 1), [(77000, 84000)], _, by omega, wk [0, 3000, 8000, 77000, 51000], i + 1, ⟨by omega, by rw [bad_succ, hbi, decide_eq_false hz]; rfl⟩, rfl, rfl⟩
    ·
      obtain rfl : i = (np (bgn N).t (lng (bgn N))) := by simp at hb0; omega
      refine zX (zV (zV (zH (zT (zQ ?_)))))
      refine AW.freezeC 8000 77000 3 ((rdD (bgn N).t (lng (bgn N)) l (np (bgn N).t (lng (bgn N)))).map (vi .u8)) [vi .i64 (N % 256), vi .i64 (N / 256 % 256), vi .i64 (N / 65536), db (rdD (bgn N).t (lng (bgn N)) l (np (bgn N).t (lng (bgn N))))] rfl rfl rfl rfl (by decide) (cloM fun _ => rfl) (by simp) (by rw [List.drop_zero]; exact List.take_of_length_le (by simp)) ?_
      refine zS ?_
      refine yLA ?_
      refine AWo.callX (v := .bool false) (opright_ctr (x := ⟨(bgn N).k, (bgn N).t, (bgn N).c, rdD (bgn N).t (lng (bgn N)) l (np (bgn N).t (lng (bgn N)))⟩) (rdD_bd _ _ _ _) (by show List.length (rdD (bgn N).t (lng (bgn N)) l (np (bgn N).t (lng (bgn N)))) < _; have := rdD_le (bgn N).t (lng (bgn N)) l (np (bgn N).t (lng (bgn N))); omega)) bd22 [] [] rfl (.cons rfl .nil) rfl (.clo rfl .nil) .nil rfl .nil frN (by decide) (.cons rfl rfl .nil) (congrArg Value.bool (decide_eq_false hr)) rfl rfl rfl ?_
      refine yP (PureOp.not rfl) ?_
      refine zN (zC (zS ?_))
      refine yP (PureOp.opNil ((PureOp.buildStruct [] pl27.choose_spec.1 zr27 (by decide) pl27.choose_spec.2 rfl rfl).mono (v' := .agg #[.int .i64 0, .int .i64 0, .int .i64 0, .slice none 0 0]) rfl)) ?_
      refine AWo.storeAllN (vs := [.int .i64 0, .int .i64 0, .int .i64 0, deep 0 1 []]) tbok rfl rfl rfl rfl rfl rfl rfl rfl ?_
      refine yA ?_
      refine yA ?_
      refine zN (zE (zU ?_))
      exact rq [] [.cell 2 27, .tmp 3, .tmp 4] (hres := (.clo rfl (.cons rfl rfl (.cons rfl rfl .nil))))
theorem offieldsG_ctr {l : List Fp} {N : Nat} (hx : l.length < 1000000) (hl0 : 0 < l.length) (hN : (l.getD 0 0).val % 18446744073709551616 = N) (hNl : N < 18446744073709551616) (hi : itC (bgn N).k (bgn N).t (bgn N).c = 0) (hcn : N / 65536 ≤ 1048576) (hL : (lng (bgn N)) < 200000000) (hv : (l.getD 0 0).val < 18446744073709551616) (hd : (lng (bgn N)) ≤ 32 * l.length) (hq : 1 + (np (bgn N).t (lng (bgn N))) ≤ l.length) (hbd : bad (bgn N).t (lng (bgn N)) l (np (bgn N).t (lng (bgn N))) = false) (hr : Rgt ⟨(bgn N).k, (bgn N).t, (bgn N).c, rdD (bgn N).t (lng (bgn N)) l (np (bgn N).t (lng (bgn N)))⟩) : GC Tryz.prog 15 [.slice (some ⟨0, 0, none⟩) l.length 0] [⟨((l.map fe).flatten).map (vi .u64), false, 4⟩] [opV (Opn.mk (bgn N).k (bgn N).t (bgn N).c (rdD (bgn N).t (lng (bgn N)) l (np (bgn N).t (lng (bgn N))))), vi .i64 (1 + (np (bgn N).t (lng (bgn N)))), vi .i64 0] [⟨((l.map fe).flatten).map (vi .u64), false, 4⟩] := by
  refine gi Tryz.func15 ?_
  refine zS ?_
  refine yN 3000 1 _ ?_
  refine yA ?_
  refine yA ?_
  refine zN (zQ (zS ?_))
  refine yM ?_
  refine yP pL ?_
  refine yP ((PureOp.eqN (b := 0) rfl rfl).mono (v' := .bool false) (congrArg Value.bool (beq_eq_false_iff_ne.2 (by omega)))) ?_
  refine zN (zF (zK (zT (zS ?_))))
  refine yM ?_
  refine yP (PureOp.idxN tbok (j := 0) rfl rfl rfl rfl hl0) ?_
  refine yLJ (xs := l) (0) ?_
  refine yC (bytesF_ctr (x := l.getD 0 0)) bd37 [] [] ?_
  refine yN 6000 1 ((List.replicate 32 0).map (vi .u8)) ?_
  refine AWo.storeAllN tbok rfl rfl rfl rfl (by rw [List.length_map, digs_len]) (by rfl) (oneM (fun _ => rfl) _) rfl ?_
  refine zN (zS ?_)
  refine AWo.sliceA2 (v := .slice (some ⟨6000, 0, none⟩) 32 0) (l := 0) (h := 32) tbok rfl .none .none rfl rfl rfl rfl (by decide) (by decide) (by simp [digs_len]) rfl rfl rfl ?_
  refine yC (lw32_ctr (v := (l.getD 0 0).val) (val_lt _)) bd33 [(6000, 0)] [23000] ?_
  refine yA ?_
  refine zN (zS ?_)
  refine yM ?_
  refine yP (PureOp.idx1 tbok (j := 0) rfl rfl rfl rfl (by decide)) ?_
  refine AWo.loadM tbok 0 rfl rfl rfl (by rw [digs_len]; decide) rfl rfl ?_
  rw [dig4 hN]
  refine yC (v := .tuple #[.agg #[vi .i64 (N % 256), vi .i64 (N / 256 % 256), vi .i64 (N / 65536), .slice none 0 0], .bool true]) (begun_ctr (n := N) hNl) bd32 [] [] ?_ (hv := (by rw [decide_eq_true hi]; rfl))
  refine yM ?_
  refine yP pX ?_
  refine yP pX ?_
  refine yN 8000 1 _ ?_
  refine AWo.storeAllN (vs := [vi .i64 (N % 256), vi .i64 (N / 256 % 256), vi .i64 (N / 65536), .slice none 0 0]) tbok rfl rfl rfl rfl rfl rfl rfl rfl ?_
  refine yA ?_
  refine zN (zQ (zS ?_))
  refine yM ?_
  refine yP (PureOp.not rfl) ?_
  refine yM ?_
  refine yM ?_
  refine yC (lb4v_ctr (v := (l.getD 0 0).val) (val_lt _)) bd38 [(23000, 0)] [] ?_
  refine yP ((PureOp.gtN (b := 64) rfl rfl).mono (v' := .bool false) (congrArg Value.bool (decide_eq_false (fun h => Nat.not_le.2 hv (blen_gt.1 h))))) ?_
  refine yP pE ?_
  refine zN (zF (zK (zT (zQ (zS ?_)))))
  refine yLA ?_
  refine yC (v := vi .i64 (lng (bgn N))) (longN_ctr (k := (bgn N).k) (t := (bgn N).t) (cn := N / 65536) hcn) bd34 [] [] ?_
  refine yM ?_
  refine yP pL ?_
  refine yP (PureOp.mulI (a := 32) (b := l.length) rfl rfl (by omega)) ?_
  refine yP ((PureOp.gtN rfl rfl).mono (v' := .bool false) (congrArg Value.bool (by simp; omega))) ?_
  refine zN (zF (zK (zT ?_)))
  refine AW.seqD mixed ?_
  refine yP pF ?_
  refine yL1 ?_
  refine yLA ?_
  refine yC (v := vi .i64 (lng (bgn N))) (longN_ctr (k := (bgn N).k) (t := (bgn N).t) (cn := N / 65536) hcn) bd34 [] [] ?_
  refine AWo.makeF (n := (lng (bgn N))) tbok 50000 ((List.replicate (lng (bgn N)) 0).map (vi .u8)) rfl rfl rfl rfl rfl rfl rfl rfl (by omega) (by omega) (by simp [vi]) rfl rfl rfl ?_
  rw [deepZ]
  refine yC (cutZ_ctr (t := (bgn N).t) (L := (lng (bgn N))) (fits_lng hi) hL) bd23 [] [51000] ?_ (hnew := (.new (clo_map_ren (cloM fun _ => rfl)) (OkL.clo (cloM fun _ => rfl)) .nil))
  refine yA ?_
  refine zD (zQ (zS ?_))
  refine yM ?_
  refine yP pL ?_
  refine yP (PureOp.subI (a := l.length) (b := 1) rfl rfl hl0 (by omega)) ?_
  refine yM ?_
  refine yP pL ?_
  refine yP ((PureOp.ltN rfl rfl).mono (v' := .bool false) (congrArg Value.bool (by simp; omega))) ?_
  refine zN (zF (zK (zT (zQ (zS ?_)))))
  refine yM ?_
  refine yP pL ?_
  refine yM ?_
  refine zN (zB ?_)
  refine AW.ghost 77000 1 rfl ?_
  refine AW.loopw (fun mm σ => ∃ i, (i ≤ (np (bgn N).t (lng (bgn N))) ∧ bad (bgn N).t (lng (bgn N)) l i = false) ∧ mm = (np (bgn N).t (lng (bgn N))) - i ∧ σ = ⟨(upd (upd (upd (upd (upd (upd (upd emp 0 (.slice (some ⟨0, 0, none⟩) l.length 0)) 2 (.pointer (some ⟨3000, 0, none⟩))) 7 (.pointer (some ⟨8000, 0, none⟩))) 9 (.slice (some ⟨51000, 0, none⟩) (np (bgn N).t (lng (bgn N))) 0)) 58 (.slice (some ⟨51000, 0, none⟩) (np (bgn N).t (lng (bgn N))) 0)) 59 (vi .i64 (np (bgn N).t (lng (bgn N))))) 60 (vi .i64 i)), (upd (upd (upd (upd (upd emp 0 ⟨((l.map fe).flatten).map (vi .u64), false, 4⟩) 3000 ⟨[.int .i64 0, .int .i64 0, .int .i64 0, .slice none 0 0], true, 1⟩) 8000 ⟨[vi .i64 (N % 256), vi .i64 (N / 256 % 256), vi .i64 (N / 65536), .slice (some ⟨77000, 0, none⟩) (rdD (bgn N).t (lng (bgn N)) l i).length 0], true, 1⟩) 77000 ⟨(rdD (bgn N).t (lng (bgn N)) l i).map (vi .u8), true, 1⟩) 51000 ⟨(pcs (bgn N).t (List.replicate (lng (bgn N)) 0)).map db, true, 1⟩)⟩) (fm := []) ?_ ⟨0, ⟨Nat.zero_le _, rfl⟩, rfl, rfl⟩ ?_
  ·
    refine Wk.of [0, 3000, 8000, 77000, 51000] ?_ ?_ ?_ (by decide) rfl
    ·
      refine WkE.upd rfl (by exact VR.flat _ rfl) ?_
      refine WkE.upd rfl (by exact VR.flat _ rfl) ?_
      refine WkE.upd rfl (.slice (51000) 0 _ 0 ⟨_, rfl⟩ (by simp) (by simp)) ?_
      refine WkE.upd rfl (.slice (51000) 0 _ 0 ⟨_, rfl⟩ (by simp) (by simp)) ?_
      refine WkE.upd rfl (.ptr (8000) 0 ⟨_, rfl⟩) ?_
      refine WkE.upd rfl (.ptr (3000) 0 ⟨_, rfl⟩) ?_
      refine WkE.upd rfl (.slice (0) 0 _ 0 ⟨_, rfl⟩ (by simp) (by simp)) ?_
      exact WkE.emp
    ·
      refine WkM.cloM rfl rfl (fun _ => rfl) (fun h => h) ?_
      refine WkM.flat rfl (flatM flat_vi) (fun h => h) ?_
      refine WkM.nil3 rfl (fun h => h) ?_
      refine WkM.flat rfl (by simp [flatV, flat_vi]) (fun h => h) ?_
      refine WkM.flat rfl (flatM flat_vi) (fun h => h) ?_
      exact WkM.emp
    ·
      repeat (refine dom_upd_mem (by decide) ?_)
      exact dom_emp
  ·
    rintro mm σ ⟨i, ⟨hik, hbi⟩, rfl, rfl⟩
    refine zS ?_
    refine yP pLt ?_
    refine zN (zQ ?_)
    refine zA (fun hb0 => ?_) (fun hb0 => ?_)
    ·
      have hi : i < (np (bgn N).t (lng (bgn N))) := by simpa using hb0
      have hi1 : 1 + i < l.length := by omega
      have hp : (plen (bgn N).t (lng (bgn N)) i) ≤ 32 := Nat.le_trans (Nat.min_le_left _ _) (wd_le _ _)
      have hrd := rdD_le (bgn N).t (lng (bgn N)) l i
      refine zK (zT (zQ (zB (zS ?_))))
      refine yM ?_
      refine yP (PureOp.idx1 tbok (j := i) rfl rfl rfl rfl hi) ?_
      refine AWo.loadM tbok [] rfl rfl rfl (by rw [pcs_len, List.length_replicate]; exact hi) rfl rfl ?_
      rw [pcs_getD (by rw [List.length_replicate]; exact hi)]
      refine yA ?_
      refine yA ?_
      refine zN (zS ?_)
      refine yM ?_
      refine yM ?_
      refine yP (pAdd (a := 1) (b := i)) ?_
      refine yP (PureOp.idxN tbok (j := 1 + i) rfl rfl rfl rfl hi1) ?_
      refine yLJ (xs := l) (1 + i) ?_
      refine yC (bytesF_ctr (x := l.getD (1 + i) 0)) bd37 [] [] ?_
      refine yN 13000 1 ((List.replicate 32 0).map (vi .u8)) ?_
      refine AWo.storeAllN tbok rfl rfl rfl rfl (by rw [List.length_map, digs_len]) (by rfl) (oneM (fun _ => rfl) _) rfl ?_
      refine zN (zQ (zS ?_))
      refine yM ?_
      refine yP ((PureOp.lenD tbok rfl rfl).mono (v' := vi .i64 (plen (bgn N).t (lng (bgn N)) i)) (congrArg (vi .i64) (by rw [pc_len, List.length_replicate]; rfl))) ?_
      refine AWo.sliceA2 (v := .slice (some ⟨13000, (plen (bgn N).t (lng (bgn N)) i), none⟩) (32 - (plen (bgn N).t (lng (bgn N)) i)) 0) (l := (plen (bgn N).t (lng (bgn N)) i)) (h := 32) tbok rfl (.some rfl) .none rfl rfl rfl rfl hp (by decide) (by simp [digs_len]) (by rw [Nat.zero_add, Nat.mul_one]) rfl rfl ?_
      refine yC (lwP_ctr (v := (l.getD (1 + i) 0).val) (p := (plen (bgn N).t (lng (bgn N)) i)) (val_lt _) hp) bd33 [(13000, (plen (bgn N).t (lng (bgn N)) i))] [75000] ?_ (hfit := (.part rfl (partP hp) (flatM flat_vi) (by simp [digs_len]; omega) .nil))
      refine yC (lbP_ctr (v := (l.getD (1 + i) 0).val) (p := (plen (bgn N).t (lng (bgn N)) i)) (val_lt _) hp) bd38 [(75000, 0)] [] ?_
      refine yP ((PureOp.gtN (b := 0) rfl rfl).mono (v' := .bool (decide (256 ^ (plen (bgn N).t (lng (bgn N)) i) ≤ (l.getD (1 + i) 0).val))) (congrArg Value.bool (by rw [Bool.eq_iff_iff, decide_eq_true_eq, decide_eq_true_eq]; exact blen_0))) ?_
      refine zN ?_
      refine zA (fun hb1 => ?_) (fun hb1 => ?_)
      ·
        exact absurd (bad_mono (by rw [bad_succ, hbi, hb1]; rfl) (show i + 1 ≤ (np (bgn N).t (lng (bgn N))) from hi)) (by rw [hbd]; decide)
      ·
        have hz : ¬ 256 ^ (plen (bgn N).t (lng (bgn N)) i) ≤ (l.getD (1 + i) 0).val := of_decide_eq_false hb1
        refine zK (zT ?_)
        refine AW.draw mixed ?_
        refine yP pF ?_
        refine yL1 ?_
        refine yM ?_
        refine yP ((PureOp.lenD tbok rfl rfl).mono (v' := vi .i64 (plen (bgn N).t (lng (bgn N)) i)) (congrArg (vi .i64) (by rw [pc_len, List.length_replicate]; rfl))) ?_
        refine AWo.sliceA2 (v := .slice (some ⟨13000, 0, none⟩) (plen (bgn N).t (lng (bgn N)) i) 0) (l := 0) (h := (plen (bgn N).t (lng (bgn N)) i)) tbok rfl .none (.some rfl) rfl rfl rfl rfl (Nat.zero_le _) hp (by simp [digs_len]) rfl rfl rfl ?_
        refine AWo.append tbok (all := (rdD (bgn N).t (lng (bgn N)) l (i + 1)).map (vi .u8)) (news := (digs 256 (plen (bgn N).t (lng (bgn N)) i) (l.getD (1 + i) 0).val).map (vi .u8)) 84000 rfl rfl rfl rfl (by simp) (newsP hp) (by simp [digs_len]; omega) (by decide) rfl rfl rfl (by decide) rfl rfl rfl (by omega) (by omega) (oneM (fun _ => rfl) _) (by rw [rdD_succ, List.map_append]) rfl rfl ?_
        refine yP pF ?_
        refine AWo.store1 tbok rfl rfl rfl rfl rfl (by simp) rfl rfl ?_
        refine zD (zL (zT (zR ?_)))
        refine yP (pAdd (b := 1)) ?_
        refine yM ?_
        refine zN (zT ?_)
        rw [show (rdD (bgn N).t (lng (bgn N)) l i).length + (plen (bgn N).t (lng (bgn N)) i) = (rdD (bgn N).t (lng (bgn N)) l (i + 1)).length by rw [rdD_succ, List.length_append, digs_len]]
        exact ⟨(np (bgn N).t (lng (bgn N))) - (i + 1), [(77000, 84000)], _, by omega, wk [0, 3000, 8000, 77000, 51000], i + 1, ⟨by omega, by rw [bad_succ, hbi, decide_eq_false hz]; rfl⟩, rfl, rfl⟩
    ·
      obtain rfl : i = (np (bgn N).t (lng (bgn N))) := by simp at hb0; omega
      refine zX (zV (zV (zH (zT (zQ ?_)))))
      refine AW.freezeC 8000 77000 3 ((rdD (bgn N).t (lng (bgn N)) l (np (bgn N).t (lng (bgn N)))).map (vi .u8)) [vi .i64 (N % 256), vi .i64 (N / 256 % 256), vi .i64 (N / 65536), db (rdD (bgn N).t (lng (bgn N)) l (np (bgn N).t (lng (bgn N))))] rfl rfl rfl rfl (by decide) (cloM fun _ => rfl) (by simp) (by rw [List.drop_zero]; exact List.take_of_length_le (by simp)) ?_
      refine zS ?_
      refine yLA ?_
      refine AWo.callX (v := .bool true) (opright_ctr (x := ⟨(bgn N).k, (bgn N).t, (bgn N).c, rdD (bgn N).t (lng (bgn N)) l (np (bgn N).t (lng (bgn N)))⟩) (rdD_bd _ _ _ _) (by show List.length (rdD (bgn N).t (lng (bgn N)) l (np (bgn N).t (lng (bgn N)))) < _; have := rdD_le (bgn N).t (lng (bgn N)) l (np (bgn N).t (lng (bgn N))); omega)) bd22 [] [] rfl (.cons rfl .nil) rfl (.clo rfl .nil) .nil rfl .nil frN (by decide) (.cons rfl rfl .nil) (congrArg Value.bool (decide_eq_true hr)) rfl rfl rfl ?_
      refine yP (PureOp.not rfl) ?_
      refine zN (zF (zK (zT (zS ?_))))
      refine yLA ?_
      refine yM ?_
      refine yP pL ?_
      refine yP (PureOp.addI (a := 1) (b := (np (bgn N).t (lng (bgn N)))) rfl rfl (by omega)) ?_
      refine AWo.storeAllN (vs := [vi .i64 (N % 256), vi .i64 (N / 256 % 256), vi .i64 (N / 65536), db (rdD (bgn N).t (lng (bgn N)) l (np (bgn N).t (lng (bgn N))))]) tbok rfl rfl rfl rfl rfl rfl rfl rfl ?_
      refine yA ?_
      refine yA ?_
      refine zN (zE ?_)
      exact rq [] [.cell 2 27, .tmp 3, .tmp 4] (hres := (.clo rfl (.cons rfl rfl (.cons rfl rfl .nil))))
theorem offields_ctr {l : List Fp} (hx : l.length < 1000000) : GC Tryz.prog 15 [.slice (some ⟨0, 0, none⟩) l.length 0] [⟨((l.map fe).flatten).map (vi .u64), false, 4⟩] [opV (ofF l).1, vi .i64 (ofF l).2.1, vi .i64 (ofF l).2.2] [⟨((l.map fe).flatten).map (vi .u64), false, 4⟩] := by
  rcases Nat.eq_zero_or_pos l.length with hl0 | hl0
  · rw [show ofF l = (op0, 0, 2) from if_pos hl0]
    exact offieldsA_ctr hl0
  obtain ⟨N, hN⟩ : ∃ N, (l.getD 0 0).val % 18446744073709551616 = N := ⟨_, rfl⟩
  have hNl : N < 18446744073709551616 := hN ▸ Nat.mod_lt _ (by decide)
  by_cases hi : itC (bgn N).k (bgn N).t (bgn N).c = 0
  · have hcn : N / 65536 ≤ 1048576 := by
      have := (itC_inv hi).2.2.2.2.2.1
      change ((N / 65536 : Nat) : Int) ≤ 1048576 at this
      omega
    have hL := lng_lt hi
    rcases Nat.lt_or_ge (l.getD 0 0).val 18446744073709551616 with hv | hv
    · have e0 : ofF l = ofF1 l (bgn N) := by
        unfold ofF
        rw [hN, if_neg (by omega), if_neg (by rintro (h | h); exact h hi; exact Nat.not_le.2 hv h)]
      rw [e0]
      rcases Nat.lt_or_ge (32 * l.length) (lng (bgn N)) with hd | hd
      · rw [show ofF1 l (bgn N) = (op0, 0, 2) from if_pos hd]
        exact offieldsD_ctr hx hl0 hN hNl hi hcn hL hv hd
      rcases Nat.lt_or_ge l.length (1 + (np (bgn N).t (lng (bgn N)))) with hq | hq
      · rw [show ofF1 l (bgn N) = (op0, 0, 2) by unfold ofF1; rw [if_neg (by omega), if_pos hq]]
        exact offieldsQ_ctr hx hl0 hN hNl hi hcn hL hv hd hq
      cases hbd : bad (bgn N).t (lng (bgn N)) l (np (bgn N).t (lng (bgn N))) with
      | true =>
        rw [show ofF1 l (bgn N) = (op0, 0, 3) by unfold ofF1; rw [if_neg (by omega), if_neg (by omega), if_pos hbd]]
        exact offieldsE_ctr hx hl0 hN hNl hi hcn hL hv hd hq hbd
      | false =>
        by_cases hr : Rgt ⟨(bgn N).k, (bgn N).t, (bgn N).c, rdD (bgn N).t (lng (bgn N)) l (np (bgn N).t (lng (bgn N)))⟩
        · rw [show ofF1 l (bgn N) = (⟨(bgn N).k, (bgn N).t, (bgn N).c, rdD (bgn N).t (lng (bgn N)) l (np (bgn N).t (lng (bgn N)))⟩, 1 + (np (bgn N).t (lng (bgn N))), 0) by unfold ofF1; rw [if_neg (by omega), if_neg (by omega), if_neg (by rw [hbd]; decide), if_pos hr]]
          exact offieldsG_ctr hx hl0 hN hNl hi hcn hL hv hd hq hbd hr
        · rw [show ofF1 l (bgn N) = (op0, 0, 3) by unfold ofF1; rw [if_neg (by omega), if_neg (by omega), if_neg (by rw [hbd]; decide), if_neg hr]]
          exact offieldsF_ctr hx hl0 hN hNl hi hcn hL hv hd hq hbd hr
    · rw [show ofF l = (op0, 0, 3) by unfold ofF; rw [hN, if_neg (by omega), if_pos (.inr hv)]]
      exact offieldsB_ctr hx hl0 hN hNl hi hcn hL hv
  · rw [show ofF l = (op0, 0, 3) by unfold ofF; rw [hN, if_neg (by omega), if_pos (.inl hi)]]
    exact offieldsC_ctr hx hl0 hN hNl hi
end Go.Proofs.YtpahdiljpnfkdaaGreat
namespace Go.Proofs.YtpahdiljpnfkdaaGreat
open Go Sim
theorem pieces2_ctr {L : Nat} (hf : fits 2 L) (hL : L < 200000000) : GC Tryz.prog 28 [.int .i64 2, vi .i64 L] [] [.slice (some ⟨0, 0, none⟩) (np 2 L) 0] [⟨((List.range (np 2 L)).map (plen 2 L)).map (vi .i64), true, 1⟩] := by
  have hnp : np 2 L ≤ L := np_le
  refine gi Tryz.func28 ?_
  refine zS ?_
  refine yA ?_
  refine zN (zS ?_)
  refine AWo.buildSlice tbok 8000 [] (out := []) rfl rfl (by decide) rfl rfl rfl (by decide) rfl rfl rfl rfl rfl ?_
  refine yA ?_
  refine zN (zQ (zB ?_))
  refine AW.loopw (fun mm σ => ∃ k, (k ≤ np 2 L) ∧ mm = np 2 L - k ∧ σ = ⟨(upd (upd (upd emp 0 (.int .i64 2)) 1 (vi .i64 (L - off 2 k))) 5 (.slice (some ⟨8000, 0, none⟩) k 0)), (upd emp 8000 ⟨((List.range k).map (plen 2 L)).map (vi .i64), true, 1⟩)⟩) (fm := []) ?_ ⟨0, Nat.zero_le _, rfl, by rw [off_zero, Nat.sub_zero]⟩ ?_
  ·
    exact wk [8000]
  ·
    rintro mm σ ⟨k, hk, rfl, rfl⟩
    refine zQ (zS ?_)
    refine yM ?_
    refine yP ((PureOp.bin rfl rfl rfl).mono (v' := .bool (decide (0 < L - off 2 k))) (congrArg Value.bool (by rw [Bool.eq_iff_iff]; simp))) ?_
    refine zN ?_
    refine zA (fun hb0 => ?_) (fun hb0 => ?_)
    ·
      have hlt : off 2 k < L := by simp at hb0; omega
      have hkn : k < np 2 L := (np_lt hf).2 hlt
      have hos := off_succ 2 k
      have hw : wd 2 k = 8 := rfl
      have hfit := off_fit hf (by decide) hlt
      have hpl : plen 2 L k = 8 := by rw [plen, hw]; omega
      have hsl : 8 ≤ L - off 2 k := by omega
      have hsb : L - off 2 k - 8 = L - off 2 (k + 1) := by omega
      refine zK (zT (zB (zS ?_)))
      refine yA ?_
      refine zN (zQ (zS ?_))
      refine yM ?_
      refine zN (zB (zS ?_))
      refine yP ((PureOp.eqN (b := 2) rfl rfl).mono (v' := .bool true) (congrArg Value.bool (by decide))) ?_
      refine yA ?_
      refine zN (zC (zR ?_))
      refine yA ?_
      refine zN (zL (zT (zQ (zS ?_))))
      refine yM ?_
      refine yM ?_
      refine yP ((PureOp.bin rfl rfl rfl).mono (v' := .bool false) (congrArg Value.bool (decide_eq_false (by omega)))) ?_
      refine zN (zF (zK (zT (zS ?_))))
      refine yM ?_
      refine yM ?_
      refine AWo.buildSlice tbok 28000 [(0, vi .i64 (plen 2 L k))] (out := [plen 2 L k].map (vi .i64)) rfl rfl (by decide) rfl rfl rfl (by decide) (by rw [hpl]; rfl) rfl rfl rfl rfl ?_
      refine AWo.append tbok (all := ((List.range (k + 1)).map (plen 2 L)).map (vi .i64)) (news := [plen 2 L k].map (vi .i64)) 29000 rfl rfl rfl rfl (by simp) rfl (by (simp; done)) (by decide) rfl rfl rfl (by decide) rfl rfl rfl (by omega) (by omega) rfl (by rw [List.range_succ, List.map_append, List.map_append]; rfl) rfl rfl ?_
      refine yA ?_
      refine zN (zR ?_)
      refine yM ?_
      refine yM ?_
      refine yP ((PureOp.subI rfl rfl hsl (by omega)).mono (v' := vi .i64 (L - off 2 (k + 1))) (congrArg (vi .i64) hsb)) ?_
      refine yA ?_
      refine zN (zL (zT ?_))
      exact ⟨np 2 L - (k + 1), [(8000, 29000)], _, by omega, wk [8000], k + 1, by omega, rfl, rfl⟩
    ·
      obtain rfl : k = np 2 L := by
        refine Nat.le_antisymm hk (Nat.le_of_not_lt fun h => ?_)
        have := (np_lt hf).1 h
        simp at hb0; omega
      refine zX (zV (zV (zH (zT (zS ?_)))))
      refine yM ?_
      refine yA ?_
      refine zN (zE ?_)
      exact rq [8000] [.tmp 4]
theorem pieces3_ctr {L : Nat} (hf : fits 3 L) (hL : L < 200000000) : GC Tryz.prog 28 [.int .i64 3, vi .i64 L] [] [.slice (some ⟨0, 0, none⟩) (np 3 L) 0] [⟨((List.range (np 3 L)).map (plen 3 L)).map (vi .i64), true, 1⟩] := by
  have hnp : np 3 L ≤ L := np_le
  refine gi Tryz.func28 ?_
  refine zS ?_
  refine yA ?_
  refine zN (zS ?_)
  refine AWo.buildSlice tbok 8000 [] (out := []) rfl rfl (by decide) rfl rfl rfl (by decide) rfl rfl rfl rfl rfl ?_
  refine yA ?_
  refine zN (zQ (zB ?_))
  refine AW.loopw (fun mm σ => ∃ k, (k ≤ np 3 L) ∧ mm = np 3 L - k ∧ σ = ⟨(upd (upd (upd emp 0 (.int .i64 3)) 1 (vi .i64 (L - off 3 k))) 5 (.slice (some ⟨8000, 0, none⟩) k 0)), (upd emp 8000 ⟨((List.range k).map (plen 3 L)).map (vi .i64), true, 1⟩)⟩) (fm := []) ?_ ⟨0, Nat.zero_le _, rfl, by rw [off_zero, Nat.sub_zero]⟩ ?_
  ·
    exact wk [8000]
  ·
    rintro mm σ ⟨k, hk, rfl, rfl⟩
    refine zQ (zS ?_)
    refine yM ?_
    refine yP ((PureOp.bin rfl rfl rfl).mono (v' := .bool (decide (0 < L - off 3 k))) (congrArg Value.bool (by rw [Bool.eq_iff_iff]; simp))) ?_
    refine zN ?_
    refine zA (fun hb0 => ?_) (fun hb0 => ?_)
    ·
      have hlt : off 3 k < L := by simp at hb0; omega
      have hkn : k < np 3 L := (np_lt hf).2 hlt
      have hos := off_succ 3 k
      have hw : wd 3 k = 32 := rfl
      have hfit := off_fit hf (by decide) hlt
      have hpl : plen 3 L k = 32 := by rw [plen, hw]; omega
      have hsl : 32 ≤ L - off 3 k := by omega
      have hsb : L - off 3 k - 32 = L - off 3 (k + 1) := by omega
      refine zK (zT (zB (zS ?_)))
      refine yA ?_
      refine zN (zQ (zS ?_))
      refine yM ?_
      refine zN (zB (zS ?_))
      refine yP ((PureOp.eqN (b := 2) rfl rfl).mono (v' := .bool false) (congrArg Value.bool (by decide))) ?_
      refine yA ?_
      refine zN (zF (zS ?_))
      refine yP ((PureOp.eqN (b := 3) rfl rfl).mono (v' := .bool true) (congrArg Value.bool (by decide))) ?_
      refine yA ?_
      refine zN (zC (zR ?_))
      refine yA ?_
      refine zN (zL (zT (zQ (zS ?_))))
      refine yM ?_
      refine yM ?_
      refine yP ((PureOp.bin rfl rfl rfl).mono (v' := .bool false) (congrArg Value.bool (decide_eq_false (by omega)))) ?_
      refine zN (zF (zK (zT (zS ?_))))
      refine yM ?_
      refine yM ?_
      refine AWo.buildSlice tbok 28000 [(0, vi .i64 (plen 3 L k))] (out := [plen 3 L k].map (vi .i64)) rfl rfl (by decide) rfl rfl rfl (by decide) (by rw [hpl]; rfl) rfl rfl rfl rfl ?_
      refine AWo.append tbok (all := ((List.range (k + 1)).map (plen 3 L)).map (vi .i64)) (news := [plen 3 L k].map (vi .i64)) 29000 rfl rfl rfl rfl (by simp) rfl (by (simp; done)) (by decide) rfl rfl rfl (by decide) rfl rfl rfl (by omega) (by omega) rfl (by rw [List.range_succ, List.map_append, List.map_append]; rfl) rfl rfl ?_
      refine yA ?_
      refine zN (zR ?_)
      refine yM ?_
      refine yM ?_
      refine yP ((PureOp.subI rfl rfl hsl (by omega)).mono (v' := vi .i64 (L - off 3 (k + 1))) (congrArg (vi .i64) hsb)) ?_
      refine yA ?_
      refine zN (zL (zT ?_))
      exact ⟨np 3 L - (k + 1), [(8000, 29000)], _, by omega, wk [8000], k + 1, by omega, rfl, rfl⟩
    ·
      obtain rfl : k = np 3 L := by
        refine Nat.le_antisymm hk (Nat.le_of_not_lt fun h => ?_)
        have := (np_lt hf).1 h
        simp at hb0; omega
      refine zX (zV (zV (zH (zT (zS ?_)))))
      refine yM ?_
      refine yA ?_
      refine zN (zE ?_)
      exact rq [8000] [.tmp 4]
theorem pieces4_ctr {L : Nat} (hf : fits 4 L) (hL : L < 200000000) : GC Tryz.prog 28 [.int .i64 4, vi .i64 L] [] [.slice (some ⟨0, 0, none⟩) (np 4 L) 0] [⟨((List.range (np 4 L)).map (plen 4 L)).map (vi .i64), true, 1⟩] := by
  have hnp : np 4 L ≤ L := np_le
  refine gi Tryz.func28 ?_
  refine zS ?_
  refine yA ?_
  refine zN (zS ?_)
  refine AWo.buildSlice tbok 8000 [] (out := []) rfl rfl (by decide) rfl rfl rfl (by decide) rfl rfl rfl rfl rfl ?_
  refine yA ?_
  refine zN (zQ (zB ?_))
  refine AW.loopw (fun mm σ => ∃ k, (k ≤ np 4 L) ∧ mm = np 4 L - k ∧ σ = ⟨(upd (upd (upd emp 0 (.int .i64 4)) 1 (vi .i64 (L - off 4 k))) 5 (.slice (some ⟨8000, 0, none⟩) k 0)), (upd emp 8000 ⟨((List.range k).map (plen 4 L)).map (vi .i64), true, 1⟩)⟩) (fm := []) ?_ ⟨0, Nat.zero_le _, rfl, by rw [off_zero, Nat.sub_zero]⟩ ?_
  ·
    exact wk [8000]
  ·
    rintro mm σ ⟨k, hk, rfl, rfl⟩
    refine zQ (zS ?_)
    refine yM ?_
    refine yP ((PureOp.bin rfl rfl rfl).mono (v' := .bool (decide (0 < L - off 4 k))) (congrArg Value.bool (by rw [Bool.eq_iff_iff]; simp))) ?_
    refine zN ?_
    refine zA (fun hb0 => ?_) (fun hb0 => ?_)
    ·
      have hlt : off 4 k < L := by simp at hb0; omega
      have hkn : k < np 4 L := (np_lt hf).2 hlt
      have hos := off_succ 4 k
      refine zK (zT (zB (zS ?_)))
      refine yA ?_
      refine zN (zQ (zS ?_))
      refine yM ?_
      refine zN (zB (zS ?_))
      refine yP ((PureOp.eqN (b := 2) rfl rfl).mono (v' := .bool false) (congrArg Value.bool (by decide))) ?_
      refine yA ?_
      refine zN (zF (zS ?_))
      refine yP ((PureOp.eqN (b := 3) rfl rfl).mono (v' := .bool false) (congrArg Value.bool (by decide))) ?_
      refine yA ?_
      refine zN (zF (zS ?_))
      refine yP ((PureOp.eqN (b := 4) rfl rfl).mono (v' := .bool true) (congrArg Value.bool (by decide))) ?_
      refine yA ?_
      refine zN (zC (zS ?_))
      refine yM ?_
      refine yP pL ?_
      refine yP (PureOp.remN (b := 4) rfl rfl (by decide)) ?_
      refine yP (pEq (b := 3)) ?_
      refine zN ?_
      refine zA (fun hb1 => ?_) (fun hb1 => ?_)
      ·
        have h43 : k % 4 = 3 := by simpa using hb1
        have hw : wd 4 k = 3 := by rw [show wd 4 k = if k % 4 = 3 then 3 else 31 from rfl, if_pos h43]
        have hfit := off_fit hf (by decide) hlt
        have hpl : plen 4 L k = 3 := by rw [plen, hw]; omega
        have hsl : 3 ≤ L - off 4 k := by omega
        have hsb : L - off 4 k - 3 = L - off 4 (k + 1) := by omega
        refine zR ?_
        refine yA ?_
        refine zN (zL (zT (zQ (zS ?_))))
        refine yM ?_
        refine yM ?_
        refine yP ((PureOp.bin rfl rfl rfl).mono (v' := .bool false) (congrArg Value.bool (decide_eq_false (by omega)))) ?_
        refine zN (zF (zK (zT (zS ?_))))
        refine yM ?_
        refine yM ?_
        refine AWo.buildSlice tbok 28000 [(0, vi .i64 (plen 4 L k))] (out := [plen 4 L k].map (vi .i64)) rfl rfl (by decide) rfl rfl rfl (by decide) (by rw [hpl]; rfl) rfl rfl rfl rfl ?_
        refine AWo.append tbok (all := ((List.range (k + 1)).map (plen 4 L)).map (vi .i64)) (news := [plen 4 L k].map (vi .i64)) 29000 rfl rfl rfl rfl (by simp) rfl (by (simp; done)) (by decide) rfl rfl rfl (by decide) rfl rfl rfl (by omega) (by omega) rfl (by rw [List.range_succ, List.map_append, List.map_append]; rfl) rfl rfl ?_
        refine yA ?_
        refine zN (zR ?_)
        refine yM ?_
        refine yM ?_
        refine yP ((PureOp.subI rfl rfl hsl (by omega)).mono (v' := vi .i64 (L - off 4 (k + 1))) (congrArg (vi .i64) hsb)) ?_
        refine yA ?_
        refine zN (zL (zT ?_))
        exact ⟨np 4 L - (k + 1), [(8000, 29000)], _, by omega, wk [8000], k + 1, by omega, rfl, rfl⟩
      ·
        have h43 : ¬ k % 4 = 3 := by simpa using hb1
        have hw : wd 4 k = 31 := by rw [show wd 4 k = if k % 4 = 3 then 3 else 31 from rfl, if_neg h43]
        have hfit := off_fit hf (by decide) hlt
        have hpl : plen 4 L k = 31 := by rw [plen, hw]; omega
        have hsl : 31 ≤ L - off 4 k := by omega
        have hsb : L - off 4 k - 31 = L - off 4 (k + 1) := by omega
        refine zK (zL (zT (zQ (zS ?_))))
        refine yM ?_
        refine yM ?_
        refine yP ((PureOp.bin rfl rfl rfl).mono (v' := .bool false) (congrArg Value.bool (decide_eq_false (by omega)))) ?_
        refine zN (zF (zK (zT (zS ?_))))
        refine yM ?_
        refine yM ?_
        refine AWo.buildSlice tbok 28000 [(0, vi .i64 (plen 4 L k))] (out := [plen 4 L k].map (vi .i64)) rfl rfl (by decide) rfl rfl rfl (by decide) (by rw [hpl]; rfl) rfl rfl rfl rfl ?_
        refine AWo.append tbok (all := ((List.range (k + 1)).map (plen 4 L)).map (vi .i64)) (news := [plen 4 L k].map (vi .i64)) 29000 rfl rfl rfl rfl (by simp) rfl (by (simp; done)) (by decide) rfl rfl rfl (by decide) rfl rfl rfl (by omega) (by omega) rfl (by rw [List.range_succ, List.map_append, List.map_append]; rfl) rfl rfl ?_
        refine yA ?_
        refine zN (zR ?_)
        refine yM ?_
        refine yM ?_
        refine yP ((PureOp.subI rfl rfl hsl (by omega)).mono (v' := vi .i64 (L - off 4 (k + 1))) (congrArg (vi .i64) hsb)) ?_
        refine yA ?_
        refine zN (zL (zT ?_))
        exact ⟨np 4 L - (k + 1), [(8000, 29000)], _, by omega, wk [8000], k + 1, by omega, rfl, rfl⟩
    ·
      obtain rfl : k = np 4 L := by
        refine Nat.le_antisymm hk (Nat.le_of_not_lt fun h => ?_)
        have := (np_lt hf).1 h
        simp at hb0; omega
      refine zX (zV (zV (zH (zT (zS ?_)))))
      refine yM ?_
      refine yA ?_
      refine zN (zE ?_)
      exact rq [8000] [.tmp 4]
theorem pieces0_ctr {t : Int} {L : Nat} (h2 : t ≠ 2) (h3 : t ≠ 3) (h4 : t ≠ 4) (hf : fits t L) (hL : L < 200000000) : GC Tryz.prog 28 [.int .i64 t, vi .i64 L] [] [.slice (some ⟨0, 0, none⟩) (np t L) 0] [⟨((List.range (np t L)).map (plen t L)).map (vi .i64), true, 1⟩] := by
  have hnp : np t L ≤ L := np_le
  refine gi Tryz.func28 ?_
  refine zS ?_
  refine yA ?_
  refine zN (zS ?_)
  refine AWo.buildSlice tbok 8000 [] (out := []) rfl rfl (by decide) rfl rfl rfl (by decide) rfl rfl rfl rfl rfl ?_
  refine yA ?_
  refine zN (zQ (zB ?_))
  refine AW.loopw (fun mm σ => ∃ k, (k ≤ np t L) ∧ mm = np t L - k ∧ σ = ⟨(upd (upd (upd emp 0 (.int .i64 t)) 1 (vi .i64 (L - off t k))) 5 (.slice (some ⟨8000, 0, none⟩) k 0)), (upd emp 8000 ⟨((List.range k).map (plen t L)).map (vi .i64), true, 1⟩)⟩) (fm := []) ?_ ⟨0, Nat.zero_le _, rfl, by rw [off_zero, Nat.sub_zero]⟩ ?_
  ·
    exact wk [8000]
  ·
    rintro mm σ ⟨k, hk, rfl, rfl⟩
    refine zQ (zS ?_)
    refine yM ?_
    refine yP ((PureOp.bin rfl rfl rfl).mono (v' := .bool (decide (0 < L - off t k))) (congrArg Value.bool (by rw [Bool.eq_iff_iff]; simp))) ?_
    refine zN ?_
    refine zA (fun hb0 => ?_) (fun hb0 => ?_)
    ·
      have hlt : off t k < L := by simp at hb0; omega
      have hkn : k < np t L := (np_lt hf).2 hlt
      have hos := off_succ t k
      have hw : wd t k = 31 := by unfold wd; rw [if_neg h2, if_neg h3, if_neg h4]
      refine zK (zT (zB (zS ?_)))
      refine yA ?_
      refine zN (zQ (zS ?_))
      refine yM ?_
      refine zN (zB (zS ?_))
      refine yP ((PureOp.bin rfl rfl rfl).mono (v' := .bool false) (congrArg Value.bool (by simpa using h2))) ?_
      refine yA ?_
      refine zN (zF (zS ?_))
      refine yP ((PureOp.bin rfl rfl rfl).mono (v' := .bool false) (congrArg Value.bool (by simpa using h3))) ?_
      refine yA ?_
      refine zN (zF (zS ?_))
      refine yP ((PureOp.bin rfl rfl rfl).mono (v' := .bool false) (congrArg Value.bool (by simpa using h4))) ?_
      refine yA ?_
      refine zN (zF (zK (zL (zT (zQ (zS ?_))))))
      refine yM ?_
      refine yM ?_
      refine yP pGt ?_
      refine zN ?_
      refine zA (fun hb1 => ?_) (fun hb1 => ?_)
      ·
        have h31 : L - off t k < 31 := by simpa using hb1
        have hpl : plen t L k = L - off t k := by rw [plen, hw]; omega
        have hsl : L - off t k ≤ L - off t k := Nat.le_refl _
        have hsb : L - off t k - (L - off t k) = L - off t (k + 1) := by omega
        refine zR ?_
        refine yM ?_
        refine yA ?_
        refine zN (zT (zS ?_))
        refine yM ?_
        refine yM ?_
        refine AWo.buildSlice tbok 28000 [(0, vi .i64 (plen t L k))] (out := [plen t L k].map (vi .i64)) rfl rfl (by decide) rfl rfl rfl (by decide) (by rw [hpl]; rfl) rfl rfl rfl rfl ?_
        refine AWo.append tbok (all := ((List.range (k + 1)).map (plen t L)).map (vi .i64)) (news := [plen t L k].map (vi .i64)) 29000 rfl rfl rfl rfl (by simp) rfl (by (simp; done)) (by decide) rfl rfl rfl (by decide) rfl rfl rfl (by omega) (by omega) rfl (by rw [List.range_succ, List.map_append, List.map_append]; rfl) rfl rfl ?_
        refine yA ?_
        refine zN (zR ?_)
        refine yM ?_
        refine yM ?_
        refine yP ((PureOp.subI rfl rfl hsl (by omega)).mono (v' := vi .i64 (L - off t (k + 1))) (congrArg (vi .i64) hsb)) ?_
        refine yA ?_
        refine zN (zL (zT ?_))
        exact ⟨np t L - (k + 1), [(8000, 29000)], _, by omega, wk [8000], k + 1, by omega, rfl, rfl⟩
      ·
        have h31 : ¬ L - off t k < 31 := by simpa using hb1
        have hpl : plen t L k = 31 := by rw [plen, hw]; omega
        have hsl : 31 ≤ L - off t k := by omega
        have hsb : L - off t k - 31 = L - off t (k + 1) := by omega
        refine zK (zT (zS ?_))
        refine yM ?_
        refine yM ?_
        refine AWo.buildSlice tbok 28000 [(0, vi .i64 (plen t L k))] (out := [plen t L k].map (vi .i64)) rfl rfl (by decide) rfl rfl rfl (by decide) (by rw [hpl]; rfl) rfl rfl rfl rfl ?_
        refine AWo.append tbok (all := ((List.range (k + 1)).map (plen t L)).map (vi .i64)) (news := [plen t L k].map (vi .i64)) 29000 rfl rfl rfl rfl (by simp) rfl (by (simp; done)) (by decide) rfl rfl rfl (by decide) rfl rfl rfl (by omega) (by omega) rfl (by rw [List.range_succ, List.map_append, List.map_append]; rfl) rfl rfl ?_
        refine yA ?_
        refine zN (zR ?_)
        refine yM ?_
        refine yM ?_
        refine yP ((PureOp.subI rfl rfl hsl (by omega)).mono (v' := vi .i64 (L - off t (k + 1))) (congrArg (vi .i64) hsb)) ?_
        refine yA ?_
        refine zN (zL (zT ?_))
        exact ⟨np t L - (k + 1), [(8000, 29000)], _, by omega, wk [8000], k + 1, by omega, rfl, rfl⟩
    ·
      obtain rfl : k = np t L := by
        refine Nat.le_antisymm hk (Nat.le_of_not_lt fun h => ?_)
        have := (np_lt hf).1 h
        simp at hb0; omega
      refine zX (zV (zV (zH (zT (zS ?_)))))
      refine yM ?_
      refine yA ?_
      refine zN (zE ?_)
      exact rq [8000] [.tmp 4]
theorem pieces_ctr {t : Int} {L : Nat} (hf : fits t L) (hL : L < 200000000) : GC Tryz.prog 28 [.int .i64 t, vi .i64 L] [] [.slice (some ⟨0, 0, none⟩) (np t L) 0] [⟨((List.range (np t L)).map (plen t L)).map (vi .i64), true, 1⟩] := by
  by_cases h2 : t = 2
  · subst h2; exact pieces2_ctr hf hL
  by_cases h3 : t = 3
  · subst h3; exact pieces3_ctr hf hL
  by_cases h4 : t = 4
  · subst h4; exact pieces4_ctr hf hL
  exact pieces0_ctr h2 h3 h4 hf hL
end Go.Proofs.YtpahdiljpnfkdaaGreat
namespace Go.Proofs.YtpahdiljpnfkdaaGreat
open Go Sim
theorem pl_getD {t : Int} {L N i : Nat} (hi : i < N) : ((List.range N).map (plen t L)).getD i 0 = plen t L i := by
  rw [List.getD_eq_getElem?_getD, List.getElem?_map, List.getElem?_range hi]; rfl
end Go.Proofs.YtpahdiljpnfkdaaGreat
namespace Go.Proofs.YtpahdiljpnfkdaaGreat
open Go Sim
theorem rbegun_ctr {n : Nat} (hn : n < 18446744073709551616) : GC Tryz.prog 39 [vi .u64 (n)] [] [.agg #[vi .i64 (n % 256), vi .i64 (n / 256 % 256), vi .i64 (n / 65536), .slice none 0 0], .bool (decide (itC (bgn n).k (bgn n).t (bgn n).c = 0))] [] := by
  refine gi Tryz.func39 ?_
  refine zS ?_
  refine yN 3000 1 _ ?_
  refine yA ?_
  refine zN (zS ?_)
  refine yM ?_
  refine yP (PureOp.remN (a := n) (b := 256) rfl rfl (by decide)) ?_
  refine yP (PureOp.cvtN (a := n % 256) tbok 9223372036854775808 rfl rfl rfl (by decide) (by decide) (by omega)) ?_
  refine yM ?_
  refine yP (PureOp.quoN (a := n) (b := 256) 18446744073709551616 rfl rfl (by decide) (by decide) (by decide) (by omega)) ?_
  refine yP (PureOp.remN (a := n / 256) (b := 256) rfl rfl (by decide)) ?_
  refine yP (PureOp.cvtN (a := n / 256 % 256) tbok 9223372036854775808 rfl rfl rfl (by decide) (by decide) (by omega)) ?_
  refine yM ?_
  refine yP (PureOp.quoN (a := n) (b := 65536) 18446744073709551616 rfl rfl (by decide) (by decide) (by decide) (by omega)) ?_
  refine yP (PureOp.cvtN (a := n / 65536) tbok 9223372036854775808 rfl rfl rfl (by decide) (by decide) (by omega)) ?_
  refine yP ((PureOp.buildStruct [(0, vi .i64 (n % 256)), (1, vi .i64 (n / 256 % 256)), (2, vi .i64 (n / 65536))] pl24.choose_spec.1 zr24 (by decide) pl24.choose_spec.2 rfl rfl).mono (v' := .agg #[vi .i64 (n % 256), vi .i64 (n / 256 % 256), vi .i64 (n / 65536), .slice none 0 0]) rfl) ?_
  refine yN 5000 1 _ ?_
  refine AWo.storeAllN (vs := [vi .i64 (n % 256), vi .i64 (n / 256 % 256), vi .i64 (n / 65536), .slice none 0 0]) tbok rfl rfl rfl rfl rfl rfl rfl rfl ?_
  refine zN ?_
  refine AW.seqD mixed ?_
  refine yLA ?_
  refine yP pF ?_
  refine yL1 ?_
  refine yP pF ?_
  refine yL1 ?_
  refine yP pF ?_
  refine yL1 ?_
  refine yP ((PureOp.buildStruct [(0, vi .i64 (n % 256)), (1, vi .i64 (n / 256 % 256)), (2, vi .i64 (n / 65536))] pl65.choose_spec.1 zr65 (by decide) pl65.choose_spec.2 rfl rfl).mono (v' := itV (bgn n).k (bgn n).t (bgn n).c) rfl) ?_
  refine yC (it12_ctr (k := (bgn n).k) (t := (bgn n).t) (c := (bgn n).c)) bd29 [] [] ?_
  refine yP ((PureOp.eqN (b := 0) rfl rfl).mono (v' := .bool (decide (itC (bgn n).k (bgn n).t (bgn n).c = 0))) rfl) ?_
  refine AWo.storeAllN (vs := [vi .i64 (n % 256), vi .i64 (n / 256 % 256), vi .i64 (n / 65536), .slice none 0 0]) tbok rfl rfl rfl rfl rfl rfl rfl rfl ?_
  refine yA ?_
  refine zD (zE ?_)
  exact rq [] [.cell 2 24, .tmp 3]
theorem rlong1_ctr {t : Int} {cn : Nat} {d : List Nat} (hc : cn ≤ 1048576) : GC Tryz.prog 40 [opV ⟨1, t, cn, d⟩] [] [vi .i64 (cn * szT t)] [] := by
  have hm : cn * szT t < 9223372036854775808 := Nat.lt_of_le_of_lt (Nat.mul_le_mul hc (szT_le t)) (by decide)
  refine gi Tryz.func40 ?_
  refine zS ?_
  refine AWo.box 2000 1 [.int .i64 1, .int .i64 t, vi .i64 cn, db d] rfl rfl rfl rfl rfl ?_
  refine yA ?_
  refine zN (zQ (zS ?_))
  refine yP pF ?_
  refine yL1 ?_
  refine yP ((PureOp.neN (b := 1) rfl rfl).mono (v' := .bool false) (congrArg Value.bool (rfl))) ?_
  refine zN (zF (zK (zT ?_)))
  refine AW.seqD mixed ?_
  refine yP pF ?_
  refine yL1 ?_
  refine yP pF ?_
  refine yL1 ?_
  refine yC (size15_ctr (t := t)) bd55 [] [] ?_
  refine yP (PureOp.mulI (a := cn) (b := szT t) rfl rfl hm) ?_
  refine yA ?_
  refine zD (zE ?_)
  exact rq [] [.tmp 2]
theorem rlong0_ctr {k t : Int} {cn : Nat} {d : List Nat} (hk : k ≠ 1) : GC Tryz.prog 40 [opV ⟨k, t, cn, d⟩] [] [vi .i64 0] [] := by
  refine gi Tryz.func40 ?_
  refine zS ?_
  refine AWo.box 2000 1 [.int .i64 k, .int .i64 t, vi .i64 cn, db d] rfl rfl rfl rfl rfl ?_
  refine yA ?_
  refine zN (zQ (zS ?_))
  refine yP pF ?_
  refine yL1 ?_
  refine yP ((PureOp.bin rfl rfl rfl).mono (v' := .bool true) (congrArg Value.bool (by simpa using hk))) ?_
  refine zN (zC (zS ?_))
  refine yA ?_
  refine zN (zE (zU ?_))
  exact rq [] [.tmp 2]
theorem rlong_ctr {k t : Int} {cn : Nat} {d : List Nat} (hc : cn ≤ 1048576) : GC Tryz.prog 40 [opV ⟨k, t, cn, d⟩] [] [vi .i64 (lng ⟨k, t, cn, d⟩)] [] := by
  by_cases hk : k = 1
  · subst hk
    exact rlong1_ctr hc
  · rw [show lng ⟨k, t, cn, d⟩ = 0 from if_neg hk]
    exact rlong0_ctr hk
theorem rlongN_ctr {k t : Int} {cn : Nat} (hc : cn ≤ 1048576) : GC Tryz.prog 40 [.agg #[.int .i64 k, .int .i64 t, vi .i64 cn, .slice none 0 0]] [] [vi .i64 (lng ⟨k, t, cn, []⟩)] [] := GC.opNil (rlong_ctr (d := []) hc)
theorem six_step {B : List Nat} {i : Nat} (hi : i < 6) (h6 : 6 ≤ B.length) : num 256 ((B.take 6).drop i) = num 256 ((B.take 6).drop (i + 1)) * 256 + B.getD i 0 := by
  have hl : i < (B.take 6).length := by rw [List.length_take]; omega
  rw [List.drop_eq_getElem_cons hl]
  show (B.take 6)[i] + 256 * _ = _
  rw [List.getElem_take, List.getD_eq_getElem?_getD, List.getElem?_eq_getElem (by omega)]
  show B[i] + _ = _ + B[i]
  omega
theorem six_lt {B : List Nat} (hb : bd 256 B) (i : Nat) : num 256 ((B.take 6).drop i) < 281474976710656 := by
  have h := num_lt (l := (B.take 6).drop i) (fun x hx => hb x (List.mem_of_mem_take (List.mem_of_mem_drop hx)))
  refine Nat.lt_of_lt_of_le h (Nat.le_trans (Nat.pow_le_pow_right (by decide) (show _ ≤ 6 by rw [List.length_drop, List.length_take]; omega)) (by decide))
theorem rofbA_ctr {B : List Nat} (h6 : B.length < 6) : GC Tryz.prog 17 [db B] [] [opV op0, vi .i64 0, vi .i64 2] [] := by
  refine gi Tryz.func17 ?_
  refine zS ?_
  refine yN 3000 1 _ ?_
  refine yA ?_
  refine yA ?_
  refine zN (zQ (zS ?_))
  refine yM ?_
  refine yP pD ?_
  refine yP ((PureOp.ltN (b := 6) rfl rfl).mono (v' := .bool true) (congrArg Value.bool (by simpa using h6))) ?_
  refine zN (zC (zS ?_))
  refine yP (PureOp.opNil ((PureOp.buildStruct [] pl24.choose_spec.1 zr24 (by decide) pl24.choose_spec.2 rfl rfl).mono (v' := .agg #[.int .i64 0, .int .i64 0, .int .i64 0, .slice none 0 0]) rfl)) ?_
  refine AWo.storeAllN (vs := [.int .i64 0, .int .i64 0, .int .i64 0, deep 0 1 []]) tbok rfl rfl rfl rfl rfl rfl rfl rfl ?_
  refine yA ?_
  refine yA ?_
  refine zN (zE (zU ?_))
  exact rq [] [.cell 2 24, .tmp 3, .tmp 4] (hres := (.clo rfl (.cons rfl rfl (.cons rfl rfl .nil))))
theorem rofbC_ctr {B : List Nat} {N : Nat} (hb : bd 256 B) (hx : B.length < 4000000000) (hN : num 256 (B.take 6) = N) (hNl : N < 281474976710656) (h6 : 6 ≤ B.length) (hi : ¬ itC (bgn N).k (bgn N).t (bgn N).c = 0) : GC Tryz.prog 17 [db B] [] [opV op0, vi .i64 0, vi .i64 3] [] := by
  refine gi Tryz.func17 ?_
  refine zS ?_
  refine yN 3000 1 _ ?_
  refine yA ?_
  refine yA ?_
  refine zN (zQ (zS ?_))
  refine yM ?_
  refine yP pD ?_
  refine yP ((PureOp.ltN (b := 6) rfl rfl).mono (v' := .bool false) (congrArg Value.bool (by simp; omega))) ?_
  refine zN (zF (zK (zT (zS ?_))))
  refine yA ?_
  refine zN (zQ (zS ?_))
  refine yA ?_
  refine zN (zB ?_)
  refine AW.loopw (fun mm σ => ∃ r, (r ≤ 6) ∧ mm = 1 * r ∧ σ = ⟨(upd (upd (upd (upd emp 0 (db B)) 2 (.pointer (some ⟨3000, 0, none⟩))) 5 (vi .u64 (num 256 ((B.take 6).drop r)))) 6 (vp r)), (upd emp 3000 ⟨[.int .i64 0, .int .i64 0, .int .i64 0, .slice none 0 0], true, 1⟩)⟩) (fm := []) ?_ ⟨6, Nat.le_refl _, rfl, rfl⟩ ?_
  ·
    refine Wk.of [3000] ?_ ?_ ?_ (by decide) rfl
    ·
      refine WkE.upd rfl (by exact VR.flat _ rfl) ?_
      refine WkE.upd rfl (by exact VR.eqv (congrArg (vi .u64) (by rw [List.drop_eq_nil_of_le (by rw [List.length_take]; omega)]; rfl)) rfl) ?_
      refine WkE.upd rfl (.ptr (3000) 0 ⟨_, rfl⟩) ?_
      refine WkE.upd rfl (clo_refl (by simp) rfl) ?_
      exact WkE.emp
    ·
      refine WkM.flat rfl (by simp [flatV]) (fun h => h) ?_
      exact WkM.emp
    ·
      repeat (refine dom_upd_mem (by decide) ?_)
      exact dom_emp
  ·
    rintro mm σ ⟨r, hr6, rfl, rfl⟩
    refine zQ (zS ?_)
    refine yM ?_
    refine yP (PureOp.geP rfl rfl) ?_
    refine zN ?_
    refine zA (fun hb0 => ?_) (fun hb0 => ?_)
    ·
      have hp0 : 0 < r := by simpa using hb0
      obtain ⟨i, rfl⟩ : ∃ q, r = q + 1 := ⟨r - 1, by omega⟩
      rw [vp_succ]
      have hst : (num 256 ((B.take 6).drop i)) = (num 256 ((B.take 6).drop (i + 1))) * 256 + B.getD i 0 := six_step (by omega) h6
      have hlt := six_lt hb (i + 1)
      have hbi : B.getD i 0 < 256 := getD_lt hb (by decide) i
      have hlt2 := six_lt hb i
      refine zK (zT (zQ (zB (zR ?_))))
      refine yM ?_
      refine yP ((PureOp.mulU (a := (num 256 ((B.take 6).drop (i + 1)))) (b := 256) 18446744073709551616 rfl rfl rfl rfl).mono (v' := vi .u64 ((num 256 ((B.take 6).drop (i + 1))) * 256)) (congrArg (vi .u64) (Nat.mod_eq_of_lt (by omega)))) ?_
      refine AWo.pureX 88000 (PureOp.move rfl) rfl rfl rfl ?_
      refine yM ?_
      refine yP (PureOp.idx1 tbok (j := i) rfl rfl rfl rfl (by omega)) ?_
      refine yL 0 ?_
      refine yP (PureOp.cvtN (a := B.getD i 0) tbok 18446744073709551616 rfl rfl rfl (by decide) (by decide) (by omega)) ?_
      refine yP ((PureOp.addU (a := (num 256 ((B.take 6).drop (i + 1))) * 256) (b := B.getD i 0) 18446744073709551616 rfl rfl rfl rfl).mono (v' := vi .u64 (num 256 ((B.take 6).drop i))) (congrArg (vi .u64) (by rw [hst]; exact Nat.mod_eq_of_lt (by omega)))) ?_
      refine yA ?_
      refine zN (zL (zT (zR ?_)))
      refine yM ?_
      refine yP (PureOp.subP rfl rfl (by omega)) ?_
      refine yA ?_
      refine zN (zT ?_)
      exact ⟨1 * i, [], _, by omega, wk [3000], i, by omega, rfl, rfl⟩
    ·
      obtain rfl : r = 0 := by simpa using hb0
      rw [List.drop_zero, hN]
      refine zX (zV (zV (zH (zT (zS ?_)))))
      refine yM ?_
      refine yC (v := .tuple #[.agg #[vi .i64 (N % 256), vi .i64 (N / 256 % 256), vi .i64 (N / 65536), .slice none 0 0], .bool false]) (rbegun_ctr (n := N) (by omega)) bd39 [] [] ?_ (hv := (by rw [decide_eq_false hi]; rfl))
      refine yM ?_
      refine yP pX ?_
      refine yP pX ?_
      refine yN 8000 1 _ ?_
      refine AWo.storeAllN (vs := [vi .i64 (N % 256), vi .i64 (N / 256 % 256), vi .i64 (N / 65536), .slice none 0 0]) tbok rfl rfl rfl rfl rfl rfl rfl rfl ?_
      refine yA ?_
      refine zN (zQ (zS ?_))
      refine yM ?_
      refine yP (PureOp.not rfl) ?_
      refine zN (zC (zS ?_))
      refine yP (PureOp.opNil ((PureOp.buildStruct [] pl24.choose_spec.1 zr24 (by decide) pl24.choose_spec.2 rfl rfl).mono (v' := .agg #[.int .i64 0, .int .i64 0, .int .i64 0, .slice none 0 0]) rfl)) ?_
      refine AWo.storeAllN (vs := [.int .i64 0, .int .i64 0, .int .i64 0, deep 0 1 []]) tbok rfl rfl rfl rfl rfl rfl rfl rfl ?_
      refine yA ?_
      refine yA ?_
      refine zN (zE (zU ?_))
      exact rq [] [.cell 2 24, .tmp 3, .tmp 4] (hres := (.clo rfl (.cons rfl rfl (.cons rfl rfl .nil))))
theorem rofbD_ctr {B : List Nat} {N : Nat} (hb : bd 256 B) (hx : B.length < 4000000000) (hN : num 256 (B.take 6) = N) (hNl : N < 281474976710656) (h6 : 6 ≤ B.length) (hi : itC (bgn N).k (bgn N).t (bgn N).c = 0) (hcn : N / 65536 ≤ 1048576) (hL : lng (bgn N) < 200000000) (hlg : B.length < 6 + lng (bgn N)) : GC Tryz.prog 17 [db B] [] [opV op0, vi .i64 0, vi .i64 2] [] := by
  refine gi Tryz.func17 ?_
  refine zS ?_
  refine yN 3000 1 _ ?_
  refine yA ?_
  refine yA ?_
  refine zN (zQ (zS ?_))
  refine yM ?_
  refine yP pD ?_
  refine yP ((PureOp.ltN (b := 6) rfl rfl).mono (v' := .bool false) (congrArg Value.bool (by simp; omega))) ?_
  refine zN (zF (zK (zT (zS ?_))))
  refine yA ?_
  refine zN (zQ (zS ?_))
  refine yA ?_
  refine zN (zB ?_)
  refine AW.loopw (fun mm σ => ∃ r, (r ≤ 6) ∧ mm = 1 * r ∧ σ = ⟨(upd (upd (upd (upd emp 0 (db B)) 2 (.pointer (some ⟨3000, 0, none⟩))) 5 (vi .u64 (num 256 ((B.take 6).drop r)))) 6 (vp r)), (upd emp 3000 ⟨[.int .i64 0, .int .i64 0, .int .i64 0, .slice none 0 0], true, 1⟩)⟩) (fm := []) ?_ ⟨6, Nat.le_refl _, rfl, rfl⟩ ?_
  ·
    refine Wk.of [3000] ?_ ?_ ?_ (by decide) rfl
    ·
      refine WkE.upd rfl (by exact VR.flat _ rfl) ?_
      refine WkE.upd rfl (by exact VR.eqv (congrArg (vi .u64) (by rw [List.drop_eq_nil_of_le (by rw [List.length_take]; omega)]; rfl)) rfl) ?_
      refine WkE.upd rfl (.ptr (3000) 0 ⟨_, rfl⟩) ?_
      refine WkE.upd rfl (clo_refl (by simp) rfl) ?_
      exact WkE.emp
    ·
      refine WkM.flat rfl (by simp [flatV]) (fun h => h) ?_
      exact WkM.emp
    ·
      repeat (refine dom_upd_mem (by decide) ?_)
      exact dom_emp
  ·
    rintro mm σ ⟨r, hr6, rfl, rfl⟩
    refine zQ (zS ?_)
    refine yM ?_
    refine yP (PureOp.geP rfl rfl) ?_
    refine zN ?_
    refine zA (fun hb0 => ?_) (fun hb0 => ?_)
    ·
      have hp0 : 0 < r := by simpa using hb0
      obtain ⟨i, rfl⟩ : ∃ q, r = q + 1 := ⟨r - 1, by omega⟩
      rw [vp_succ]
      have hst : (num 256 ((B.take 6).drop i)) = (num 256 ((B.take 6).drop (i + 1))) * 256 + B.getD i 0 := six_step (by omega) h6
      have hlt := six_lt hb (i + 1)
      have hbi : B.getD i 0 < 256 := getD_lt hb (by decide) i
      have hlt2 := six_lt hb i
      refine zK (zT (zQ (zB (zR ?_))))
      refine yM ?_
      refine yP ((PureOp.mulU (a := (num 256 ((B.take 6).drop (i + 1)))) (b := 256) 18446744073709551616 rfl rfl rfl rfl).mono (v' := vi .u64 ((num 256 ((B.take 6).drop (i + 1))) * 256)) (congrArg (vi .u64) (Nat.mod_eq_of_lt (by omega)))) ?_
      refine AWo.pureX 88000 (PureOp.move rfl) rfl rfl rfl ?_
      refine yM ?_
      refine yP (PureOp.idx1 tbok (j := i) rfl rfl rfl rfl (by omega)) ?_
      refine yL 0 ?_
      refine yP (PureOp.cvtN (a := B.getD i 0) tbok 18446744073709551616 rfl rfl rfl (by decide) (by decide) (by omega)) ?_
      refine yP ((PureOp.addU (a := (num 256 ((B.take 6).drop (i + 1))) * 256) (b := B.getD i 0) 18446744073709551616 rfl rfl rfl rfl).mono (v' := vi .u64 (num 256 ((B.take 6).drop i))) (congrArg (vi .u64) (by rw [hst]; exact Nat.mod_eq_of_lt (by omega)))) ?_
      refine yA ?_
      refine zN (zL (zT (zR ?_)))
      refine yM ?_
      refine yP (PureOp.subP rfl rfl (by omega)) ?_
      refine yA ?_
      refine zN (zT ?_)
      exact ⟨1 * i, [], _, by omega, wk [3000], i, by omega, rfl, rfl⟩
    ·
      obtain rfl : r = 0 := by simpa using hb0
      rw [List.drop_zero, hN]
      refine zX (zV (zV (zH (zT (zS ?_)))))
      refine yM ?_
      refine yC (v := .tuple #[.agg #[vi .i64 (N % 256), vi .i64 (N / 256 % 256), vi .i64 (N / 65536), .slice none 0 0], .bool true]) (rbegun_ctr (n := N) (by omega)) bd39 [] [] ?_ (hv := (by rw [decide_eq_true hi]; rfl))
      refine yM ?_
      refine yP pX ?_
      refine yP pX ?_
      refine yN 8000 1 _ ?_
      refine AWo.storeAllN (vs := [vi .i64 (N % 256), vi .i64 (N / 256 % 256), vi .i64 (N / 65536), .slice none 0 0]) tbok rfl rfl rfl rfl rfl rfl rfl rfl ?_
      refine yA ?_
      refine zN (zQ (zS ?_))
      refine yM ?_
      refine yP (PureOp.not rfl) ?_
      refine zN (zF (zK (zT (zQ (zS ?_)))))
      refine yM ?_
      refine yP pD ?_
      refine yLA ?_
      refine yC (v := vi .i64 (lng (bgn N))) (rlongN_ctr (k := (bgn N).k) (t := (bgn N).t) (cn := N / 65536) hcn) bd40 [] [] ?_
      refine yP (PureOp.addI (a := 6) (b := lng (bgn N)) rfl rfl (by omega)) ?_
      refine yP ((PureOp.ltN rfl rfl).mono (v' := .bool true) (congrArg Value.bool (by simp; omega))) ?_
      refine zN (zC (zS ?_))
      refine yP (PureOp.opNil ((PureOp.buildStruct [] pl24.choose_spec.1 zr24 (by decide) pl24.choose_spec.2 rfl rfl).mono (v' := .agg #[.int .i64 0, .int .i64 0, .int .i64 0, .slice none 0 0]) rfl)) ?_
      refine AWo.storeAllN (vs := [.int .i64 0, .int .i64 0, .int .i64 0, deep 0 1 []]) tbok rfl rfl rfl rfl rfl rfl rfl rfl ?_
      refine yA ?_
      refine yA ?_
      refine zN (zE (zU ?_))
      exact rq [] [.cell 2 24, .tmp 3, .tmp 4] (hres := (.clo rfl (.cons rfl rfl (.cons rfl rfl .nil))))
theorem rofbE_ctr {B : List Nat} {N : Nat} (hb : bd 256 B) (hx : B.length < 4000000000) (hN : num 256 (B.take 6) = N) (hNl : N < 281474976710656) (h6 : 6 ≤ B.length) (hi : itC (bgn N).k (bgn N).t (bgn N).c = 0) (hcn : N / 65536 ≤ 1048576) (hL : lng (bgn N) < 200000000) (hlg : 6 + lng (bgn N) ≤ B.length) (hdl : ((B.drop 6).take (lng (bgn N))).length = lng (bgn N)) (hr : ¬ Rgt ⟨(bgn N).k, (bgn N).t, (bgn N).c, (B.drop 6).take (lng (bgn N))⟩) : GC Tryz.prog 17 [db B] [] [opV op0, vi .i64 0, vi .i64 3] [] := by
  refine gi Tryz.func17 ?_
  refine zS ?_
  refine yN 3000 1 _ ?_
  refine yA ?_
  refine yA ?_
  refine zN (zQ (zS ?_))
  refine yM ?_
  refine yP pD ?_
  refine yP ((PureOp.ltN (b := 6) rfl rfl).mono (v' := .bool false) (congrArg Value.bool (by simp; omega))) ?_
  refine zN (zF (zK (zT (zS ?_))))
  refine yA ?_
  refine zN (zQ (zS ?_))
  refine yA ?_
  refine zN (zB ?_)
  refine AW.loopw (fun mm σ => ∃ r, (r ≤ 6) ∧ mm = 1 * r ∧ σ = ⟨(upd (upd (upd (upd emp 0 (db B)) 2 (.pointer (some ⟨3000, 0, none⟩))) 5 (vi .u64 (num 256 ((B.take 6).drop r)))) 6 (vp r)), (upd emp 3000 ⟨[.int .i64 0, .int .i64 0, .int .i64 0, .slice none 0 0], true, 1⟩)⟩) (fm := []) ?_ ⟨6, Nat.le_refl _, rfl, rfl⟩ ?_
  ·
    refine Wk.of [3000] ?_ ?_ ?_ (by decide) rfl
    ·
      refine WkE.upd rfl (by exact VR.flat _ rfl) ?_
      refine WkE.upd rfl (by exact VR.eqv (congrArg (vi .u64) (by rw [List.drop_eq_nil_of_le (by rw [List.length_take]; omega)]; rfl)) rfl) ?_
      refine WkE.upd rfl (.ptr (3000) 0 ⟨_, rfl⟩) ?_
      refine WkE.upd rfl (clo_refl (by simp) rfl) ?_
      exact WkE.emp
    ·
      refine WkM.flat rfl (by simp [flatV]) (fun h => h) ?_
      exact WkM.emp
    ·
      repeat (refine dom_upd_mem (by decide) ?_)
      exact dom_emp
  ·
    rintro mm σ ⟨r, hr6, rfl, rfl⟩
    refine zQ (zS ?_)
    refine yM ?_
    refine yP (PureOp.geP rfl rfl) ?_
    refine zN ?_
    refine zA (fun hb0 => ?_) (fun hb0 => ?_)
    ·
      have hp0 : 0 < r := by simpa using hb0
      obtain ⟨i, rfl⟩ : ∃ q, r = q + 1 := ⟨r - 1, by omega⟩
      rw [vp_succ]
      have hst : (num 256 ((B.take 6).drop i)) = (num 256 ((B.take 6).drop (i + 1))) * 256 + B.getD i 0 := six_step (by omega) h6
      have hlt := six_lt hb (i + 1)
      have hbi : B.getD i 0 < 256 := getD_lt hb (by decide) i
      have hlt2 := six_lt hb i
      refine zK (zT (zQ (zB (zR ?_))))
      refine yM ?_
      refine yP ((PureOp.mulU (a := (num 256 ((B.take 6).drop (i + 1)))) (b := 256) 18446744073709551616 rfl rfl rfl rfl).mono (v' := vi .u64 ((num 256 ((B.take 6).drop (i + 1))) * 256)) (congrArg (vi .u64) (Nat.mod_eq_of_lt (by omega)))) ?_
      refine AWo.pureX 88000 (PureOp.move rfl) rfl rfl rfl ?_
      refine yM ?_
      refine yP (PureOp.idx1 tbok (j := i) rfl rfl rfl rfl (by omega)) ?_
      refine yL 0 ?_
      refine yP (PureOp.cvtN (a := B.getD i 0) tbok 18446744073709551616 rfl rfl rfl (by decide) (by decide) (by omega)) ?_
      refine yP ((PureOp.addU (a := (num 256 ((B.take 6).drop (i + 1))) * 256) (b := B.getD i 0) 18446744073709551616 rfl rfl rfl rfl).mono (v' := vi .u64 (num 256 ((B.take 6).drop i))) (congrArg (vi .u64) (by rw [hst]; exact Nat.mod_eq_of_lt (by omega)))) ?_
      refine yA ?_
      refine zN (zL (zT (zR ?_)))
      refine yM ?_
      refine yP (PureOp.subP rfl rfl (by omega)) ?_
      refine yA ?_
      refine zN (zT ?_)
      exact ⟨1 * i, [], _, by omega, wk [3000], i, by omega, rfl, rfl⟩
    ·
      obtain rfl : r = 0 := by simpa using hb0
      rw [List.drop_zero, hN]
      refine zX (zV (zV (zH (zT (zS ?_)))))
      refine yM ?_
      refine yC (v := .tuple #[.agg #[vi .i64 (N % 256), vi .i64 (N / 256 % 256), vi .i64 (N / 65536), .slice none 0 0], .bool true]) (rbegun_ctr (n := N) (by omega)) bd39 [] [] ?_ (hv := (by rw [decide_eq_true hi]; rfl))
      refine yM ?_
      refine yP pX ?_
      refine yP pX ?_
      refine yN 8000 1 _ ?_
      refine AWo.storeAllN (vs := [vi .i64 (N % 256), vi .i64 (N / 256 % 256), vi .i64 (N / 65536), .slice none 0 0]) tbok rfl rfl rfl rfl rfl rfl rfl rfl ?_
      refine yA ?_
      refine zN (zQ (zS ?_))
      refine yM ?_
      refine yP (PureOp.not rfl) ?_
      refine zN (zF (zK (zT (zQ (zS ?_)))))
      refine yM ?_
      refine yP pD ?_
      refine yLA ?_
      refine yC (v := vi .i64 (lng (bgn N))) (rlongN_ctr (k := (bgn N).k) (t := (bgn N).t) (cn := N / 65536) hcn) bd40 [] [] ?_
      refine yP (PureOp.addI (a := 6) (b := lng (bgn N)) rfl rfl (by omega)) ?_
      refine yP ((PureOp.ltN rfl rfl).mono (v' := .bool false) (congrArg Value.bool (by simp; omega))) ?_
      refine zN (zF (zK (zT (zS ?_))))
      refine yM ?_
      refine yLA ?_
      refine yC (v := vi .i64 (lng (bgn N))) (rlongN_ctr (k := (bgn N).k) (t := (bgn N).t) (cn := N / 65536) hcn) bd40 [] [] ?_
      refine yP (PureOp.addI (a := 6) (b := lng (bgn N)) rfl rfl (by omega)) ?_
      refine yP ((PureOp.sliceD (l := 6) (h := 6 + lng (bgn N)) rfl (.some rfl) (.some rfl) (tbok.sl _ _ rfl) (tbok.sz _ _ rfl) (by omega) hlg).mono (v' := db ((B.drop 6).take (lng (bgn N)))) (by rw [db_part hlg (by omega), Nat.add_sub_cancel_left])) ?_
      refine yP pF ?_
      refine AWo.store1 tbok rfl rfl rfl rfl rfl (by simp) rfl rfl ?_
      refine zN (zQ (zS ?_))
      refine yLA ?_
      refine AWo.callX (v := .bool false) (right15_ctr (x := ⟨(bgn N).k, (bgn N).t, (bgn N).c, (B.drop 6).take (lng (bgn N))⟩) (bd_part hb _ _) (by show List.length ((B.drop 6).take (lng (bgn N))) < _; rw [hdl]; omega)) bd12 [] [] rfl (.cons rfl .nil) rfl (.clo rfl .nil) .nil rfl .nil frN (by decide) (.cons rfl rfl .nil) (congrArg Value.bool (decide_eq_false hr)) rfl rfl rfl ?_
      refine yP (PureOp.not rfl) ?_
      refine zN (zC (zS ?_))
      refine yP (PureOp.opNil ((PureOp.buildStruct [] pl24.choose_spec.1 zr24 (by decide) pl24.choose_spec.2 rfl rfl).mono (v' := .agg #[.int .i64 0, .int .i64 0, .int .i64 0, .slice none 0 0]) rfl)) ?_
      refine AWo.storeAllN (vs := [.int .i64 0, .int .i64 0, .int .i64 0, deep 0 1 []]) tbok rfl rfl rfl rfl rfl rfl rfl rfl ?_
      refine yA ?_
      refine yA ?_
      refine zN (zE (zU ?_))
      exact rq [] [.cell 2 24, .tmp 3, .tmp 4] (hres := (.clo rfl (.cons rfl rfl (.cons rfl rfl .nil))))
theorem rofbF_ctr {B : List Nat} {N : Nat} (hb : bd 256 B) (hx : B.length < 4000000000) (hN : num 256 (B.take 6) = N) (hNl : N < 281474976710656) (h6 : 6 ≤ B.length) (hi : itC (bgn N).k (bgn N).t (bgn N).c = 0) (hcn : N / 65536 ≤ 1048576) (hL : lng (bgn N) < 200000000) (hlg : 6 + lng (bgn N) ≤ B.length) (hdl : ((B.drop 6).take (lng (bgn N))).length = lng (bgn N)) (hr : Rgt ⟨(bgn N).k, (bgn N).t, (bgn N).c, (B.drop 6).take (lng (bgn N))⟩) : GC Tryz.prog 17 [db B] [] [opV (Opn.mk (bgn N).k (bgn N).t (bgn N).c ((B.drop 6).take (lng (bgn N)))), vi .i64 (6 + lng (bgn N)), vi .i64 0] [] := by
  refine gi Tryz.func17 ?_
  refine zS ?_
  refine yN 3000 1 _ ?_
  refine yA ?_
  refine yA ?_
  refine zN (zQ (zS ?_))
  refine yM ?_
  refine yP pD ?_
  refine yP ((PureOp.ltN (b := 6) rfl rfl).mono (v' := .bool false) (congrArg Value.bool (by simp; omega))) ?_
  refine zN (zF (zK (zT (zS ?_))))
  refine yA ?_
  refine zN (zQ (zS ?_))
  refine yA ?_
  refine zN (zB ?_)
  refine AW.loopw (fun mm σ => ∃ r, (r ≤ 6) ∧ mm = 1 * r ∧ σ = ⟨(upd (upd (upd (upd emp 0 (db B)) 2 (.pointer (some ⟨3000, 0, none⟩))) 5 (vi .u64 (num 256 ((B.take 6).drop r)))) 6 (vp r)), (upd emp 3000 ⟨[.int .i64 0, .int .i64 0, .int .i64 0, .slice none 0 0], true, 1⟩)⟩) (fm := []) ?_ ⟨6, Nat.le_refl _, rfl, rfl⟩ ?_
  ·
    refine Wk.of [3000] ?_ ?_ ?_ (by decide) rfl
    ·
      refine WkE.upd rfl (by exact VR.flat _ rfl) ?_
      refine WkE.upd rfl (by exact VR.eqv (congrArg (vi .u64) (by rw [List.drop_eq_nil_of_le (by rw [List.length_take]; omega)]; rfl)) rfl) ?_
      refine WkE.upd rfl (.ptr (3000) 0 ⟨_, rfl⟩) ?_
      refine WkE.upd rfl (clo_refl (by simp) rfl) ?_
      exact WkE.emp
    ·
      refine WkM.flat rfl (by simp [flatV]) (fun h => h) ?_
      exact WkM.emp
    ·
      repeat (refine dom_upd_mem (by decide) ?_)
      exact dom_emp
  ·
    rintro mm σ ⟨r, hr6, rfl, rfl⟩
    refine zQ (zS ?_)
    refine yM ?_
    refine yP (PureOp.geP rfl rfl) ?_
    refine zN ?_
    refine zA (fun hb0 => ?_) (fun hb0 => ?_)
    ·
      have hp0 : 0 < r := by simpa using hb0
      obtain ⟨i, rfl⟩ : ∃ q, r = q + 1 := ⟨r - 1, by omega⟩
      rw [vp_succ]
      have hst : (num 256 ((B.take 6).drop i)) = (num 256 ((B.take 6).drop (i + 1))) * 256 + B.getD i 0 := six_step (by omega) h6
      have hlt := six_lt hb (i + 1)
      have hbi : B.getD i 0 < 256 := getD_lt hb (by decide) i
      have hlt2 := six_lt hb i
      refine zK (zT (zQ (zB (zR ?_))))
      refine yM ?_
      refine yP ((PureOp.mulU (a := (num 256 ((B.take 6).drop (i + 1)))) (b := 256) 18446744073709551616 rfl rfl rfl rfl).mono (v' := vi .u64 ((num 256 ((B.take 6).drop (i + 1))) * 256)) (congrArg (vi .u64) (Nat.mod_eq_of_lt (by omega)))) ?_
      refine AWo.pureX 88000 (PureOp.move rfl) rfl rfl rfl ?_
      refine yM ?_
      refine yP (PureOp.idx1 tbok (j := i) rfl rfl rfl rfl (by omega)) ?_
      refine yL 0 ?_
      refine yP (PureOp.cvtN (a := B.getD i 0) tbok 18446744073709551616 rfl rfl rfl (by decide) (by decide) (by omega)) ?_
      refine yP ((PureOp.addU (a := (num 256 ((B.take 6).drop (i + 1))) * 256) (b := B.getD i 0) 18446744073709551616 rfl rfl rfl rfl).mono (v' := vi .u64 (num 256 ((B.take 6).drop i))) (congrArg (vi .u64) (by rw [hst]; exact Nat.mod_eq_of_lt (by omega)))) ?_
      refine yA ?_
      refine zN (zL (zT (zR ?_)))
      refine yM ?_
      refine yP (PureOp.subP rfl rfl (by omega)) ?_
      refine yA ?_
      refine zN (zT ?_)
      exact ⟨1 * i, [], _, by omega, wk [3000], i, by omega, rfl, rfl⟩
    ·
      obtain rfl : r = 0 := by simpa using hb0
      rw [List.drop_zero, hN]
      refine zX (zV (zV (zH (zT (zS ?_)))))
      refine yM ?_
      refine yC (v := .tuple #[.agg #[vi .i64 (N % 256), vi .i64 (N / 256 % 256), vi .i64 (N / 65536), .slice none 0 0], .bool true]) (rbegun_ctr (n := N) (by omega)) bd39 [] [] ?_ (hv := (by rw [decide_eq_true hi]; rfl))
      refine yM ?_
      refine yP pX ?_
      refine yP pX ?_
      refine yN 8000 1 _ ?_
      refine AWo.storeAllN (vs := [vi .i64 (N % 256), vi .i64 (N / 256 % 256), vi .i64 (N / 65536), .slice none 0 0]) tbok rfl rfl rfl rfl rfl rfl rfl rfl ?_
      refine yA ?_
      refine zN (zQ (zS ?_))
      refine yM ?_
      refine yP (PureOp.not rfl) ?_
      refine zN (zF (zK (zT (zQ (zS ?_)))))
      refine yM ?_
      refine yP pD ?_
      refine yLA ?_
      refine yC (v := vi .i64 (lng (bgn N))) (rlongN_ctr (k := (bgn N).k) (t := (bgn N).t) (cn := N / 65536) hcn) bd40 [] [] ?_
      refine yP (PureOp.addI (a := 6) (b := lng (bgn N)) rfl rfl (by omega)) ?_
      refine yP ((PureOp.ltN rfl rfl).mono (v' := .bool false) (congrArg Value.bool (by simp; omega))) ?_
      refine zN (zF (zK (zT (zS ?_))))
      refine yM ?_
      refine yLA ?_
      refine yC (v := vi .i64 (lng (bgn N))) (rlongN_ctr (k := (bgn N).k) (t := (bgn N).t) (cn := N / 65536) hcn) bd40 [] [] ?_
      refine yP (PureOp.addI (a := 6) (b := lng (bgn N)) rfl rfl (by omega)) ?_
      refine yP ((PureOp.sliceD (l := 6) (h := 6 + lng (bgn N)) rfl (.some rfl) (.some rfl) (tbok.sl _ _ rfl) (tbok.sz _ _ rfl) (by omega) hlg).mono (v' := db ((B.drop 6).take (lng (bgn N)))) (by rw [db_part hlg (by omega), Nat.add_sub_cancel_left])) ?_
      refine yP pF ?_
      refine AWo.store1 tbok rfl rfl rfl rfl rfl (by simp) rfl rfl ?_
      refine zN (zQ (zS ?_))
      refine yLA ?_
      refine AWo.callX (v := .bool true) (right15_ctr (x := ⟨(bgn N).k, (bgn N).t, (bgn N).c, (B.drop 6).take (lng (bgn N))⟩) (bd_part hb _ _) (by show List.length ((B.drop 6).take (lng (bgn N))) < _; rw [hdl]; omega)) bd12 [] [] rfl (.cons rfl .nil) rfl (.clo rfl .nil) .nil rfl .nil frN (by decide) (.cons rfl rfl .nil) (congrArg Value.bool (decide_eq_true hr)) rfl rfl rfl ?_
      refine yP (PureOp.not rfl) ?_
      refine zN (zF (zK (zT ?_)))
      refine AW.seqD mixed ?_
      refine yLA ?_
      refine yLA ?_
      refine yC (v := vi .i64 (lng (bgn N))) (rlong_ctr (k := (bgn N).k) (t := (bgn N).t) (cn := N / 65536) (d := (B.drop 6).take (lng (bgn N))) hcn) bd40 [] [] ?_ (hargs := (.clo rfl .nil))
      refine yP (PureOp.addI (a := 6) (b := lng (bgn N)) rfl rfl (by omega)) ?_
      refine AWo.storeAllN (vs := [vi .i64 (N % 256), vi .i64 (N / 256 % 256), vi .i64 (N / 65536), db ((B.drop 6).take (lng (bgn N)))]) tbok rfl rfl rfl rfl rfl rfl rfl rfl ?_
      refine yA ?_
      refine yA ?_
      refine zD (zE ?_)
      exact rq [] [.cell 2 24, .tmp 3, .tmp 4] (hres := (.clo rfl (.cons rfl rfl (.cons rfl rfl .nil))))
theorem rofb_ctr {B : List Nat} (hb : bd 256 B) (hx : B.length < 4000000000) : GC Tryz.prog 17 [db B] [] [opV (ofB B).1, vi .i64 (ofB B).2.1, vi .i64 (ofB B).2.2] [] := by
  rcases Nat.lt_or_ge B.length 6 with h6 | h6
  · rw [show ofB B = (op0, 0, 2) from if_pos h6]
    exact rofbA_ctr h6
  obtain ⟨N, hN⟩ : ∃ N, num 256 (B.take 6) = N := ⟨_, rfl⟩
  have hNl : N < 281474976710656 := by
    have := num_lt (l := B.take 6) (fun x hx => hb x (List.mem_of_mem_take hx))
    rw [List.length_take, Nat.min_eq_left h6, hN] at this
    exact this
  by_cases hi : itC (bgn N).k (bgn N).t (bgn N).c = 0
  · have hcn : N / 65536 ≤ 1048576 := by
      have := (itC_inv hi).2.2.2.2.2.1
      change ((N / 65536 : Nat) : Int) ≤ 1048576 at this
      omega
    have hL := lng_lt hi
    rcases Nat.lt_or_ge B.length (6 + lng (bgn N)) with hlg | hlg
    · rw [show ofB B = (op0, 0, 2) by unfold ofB; rw [hN, if_neg (by omega), if_neg (by simpa using hi), if_pos hlg]]
      exact rofbD_ctr hb hx hN hNl h6 hi hcn hL hlg
    · have hdl : ((B.drop 6).take (lng (bgn N))).length = lng (bgn N) := by rw [List.length_take, List.length_drop]; omega
      by_cases hr : Rgt ⟨(bgn N).k, (bgn N).t, (bgn N).c, (B.drop 6).take (lng (bgn N))⟩
      · rw [show ofB B = (⟨(bgn N).k, (bgn N).t, (bgn N).c, (B.drop 6).take (lng (bgn N))⟩, 6 + lng (bgn N), 0) by unfold ofB; rw [hN, if_neg (by omega), if_neg (by simpa using hi), if_neg (by omega), if_pos hr]]
        exact rofbF_ctr hb hx hN hNl h6 hi hcn hL hlg hdl hr
      · rw [show ofB B = (op0, 0, 3) by unfold ofB; rw [hN, if_neg (by omega), if_neg (by simpa using hi), if_neg (by omega), if_neg hr]]
        exact rofbE_ctr hb hx hN hNl h6 hi hcn hL hlg hdl hr
  · rw [show ofB B = (op0, 0, 3) by unfold ofB; rw [hN, if_neg (by omega), if_pos hi]]
    exact rofbC_ctr hb hx hN hNl h6 hi
end Go.Proofs.YtpahdiljpnfkdaaGreat
namespace Go.Proofs.YtpahdiljpnfkdaaGreat
open Go Sim
theorem mapD {l : List Fp} {i : Nat} (h : i < l.length) : (l.map dv)[i]? = some (dv (l.getD i 0)) := by
 rw [List.getElem?_map, List.getD_eq_getElem?_getD, List.getElem?_eq_getElem h]; rfl
theorem dig1 {v N : Nat} (h : v % 18446744073709551616 = N) : (digs 18446744073709551616 1 v).getD 0 0 = N := h
theorem len2 {v : Nat} : 2 < (D 4294967296 v).length ↔ 18446744073709551616 ≤ v := by
 have h := D_len_le (B := 4294967296) (by decide) v 2
 have e : 4294967296 ^ 2 = 18446744073709551616 := by decide
 rw [e] at h
 omega
theorem digs_getDG : ∀ (n v : Nat) {k : Nat}, k < n → (digs 256 n v).getD k 0 = v / 256 ^ k % 256
 | 0, v, k, h => absurd h (Nat.not_lt_zero k)
 | n + 1, v, 0, _ => by rw [Nat.pow_zero, Nat.div_one]; rfl
 | n + 1, v, k + 1, h => by
  have ih := digs_getDG n (v / 256) (k := k) (Nat.lt_of_succ_lt_succ h)
  rw [Nat.div_div_eq_div_mul] at ih
  rw [Nat.pow_succ, Nat.mul_comm]
  exact ih
theorem digit_le {v p k : Nat} (hpk : p ≤ k) (hk : k < 32) (h : (digs 256 32 v).getD k 0 ≠ 0) : 256 ^ p ≤ v := by
 rw [digs_getDG _ _ hk] at h
 refine Nat.le_trans (Nat.pow_le_pow_right (by decide) hpk) (Nat.le_of_not_lt fun hlt => h ?_)
 rw [Nat.div_eq_of_lt hlt]
theorem zero_step {v p k : Nat} (h0 : v / 256 ^ k % 256 = 0) (h : v % 256 ^ k < 256 ^ p) : v % 256 ^ (k + 1) < 256 ^ p := by
 rw [Nat.pow_succ, Nat.mod_mul, h0, Nat.mul_zero, Nat.add_zero]; exact h
theorem roffA_ctr {l : List Fp} (hl0 : l.length = 0) : GC Tryz.prog 21 [.slice (some ⟨0, 0, none⟩) l.length 0] [⟨l.map (dv), false, 1⟩] [opV op0, vi .i64 0, vi .i64 2] [⟨l.map (dv), false, 1⟩] := by
  refine gi Tryz.func21 ?_
  refine zS ?_
  refine yN 3000 1 _ ?_
  refine yA ?_
  refine yA ?_
  refine zN (zQ (zS ?_))
  refine yM ?_
  refine yP pL ?_
  refine yP ((PureOp.eqN (b := 0) rfl rfl).mono (v' := .bool true) (congrArg Value.bool (beq_iff_eq.2 hl0))) ?_
  refine zN (zC (zS ?_))
  refine yP (PureOp.opNil ((PureOp.buildStruct [] pl24.choose_spec.1 zr24 (by decide) pl24.choose_spec.2 rfl rfl).mono (v' := .agg #[.int .i64 0, .int .i64 0, .int .i64 0, .slice none 0 0]) rfl)) ?_
  refine AWo.storeAllN (vs := [.int .i64 0, .int .i64 0, .int .i64 0, deep 0 1 []]) tbok rfl rfl rfl rfl rfl rfl rfl rfl ?_
  refine yA ?_
  refine yA ?_
  refine zN (zE (zU ?_))
  exact rq [] [.cell 2 24, .tmp 3, .tmp 4] (hres := (.clo rfl (.cons rfl rfl (.cons rfl rfl .nil)))) (hb := (OutL.clo rfl (cloM fun _ => rfl) (by intro h; exact h.elim id fun h => absurd h.1 (by simp)) trivial))
theorem roffC_ctr {l : List Fp} {N : Nat} (hx : l.length < 1000000) (hl0 : 0 < l.length) (hN : (l.getD 0 0).val % 18446744073709551616 = N) (hNl : N < 18446744073709551616) (hi : ¬ itC (bgn N).k (bgn N).t (bgn N).c = 0) : GC Tryz.prog 21 [.slice (some ⟨0, 0, none⟩) l.length 0] [⟨l.map (dv), false, 1⟩] [opV op0, vi .i64 0, vi .i64 3] [⟨l.map (dv), false, 1⟩] := by
  refine gi Tryz.func21 ?_
  refine zS ?_
  refine yN 3000 1 _ ?_
  refine yA ?_
  refine yA ?_
  refine zN (zQ (zS ?_))
  refine yM ?_
  refine yP pL ?_
  refine yP ((PureOp.eqN (b := 0) rfl rfl).mono (v' := .bool false) (congrArg Value.bool (beq_eq_false_iff_ne.2 (by omega)))) ?_
  refine zN (zF (zK (zT (zS ?_))))
  refine yM ?_
  refine yP (PureOp.idx1 tbok (j := 0) rfl rfl rfl rfl hl0) ?_
  refine AWo.loadX tbok 98000 rfl rfl rfl (mapD hl0) rfl rfl rfl ?_
  refine yC (wordsD_ctr (x := (l.getD 0 0).val) (n := 1) (by decide)) bd46 [(98000, 0)] [20000] ?_
  refine yP (PureOp.idx1 tbok (j := 0) rfl rfl rfl rfl (by decide)) ?_
  refine AWo.loadM tbok 0 rfl rfl rfl (by rw [digs_len]; decide) rfl rfl ?_
  rw [dig1 hN]
  refine yC (v := .tuple #[.agg #[vi .i64 (N % 256), vi .i64 (N / 256 % 256), vi .i64 (N / 65536), .slice none 0 0], .bool false]) (rbegun_ctr (n := N) hNl) bd39 [] [] ?_ (hv := (by rw [decide_eq_false hi]; rfl))
  refine yM ?_
  refine yP pX ?_
  refine yP pX ?_
  refine yN 6000 1 _ ?_
  refine AWo.storeAllN (vs := [vi .i64 (N % 256), vi .i64 (N / 256 % 256), vi .i64 (N / 65536), .slice none 0 0]) tbok rfl rfl rfl rfl rfl rfl rfl rfl ?_
  refine yA ?_
  refine zN (zQ (zS ?_))
  refine yM ?_
  refine yP (PureOp.not rfl) ?_
  refine yM ?_
  refine yK ?_
  refine yK ?_
  refine yK ?_
  refine yK ?_
  refine yK ?_
  refine yP pT ?_
  refine zN (zC (zS ?_))
  refine yP (PureOp.opNil ((PureOp.buildStruct [] pl24.choose_spec.1 zr24 (by decide) pl24.choose_spec.2 rfl rfl).mono (v' := .agg #[.int .i64 0, .int .i64 0, .int .i64 0, .slice none 0 0]) rfl)) ?_
  refine AWo.storeAllN (vs := [.int .i64 0, .int .i64 0, .int .i64 0, deep 0 1 []]) tbok rfl rfl rfl rfl rfl rfl rfl rfl ?_
  refine yA ?_
  refine yA ?_
  refine zN (zE (zU ?_))
  exact rq [] [.cell 2 24, .tmp 3, .tmp 4] (hres := (.clo rfl (.cons rfl rfl (.cons rfl rfl .nil)))) (hb := (OutL.clo rfl (cloM fun _ => rfl) (by intro h; exact h.elim id fun h => absurd h.1 (by simp)) trivial))
theorem roffB_ctr {l : List Fp} {N : Nat} (hx : l.length < 1000000) (hl0 : 0 < l.length) (hN : (l.getD 0 0).val % 18446744073709551616 = N) (hNl : N < 18446744073709551616) (hi : itC (bgn N).k (bgn N).t (bgn N).c = 0) (hcn : N / 65536 ≤ 1048576) (hL : (lng (bgn N)) < 200000000) (hv : 18446744073709551616 ≤ (l.getD 0 0).val) : GC Tryz.prog 21 [.slice (some ⟨0, 0, none⟩) l.length 0] [⟨l.map (dv), false, 1⟩] [opV op0, vi .i64 0, vi .i64 3] [⟨l.map (dv), false, 1⟩] := by
  refine gi Tryz.func21 ?_
  refine zS ?_
  refine yN 3000 1 _ ?_
  refine yA ?_
  refine yA ?_
  refine zN (zQ (zS ?_))
  refine yM ?_
  refine yP pL ?_
  refine yP ((PureOp.eqN (b := 0) rfl rfl).mono (v' := .bool false) (congrArg Value.bool (beq_eq_false_iff_ne.2 (by omega)))) ?_
  refine zN (zF (zK (zT (zS ?_))))
  refine yM ?_
  refine yP (PureOp.idx1 tbok (j := 0) rfl rfl rfl rfl hl0) ?_
  refine AWo.loadX tbok 98000 rfl rfl rfl (mapD hl0) rfl rfl rfl ?_
  refine yC (wordsD_ctr (x := (l.getD 0 0).val) (n := 1) (by decide)) bd46 [(98000, 0)] [20000] ?_
  refine yP (PureOp.idx1 tbok (j := 0) rfl rfl rfl rfl (by decide)) ?_
  refine AWo.loadM tbok 0 rfl rfl rfl (by rw [digs_len]; decide) rfl rfl ?_
  rw [dig1 hN]
  refine yC (v := .tuple #[.agg #[vi .i64 (N % 256), vi .i64 (N / 256 % 256), vi .i64 (N / 65536), .slice none 0 0], .bool true]) (rbegun_ctr (n := N) hNl) bd39 [] [] ?_ (hv := (by rw [decide_eq_true hi]; rfl))
  refine yM ?_
  refine yP pX ?_
  refine yP pX ?_
  refine yN 6000 1 _ ?_
  refine AWo.storeAllN (vs := [vi .i64 (N % 256), vi .i64 (N / 256 % 256), vi .i64 (N / 65536), .slice none 0 0]) tbok rfl rfl rfl rfl rfl rfl rfl rfl ?_
  refine yA ?_
  refine zN (zQ (zS ?_))
  refine yM ?_
  refine yP (PureOp.not rfl) ?_
  refine yM ?_
  refine yM ?_
  refine yP (PureOp.idx1 tbok (j := 0) rfl rfl rfl rfl hl0) ?_
  refine AWo.loadM tbok (f := dv) 0 rfl rfl rfl hl0 rfl rfl ?_
  refine yP pD ?_
  refine yP ((PureOp.gtN (b := 2) rfl rfl).mono (v' := .bool true) (congrArg Value.bool (decide_eq_true (len2.2 hv)))) ?_
  refine yP pE ?_
  refine zN (zC (zS ?_))
  refine yP (PureOp.opNil ((PureOp.buildStruct [] pl24.choose_spec.1 zr24 (by decide) pl24.choose_spec.2 rfl rfl).mono (v' := .agg #[.int .i64 0, .int .i64 0, .int .i64 0, .slice none 0 0]) rfl)) ?_
  refine AWo.storeAllN (vs := [.int .i64 0, .int .i64 0, .int .i64 0, deep 0 1 []]) tbok rfl rfl rfl rfl rfl rfl rfl rfl ?_
  refine yA ?_
  refine yA ?_
  refine zN (zE (zU ?_))
  exact rq [] [.cell 2 24, .tmp 3, .tmp 4] (hres := (.clo rfl (.cons rfl rfl (.cons rfl rfl .nil)))) (hb := (OutL.clo rfl (cloM fun _ => rfl) (by intro h; exact h.elim id fun h => absurd h.1 (by simp)) trivial))
theorem roffD_ctr {l : List Fp} {N : Nat} (hx : l.length < 1000000) (hl0 : 0 < l.length) (hN : (l.getD 0 0).val % 18446744073709551616 = N) (hNl : N < 18446744073709551616) (hi : itC (bgn N).k (bgn N).t (bgn N).c = 0) (hcn : N / 65536 ≤ 1048576) (hL : (lng (bgn N)) < 200000000) (hv : (l.getD 0 0).val < 18446744073709551616) (hd : 32 * l.length < (lng (bgn N))) : GC Tryz.prog 21 [.slice (some ⟨0, 0, none⟩) l.length 0] [⟨l.map (dv), false, 1⟩] [opV op0, vi .i64 0, vi .i64 2] [⟨l.map (dv), false, 1⟩] := by
  have hnpl : (np (bgn N).t (lng (bgn N))) ≤ (lng (bgn N)) := np_le
  refine gi Tryz.func21 ?_
  refine zS ?_
  refine yN 3000 1 _ ?_
  refine yA ?_
  refine yA ?_
  refine zN (zQ (zS ?_))
  refine yM ?_
  refine yP pL ?_
  refine yP ((PureOp.eqN (b := 0) rfl rfl).mono (v' := .bool false) (congrArg Value.bool (beq_eq_false_iff_ne.2 (by omega)))) ?_
  refine zN (zF (zK (zT (zS ?_))))
  refine yM ?_
  refine yP (PureOp.idx1 tbok (j := 0) rfl rfl rfl rfl hl0) ?_
  refine AWo.loadX tbok 98000 rfl rfl rfl (mapD hl0) rfl rfl rfl ?_
  refine yC (wordsD_ctr (x := (l.getD 0 0).val) (n := 1) (by decide)) bd46 [(98000, 0)] [20000] ?_
  refine yP (PureOp.idx1 tbok (j := 0) rfl rfl rfl rfl (by decide)) ?_
  refine AWo.loadM tbok 0 rfl rfl rfl (by rw [digs_len]; decide) rfl rfl ?_
  rw [dig1 hN]
  refine yC (v := .tuple #[.agg #[vi .i64 (N % 256), vi .i64 (N / 256 % 256), vi .i64 (N / 65536), .slice none 0 0], .bool true]) (rbegun_ctr (n := N) hNl) bd39 [] [] ?_ (hv := (by rw [decide_eq_true hi]; rfl))
  refine yM ?_
  refine yP pX ?_
  refine yP pX ?_
  refine yN 6000 1 _ ?_
  refine AWo.storeAllN (vs := [vi .i64 (N % 256), vi .i64 (N / 256 % 256), vi .i64 (N / 65536), .slice none 0 0]) tbok rfl rfl rfl rfl rfl rfl rfl rfl ?_
  refine yA ?_
  refine zN (zQ (zS ?_))
  refine yM ?_
  refine yP (PureOp.not rfl) ?_
  refine yM ?_
  refine yM ?_
  refine yP (PureOp.idx1 tbok (j := 0) rfl rfl rfl rfl hl0) ?_
  refine AWo.loadM tbok (f := dv) 0 rfl rfl rfl hl0 rfl rfl ?_
  refine yP pD ?_
  refine yP ((PureOp.gtN (b := 2) rfl rfl).mono (v' := .bool false) (congrArg Value.bool (decide_eq_false (fun h => Nat.not_le.2 hv (len2.1 h))))) ?_
  refine yP pE ?_
  refine zN (zF (zK (zT (zQ (zS ?_)))))
  refine yLA ?_
  refine yC (v := vi .i64 (lng (bgn N))) (rlongN_ctr (k := (bgn N).k) (t := (bgn N).t) (cn := N / 65536) hcn) bd40 [] [] ?_
  refine yM ?_
  refine yP pL ?_
  refine yP (PureOp.mulI (a := 32) (b := l.length) rfl rfl (by omega)) ?_
  refine yP ((PureOp.gtN rfl rfl).mono (v' := .bool true) (congrArg Value.bool (by simp; omega))) ?_
  refine zN (zC (zS ?_))
  refine yP (PureOp.opNil ((PureOp.buildStruct [] pl24.choose_spec.1 zr24 (by decide) pl24.choose_spec.2 rfl rfl).mono (v' := .agg #[.int .i64 0, .int .i64 0, .int .i64 0, .slice none 0 0]) rfl)) ?_
  refine AWo.storeAllN (vs := [.int .i64 0, .int .i64 0, .int .i64 0, deep 0 1 []]) tbok rfl rfl rfl rfl rfl rfl rfl rfl ?_
  refine yA ?_
  refine yA ?_
  refine zN (zE (zU ?_))
  exact rq [] [.cell 2 24, .tmp 3, .tmp 4] (hres := (.clo rfl (.cons rfl rfl (.cons rfl rfl .nil)))) (hb := (OutL.clo rfl (cloM fun _ => rfl) (by intro h; exact h.elim id fun h => absurd h.1 (by simp)) trivial))
theorem roffQ_ctr {l : List Fp} {N : Nat} (hx : l.length < 1000000) (hl0 : 0 < l.length) (hN : (l.getD 0 0).val % 18446744073709551616 = N) (hNl : N < 18446744073709551616) (hi : itC (bgn N).k (bgn N).t (bgn N).c = 0) (hcn : N / 65536 ≤ 1048576) (hL : (lng (bgn N)) < 200000000) (hv : (l.getD 0 0).val < 18446744073709551616) (hd : (lng (bgn N)) ≤ 32 * l.length) (hq : l.length < 1 + (np (bgn N).t (lng (bgn N)))) : GC Tryz.prog 21 [.slice (some ⟨0, 0, none⟩) l.length 0] [⟨l.map (dv), false, 1⟩] [opV op0, vi .i64 0, vi .i64 2] [⟨l.map (dv), false, 1⟩] := by
  have hnpl : (np (bgn N).t (lng (bgn N))) ≤ (lng (bgn N)) := np_le
  refine gi Tryz.func21 ?_
  refine zS ?_
  refine yN 3000 1 _ ?_
  refine yA ?_
  refine yA ?_
  refine zN (zQ (zS ?_))
  refine yM ?_
  refine yP pL ?_
  refine yP ((PureOp.eqN (b := 0) rfl rfl).mono (v' := .bool false) (congrArg Value.bool (beq_eq_false_iff_ne.2 (by omega)))) ?_
  refine zN (zF (zK (zT (zS ?_))))
  refine yM ?_
  refine yP (PureOp.idx1 tbok (j := 0) rfl rfl rfl rfl hl0) ?_
  refine AWo.loadX tbok 98000 rfl rfl rfl (mapD hl0) rfl rfl rfl ?_
  refine yC (wordsD_ctr (x := (l.getD 0 0).val) (n := 1) (by decide)) bd46 [(98000, 0)] [20000] ?_
  refine yP (PureOp.idx1 tbok (j := 0) rfl rfl rfl rfl (by decide)) ?_
  refine AWo.loadM tbok 0 rfl rfl rfl (by rw [digs_len]; decide) rfl rfl ?_
  rw [dig1 hN]
  refine yC (v := .tuple #[.agg #[vi .i64 (N % 256), vi .i64 (N / 256 % 256), vi .i64 (N / 65536), .slice none 0 0], .bool true]) (rbegun_ctr (n := N) hNl) bd39 [] [] ?_ (hv := (by rw [decide_eq_true hi]; rfl))
  refine yM ?_
  refine yP pX ?_
  refine yP pX ?_
  refine yN 6000 1 _ ?_
  refine AWo.storeAllN (vs := [vi .i64 (N % 256), vi .i64 (N / 256 % 256), vi .i64 (N / 65536), .slice none 0 0]) tbok rfl rfl rfl rfl rfl rfl rfl rfl ?_
  refine yA ?_
  refine zN (zQ (zS ?_))
  refine yM ?_
  refine yP (PureOp.not rfl) ?_
  refine yM ?_
  refine yM ?_
  refine yP (PureOp.idx1 tbok (j := 0) rfl rfl rfl rfl hl0) ?_
  refine AWo.loadM tbok (f := dv) 0 rfl rfl rfl hl0 rfl rfl ?_
  refine yP pD ?_
  refine yP ((PureOp.gtN (b := 2) rfl rfl).mono (v' := .bool false) (congrArg Value.bool (decide_eq_false (fun h => Nat.not_le.2 hv (len2.1 h))))) ?_
  refine yP pE ?_
  refine zN (zF (zK (zT (zQ (zS ?_)))))
  refine yLA ?_
  refine yC (v := vi .i64 (lng (bgn N))) (rlongN_ctr (k := (bgn N).k) (t := (bgn N).t) (cn := N / 65536) hcn) bd40 [] [] ?_
  refine yM ?_
  refine yP pL ?_
  refine yP (PureOp.mulI (a := 32) (b := l.length) rfl rfl (by omega)) ?_
  refine yP ((PureOp.gtN rfl rfl).mono (v' := .bool false) (congrArg Value.bool (by simp; omega))) ?_
  refine zN (zF (zK (zT ?_)))
  refine AW.seqD mixed ?_
  refine yP pF ?_
  refine yL1 ?_
  refine yLA ?_
  refine yC (v := vi .i64 (lng (bgn N))) (rlongN_ctr (k := (bgn N).k) (t := (bgn N).t) (cn := N / 65536) hcn) bd40 [] [] ?_
  refine yC (pieces_ctr (t := (bgn N).t) (L := (lng (bgn N))) (fits_lng hi) hL) bd28 [] [47000] ?_
  refine yA ?_
  refine zD (zQ (zS ?_))
  refine yM ?_
  refine yP pL ?_
  refine yM ?_
  refine yP pL ?_
  refine yP (PureOp.addI (a := 1) (b := (np (bgn N).t (lng (bgn N)))) rfl rfl (by omega)) ?_
  refine yP ((PureOp.ltN rfl rfl).mono (v' := .bool true) (congrArg Value.bool (by simp; omega))) ?_
  refine zN (zC (zS ?_))
  refine yP (PureOp.opNil ((PureOp.buildStruct [] pl24.choose_spec.1 zr24 (by decide) pl24.choose_spec.2 rfl rfl).mono (v' := .agg #[.int .i64 0, .int .i64 0, .int .i64 0, .slice none 0 0]) rfl)) ?_
  refine AWo.storeAllN (vs := [.int .i64 0, .int .i64 0, .int .i64 0, deep 0 1 []]) tbok rfl rfl rfl rfl rfl rfl rfl rfl ?_
  refine yA ?_
  refine yA ?_
  refine zN (zE (zU ?_))
  exact rq [] [.cell 2 24, .tmp 3, .tmp 4] (hres := (.clo rfl (.cons rfl rfl (.cons rfl rfl .nil)))) (hb := (OutL.clo rfl (cloM fun _ => rfl) (by intro h; exact h.elim id fun h => absurd h.1 (by simp)) trivial))
theorem roffE_ctr {l : List Fp} {N : Nat} (hx : l.length < 1000000) (hl0 : 0 < l.length) (hN : (l.getD 0 0).val % 18446744073709551616 = N) (hNl : N < 18446744073709551616) (hi : itC (bgn N).k (bgn N).t (bgn N).c = 0) (hcn : N / 65536 ≤ 1048576) (hL : (lng (bgn N)) < 200000000) (hv : (l.getD 0 0).val < 18446744073709551616) (hd : (lng (bgn N)) ≤ 32 * l.length) (hq : 1 + (np (bgn N).t (lng (bgn N))) ≤ l.length) (hbd : bad (bgn N).t (lng (bgn N)) l (np (bgn N).t (lng (bgn N))) = true) : GC Tryz.prog 21 [.slice (some ⟨0, 0, none⟩) l.length 0] [⟨l.map (dv), false, 1⟩] [opV op0, vi .i64 0, vi .i64 3] [⟨l.map (dv), false, 1⟩] := by
  have hnpl : (np (bgn N).t (lng (bgn N))) ≤ (lng (bgn N)) := np_le
  refine gi Tryz.func21 ?_
  refine zS ?_
  refine yN 3000 1 _ ?_
  refine yA ?_
  refine yA ?_
  refine zN (zQ (zS ?_))
  refine yM ?_
  refine yP pL ?_
  refine yP ((PureOp.eqN (b := 0) rfl rfl).mono (v' := .bool false) (congrArg Value.bool (beq_eq_false_iff_ne.2 (by omega)))) ?_
  refine zN (zF (zK (zT (zS ?_))))
  refine yM ?_
  refine yP (PureOp.idx1 tbok (j := 0) rfl rfl rfl rfl hl0) ?_
  refine AWo.loadX tbok 98000 rfl rfl rfl (mapD hl0) rfl rfl rfl ?_
  refine yC (wordsD_ctr (x := (l.getD 0 0).val) (n := 1) (by decide)) bd46 [(98000, 0)] [20000] ?_
  refine yP (PureOp.idx1 tbok (j := 0) rfl rfl rfl rfl (by decide)) ?_
  refine AWo.loadM tbok 0 rfl rfl rfl (by rw [digs_len]; decide) rfl rfl ?_
  rw [dig1 hN]
  refine yC (v := .tuple #[.agg #[vi .i64 (N % 256), vi .i64 (N / 256 % 256), vi .i64 (N / 65536), .slice none 0 0], .bool true]) (rbegun_ctr (n := N) hNl) bd39 [] [] ?_ (hv := (by rw [decide_eq_true hi]; rfl))
  refine yM ?_
  refine yP pX ?_
  refine yP pX ?_
  refine yN 6000 1 _ ?_
  refine AWo.storeAllN (vs := [vi .i64 (N % 256), vi .i64 (N / 256 % 256), vi .i64 (N / 65536), .slice none 0 0]) tbok rfl rfl rfl rfl rfl rfl rfl rfl ?_
  refine yA ?_
  refine zN (zQ (zS ?_))
  refine yM ?_
  refine yP (PureOp.not rfl) ?_
  refine yM ?_
  refine yM ?_
  refine yP (PureOp.idx1 tbok (j := 0) rfl rfl rfl rfl hl0) ?_
  refine AWo.loadM tbok (f := dv) 0 rfl rfl rfl hl0 rfl rfl ?_
  refine yP pD ?_
  refine yP ((PureOp.gtN (b := 2) rfl rfl).mono (v' := .bool false) (congrArg Value.bool (decide_eq_false (fun h => Nat.not_le.2 hv (len2.1 h))))) ?_
  refine yP pE ?_
  refine zN (zF (zK (zT (zQ (zS ?_)))))
  refine yLA ?_
  refine yC (v := vi .i64 (lng (bgn N))) (rlongN_ctr (k := (bgn N).k) (t := (bgn N).t) (cn := N / 65536) hcn) bd40 [] [] ?_
  refine yM ?_
  refine yP pL ?_
  refine yP (PureOp.mulI (a := 32) (b := l.length) rfl rfl (by omega)) ?_
  refine yP ((PureOp.gtN rfl rfl).mono (v' := .bool false) (congrArg Value.bool (by simp; omega))) ?_
  refine zN (zF (zK (zT ?_)))
  refine AW.seqD mixed ?_
  refine yP pF ?_
  refine yL1 ?_
  refine yLA ?_
  refine yC (v := vi .i64 (lng (bgn N))) (rlongN_ctr (k := (bgn N).k) (t := (bgn N).t) (cn := N / 65536) hcn) bd40 [] [] ?_
  refine yC (pieces_ctr (t := (bgn N).t) (L := (lng (bgn N))) (fits_lng hi) hL) bd28 [] [47000] ?_
  refine yA ?_
  refine zD (zQ (zS ?_))
  refine yM ?_
  refine yP pL ?_
  refine yM ?_
  refine yP pL ?_
  refine yP (PureOp.addI (a := 1) (b := (np (bgn N).t (lng (bgn N)))) rfl rfl (by omega)) ?_
  refine yP ((PureOp.ltN rfl rfl).mono (v' := .bool false) (congrArg Value.bool (by simp; omega))) ?_
  refine zN (zF (zK (zT (zQ (zS ?_)))))
  refine yA ?_
  refine zN (zB ?_)
  refine AW.ghost 77000 1 rfl ?_
  refine AW.loopw (fun mm σ => ∃ i, (i ≤ (np (bgn N).t (lng (bgn N))) ∧ bad (bgn N).t (lng (bgn N)) l i = false) ∧ mm = (np (bgn N).t (lng (bgn N))) - i ∧ σ = ⟨(upd (upd (upd (upd (upd emp 0 (.slice (some ⟨0, 0, none⟩) l.length 0)) 2 (.pointer (some ⟨3000, 0, none⟩))) 5 (.pointer (some ⟨6000, 0, none⟩))) 7 (.slice (some ⟨47000, 0, none⟩) (np (bgn N).t (lng (bgn N))) 0)) 8 (vi .i64 i)), (upd (upd (upd (upd (upd emp 0 ⟨l.map dv, false, 1⟩) 3000 ⟨[.int .i64 0, .int .i64 0, .int .i64 0, .slice none 0 0], true, 1⟩) 6000 ⟨[vi .i64 (N % 256), vi .i64 (N / 256 % 256), vi .i64 (N / 65536), .slice (some ⟨77000, 0, none⟩) (rdD (bgn N).t (lng (bgn N)) l i).length 0], true, 1⟩) 77000 ⟨(rdD (bgn N).t (lng (bgn N)) l i).map (vi .u8), true, 1⟩) 47000 ⟨((List.range (np (bgn N).t (lng (bgn N)))).map (plen (bgn N).t (lng (bgn N)))).map (vi .i64), true, 1⟩)⟩) (fm := []) ?_ ⟨0, ⟨Nat.zero_le _, rfl⟩, rfl, rfl⟩ ?_
  ·
    refine Wk.of [0, 3000, 6000, 77000, 47000] ?_ ?_ ?_ (by decide) rfl
    ·
      refine WkE.upd rfl (by exact VR.flat _ rfl) ?_
      refine WkE.upd rfl (.slice (47000) 0 _ 0 ⟨_, rfl⟩ (by simp) (by simp)) ?_
      refine WkE.upd rfl (.ptr (6000) 0 ⟨_, rfl⟩) ?_
      refine WkE.upd rfl (.ptr (3000) 0 ⟨_, rfl⟩) ?_
      refine WkE.upd rfl (.slice (0) 0 _ 0 ⟨_, rfl⟩ (by simp) (by simp)) ?_
      exact WkE.emp
    ·
      refine WkM.flat rfl (flatM flat_vi) (fun h => h) ?_
      refine WkM.flat rfl (flatM flat_vi) (fun h => h) ?_
      refine WkM.nil3 rfl (fun h => h) ?_
      refine WkM.flat rfl (by simp [flatV]) (fun h => h) ?_
      refine WkM.cloM rfl rfl (fun _ => rfl) (fun h => h) ?_
      exact WkM.emp
    ·
      repeat (refine dom_upd_mem (by decide) ?_)
      exact dom_emp
  ·
    rintro mm σ ⟨i, ⟨hik, hbi⟩, rfl, rfl⟩
    refine zQ (zS ?_)
    refine yM ?_
    refine yM ?_
    refine yP pL ?_
    refine yP pLt ?_
    refine zN ?_
    refine zA (fun hb0 => ?_) (fun hb0 => ?_)
    ·
      have hi : i < (np (bgn N).t (lng (bgn N))) := by simpa using hb0
      have hi1 : 1 + i < l.length := by omega
      have hp : (plen (bgn N).t (lng (bgn N)) i) ≤ 32 := Nat.le_trans (Nat.min_le_left _ _) (wd_le _ _)
      have hrd := rdD_le (bgn N).t (lng (bgn N)) l i
      refine zK (zT (zQ (zB (zS ?_))))
      refine yM ?_
      refine yM ?_
      refine yP (pAdd (a := 1) (b := i)) ?_
      refine yP (PureOp.idx1 tbok (j := 1 + i) rfl rfl rfl rfl hi1) ?_
      refine AWo.loadX tbok 99000 rfl rfl rfl (mapD hi1) rfl rfl rfl ?_
      refine yC (bytes02_ctr (x := (l.getD (1 + i) 0).val) (Nat.lt_of_lt_of_le (l.getD (1 + i) 0).isLt (by decide))) bd47 [(99000, 0)] [66000] ?_
      refine yA ?_
      refine zN (zQ (zS ?_))
      refine yM ?_
      refine yM ?_
      refine yP (PureOp.idx1 tbok (j := i) rfl rfl rfl rfl hi) ?_
      refine AWo.loadM tbok 0 rfl rfl rfl (by rw [List.length_map, List.length_range]; exact hi) rfl rfl ?_
      rw [pl_getD hi]
      refine yA ?_
      refine zN (zB ?_)
      refine AW.loopw (fun mm σ => ∃ k, ((plen (bgn N).t (lng (bgn N)) i) ≤ k ∧ k ≤ 32 ∧ (l.getD (1 + i) 0).val % 256 ^ k < 256 ^ (plen (bgn N).t (lng (bgn N)) i)) ∧ mm = 32 - k ∧ σ = ⟨(upd (upd (upd (upd (upd (upd (upd emp 0 (.slice (some ⟨0, 0, none⟩) l.length 0)) 2 (.pointer (some ⟨3000, 0, none⟩))) 5 (.pointer (some ⟨6000, 0, none⟩))) 7 (.slice (some ⟨47000, 0, none⟩) (np (bgn N).t (lng (bgn N))) 0)) 8 (vi .i64 i)) 9 (.slice (some ⟨66000, 0, none⟩) 32 0)) 10 (vi .i64 k)), (upd (upd (upd (upd (upd (upd emp 0 ⟨l.map dv, false, 1⟩) 3000 ⟨[.int .i64 0, .int .i64 0, .int .i64 0, .slice none 0 0], true, 1⟩) 6000 ⟨[vi .i64 (N % 256), vi .i64 (N / 256 % 256), vi .i64 (N / 65536), .slice (some ⟨77000, 0, none⟩) (rdD (bgn N).t (lng (bgn N)) l i).length 0], true, 1⟩) 77000 ⟨(rdD (bgn N).t (lng (bgn N)) l i).map (vi .u8), true, 1⟩) 47000 ⟨((List.range (np (bgn N).t (lng (bgn N)))).map (plen (bgn N).t (lng (bgn N)))).map (vi .i64), true, 1⟩) 66000 ⟨(digs 256 32 (l.getD (1 + i) 0).val).map (vi .u8), true, 1⟩)⟩) (fm := []) (wk [0, 3000, 6000, 77000, 47000, 66000]) ⟨(plen (bgn N).t (lng (bgn N)) i), ⟨Nat.le_refl _, hp, Nat.mod_lt _ (Nat.pow_pos (by decide))⟩, rfl, rfl⟩ ?_
      rintro mm σ ⟨k, ⟨hpk, hk32, hkz⟩, rfl, rfl⟩
      refine zQ (zS ?_)
      refine yM ?_
      refine yP (pLt (b := 32)) ?_
      refine zN ?_
      refine zA (fun hb1 => ?_) (fun hb1 => ?_)
      ·
        have hk : k < 32 := by simpa using hb1
        refine zK (zT (zQ (zB (zS ?_))))
        refine yM ?_
        refine yM ?_
        refine yP (PureOp.idx1 tbok (j := k) rfl rfl rfl rfl hk) ?_
        refine AWo.loadM tbok 0 rfl rfl rfl (by rw [digs_len]; exact hk) rfl rfl ?_
        refine yP (pNe (b := 0)) ?_
        refine zN ?_
        refine zA (fun hb2 => ?_) (fun hb2 => ?_)
        ·
          have hz : 256 ^ (plen (bgn N).t (lng (bgn N)) i) ≤ (l.getD (1 + i) 0).val := digit_le hpk hk (by simpa using hb2)
          refine zS ?_
          refine yP (PureOp.opNil ((PureOp.buildStruct [] pl24.choose_spec.1 zr24 (by decide) pl24.choose_spec.2 rfl rfl).mono (v' := .agg #[.int .i64 0, .int .i64 0, .int .i64 0, .slice none 0 0]) rfl)) ?_
          refine AWo.storeAllN (vs := [.int .i64 0, .int .i64 0, .int .i64 0, deep 0 1 []]) tbok rfl rfl rfl rfl rfl rfl rfl rfl ?_
          refine yA ?_
          refine yA ?_
          refine zN (zE (zI (zU (zU (zI (zU (zI (zU (zU (zI (zU ?_)))))))))))
          exact rq [] [.cell 2 24, .tmp 3, .tmp 4] (hres := (.clo rfl (.cons rfl rfl (.cons rfl rfl .nil)))) (hb := (OutL.clo rfl (cloM fun _ => rfl) (by intro h; exact h.elim id fun h => absurd h.1 (by simp)) trivial))
        ·
          have hz0 : (digs 256 32 (l.getD (1 + i) 0).val).getD k 0 = 0 := by simpa using hb2
          rw [digs_getDG _ _ hk] at hz0
          refine zK (zL (zT (zR ?_)))
          refine yM ?_
          refine yP (pAdd (b := 1)) ?_
          refine yA ?_
          refine zN (zT ?_)
          exact ⟨32 - (k + 1), [], _, by omega, wk [0, 3000, 6000, 77000, 47000, 66000], k + 1, ⟨by omega, hk, zero_step hz0 hkz⟩, rfl, rfl⟩
      ·
        obtain rfl : k = 32 := by simp at hb1; omega
        have hz : ¬ 256 ^ (plen (bgn N).t (lng (bgn N)) i) ≤ (l.getD (1 + i) 0).val := Nat.not_le.2 (by rw [Nat.mod_eq_of_lt (val_lt _)] at hkz; exact hkz)
        refine zX (zV (zV (zH (zT ?_))))
        refine AW.draw mixed ?_
        refine yP pF ?_
        refine yL1 ?_
        refine yM ?_
        refine yM ?_
        refine yM ?_
        refine yP (PureOp.idx1 tbok (j := i) rfl rfl rfl rfl hi) ?_
        refine AWo.loadM tbok 0 rfl rfl rfl (by rw [List.length_map, List.length_range]; exact hi) rfl rfl ?_
        rw [pl_getD hi]
        refine AWo.sliceS2 tbok (v := .slice (some ⟨66000, 0, none⟩) (plen (bgn N).t (lng (bgn N)) i) 0) (l := 0) (h := (plen (bgn N).t (lng (bgn N)) i)) (sz := 1) rfl .none (.some rfl) rfl rfl rfl rfl (Nat.zero_le _) hp rfl rfl rfl ?_
        refine AWo.append tbok (all := (rdD (bgn N).t (lng (bgn N)) l (i + 1)).map (vi .u8)) (news := (digs 256 (plen (bgn N).t (lng (bgn N)) i) (l.getD (1 + i) 0).val).map (vi .u8)) 89000 rfl rfl rfl rfl (by simp) (newsP hp) (by show 0 + (plen (bgn N).t (lng (bgn N)) i) * 1 ≤ _; simp [digs_len]; omega) (by decide) rfl rfl rfl (by decide) rfl rfl rfl (by omega) (by omega) (oneM (fun _ => rfl) _) (by rw [rdD_succ, List.map_append]) rfl rfl ?_
        refine yP pF ?_
        refine AWo.store1 tbok rfl rfl rfl rfl rfl (by simp) rfl rfl ?_
        refine zD (zL (zT (zR ?_)))
        refine yM ?_
        refine yP (pAdd (b := 1)) ?_
        refine yA ?_
        refine zN (zT ?_)
        rw [show (rdD (bgn N).t (lng (bgn N)) l i).length + (plen (bgn N).t (lng (bgn N)) i) = (rdD (bgn N).t (lng (bgn N)) l (i + 1)).length by rw [rdD_succ, List.length_append, digs_len]]
        exact ⟨(np (bgn N).t (lng (bgn N))) - (i + 1), [(77000, 89000)], _, by omega, wk [0, 3000, 6000, 77000, 47000], i + 1, ⟨by omega, by rw [bad_succ, hbi, decide_eq_false hz]; rfl⟩, rfl, rfl⟩
    ·
      exact absurd hbi (by rw [show i = (np (bgn N).t (lng (bgn N))) by simp at hb0; omega, hbd]; decide)
theorem roffF_ctr {l : List Fp} {N : Nat} (hx : l.length < 1000000) (hl0 : 0 < l.length) (hN : (l.getD 0 0).val % 18446744073709551616 = N) (hNl : N < 18446744073709551616) (hi : itC (bgn N).k (bgn N).t (bgn N).c = 0) (hcn : N / 65536 ≤ 1048576) (hL : (lng (bgn N)) < 200000000) (hv : (l.getD 0 0).val < 18446744073709551616) (hd : (lng (bgn N)) ≤ 32 * l.length) (hq : 1 + (np (bgn N).t (lng (bgn N))) ≤ l.length) (hbd : bad (bgn N).t (lng (bgn N)) l (np (bgn N).t (lng (bgn N))) = false) (hr : ¬ Rgt ⟨(bgn N).k, (bgn N).t, (bgn N).c, rdD (bgn N).t (lng (bgn N)) l (np (bgn N).t (lng (bgn N)))⟩) : GC Tryz.prog 21 [.slice (some ⟨0, 0, none⟩) l.length 0] [⟨l.map (dv), false, 1⟩] [opV op0, vi .i64 0, vi .i64 3] [⟨l.map (dv), false, 1⟩] := by
  have hnpl : (np (bgn N).t (lng (bgn N))) ≤ (lng (bgn N)) := np_le
  refine gi Tryz.func21 ?_
  refine zS ?_
  refine yN 3000 1 _ ?_
  refine yA ?_
  refine yA ?_
  refine zN (zQ (zS ?_))
  refine yM ?_
  refine yP pL ?_
  refine yP ((PureOp.eqN (b := 0) rfl rfl).mono (v' := .bool false) (congrArg Value.bool (beq_eq_false_iff_ne.2 (by omega)))) ?_
  refine zN (zF (zK (zT (zS ?_))))
  refine yM ?_
  refine yP (PureOp.idx1 tbok (j := 0) rfl rfl rfl rfl hl0) ?_
  refine AWo.loadX tbok 98000 rfl rfl rfl (mapD hl0) rfl rfl rfl ?_
  refine yC (wordsD_ctr (x := (l.getD 0 0).val) (n := 1) (by decide)) bd46 [(98000, 0)] [20000] ?_
  refine yP (PureOp.idx1 tbok (j := 0) rfl rfl rfl rfl (by decide)) ?_
  refine AWo.loadM tbok 0 rfl rfl rfl (by rw [digs_len]; decide) rfl rfl ?_
  rw [dig1 hN]
  refine yC (v := .tuple #[.agg #[vi .i64 (N % 256), vi .i64 (N / 256 % 256), vi .i64 (N / 65536), .slice none 0 0], .bool true]) (rbegun_ctr (n := N) hNl) bd39 [] [] ?_ (hv := (by rw [decide_eq_true hi]; rfl))
  refine yM ?_
  refine yP pX ?_
  refine yP pX ?_
  refine yN 6000 1 _ ?_
  refine AWo.storeAllN (vs := [vi .i64 (N % 256), vi .i64 (N / 256 % 256), vi .i64 (N / 65536), .slice none 0 0]) tbok rfl rfl rfl rfl rfl rfl rfl rfl ?_
  refine yA ?_
  refine zN (zQ (zS ?_))
  refine yM ?_
  refine yP (PureOp.not rfl) ?_
  refine yM ?_
  refine yM ?_
  refine yP (PureOp.idx1 tbok (j := 0) rfl rfl rfl rfl hl0) ?_
  refine AWo.loadM tbok (f := dv) 0 rfl rfl rfl hl0 rfl rfl ?_
  refine yP pD ?_
  refine yP ((PureOp.gtN (b := 2) rfl rfl).mono (v' := .bool false) (congrArg Value.bool (decide_eq_false (fun h => Nat.not_le.2 hv (len2.1 h))))) ?_
  refine yP pE ?_
  refine zN (zF (zK (zT (zQ (zS ?_)))))
  refine yLA ?_
  refine yC (v := vi .i64 (lng (bgn N))) (rlongN_ctr (k := (bgn N).k) (t := (bgn N).t) (cn := N / 65536) hcn) bd40 [] [] ?_
  refine yM ?_
  refine yP pL ?_
  refine yP (PureOp.mulI (a := 32) (b := l.length) rfl rfl (by omega)) ?_
  refine yP ((PureOp.gtN rfl rfl).mono (v' := .bool false) (congrArg Value.bool (by simp; omega))) ?_
  refine zN (zF (zK (zT ?_)))
  refine AW.seqD mixed ?_
  refine yP pF ?_
  refine yL1 ?_
  refine yLA ?_
  refine yC (v := vi .i64 (lng (bgn N))) (rlongN_ctr (k := (bgn N).k) (t := (bgn N).t) (cn := N / 65536) hcn) bd40 [] [] ?_
  refine yC (pieces_ctr (t := (bgn N).t) (L := (lng (bgn N))) (fits_lng hi) hL) bd28 [] [47000] ?_
  refine yA ?_
  refine zD (zQ (zS ?_))
  refine yM ?_
  refine yP pL ?_
  refine yM ?_
  refine yP pL ?_
  refine yP (PureOp.addI (a := 1) (b := (np (bgn N).t (lng (bgn N)))) rfl rfl (by omega)) ?_
  refine yP ((PureOp.ltN rfl rfl).mono (v' := .bool false) (congrArg Value.bool (by simp; omega))) ?_
  refine zN (zF (zK (zT (zQ (zS ?_)))))
  refine yA ?_
  refine zN (zB ?_)
  refine AW.ghost 77000 1 rfl ?_
  refine AW.loopw (fun mm σ => ∃ i, (i ≤ (np (bgn N).t (lng (bgn N))) ∧ bad (bgn N).t (lng (bgn N)) l i = false) ∧ mm = (np (bgn N).t (lng (bgn N))) - i ∧ σ = ⟨(upd (upd (upd (upd (upd emp 0 (.slice (some ⟨0, 0, none⟩) l.length 0)) 2 (.pointer (some ⟨3000, 0, none⟩))) 5 (.pointer (some ⟨6000, 0, none⟩))) 7 (.slice (some ⟨47000, 0, none⟩) (np (bgn N).t (lng (bgn N))) 0)) 8 (vi .i64 i)), (upd (upd (upd (upd (upd emp 0 ⟨l.map dv, false, 1⟩) 3000 ⟨[.int .i64 0, .int .i64 0, .int .i64 0, .slice none 0 0], true, 1⟩) 6000 ⟨[vi .i64 (N % 256), vi .i64 (N / 256 % 256), vi .i64 (N / 65536), .slice (some ⟨77000, 0, none⟩) (rdD (bgn N).t (lng (bgn N)) l i).length 0], true, 1⟩) 77000 ⟨(rdD (bgn N).t (lng (bgn N)) l i).map (vi .u8), true, 1⟩) 47000 ⟨((List.range (np (bgn N).t (lng (bgn N)))).map (plen (bgn N).t (lng (bgn N)))).map (vi .i64), true, 1⟩)⟩) (fm := []) ?_ ⟨0, ⟨Nat.zero_le _, rfl⟩, rfl, rfl⟩ ?_
  ·
    refine Wk.of [0, 3000, 6000, 77000, 47000] ?_ ?_ ?_ (by decide) rfl
    ·
      refine WkE.upd rfl (by exact VR.flat _ rfl) ?_
      refine WkE.upd rfl (.slice (47000) 0 _ 0 ⟨_, rfl⟩ (by simp) (by simp)) ?_
      refine WkE.upd rfl (.ptr (6000) 0 ⟨_, rfl⟩) ?_
      refine WkE.upd rfl (.ptr (3000) 0 ⟨_, rfl⟩) ?_
      refine WkE.upd rfl (.slice (0) 0 _ 0 ⟨_, rfl⟩ (by simp) (by simp)) ?_
      exact WkE.emp
    ·
      refine WkM.flat rfl (flatM flat_vi) (fun h => h) ?_
      refine WkM.flat rfl (flatM flat_vi) (fun h => h) ?_
      refine WkM.nil3 rfl (fun h => h) ?_
      refine WkM.flat rfl (by simp [flatV]) (fun h => h) ?_
      refine WkM.cloM rfl rfl (fun _ => rfl) (fun h => h) ?_
      exact WkM.emp
    ·
      repeat (refine dom_upd_mem (by decide) ?_)
      exact dom_emp
  ·
    rintro mm σ ⟨i, ⟨hik, hbi⟩, rfl, rfl⟩
    refine zQ (zS ?_)
    refine yM ?_
    refine yM ?_
    refine yP pL ?_
    refine yP pLt ?_
    refine zN ?_
    refine zA (fun hb0 => ?_) (fun hb0 => ?_)
    ·
      have hi : i < (np (bgn N).t (lng (bgn N))) := by simpa using hb0
      have hi1 : 1 + i < l.length := by omega
      have hp : (plen (bgn N).t (lng (bgn N)) i) ≤ 32 := Nat.le_trans (Nat.min_le_left _ _) (wd_le _ _)
      have hrd := rdD_le (bgn N).t (lng (bgn N)) l i
      refine zK (zT (zQ (zB (zS ?_))))
      refine yM ?_
      refine yM ?_
      refine yP (pAdd (a := 1) (b := i)) ?_
      refine yP (PureOp.idx1 tbok (j := 1 + i) rfl rfl rfl rfl hi1) ?_
      refine AWo.loadX tbok 99000 rfl rfl rfl (mapD hi1) rfl rfl rfl ?_
      refine yC (bytes02_ctr (x := (l.getD (1 + i) 0).val) (Nat.lt_of_lt_of_le (l.getD (1 + i) 0).isLt (by decide))) bd47 [(99000, 0)] [66000] ?_
      refine yA ?_
      refine zN (zQ (zS ?_))
      refine yM ?_
      refine yM ?_
      refine yP (PureOp.idx1 tbok (j := i) rfl rfl rfl rfl hi) ?_
      refine AWo.loadM tbok 0 rfl rfl rfl (by rw [List.length_map, List.length_range]; exact hi) rfl rfl ?_
      rw [pl_getD hi]
      refine yA ?_
      refine zN (zB ?_)
      refine AW.loopw (fun mm σ => ∃ k, ((plen (bgn N).t (lng (bgn N)) i) ≤ k ∧ k ≤ 32 ∧ (l.getD (1 + i) 0).val % 256 ^ k < 256 ^ (plen (bgn N).t (lng (bgn N)) i)) ∧ mm = 32 - k ∧ σ = ⟨(upd (upd (upd (upd (upd (upd (upd emp 0 (.slice (some ⟨0, 0, none⟩) l.length 0)) 2 (.pointer (some ⟨3000, 0, none⟩))) 5 (.pointer (some ⟨6000, 0, none⟩))) 7 (.slice (some ⟨47000, 0, none⟩) (np (bgn N).t (lng (bgn N))) 0)) 8 (vi .i64 i)) 9 (.slice (some ⟨66000, 0, none⟩) 32 0)) 10 (vi .i64 k)), (upd (upd (upd (upd (upd (upd emp 0 ⟨l.map dv, false, 1⟩) 3000 ⟨[.int .i64 0, .int .i64 0, .int .i64 0, .slice none 0 0], true, 1⟩) 6000 ⟨[vi .i64 (N % 256), vi .i64 (N / 256 % 256), vi .i64 (N / 65536), .slice (some ⟨77000, 0, none⟩) (rdD (bgn N).t (lng (bgn N)) l i).length 0], true, 1⟩) 77000 ⟨(rdD (bgn N).t (lng (bgn N)) l i).map (vi .u8), true, 1⟩) 47000 ⟨((List.range (np (bgn N).t (lng (bgn N)))).map (plen (bgn N).t (lng (bgn N)))).map (vi .i64), true, 1⟩) 66000 ⟨(digs 256 32 (l.getD (1 + i) 0).val).map (vi .u8), true, 1⟩)⟩) (fm := []) (wk [0, 3000, 6000, 77000, 47000, 66000]) ⟨(plen (bgn N).t (lng (bgn N)) i), ⟨Nat.le_refl _, hp, Nat.mod_lt _ (Nat.pow_pos (by decide))⟩, rfl, rfl⟩ ?_
      rintro mm σ ⟨k, ⟨hpk, hk32, hkz⟩, rfl, rfl⟩
      refine zQ (zS ?_)
      refine yM ?_
      refine yP (pLt (b := 32)) ?_
      refine zN ?_
      refine zA (fun hb1 => ?_) (fun hb1 => ?_)
      ·
        have hk : k < 32 := by simpa using hb1
        refine zK (zT (zQ (zB (zS ?_))))
        refine yM ?_
        refine yM ?_
        refine yP (PureOp.idx1 tbok (j := k) rfl rfl rfl rfl hk) ?_
        refine AWo.loadM tbok 0 rfl rfl rfl (by rw [digs_len]; exact hk) rfl rfl ?_
        refine yP (pNe (b := 0)) ?_
        refine zN ?_
        refine zA (fun hb2 => ?_) (fun hb2 => ?_)
        ·
          exact absurd (bad_mono (by rw [bad_succ, hbi, decide_eq_true (digit_le hpk hk (by simpa using hb2))]; rfl) (show i + 1 ≤ (np (bgn N).t (lng (bgn N))) from hi)) (by rw [hbd]; decide)
        ·
          have hz0 : (digs 256 32 (l.getD (1 + i) 0).val).getD k 0 = 0 := by simpa using hb2
          rw [digs_getDG _ _ hk] at hz0
          refine zK (zL (zT (zR ?_)))
          refine yM ?_
          refine yP (pAdd (b := 1)) ?_
          refine yA ?_
          refine zN (zT ?_)
          exact ⟨32 - (k + 1), [], _, by omega, wk [0, 3000, 6000, 77000, 47000, 66000], k + 1, ⟨by omega, hk, zero_step hz0 hkz⟩, rfl, rfl⟩
      ·
        obtain rfl : k = 32 := by simp at hb1; omega
        have hz : ¬ 256 ^ (plen (bgn N).t (lng (bgn N)) i) ≤ (l.getD (1 + i) 0).val := Nat.not_le.2 (by rw [Nat.mod_eq_of_lt (val_lt _)] at hkz; exact hkz)
        refine zX (zV (zV (zH (zT ?_))))
        refine AW.draw mixed ?_
        refine yP pF ?_
        refine yL1 ?_
        refine yM ?_
        refine yM ?_
        refine yM ?_
        refine yP (PureOp.idx1 tbok (j := i) rfl rfl rfl rfl hi) ?_
        refine AWo.loadM tbok 0 rfl rfl rfl (by rw [List.length_map, List.length_range]; exact hi) rfl rfl ?_
        rw [pl_getD hi]
        refine AWo.sliceS2 tbok (v := .slice (some ⟨66000, 0, none⟩) (plen (bgn N).t (lng (bgn N)) i) 0) (l := 0) (h := (plen (bgn N).t (lng (bgn N)) i)) (sz := 1) rfl .none (.some rfl) rfl rfl rfl rfl (Nat.zero_le _) hp rfl rfl rfl ?_
        refine AWo.append tbok (all := (rdD (bgn N).t (lng (bgn N)) l (i + 1)).map (vi .u8)) (news := (digs 256 (plen (bgn N).t (lng (bgn N)) i) (l.getD (1 + i) 0).val).map (vi .u8)) 89000 rfl rfl rfl rfl (by simp) (newsP hp) (by show 0 + (plen (bgn N).t (lng (bgn N)) i) * 1 ≤ _; simp [digs_len]; omega) (by decide) rfl rfl rfl (by decide) rfl rfl rfl (by omega) (by omega) (oneM (fun _ => rfl) _) (by rw [rdD_succ, List.map_append]) rfl rfl ?_
        refine yP pF ?_
        refine AWo.store1 tbok rfl rfl rfl rfl rfl (by simp) rfl rfl ?_
        refine zD (zL (zT (zR ?_)))
        refine yM ?_
        refine yP (pAdd (b := 1)) ?_
        refine yA ?_
        refine zN (zT ?_)
        rw [show (rdD (bgn N).t (lng (bgn N)) l i).length + (plen (bgn N).t (lng (bgn N)) i) = (rdD (bgn N).t (lng (bgn N)) l (i + 1)).length by rw [rdD_succ, List.length_append, digs_len]]
        exact ⟨(np (bgn N).t (lng (bgn N))) - (i + 1), [(77000, 89000)], _, by omega, wk [0, 3000, 6000, 77000, 47000], i + 1, ⟨by omega, by rw [bad_succ, hbi, decide_eq_false hz]; rfl⟩, rfl, rfl⟩
    ·
      obtain rfl : i = (np (bgn N).t (lng (bgn N))) := by simp at hb0; omega
      refine zX (zV (zV (zH (zT (zQ ?_)))))
      refine AW.freezeC 6000 77000 3 ((rdD (bgn N).t (lng (bgn N)) l (np (bgn N).t (lng (bgn N)))).map (vi .u8)) [vi .i64 (N % 256), vi .i64 (N / 256 % 256), vi .i64 (N / 65536), db (rdD (bgn N).t (lng (bgn N)) l (np (bgn N).t (lng (bgn N))))] rfl rfl rfl rfl (by decide) (cloM fun _ => rfl) (by simp) (by rw [List.drop_zero]; exact List.take_of_length_le (by simp)) ?_
      refine zS ?_
      refine yLA ?_
      refine AWo.callX (v := .bool false) (right15_ctr (x := ⟨(bgn N).k, (bgn N).t, (bgn N).c, rdD (bgn N).t (lng (bgn N)) l (np (bgn N).t (lng (bgn N)))⟩) (rdD_bd _ _ _ _) (by show List.length (rdD (bgn N).t (lng (bgn N)) l (np (bgn N).t (lng (bgn N)))) < _; have := rdD_le (bgn N).t (lng (bgn N)) l (np (bgn N).t (lng (bgn N))); omega)) bd12 [] [] rfl (.cons rfl .nil) rfl (.clo rfl .nil) .nil rfl .nil frN (by decide) (.cons rfl rfl .nil) (congrArg Value.bool (decide_eq_false hr)) rfl rfl rfl ?_
      refine yP (PureOp.not rfl) ?_
      refine zN (zC (zS ?_))
      refine yP (PureOp.opNil ((PureOp.buildStruct [] pl24.choose_spec.1 zr24 (by decide) pl24.choose_spec.2 rfl rfl).mono (v' := .agg #[.int .i64 0, .int .i64 0, .int .i64 0, .slice none 0 0]) rfl)) ?_
      refine AWo.storeAllN (vs := [.int .i64 0, .int .i64 0, .int .i64 0, deep 0 1 []]) tbok rfl rfl rfl rfl rfl rfl rfl rfl ?_
      refine yA ?_
      refine yA ?_
      refine zN (zE (zU ?_))
      exact rq [] [.cell 2 24, .tmp 3, .tmp 4] (hres := (.clo rfl (.cons rfl rfl (.cons rfl rfl .nil)))) (hb := (OutL.clo rfl (cloM fun _ => rfl) (by intro h; exact h.elim id fun h => absurd h.1 (by simp)) trivial))
theorem roffG_ctr {l : List Fp} {N : Nat} (hx : l.length < 1000000) (hl0 : 0 < l.length) (hN : (l.getD 0 0).val % 18446744073709551616 = N) (hNl : N < 18446744073709551616) (hi : itC (bgn N).k (bgn N).t (bgn N).c = 0) (hcn : N / 65536 ≤ 1048576) (hL : (lng (bgn N)) < 200000000) (hv : (l.getD 0 0).val < 18446744073709551616) (hd : (lng (bgn N)) ≤ 32 * l.length) (hq : 1 + (np (bgn N).t (lng (bgn N))) ≤ l.length) (hbd : bad (bgn N).t (lng (bgn N)) l (np (bgn N).t (lng (bgn N))) = false) (hr : Rgt ⟨(bgn N).k, (bgn N).t, (bgn N).c, rdD (bgn N).t (lng (bgn N)) l (np (bgn N).t (lng (bgn N)))⟩) : GC Tryz.prog 21 [.slice (some ⟨0, 0, none⟩) l.length 0] [⟨l.map (dv), false, 1⟩] [opV (Opn.mk (bgn N).k (bgn N).t (bgn N).c (rdD (bgn N).t (lng (bgn N)) l (np (bgn N).t (lng (bgn N))))), vi .i64 (1 + (np (bgn N).t (lng (bgn N)))), vi .i64 0] [⟨l.map (dv), false, 1⟩] := by
  have hnpl : (np (bgn N).t (lng (bgn N))) ≤ (lng (bgn N)) := np_le
  refine gi Tryz.func21 ?_
  refine zS ?_
  refine yN 3000 1 _ ?_
  refine yA ?_
  refine yA ?_
  refine zN (zQ (zS ?_))
  refine yM ?_
  refine yP pL ?_
  refine yP ((PureOp.eqN (b := 0) rfl rfl).mono (v' := .bool false) (congrArg Value.bool (beq_eq_false_iff_ne.2 (by omega)))) ?_
  refine zN (zF (zK (zT (zS ?_))))
  refine yM ?_
  refine yP (PureOp.idx1 tbok (j := 0) rfl rfl rfl rfl hl0) ?_
  refine AWo.loadX tbok 98000 rfl rfl rfl (mapD hl0) rfl rfl rfl ?_
  refine yC (wordsD_ctr (x := (l.getD 0 0).val) (n := 1) (by decide)) bd46 [(98000, 0)] [20000] ?_
  refine yP (PureOp.idx1 tbok (j := 0) rfl rfl rfl rfl (by decide)) ?_
  refine AWo.loadM tbok 0 rfl rfl rfl (by rw [digs_len]; decide) rfl rfl ?_
  rw [dig1 hN]
  refine yC (v := .tuple #[.agg #[vi .i64 (N % 256), vi .i64 (N / 256 % 256), vi .i64 (N / 65536), .slice none 0 0], .bool true]) (rbegun_ctr (n := N) hNl) bd39 [] [] ?_ (hv := (by rw [decide_eq_true hi]; rfl))
  refine yM ?_
  refine yP pX ?_
  refine yP pX ?_
  refine yN 6000 1 _ ?_
  refine AWo.storeAllN (vs := [vi .i64 (N % 256), vi .i64 (N / 256 % 256), vi .i64 (N / 65536), .slice none 0 0]) tbok rfl rfl rfl rfl rfl rfl rfl rfl ?_
  refine yA ?_
  refine zN (zQ (zS ?_))
  refine yM ?_
  refine yP (PureOp.not rfl) ?_
  refine yM ?_
  refine yM ?_
  refine yP (PureOp.idx1 tbok (j := 0) rfl rfl rfl rfl hl0) ?_
  refine AWo.loadM tbok (f := dv) 0 rfl rfl rfl hl0 rfl rfl ?_
  refine yP pD ?_
  refine yP ((PureOp.gtN (b := 2) rfl rfl).mono (v' := .bool false) (congrArg Value.bool (decide_eq_false (fun h => Nat.not_le.2 hv (len2.1 h))))) ?_
  refine yP pE ?_
  refine zN (zF (zK (zT (zQ (zS ?_)))))
  refine yLA ?_
  refine yC (v := vi .i64 (lng (bgn N))) (rlongN_ctr (k := (bgn N).k) (t := (bgn N).t) (cn := N / 65536) hcn) bd40 [] [] ?_
  refine yM ?_
  refine yP pL ?_
  refine yP (PureOp.mulI (a := 32) (b := l.length) rfl rfl (by omega)) ?_
  refine yP ((PureOp.gtN rfl rfl).mono (v' := .bool false) (congrArg Value.bool (by simp; omega))) ?_
  refine zN (zF (zK (zT ?_)))
  refine AW.seqD mixed ?_
  refine yP pF ?_
  refine yL1 ?_
  refine yLA ?_
  refine yC (v := vi .i64 (lng (bgn N))) (rlongN_ctr (k := (bgn N).k) (t := (bgn N).t) (cn := N / 65536) hcn) bd40 [] [] ?_
  refine yC (pieces_ctr (t := (bgn N).t) (L := (lng (bgn N))) (fits_lng hi) hL) bd28 [] [47000] ?_
  refine yA ?_
  refine zD (zQ (zS ?_))
  refine yM ?_
  refine yP pL ?_
  refine yM ?_
  refine yP pL ?_
  refine yP (PureOp.addI (a := 1) (b := (np (bgn N).t (lng (bgn N)))) rfl rfl (by omega)) ?_
  refine yP ((PureOp.ltN rfl rfl).mono (v' := .bool false) (congrArg Value.bool (by simp; omega))) ?_
  refine zN (zF (zK (zT (zQ (zS ?_)))))
  refine yA ?_
  refine zN (zB ?_)
  refine AW.ghost 77000 1 rfl ?_
  refine AW.loopw (fun mm σ => ∃ i, (i ≤ (np (bgn N).t (lng (bgn N))) ∧ bad (bgn N).t (lng (bgn N)) l i = false) ∧ mm = (np (bgn N).t (lng (bgn N))) - i ∧ σ = ⟨(upd (upd (upd (upd (upd emp 0 (.slice (some ⟨0, 0, none⟩) l.length 0)) 2 (.pointer (some ⟨3000, 0, none⟩))) 5 (.pointer (some ⟨6000, 0, none⟩))) 7 (.slice (some ⟨47000, 0, none⟩) (np (bgn N).t (lng (bgn N))) 0)) 8 (vi .i64 i)), (upd (upd (upd (upd (upd emp 0 ⟨l.map dv, false, 1⟩) 3000 ⟨[.int .i64 0, .int .i64 0, .int .i64 0, .slice none 0 0], true, 1⟩) 6000 ⟨[vi .i64 (N % 256), vi .i64 (N / 256 % 256), vi .i64 (N / 65536), .slice (some ⟨77000, 0, none⟩) (rdD (bgn N).t (lng (bgn N)) l i).length 0], true, 1⟩) 77000 ⟨(rdD (bgn N).t (lng (bgn N)) l i).map (vi .u8), true, 1⟩) 47000 ⟨((List.range (np (bgn N).t (lng (bgn N)))).map (plen (bgn N).t (lng (bgn N)))).map (vi .i64), true, 1⟩)⟩) (fm := []) ?_ ⟨0, ⟨Nat.zero_le _, rfl⟩, rfl, rfl⟩ ?_
  ·
    refine Wk.of [0, 3000, 6000, 77000, 47000] ?_ ?_ ?_ (by decide) rfl
    ·
      refine WkE.upd rfl (by exact VR.flat _ rfl) ?_
      refine WkE.upd rfl (.slice (47000) 0 _ 0 ⟨_, rfl⟩ (by simp) (by simp)) ?_
      refine WkE.upd rfl (.ptr (6000) 0 ⟨_, rfl⟩) ?_
      refine WkE.upd rfl (.ptr (3000) 0 ⟨_, rfl⟩) ?_
      refine WkE.upd rfl (.slice (0) 0 _ 0 ⟨_, rfl⟩ (by simp) (by simp)) ?_
      exact WkE.emp
    ·
      refine WkM.flat rfl (flatM flat_vi) (fun h => h) ?_
      refine WkM.flat rfl (flatM flat_vi) (fun h => h) ?_
      refine WkM.nil3 rfl (fun h => h) ?_
      refine WkM.flat rfl (by simp [flatV]) (fun h => h) ?_
      refine WkM.cloM rfl rfl (fun _ => rfl) (fun h => h) ?_
      exact WkM.emp
    ·
      repeat (refine dom_upd_mem (by decide) ?_)
      exact dom_emp
  ·
    rintro mm σ ⟨i, ⟨hik, hbi⟩, rfl, rfl⟩
    refine zQ (zS ?_)
    refine yM ?_
    refine yM ?_
    refine yP pL ?_
    refine yP pLt ?_
    refine zN ?_
    refine zA (fun hb0 => ?_) (fun hb0 => ?_)
    ·
      have hi : i < (np (bgn N).t (lng (bgn N))) := by simpa using hb0
      have hi1 : 1 + i < l.length := by omega
      have hp : (plen (bgn N).t (lng (bgn N)) i) ≤ 32 := Nat.le_trans (Nat.min_le_left _ _) (wd_le _ _)
      have hrd := rdD_le (bgn N).t (lng (bgn N)) l i
      refine zK (zT (zQ (zB (zS ?_))))
      refine yM ?_
      refine yM ?_
      refine yP (pAdd (a := 1) (b := i)) ?_
      refine yP (PureOp.idx1 tbok (j := 1 + i) rfl rfl rfl rfl hi1) ?_
      refine AWo.loadX tbok 99000 rfl rfl rfl (mapD hi1) rfl rfl rfl ?_
      refine yC (bytes02_ctr (x := (l.getD (1 + i) 0).val) (Nat.lt_of_lt_of_le (l.getD (1 + i) 0).isLt (by decide))) bd47 [(99000, 0)] [66000] ?_
      refine yA ?_
      refine zN (zQ (zS ?_))
      refine yM ?_
      refine yM ?_
      refine yP (PureOp.idx1 tbok (j := i) rfl rfl rfl rfl hi) ?_
      refine AWo.loadM tbok 0 rfl rfl rfl (by rw [List.length_map, List.length_range]; exact hi) rfl rfl ?_
      rw [pl_getD hi]
      refine yA ?_
      refine zN (zB ?_)
      refine AW.loopw (fun mm σ => ∃ k, ((plen (bgn N).t (lng (bgn N)) i) ≤ k ∧ k ≤ 32 ∧ (l.getD (1 + i) 0).val % 256 ^ k < 256 ^ (plen (bgn N).t (lng (bgn N)) i)) ∧ mm = 32 - k ∧ σ = ⟨(upd (upd (upd (upd (upd (upd (upd emp 0 (.slice (some ⟨0, 0, none⟩) l.length 0)) 2 (.pointer (some ⟨3000, 0, none⟩))) 5 (.pointer (some ⟨6000, 0, none⟩))) 7 (.slice (some ⟨47000, 0, none⟩) (np (bgn N).t (lng (bgn N))) 0)) 8 (vi .i64 i)) 9 (.slice (some ⟨66000, 0, none⟩) 32 0)) 10 (vi .i64 k)), (upd (upd (upd (upd (upd (upd emp 0 ⟨l.map dv, false, 1⟩) 3000 ⟨[.int .i64 0, .int .i64 0, .int .i64 0, .slice none 0 0], true, 1⟩) 6000 ⟨[vi .i64 (N % 256), vi .i64 (N / 256 % 256), vi .i64 (N / 65536), .slice (some ⟨77000, 0, none⟩) (rdD (bgn N).t (lng (bgn N)) l i).length 0], true, 1⟩) 77000 ⟨(rdD (bgn N).t (lng (bgn N)) l i).map (vi .u8), true, 1⟩) 47000 ⟨((List.range (np (bgn N).t (lng (bgn N)))).map (plen (bgn N).t (lng (bgn N)))).map (vi .i64), true, 1⟩) 66000 ⟨(digs 256 32 (l.getD (1 + i) 0).val).map (vi .u8), true, 1⟩)⟩) (fm := []) (wk [0, 3000, 6000, 77000, 47000, 66000]) ⟨(plen (bgn N).t (lng (bgn N)) i), ⟨Nat.le_refl _, hp, Nat.mod_lt _ (Nat.pow_pos (by decide))⟩, rfl, rfl⟩ ?_
      rintro mm σ ⟨k, ⟨hpk, hk32, hkz⟩, rfl, rfl⟩
      refine zQ (zS ?_)
      refine yM ?_
      refine yP (pLt (b := 32)) ?_
      refine zN ?_
      refine zA (fun hb1 => ?_) (fun hb1 => ?_)
      ·
        have hk : k < 32 := by simpa using hb1
        refine zK (zT (zQ (zB (zS ?_))))
        refine yM ?_
        refine yM ?_
        refine yP (PureOp.idx1 tbok (j := k) rfl rfl rfl rfl hk) ?_
        refine AWo.loadM tbok 0 rfl rfl rfl (by rw [digs_len]; exact hk) rfl rfl ?_
        refine yP (pNe (b := 0)) ?_
        refine zN ?_
        refine zA (fun hb2 => ?_) (fun hb2 => ?_)
        ·
          exact absurd (bad_mono (by rw [bad_succ, hbi, decide_eq_true (digit_le hpk hk (by simpa using hb2))]; rfl) (show i + 1 ≤ (np (bgn N).t (lng (bgn N))) from hi)) (by rw [hbd]; decide)
        ·
          have hz0 : (digs 256 32 (l.getD (1 + i) 0).val).getD k 0 = 0 := by simpa using hb2
          rw [digs_getDG _ _ hk] at hz0
          refine zK (zL (zT (zR ?_)))
          refine yM ?_
          refine yP (pAdd (b := 1)) ?_
          refine yA ?_
          refine zN (zT ?_)
          exact ⟨32 - (k + 1), [], _, by omega, wk [0, 3000, 6000, 77000, 47000, 66000], k + 1, ⟨by omega, hk, zero_step hz0 hkz⟩, rfl, rfl⟩
      ·
        obtain rfl : k = 32 := by simp at hb1; omega
        have hz : ¬ 256 ^ (plen (bgn N).t (lng (bgn N)) i) ≤ (l.getD (1 + i) 0).val := Nat.not_le.2 (by rw [Nat.mod_eq_of_lt (val_lt _)] at hkz; exact hkz)
        refine zX (zV (zV (zH (zT ?_))))
        refine AW.draw mixed ?_
        refine yP pF ?_
        refine yL1 ?_
        refine yM ?_
        refine yM ?_
        refine yM ?_
        refine yP (PureOp.idx1 tbok (j := i) rfl rfl rfl rfl hi) ?_
        refine AWo.loadM tbok 0 rfl rfl rfl (by rw [List.length_map, List.length_range]; exact hi) rfl rfl ?_
        rw [pl_getD hi]
        refine AWo.sliceS2 tbok (v := .slice (some ⟨66000, 0, none⟩) (plen (bgn N).t (lng (bgn N)) i) 0) (l := 0) (h := (plen (bgn N).t (lng (bgn N)) i)) (sz := 1) rfl .none (.some rfl) rfl rfl rfl rfl (Nat.zero_le _) hp rfl rfl rfl ?_
        refine AWo.append tbok (all := (rdD (bgn N).t (lng (bgn N)) l (i + 1)).map (vi .u8)) (news := (digs 256 (plen (bgn N).t (lng (bgn N)) i) (l.getD (1 + i) 0).val).map (vi .u8)) 89000 rfl rfl rfl rfl (by simp) (newsP hp) (by show 0 + (plen (bgn N).t (lng (bgn N)) i) * 1 ≤ _; simp [digs_len]; omega) (by decide) rfl rfl rfl (by decide) rfl rfl rfl (by omega) (by omega) (oneM (fun _ => rfl) _) (by rw [rdD_succ, List.map_append]) rfl rfl ?_
        refine yP pF ?_
        refine AWo.store1 tbok rfl rfl rfl rfl rfl (by simp) rfl rfl ?_
        refine zD (zL (zT (zR ?_)))
        refine yM ?_
        refine yP (pAdd (b := 1)) ?_
        refine yA ?_
        refine zN (zT ?_)
        rw [show (rdD (bgn N).t (lng (bgn N)) l i).length + (plen (bgn N).t (lng (bgn N)) i) = (rdD (bgn N).t (lng (bgn N)) l (i + 1)).length by rw [rdD_succ, List.length_append, digs_len]]
        exact ⟨(np (bgn N).t (lng (bgn N))) - (i + 1), [(77000, 89000)], _, by omega, wk [0, 3000, 6000, 77000, 47000], i + 1, ⟨by omega, by rw [bad_succ, hbi, decide_eq_false hz]; rfl⟩, rfl, rfl⟩
    ·
      obtain rfl : i = (np (bgn N).t (lng (bgn N))) := by simp at hb0; omega
      refine zX (zV (zV (zH (zT (zQ ?_)))))
      refine AW.freezeC 6000 77000 3 ((rdD (bgn N).t (lng (bgn N)) l (np (bgn N).t (lng (bgn N)))).map (vi .u8)) [vi .i64 (N % 256), vi .i64 (N / 256 % 256), vi .i64 (N / 65536), db (rdD (bgn N).t (lng (bgn N)) l (np (bgn N).t (lng (bgn N))))] rfl rfl rfl rfl (by decide) (cloM fun _ => rfl) (by simp) (by rw [List.drop_zero]; exact List.take_of_length_le (by simp)) ?_
      refine zS ?_
      refine yLA ?_
      refine AWo.callX (v := .bool true) (right15_ctr (x := ⟨(bgn N).k, (bgn N).t, (bgn N).c, rdD (bgn N).t (lng (bgn N)) l (np (bgn N).t (lng (bgn N)))⟩) (rdD_bd _ _ _ _) (by show List.length (rdD (bgn N).t (lng (bgn N)) l (np (bgn N).t (lng (bgn N)))) < _; have := rdD_le (bgn N).t (lng (bgn N)) l (np (bgn N).t (lng (bgn N))); omega)) bd12 [] [] rfl (.cons rfl .nil) rfl (.clo rfl .nil) .nil rfl .nil frN (by decide) (.cons rfl rfl .nil) (congrArg Value.bool (decide_eq_true hr)) rfl rfl rfl ?_
      refine yP (PureOp.not rfl) ?_
      refine zN (zF (zK (zT (zS ?_))))
      refine yLA ?_
      refine yM ?_
      refine yP pL ?_
      refine yP (PureOp.addI (a := 1) (b := (np (bgn N).t (lng (bgn N)))) rfl rfl (by omega)) ?_
      refine AWo.storeAllN (vs := [vi .i64 (N % 256), vi .i64 (N / 256 % 256), vi .i64 (N / 65536), db (rdD (bgn N).t (lng (bgn N)) l (np (bgn N).t (lng (bgn N))))]) tbok rfl rfl rfl rfl rfl rfl rfl rfl ?_
      refine yA ?_
      refine yA ?_
      refine zN (zE ?_)
      exact rq [] [.cell 2 24, .tmp 3, .tmp 4] (hres := (.clo rfl (.cons rfl rfl (.cons rfl rfl .nil)))) (hb := (OutL.clo rfl (cloM fun _ => rfl) (by intro h; exact h.elim id fun h => absurd h.1 (by simp)) trivial))
theorem roff_ctr {l : List Fp} (hx : l.length < 1000000) : GC Tryz.prog 21 [.slice (some ⟨0, 0, none⟩) l.length 0] [⟨l.map (dv), false, 1⟩] [opV (ofF l).1, vi .i64 (ofF l).2.1, vi .i64 (ofF l).2.2] [⟨l.map (dv), false, 1⟩] := by
  rcases Nat.eq_zero_or_pos l.length with hl0 | hl0
  · rw [show ofF l = (op0, 0, 2) from if_pos hl0]
    exact roffA_ctr hl0
  obtain ⟨N, hN⟩ : ∃ N, (l.getD 0 0).val % 18446744073709551616 = N := ⟨_, rfl⟩
  have hNl : N < 18446744073709551616 := hN ▸ Nat.mod_lt _ (by decide)
  by_cases hi : itC (bgn N).k (bgn N).t (bgn N).c = 0
  · have hcn : N / 65536 ≤ 1048576 := by
      have := (itC_inv hi).2.2.2.2.2.1
      change ((N / 65536 : Nat) : Int) ≤ 1048576 at this
      omega
    have hL := lng_lt hi
    rcases Nat.lt_or_ge (l.getD 0 0).val 18446744073709551616 with hv | hv
    · have e0 : ofF l = ofF1 l (bgn N) := by
        unfold ofF
        rw [hN, if_neg (by omega), if_neg (by rintro (h | h); exact h hi; exact Nat.not_le.2 hv h)]
      rw [e0]
      rcases Nat.lt_or_ge (32 * l.length) (lng (bgn N)) with hd | hd
      · rw [show ofF1 l (bgn N) = (op0, 0, 2) from if_pos hd]
        exact roffD_ctr hx hl0 hN hNl hi hcn hL hv hd
      rcases Nat.lt_or_ge l.length (1 + (np (bgn N).t (lng (bgn N)))) with hq | hq
      · rw [show ofF1 l (bgn N) = (op0, 0, 2) by unfold ofF1; rw [if_neg (by omega), if_pos hq]]
        exact roffQ_ctr hx hl0 hN hNl hi hcn hL hv hd hq
      cases hbd : bad (bgn N).t (lng (bgn N)) l (np (bgn N).t (lng (bgn N))) with
      | true =>
        rw [show ofF1 l (bgn N) = (op0, 0, 3) by unfold ofF1; rw [if_neg (by omega), if_neg (by omega), if_pos hbd]]
        exact roffE_ctr hx hl0 hN hNl hi hcn hL hv hd hq hbd
      | false =>
        by_cases hr : Rgt ⟨(bgn N).k, (bgn N).t, (bgn N).c, rdD (bgn N).t (lng (bgn N)) l (np (bgn N).t (lng (bgn N)))⟩
        · rw [show ofF1 l (bgn N) = (⟨(bgn N).k, (bgn N).t, (bgn N).c, rdD (bgn N).t (lng (bgn N)) l (np (bgn N).t (lng (bgn N)))⟩, 1 + (np (bgn N).t (lng (bgn N))), 0) by unfold ofF1; rw [if_neg (by omega), if_neg (by omega), if_neg (by rw [hbd]; decide), if_pos hr]]
          exact roffG_ctr hx hl0 hN hNl hi hcn hL hv hd hq hbd hr
        · rw [show ofF1 l (bgn N) = (op0, 0, 3) by unfold ofF1; rw [if_neg (by omega), if_neg (by omega), if_neg (by rw [hbd]; decide), if_neg hr]]
          exact roffF_ctr hx hl0 hN hNl hi hcn hL hv hd hq hbd hr
    · rw [show ofF l = (op0, 0, 3) by unfold ofF; rw [hN, if_neg (by omega), if_pos (.inr hv)]]
      exact roffB_ctr hx hl0 hN hNl hi hcn hL hv
  · rw [show ofF l = (op0, 0, 3) by unfold ofF; rw [hN, if_neg (by omega), if_pos (.inl hi)]]
    exact roffC_ctr hx hl0 hN hNl hi
end Go.Proofs.YtpahdiljpnfkdaaGreat
namespace Go.Proofs.YtpahdiljpnfkdaaGreat
open Go Sim
theorem cloX (x : Opn) : ∀ v ∈ [.int .i64 x.k, .int .i64 x.t, .int .i64 x.c, db x.d], cloV v = true := fun v hv => by
 simp only [List.mem_cons, List.not_mem_nil, or_false] at hv
 rcases hv with rfl | rfl | rfl | rfl <;> rfl
end Go.Proofs.YtpahdiljpnfkdaaGreat
namespace Go.Proofs.YtpahdiljpnfkdaaGreat
open Go Sim
def gL (Ls : List (List Nat)) (i : Nat) : Fp := fp (num 256 (Ls.getD i []))
theorem offN_ctr {l : List Fp} {n : Nat} (hn : l.length = n) (hx : n < 1000000) : GC Tryz.prog 15 [.slice (some ⟨0, 0, none⟩) n 0] [⟨((l.map fe).flatten).map (vi .u64), false, 4⟩] [opV (ofF l).1, vi .i64 (ofF l).2.1, vi .i64 (ofF l).2.2] [⟨((l.map fe).flatten).map (vi .u64), false, 4⟩] := by
 subst hn; exact offields_ctr hx
theorem roffN_ctr {l : List Fp} {n : Nat} (hn : l.length = n) (hx : n < 1000000) : GC Tryz.prog 21 [.slice (some ⟨0, 0, none⟩) n 0] [⟨l.map (dv), false, 1⟩] [opV (ofF l).1, vi .i64 (ofF l).2.1, vi .i64 (ofF l).2.2] [⟨l.map (dv), false, 1⟩] := by
 subst hn; exact roff_ctr hx
theorem getD_memL {Ls : List (List Nat)} {k : Nat} (hk : k < Ls.length) : Ls.getD k [] ∈ Ls := by
 rw [List.getD_eq_getElem?_getD, List.getElem?_eq_getElem hk]; exact List.getElem_mem hk
theorem D_short40 {b : List Nat} (hb : bd 256 b) (hl : b.length ≤ 40) : (D 4294967296 (num 256 b)).length < 1000000 := by
 have h := num_lt hb
 have h2 : num 256 b < 4294967296 ^ 10 := Nat.lt_of_lt_of_le h (Nat.le_trans (Nat.pow_le_pow_right (by decide) hl) (by decide))
 exact Nat.lt_of_le_of_lt ((D_len_le (by decide) _ _).2 h2) (by decide)
theorem encreadsA {B : List Nat} {Ls : List (List Nat)} (hl7 : 700 < B.length) : GC Tryz.prog 4 [db B, .slice (some ⟨0, 0, none⟩) Ls.length 0] [⟨Ls.map (db), false, 1⟩] [.bool true] [⟨Ls.map (db), false, 1⟩] := by
 refine gi Tryz.func4 ?_
 refine zS ?_
 refine yA ?_
 refine zN (zQ (zS ?_))
 refine yC (speaks15_ctr) bd5 [] [] ?_
 refine yP (PureOp.not rfl) ?_
 refine yM ?_
 refine yM ?_
 refine yP pD ?_
 refine yP ((PureOp.gtN (b := 700) rfl rfl).mono (v' := .bool true) (congrArg Value.bool (by simpa using hl7))) ?_
 refine yP pE ?_
 refine yM ?_
 refine yK ?_
 refine yK ?_
 refine yK ?_
 refine yP pT ?_
 refine zN (zC (zS ?_))
 refine yC (speaks15_ctr) bd5 [] [] ?_
 refine yA ?_
 refine zN (zE (zU ?_))
 exact rq [] [.tmp 4] (hb := (OutL.clo rfl (cloM fun _ => rfl) (by intro h; exact h.elim id fun h => absurd h.1 (by simp)) trivial))
theorem encreadsB {B : List Nat} {Ls : List (List Nat)} (hl7 : B.length ≤ 700) (hm7 : 20 < Ls.length) : GC Tryz.prog 4 [db B, .slice (some ⟨0, 0, none⟩) Ls.length 0] [⟨Ls.map (db), false, 1⟩] [.bool true] [⟨Ls.map (db), false, 1⟩] := by
 refine gi Tryz.func4 ?_
 refine zS ?_
 refine yA ?_
 refine zN (zQ (zS ?_))
 refine yC (speaks15_ctr) bd5 [] [] ?_
 refine yP (PureOp.not rfl) ?_
 refine yM ?_
 refine yM ?_
 refine yP pD ?_
 refine yP ((PureOp.gtN (b := 700) rfl rfl).mono (v' := .bool false) (congrArg Value.bool (by simpa using hl7))) ?_
 refine yP pE ?_
 refine yM ?_
 refine yM ?_
 refine yP pL ?_
 refine yP ((PureOp.gtN (b := 20) rfl rfl).mono (v' := .bool true) (congrArg Value.bool (by simpa using hm7))) ?_
 refine yP pE ?_
 refine zN (zC (zS ?_))
 refine yC (speaks15_ctr) bd5 [] [] ?_
 refine yA ?_
 refine zN (zE (zU ?_))
 exact rq [] [.tmp 4] (hb := (OutL.clo rfl (cloM fun _ => rfl) (by intro h; exact h.elim id fun h => absurd h.1 (by simp)) trivial))
theorem encreadsC {B : List Nat} {Ls : List (List Nat)} (hb : bd 256 B) (hB : ∀ b ∈ Ls, bd 256 b) (hl7 : B.length ≤ 700) (hm7 : Ls.length ≤ 20) : GC Tryz.prog 4 [db B, .slice (some ⟨0, 0, none⟩) Ls.length 0] [⟨Ls.map (db), false, 1⟩] [.bool true] [⟨Ls.map (db), false, 1⟩] := by
 refine gi Tryz.func4 ?_
 obtain ⟨y, hy⟩ : ∃ y, ofB B = y := ⟨_, rfl⟩
 refine zS ?_
 refine yA ?_
 refine zN (zQ (zS ?_))
 refine yC (speaks15_ctr) bd5 [] [] ?_
 refine yP (PureOp.not rfl) ?_
 refine yM ?_
 refine yM ?_
 refine yP pD ?_
 refine yP ((PureOp.gtN (b := 700) rfl rfl).mono (v' := .bool false) (congrArg Value.bool (by simpa using hl7))) ?_
 refine yP pE ?_
 refine yM ?_
 refine yM ?_
 refine yP pL ?_
 refine yP ((PureOp.gtN (b := 20) rfl rfl).mono (v' := .bool false) (congrArg Value.bool (by simpa using hm7))) ?_
 refine yP pE ?_
 refine zN (zF (zK (zT (zS ?_))))
 refine yM ?_
 refine yC (v := .tuple #[opV y.1, vi .i64 y.2.1, vi .i64 y.2.2]) (ofbytes_ctr (B := B) hb (by omega)) bd13 [] [] ?_ (hrv := (.clo rfl (.cons rfl rfl (.cons rfl rfl .nil)))) (hv := (by rw [hy]; rfl))
 refine yM ?_
 refine yP pX ?_
 refine yP pX ?_
 refine yP pX ?_
 refine yN 6000 1 _ ?_
 refine AWo.storeAllN (vs := [.int .i64 y.1.k, .int .i64 y.1.t, .int .i64 y.1.c, db y.1.d]) tbok rfl rfl rfl rfl rfl rfl rfl rfl ?_
 refine yA ?_
 refine yA ?_
 refine zN (zS ?_)
 refine yM ?_
 refine yC (v := .tuple #[opV y.1, vi .i64 y.2.1, vi .i64 y.2.2]) (rofb_ctr (B := B) hb (by omega)) bd17 [] [] ?_ (hrv := (.clo rfl (.cons rfl rfl (.cons rfl rfl .nil)))) (hv := (by rw [hy]; rfl))
 refine yM ?_
 refine yP pX ?_
 refine yP pX ?_
 refine yP pX ?_
 refine yN 9000 1 _ ?_
 refine AWo.storeAllN (vs := [.int .i64 y.1.k, .int .i64 y.1.t, .int .i64 y.1.c, db y.1.d]) tbok rfl rfl rfl rfl rfl rfl rfl rfl ?_
 refine yA ?_
 refine yA ?_
 refine zN (zQ (zS ?_))
 refine yM ?_
 refine yM ?_
 refine yP ((PureOp.neN rfl rfl).mono (v' := .bool false) (congrArg Value.bool (bne_eq_false_iff_eq.2 (rfl)))) ?_
 refine yM ?_
 refine yM ?_
 refine yM ?_
 refine yP ((PureOp.neN rfl rfl).mono (v' := .bool false) (congrArg Value.bool (bne_eq_false_iff_eq.2 (rfl)))) ?_
 refine yP pE ?_
 refine yM ?_
 refine yLA ?_
 refine yLA ?_
 refine yC (same15_ctr (x := y.1)) bd16 [] [] ?_ (hargs := (.clo rfl (.clo rfl .nil)))
 refine yP (PureOp.not rfl) ?_
 refine yP pE ?_
 refine zN (zF (zK (zT (zS ?_))))
 refine yA ?_
 refine zN (zS ?_)
 refine AWo.buildSlice tbok 55000 [] (out := []) rfl rfl (by decide) rfl rfl rfl (by decide) rfl rfl rfl rfl rfl ?_
 refine yA ?_
 refine zN (zQ (zS ?_))
 refine yM ?_
 refine yP pL ?_
 refine yM ?_
 refine zN (zB ?_)
 refine AW.ghost 77000 4 rfl ?_
 refine AW.loopw (fun mm σ => ∃ k, (k ≤ Ls.length) ∧ mm = Ls.length - k ∧ σ = ⟨(upd (upd (upd (upd (upd (upd (upd emp 5 (.pointer (some ⟨6000, 0, none⟩))) 8 (.pointer (some ⟨9000, 0, none⟩))) 11 (.slice (some ⟨77000, 0, none⟩) k 0)) 12 (.slice (some ⟨55000, 0, none⟩) k 0)) 55 (.slice (some ⟨0, 0, none⟩) Ls.length 0)) 56 (vi .i64 Ls.length)) 57 (vi .i64 k)), (upd (upd (upd (upd (upd emp 0 ⟨Ls.map db, false, 1⟩) 6000 ⟨[.int .i64 y.1.k, .int .i64 y.1.t, .int .i64 y.1.c, db y.1.d], true, 1⟩) 9000 ⟨[.int .i64 y.1.k, .int .i64 y.1.t, .int .i64 y.1.c, db y.1.d], true, 1⟩) 77000 ⟨((((List.range k).map (gL Ls)).map fe).flatten).map (vi .u64), true, 4⟩) 55000 ⟨(((List.range k).map (gL Ls))).map dv, true, 1⟩)⟩) (fm := []) ?_ ⟨0, Nat.zero_le _, rfl, rfl⟩ ?_
 ·
  refine Wk.of [0, 6000, 9000, 77000, 55000] ?_ ?_ ?_ (by decide) rfl
  ·
   refine WkE.upd rfl (by exact VR.flat _ rfl) ?_
   refine WkE.upd rfl (by exact VR.flat _ rfl) ?_
   refine WkE.upd rfl (.slice (0) 0 _ 0 ⟨_, rfl⟩ (by simp) (by simp)) ?_
   refine WkE.upd rfl (.slice (55000) 0 _ 0 ⟨_, rfl⟩ (by simp) (by simp)) ?_
   refine WkE.upd rfl (by exact .nilS _ (by simp)) ?_
   refine WkE.upd rfl (.ptr (9000) 0 ⟨_, rfl⟩) ?_
   refine WkE.upd rfl (.ptr (6000) 0 ⟨_, rfl⟩) ?_
   exact WkE.emp
  ·
   refine WkM.cloM rfl rfl (fun _ => rfl) (fun h => h) ?_
   refine WkM.flat rfl (flatM flat_vi) (fun h => h) ?_
   refine WkM.clo rfl (cloX y.1) (fun h => h) ?_
   refine WkM.clo rfl (cloX y.1) (fun h => h) ?_
   refine WkM.cloM rfl rfl (fun _ => rfl) (fun h => h) ?_
   exact WkM.emp
  ·
   repeat (refine dom_upd_mem (by decide) ?_)
   exact dom_emp
 ·
  rintro mm σ ⟨k, hkl, rfl, rfl⟩
  refine zS ?_
  refine yP pLt ?_
  refine zN (zQ ?_)
  refine zA (fun hb0 => ?_) (fun hb0 => ?_)
  ·
   have hk : k < Ls.length := by simpa using hb0
   have hbk : bd 256 (Ls.getD k []) := hB _ (getD_memL hk)
   refine zK (zT (zQ (zB (zS ?_))))
   refine yP (PureOp.idx1 tbok (j := k) rfl rfl rfl rfl hk) ?_
   refine AWo.loadM tbok (f := db) [] rfl rfl rfl hk rfl rfl ?_
   refine yA ?_
   refine zN (zQ (zS ?_))
   refine yM ?_
   refine yP pD ?_
   refine yP (pGt (b := 40)) ?_
   refine zN ?_
   refine zA (fun hb1 => ?_) (fun hb1 => ?_)
   ·
    refine zS ?_
    refine yA ?_
    refine zN (zE (zU (zI (zU (zU (zI (zU ?_)))))))
    exact rq [] [.tmp 4] (hb := (OutL.clo rfl (cloM fun _ => rfl) (by intro h; exact h.elim id fun h => absurd h.1 (by simp)) trivial))
   ·
    have hlen : (Ls.getD k []).length ≤ 40 := by simpa using hb1
    refine zK (zT (zS ?_))
    refine yM ?_
    refine yM ?_
    refine yC (fromwideFd (b := (Ls.getD k [])) hbk (by omega)) bd18 [] [] ?_
    refine AWo.buildSlice tbok 68000 [(0, .agg ((fe (gL Ls k)).map (vi .u64)).toArray)] (out := [fe (gL Ls k)].flatten.map (vi .u64)) rfl rfl (by decide) rfl rfl rfl (by decide) rfl (fillB1 (fe_len _)) rfl rfl rfl ?_
    refine AWo.append tbok (all := ((((List.range (k + 1)).map (gL Ls)).map fe).flatten).map (vi .u64)) (news := [fe (gL Ls k)].flatten.map (vi .u64)) 69000 rfl rfl rfl rfl (by rw [FF_len, List.length_map, List.length_range]) (by show List.take _ (List.drop 0 _) = _; rw [List.drop_zero]; exact List.take_of_length_le (by simp)) (by simp; done) (by decide) rfl rfl rfl (by decide) rfl rfl rfl (by omega) (by omega) (oneM (fun _ => rfl) _) (by rw [List.range_succ, List.map_append, List.map_append, List.flatten_append, List.map_append]; rfl) rfl rfl ?_
    refine yA ?_
    refine zN (zR ?_)
    refine yM ?_
    refine yM ?_
    refine yC (ofbd (a := (Ls.getD k [])) hbk (by omega)) bd20 [] [] ?_
    refine yC (modRd (v := num 256 (Ls.getD k [])) (D_short40 hbk hlen)) bd19 [] [] ?_
    refine AWo.buildSlice tbok 74000 [(0, dv (gL Ls k))] (out := [gL Ls k].map dv) rfl rfl (by decide) rfl rfl rfl (by decide) rfl rfl rfl rfl rfl ?_
    refine AWo.append tbok (all := (((List.range (k + 1)).map (gL Ls))).map dv) (news := [gL Ls k].map dv) 75000 rfl rfl rfl rfl (by simp) rfl (by (simp; done)) (by decide) rfl rfl rfl (by decide) rfl rfl rfl (by omega) (by omega) (oneM (fun _ => rfl) _) (by rw [List.range_succ, List.map_append, List.map_append]; rfl) rfl rfl ?_
    refine yA ?_
    refine zN (zL (zT (zR ?_)))
    refine yP (pAdd (b := 1)) ?_
    refine yM ?_
    refine zN (zT ?_)
    refine ⟨Ls.length - (k + 1), [(77000, 69000), (55000, 75000)], _, by omega, ?_, k + 1, by omega, rfl, rfl⟩
    refine Wk.of [0, 6000, 9000, 77000, 55000] ?_ ?_ ?_ (by decide) rfl
    ·
     refine WkE.upd rfl (by exact VR.flat _ rfl) ?_
     refine WkE.upd rfl (by exact VR.flat _ rfl) ?_
     refine WkE.upd rfl (.slice (0) 0 _ 0 ⟨_, rfl⟩ (by simp) (by simp)) ?_
     refine WkE.upd rfl (.slice (55000) 0 _ 0 ⟨_, rfl⟩ (by simp) (by simp)) ?_
     refine WkE.upd rfl (by exact .slice (77000) 0 _ 0 ⟨_, rfl⟩ (by simp) (by simp)) ?_
     refine WkE.upd rfl (.ptr (9000) 0 ⟨_, rfl⟩) ?_
     refine WkE.upd rfl (.ptr (6000) 0 ⟨_, rfl⟩) ?_
     exact WkE.emp
    ·
     refine WkM.cloM rfl rfl (fun _ => rfl) (fun h => h) ?_
     refine WkM.flat rfl (flatM flat_vi) (fun h => h) ?_
     refine WkM.clo rfl (cloX y.1) (fun h => h) ?_
     refine WkM.clo rfl (cloX y.1) (fun h => h) ?_
     refine WkM.cloM rfl rfl (fun _ => rfl) (fun h => h) ?_
     exact WkM.emp
    ·
     repeat (refine dom_upd_mem (by decide) ?_)
     exact dom_emp
  ·
   obtain rfl : k = Ls.length := by simp at hb0; omega
   obtain ⟨z, hz⟩ : ∃ z, ofF ((List.range Ls.length).map (gL Ls)) = z := ⟨_, rfl⟩
   have hgl : ((List.range Ls.length).map (gL Ls)).length = Ls.length := by rw [List.length_map, List.length_range]
   refine zX (zV (zV (zH (zT (zS ?_)))))
   refine yM ?_
   refine yC (v := .tuple #[opV z.1, vi .i64 z.2.1, vi .i64 z.2.2]) (offN_ctr (l := ((List.range Ls.length).map (gL Ls))) hgl (by omega)) bd15 [(77000, 0)] [] ?_ (hrv := (.clo rfl (.cons rfl rfl (.cons rfl rfl .nil)))) (hv := (by rw [hz]; rfl))
   refine yM ?_
   refine yP pX ?_
   refine yP pX ?_
   refine yP pX ?_
   refine AWo.storeAllN (vs := [.int .i64 z.1.k, .int .i64 z.1.t, .int .i64 z.1.c, db z.1.d]) tbok rfl rfl rfl rfl rfl rfl rfl rfl ?_
   refine yA ?_
   refine yA ?_
   refine zN (zS ?_)
   refine yM ?_
   refine yC (v := .tuple #[opV z.1, vi .i64 z.2.1, vi .i64 z.2.2]) (roffN_ctr (l := ((List.range Ls.length).map (gL Ls))) hgl (by omega)) bd21 [(55000, 0)] [] ?_ (hfit := (.clo rfl (cloM fun _ => rfl) (by intro h; rfl) .nil)) (hrv := (.clo rfl (.cons rfl rfl (.cons rfl rfl .nil)))) (hv := (by rw [hz]; rfl))
   refine yM ?_
   refine yP pX ?_
   refine yP pX ?_
   refine yP pX ?_
   refine AWo.storeAllN (vs := [.int .i64 z.1.k, .int .i64 z.1.t, .int .i64 z.1.c, db z.1.d]) tbok rfl rfl rfl rfl rfl rfl rfl rfl ?_
   refine yA ?_
   refine yA ?_
   refine zN (zS ?_)
   refine yM ?_
   refine yM ?_
   refine yP ((PureOp.eqN rfl rfl).mono (v' := .bool true) (congrArg Value.bool (beq_self_eq_true _))) ?_
   refine yM ?_
   refine yM ?_
   refine yM ?_
   refine yP ((PureOp.eqN rfl rfl).mono (v' := .bool true) (congrArg Value.bool (beq_self_eq_true _))) ?_
   refine yP pT ?_
   refine yM ?_
   refine yLA ?_
   refine yLA ?_
   refine yC (same15_ctr (x := z.1)) bd16 [] [] ?_ (hargs := (.clo rfl (.clo rfl .nil)))
   refine yP pT ?_
   refine yA ?_
   refine zN (zE ?_)
   exact rq [] [.tmp 4] (hb := (OutL.clo rfl (cloM fun _ => rfl) (by intro h; exact h.elim id fun h => absurd h.1 (by simp)) trivial))
theorem encreads_ctr {B : List Nat} {Ls : List (List Nat)} (hb : bd 256 B) (hB : ∀ b ∈ Ls, bd 256 b) : GC Tryz.prog 4 [db B, .slice (some ⟨0, 0, none⟩) Ls.length 0] [⟨Ls.map (db), false, 1⟩] [.bool true] [⟨Ls.map (db), false, 1⟩] := by
 rcases Nat.lt_or_ge 700 B.length with hl7 | hl7
 · exact encreadsA hl7
 rcases Nat.lt_or_ge 20 Ls.length with hm7 | hm7
 · exact encreadsB hl7 hm7
 exact encreadsC hb hB hl7 hm7
end Go.Proofs.YtpahdiljpnfkdaaGreat
namespace Go.Proofs.YtpahdiljpnfkdaaGreat
open Go
namespace Head
set_option maxRecDepth 100000 in
theorem words : ∃ l, Tryz.prog.initOrder = String.ofList l ∧ (behindMainWord (wordsSigns l)).head? = some "cut".toList := ⟨_, rfl, by kernel_rfl⟩
theorem head_of {P : Program} (h : ∃ l, P.initOrder = String.ofList l ∧ (behindMainWord (wordsSigns l)).head? = some "cut".toList) :
    ∃ rest, behindMainWord (wordsSigns P.initOrder.toList) = "cut".toList :: rest := by
  obtain ⟨l, h, hh⟩ := h
  rw [h, String.toList_ofList]
  cases hb : behindMainWord (wordsSigns l) with
  | nil => rw [hb] at hh; cases hh
  | cons c r => rw [hb] at hh; simp only [List.head?_cons, Option.some.injEq] at hh; exact ⟨r, by rw [hh]⟩
theorem cut_words : (liftWords.all fun s => !("cut".toList == s.toList)) = true := by decide +kernel
theorem strip_cut (rest : List (List Char)) : stripLifts liftWords ("cut".toList :: rest) = ([], "cut".toList :: rest) := by
  have key : ∀ o : List String, (o.all fun s => !("cut".toList == s.toList)) = true → stripLifts o ("cut".toList :: rest) = ([], "cut".toList :: rest) := by
    intro o
    induction o with
    | nil => intro _; rfl
    | cons s o ih =>
      intro h
      simp only [List.all_cons, Bool.and_eq_true, Bool.not_eq_true'] at h
      rw [stripLifts, if_neg (by rw [h.1]; exact Bool.false_ne_true)]
      exact ih h.2
  exact key liftWords cut_words
theorem mayEnter_of {P : Program} {rest : List (List Char)} (hr : behindMainWord (wordsSigns P.initOrder.toList) = "cut".toList :: rest) (e1 : P.laysLater = false) (e2 : P.bearsReflect = false) (e3 : P.doorFits [] = true) : P.mayEnter = true := by
  unfold Program.mayEnter
  rw [hr]
  simp only [strip_cut, e1, e2, e3]
  simp
theorem headLifts_of {P : Program} {rest : List (List Char)} (hr : behindMainWord (wordsSigns P.initOrder.toList) = "cut".toList :: rest) : P.headLifts = [] := by
  unfold Program.headLifts
  rw [hr, strip_cut]
  simp
theorem cut_ne : ("cut".toList == "carried".toList) = false ∧ ("cut".toList == "gc".toList) = false ∧ ("cut".toList == "spec".toList) = false := by decide +kernel
theorem liftsFinal_of {P : Program} {rest : List (List Char)} (hr : behindMainWord (wordsSigns P.initOrder.toList) = "cut".toList :: rest) : P.liftsFinal = false := by
  unfold Program.liftsFinal
  rw [hr, headLifts_of hr]
  simp
theorem make_of {P : Program} {rest : List (List Char)} (hr : behindMainWord (wordsSigns P.initOrder.toList) = "cut".toList :: rest) : P.make = some .cut := by
  unfold Program.make
  rw [hr]
  simp only [cut_ne.2.1, cut_ne.2.2, beq_self_eq_true]
  simp
theorem laysLater : Tryz.prog.laysLater = false := by kernel_rfl
theorem bearsReflect : Tryz.prog.bearsReflect = false := by kernel_rfl
theorem doorFits : Tryz.prog.doorFits [] = true := by kernel_rfl
theorem mayEnter : Tryz.prog.mayEnter = true := let ⟨_, hr⟩ := head_of words; mayEnter_of hr laysLater bearsReflect doorFits
theorem liftsFinal : Tryz.prog.liftsFinal = false := let ⟨_, hr⟩ := head_of words; liftsFinal_of hr
theorem make_cut : Tryz.prog.make = some .cut := let ⟨_, hr⟩ := head_of words; make_of hr
theorem band {a b : Bool} (ha : a = true) (hb : b = true) : (a && b) = true := by rw [ha, hb]; rfl
end Head
end Go.Proofs.YtpahdiljpnfkdaaGreat
