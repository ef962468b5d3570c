/- What the proof stands on, part 5: the walk of each function, and plain laws of numbers. -/
import Derived.Test.YteeifahhejangaaK4
import Derived.Test.YteeifahhejangaaRows
import Derived.ProofKit
namespace Go.Proofs.Yteeifahhejangaa
open Go Sim
theorem speaks9_ctr : GC Try.prog 40 [] [] [.bool true] [] := by
  refine GC.intro Try.func40 rfl (by show 0 ≤ 26; decide) (by first | exact Nat.le_refl _ | decide | simp) ?_
  refine AW.seqR ?_
  refine AWo.pure (PureOp.assign rfl) rfl rfl ?_
  refine AWo.nil trivial ?_
  refine AW.seqR ?_
  refine AWo.callX (cauM_ctr) bd63 [] [] rfl .nil rfl .nil .nil rfl .nil frN (by decide) (.pure (by first | rfl | exact pure_aggM flat_vi | exact pure_aggM flat_bool) .nil) rfl rfl rfl rfl ?_
  refine yN 2000 1 ((((List.replicate 9 (0 : Fp)).map fe).flatten).map (vi .u64)) ?_ (hc := by exact (zeroFF 9).symm)
  refine ySE (vs := tab (fun i j => finv (fp (i + j + 3)))) 0 ?_ (hj := by exact Nat.le_refl 9)
  refine AWo.nil trivial ?_
  refine AW.seqD mixed ?_
  refine yLM (xs := tab (fun i j => finv (fp (i + j + 3)))) 9 ?_
  refine AWo.callX (v := .bool true) (goodM_ctr (M := tab (fun i j => finv (fp (i + j + 3)))) rfl) bd47 [] [] rfl (.cons rfl .nil) rfl (.pure (by first | rfl | exact pure_aggM flat_vi | exact pure_aggM flat_bool) .nil) .nil rfl .nil frN (by decide) (.cons rfl rfl .nil) (by rw [cau_good]; rfl) rfl rfl rfl ?_
  refine AWo.pure (PureOp.move rfl) rfl rfl ?_
  refine AWo.callX (unitM_ctr) bd50 [] [] rfl .nil rfl .nil .nil rfl .nil frN (by decide) (.pure (by first | rfl | exact pure_aggM flat_vi | exact pure_aggM flat_bool) .nil) rfl rfl rfl rfl ?_
  refine AWo.callX (v := .bool false) (goodM_ctr (M := tab (fun i j => if i = j then fp 1 else 0)) rfl) bd47 [] [] rfl (.cons rfl .nil) rfl (.pure (by first | rfl | exact pure_aggM flat_vi | exact pure_aggM flat_bool) .nil) .nil rfl .nil frN (by decide) (.cons rfl rfl .nil) (by rw [unit_bad]; rfl) rfl rfl rfl ?_
  first | refine AWo.pure ((PureOp.not rfl).mono (v' := .bool true) (congrArg Value.bool (by rfl))) rfl rfl ?_
  refine AWo.pure (PureOp.pickT rfl rfl) rfl rfl ?_
  refine AWo.pure (PureOp.move rfl) rfl rfl ?_
  first | refine AWo.pure (PureOp.arr1 (j := 0) tbok rfl rfl rfl rfl (by first | decide | omega)) rfl rfl ?_ | refine AWo.pure (PureOp.arr (j := 0) tbok rfl rfl rfl rfl (by first | decide | omega)) rfl rfl ?_
  first | refine AWo.pure (PureOp.arr1 (j := 0) tbok rfl rfl rfl rfl (by first | decide | omega)) rfl rfl ?_ | refine AWo.pure (PureOp.arr (j := 0) tbok rfl rfl rfl rfl (by first | decide | omega)) rfl rfl ?_
  refine yLJ (xs := tab (fun i j => finv (fp (i + j + 3)))) (0) ?_
  refine AWo.callX (fromuF_ctr (v := 3) (by decide)) bd37 [] [] rfl (.cons rfl .nil) rfl (.cons rfl rfl .nil) .nil rfl .nil frN (by decide) (.pure (by first | rfl | exact pure_aggM flat_vi | exact pure_aggM flat_bool) .nil) rfl rfl rfl rfl ?_
  refine AWo.callX (mulF_ctr) bd35 [] [] rfl (.cons rfl (.cons rfl .nil)) rfl (.pure (by first | rfl | exact pure_aggM flat_vi | exact pure_aggM flat_bool) (.pure (by first | rfl | exact pure_aggM flat_vi | exact pure_aggM flat_bool) .nil)) .nil rfl .nil frN (by decide) (.pure (by first | rfl | exact pure_aggM flat_vi | exact pure_aggM flat_bool) .nil) rfl rfl rfl rfl ?_
  refine AWo.callX (fromuF_ctr (v := 1) (by decide)) bd37 [] [] rfl (.cons rfl .nil) rfl (.cons rfl rfl .nil) .nil rfl .nil frN (by decide) (.pure (by first | rfl | exact pure_aggM flat_vi | exact pure_aggM flat_bool) .nil) rfl rfl rfl rfl ?_
  refine AWo.callX (v := .bool true) (equalF_ctr (x := (tab (fun i j => finv (fp (i + j + 3)))).getD 0 0 * fp 3) (y := fp 1)) bd19 [] [] rfl (.cons rfl (.cons rfl .nil)) rfl (.pure (by first | rfl | exact pure_aggM flat_vi | exact pure_aggM flat_bool) (.pure (by first | rfl | exact pure_aggM flat_vi | exact pure_aggM flat_bool) .nil)) .nil rfl .nil frN (by decide) (.cons rfl rfl .nil) (congrArg Value.bool (decide_eq_true (cau_at))) rfl rfl rfl ?_
  refine AWo.pure (PureOp.pickT rfl rfl) rfl rfl ?_
  refine AWo.pure (PureOp.move rfl) rfl rfl ?_
  first | refine AWo.pure (PureOp.arr1 (j := 0) tbok rfl rfl rfl rfl (by first | decide | omega)) rfl rfl ?_ | refine AWo.pure (PureOp.arr (j := 0) tbok rfl rfl rfl rfl (by first | decide | omega)) rfl rfl ?_
  first | refine AWo.pure (PureOp.arr1 (j := 0) tbok rfl rfl rfl rfl (by first | decide | omega)) rfl rfl ?_ | refine AWo.pure (PureOp.arr (j := 0) tbok rfl rfl rfl rfl (by first | decide | omega)) rfl rfl ?_
  refine yLJ (xs := tab (fun i j => finv (fp (i + j + 3)))) (0) ?_
  refine AWo.callX (v := .bool false) (iszeroF_ctr (x := (tab (fun i j => finv (fp (i + j + 3)))).getD 0 0)) bd46 [] [] rfl (.cons rfl .nil) rfl (.pure (by first | rfl | exact pure_aggM flat_vi | exact pure_aggM flat_bool) .nil) .nil rfl .nil frN (by decide) (.cons rfl rfl .nil) (congrArg Value.bool (decide_eq_false cau_ne)) rfl rfl rfl ?_
  first | refine AWo.pure ((PureOp.not rfl).mono (v' := .bool true) (congrArg Value.bool (by rfl))) rfl rfl ?_
  refine AWo.pure (PureOp.pickT rfl rfl) rfl rfl ?_
  refine AWo.pure (PureOp.assign rfl) rfl rfl ?_
  refine AWo.nil (by kernel_rfl) ?_
  refine AW.ret ?_
  refine RetQ.gc [_] [] [.tmp 0] (.inl rfl) rfl (.tmp rfl .nil) rfl (.cons rfl rfl .nil) trivial (by decide) rfl
theorem mrows_ctr {Ls : List (List Nat)} {i j : Nat} {b : List Nat} (hLs : Ls.length = 9) (hB : ∀ b ∈ Ls, bd 256 b) (hi : i < 256) (hj : j < 256) (hb : bd 256 b) : GC Try.prog 7 [.agg (Ls.map db).toArray, vi .u8 i, vi .u8 j, .slice (some ⟨0, 0, none⟩) b.length 0] [⟨b.map (vi .u8), false, 1⟩] [.bool true] [⟨b.map (vi .u8), false, 1⟩] := by
  refine GC.intro Try.func7 rfl (by show 4 ≤ 110; decide) (by first | exact Nat.le_refl _ | decide | simp) ?_
  refine AW.seqR ?_
  refine AWo.box 5000 1 _ rfl rfl rfl rfl rfl ?_
  refine AWo.pure (PureOp.assign rfl) rfl rfl ?_
  refine AWo.nil trivial ?_
  refine AW.seq ?_
  refine AW.seqR ?_
  refine AWo.callX (speaks9_ctr) bd40 [] [] rfl .nil rfl .nil .nil rfl .nil frN (by decide) (.cons rfl rfl .nil) rfl rfl rfl rfl ?_
  first | refine AWo.pure ((PureOp.not rfl).mono (v' := .bool false) (congrArg Value.bool (by rfl))) rfl rfl ?_
  refine AWo.pure (PureOp.move rfl) rfl rfl ?_
  refine AWo.loadAll tbok rfl rfl rfl rfl (by show (Ls.map db).length = 9; rw [List.length_map]; assumption) rfl rfl ?_
  refine AWo.callX (few_ctr (by first | assumption | omega)) bd41 [] [] rfl (.cons rfl .nil) rfl (.clo (cloAggM fun _ => rfl) .nil) .nil rfl .nil frN (by decide) (.cons rfl rfl .nil) rfl rfl rfl rfl ?_
  first | refine AWo.pureB (PureOp.not rfl) rfl rfl (fun hb0 => ?_) (fun hb0 => ?_)
  ·
    refine AWo.pure (PureOp.pickF rfl rfl) rfl rfl ?_
    refine AWo.pure (PureOp.move rfl) rfl rfl ?_
    refine AWo.skipped rfl rfl ?_
    refine AWo.skipped rfl rfl ?_
    refine AWo.skipped rfl rfl ?_
    refine AWo.pure (PureOp.pickT rfl rfl) rfl rfl ?_
    refine AWo.nil trivial ?_
    refine AW.condT rfl ?_
    refine AW.seqR ?_
    refine AWo.callX (speaks9_ctr) bd40 [] [] rfl .nil rfl .nil .nil rfl .nil frN (by decide) (.cons rfl rfl .nil) rfl rfl rfl rfl ?_
    refine AWo.pure (PureOp.assign rfl) rfl rfl ?_
    refine AWo.nil trivial ?_
    refine AW.ret ?_
    refine thenA_ret ?_
    refine RetQ.gc [_] [] [.tmp 8] (.inl rfl) rfl (.tmp rfl .nil) rfl (.cons rfl rfl .nil) (OutL.flat rfl (by first | exact flatM flat_vi | exact flatM flat_bool | (simp [flatV, flat_vi]; done)) (by intro h; first | rfl | exact h.elim id fun h => absurd h.1 (by simp)) trivial) (by decide) rfl
  ·
    have hS : ∀ b ∈ Ls, b.length ≤ 40 := by simpa using hb0
    refine AWo.pure (PureOp.pickF rfl rfl) rfl rfl ?_
    refine AWo.pure (PureOp.move rfl) rfl rfl ?_
    refine AWo.pure (PureOp.move rfl) rfl rfl ?_
    first | refine AWo.pure (PureOp.lenS tbok rfl rfl) rfl rfl ?_ | refine AWo.pure (PureOp.lenD tbok rfl rfl) rfl rfl ?_
    first | refine AWo.pure (PureOp.gtN (b := 40) rfl rfl) rfl rfl ?_ | refine AWo.pure (PureOp.bin rfl rfl rfl) rfl rfl ?_
    refine AWo.pure (PureOp.pickF rfl rfl) rfl rfl ?_
    refine AWo.nil trivial ?_
    refine AW.cond rfl (fun hb1 => ?_) (fun hb1 => ?_)
    ·
      refine AW.seqR ?_
      refine AWo.callX (speaks9_ctr) bd40 [] [] rfl .nil rfl .nil .nil rfl .nil frN (by decide) (.cons rfl rfl .nil) rfl rfl rfl rfl ?_
      refine AWo.pure (PureOp.assign rfl) rfl rfl ?_
      refine AWo.nil trivial ?_
      refine AW.ret ?_
      refine thenA_ret ?_
      refine RetQ.gc [_] [] [.tmp 8] (.inl rfl) rfl (.tmp rfl .nil) rfl (.cons rfl rfl .nil) (OutL.flat rfl (by first | exact flatM flat_vi | exact flatM flat_bool | (simp [flatV, flat_vi]; done)) (by intro h; first | rfl | exact h.elim id fun h => absurd h.1 (by simp)) trivial) (by decide) rfl
    ·
      have hbl : b.length ≤ 40 := by simpa using hb1
      refine AW.skip ?_
      refine thenA_normal ?_
      refine AW.seqR ?_
      refine AWo.loadAll tbok rfl rfl rfl rfl (by show (Ls.map db).length = 9; rw [List.length_map]; assumption) rfl rfl ?_
      refine AWo.callX (of9_ctr (Ls := Ls) hLs hB hS) bd42 [] [] rfl (.cons rfl .nil) rfl (.clo (cloAggM fun _ => rfl) .nil) .nil rfl .nil frN (by decide) (.pure (by first | rfl | exact pure_aggM flat_vi | exact pure_aggM flat_bool) (.cons rfl rfl .nil)) rfl rfl rfl rfl ?_
      refine AWo.pure (PureOp.move rfl) rfl rfl ?_
      refine AWo.pure (PureOp.extract rfl rfl) rfl rfl ?_
      refine AWo.pure (PureOp.extract rfl rfl) rfl rfl ?_
      refine yN 10000 1 ((((List.replicate 9 (0 : Fp)).map fe).flatten).map (vi .u64)) ?_ (hc := by exact (zeroFF 9).symm)
      refine ySE (vs := tab (nbF Ls)) 0 ?_ (hj := by exact Nat.le_refl 9)
      refine AWo.pure (PureOp.assign rfl) rfl rfl ?_
      refine AWo.nil trivial ?_
      rw [show setE (List.replicate 9 (0 : Fp)) 0 (tab (nbF Ls)) = tab (nbF Ls) from rfl]
      obtain ⟨M, hMe⟩ : ∃ M, tab (nbF Ls) = M := ⟨_, rfl⟩
      rw [hMe]
      have hM : M.length = 9 := by rw [← hMe]; rfl
      refine AW.seqR ?_
      refine yLM (xs := M) 9 ?_
      refine AWo.callX (det_ctr (by first | assumption | omega)) bd43 [] [] rfl (.cons rfl .nil) rfl (.pure (by first | rfl | exact pure_aggM flat_vi | exact pure_aggM flat_bool) .nil) .nil rfl .nil frN (by decide) (.pure (by first | rfl | exact pure_aggM flat_vi | exact pure_aggM flat_bool) .nil) rfl rfl rfl rfl ?_
      refine AWo.alloc tbok 12000 1 _ rfl rfl rfl rfl rfl rfl ?_
      refine AWo.storeAllN tbok rfl rfl rfl rfl (by first | (simp [*]; done) | rfl) (by first | (simp [*]; done) | rfl) (by first | exact oneM (fun _ => rfl) _ | rfl | (simp; done)) rfl ?_
      refine AWo.nil trivial ?_
      refine AW.seqR ?_
      refine AWo.pure (PureOp.move rfl) rfl rfl ?_
      first | refine AWo.pure (PureOp.cvtN tbok 9223372036854775808 rfl rfl rfl (by decide) (by decide) (by first | decide | omega)) rfl rfl ?_ | refine AWo.pure (PureOp.cvt tbok rfl rfl rfl) rfl rfl ?_
      refine AWo.pure (PureOp.remN (a := i) (b := 3) rfl rfl (by omega)) rfl rfl ?_
      refine AWo.pure (PureOp.move rfl) rfl rfl ?_
      first | refine AWo.pure (PureOp.cvtN tbok 9223372036854775808 rfl rfl rfl (by decide) (by decide) (by first | decide | omega)) rfl rfl ?_ | refine AWo.pure (PureOp.cvt tbok rfl rfl rfl) rfl rfl ?_
      refine AWo.pure (PureOp.remN (a := j) (b := 3) rfl rfl (by omega)) rfl rfl ?_
      refine AWo.pure (PureOp.assign rfl) rfl rfl ?_
      refine AWo.pure (PureOp.assign rfl) rfl rfl ?_
      refine AWo.nil trivial ?_
      refine AW.seq ?_
      obtain ⟨x, hx⟩ : ∃ x, i % 3 = x := ⟨_, rfl⟩
      obtain ⟨y, hy⟩ : ∃ y, j % 3 = y := ⟨_, rfl⟩
      rw [hx, hy]
      have hx3 : x < 3 := by omega
      have hy3 : y < 3 := by omega
      refine AW.seqR ?_
      refine AWo.pure (PureOp.move rfl) rfl rfl ?_
      refine AWo.pure (PureOp.move rfl) rfl rfl ?_
      first | refine AWo.pure (PureOp.eqN rfl rfl) rfl rfl ?_ | refine AWo.pure (PureOp.bin rfl rfl rfl) rfl rfl ?_
      refine AWo.nil trivial ?_
      refine AW.cond rfl (fun hb2 => ?_) (fun hb2 => ?_)
      ·
        refine AW.seqR ?_
        refine yLM (xs := M) 9 ?_
        refine AWo.callX (minors_ctr (M := M) hM) bd44 [] [50000] rfl (.cons rfl .nil) rfl (.pure (by first | rfl | exact pure_aggM flat_vi | exact pure_aggM flat_bool) .nil) .nil rfl (.new (flat_map_ren (flatM flat_vi)) (OkL.flat (flatM flat_vi)) .nil) (frC rfl frN) (by decide) (.cons rfl rfl .nil) rfl rfl rfl rfl ?_
        first | refine AWo.pure (PureOp.lenS tbok rfl rfl) rfl rfl ?_ | refine AWo.pure (PureOp.lenD tbok rfl rfl) rfl rfl ?_
        first | refine AWo.pure ((PureOp.eqN (b := 19) rfl rfl).mono (v' := .bool true) (congrArg Value.bool (by rfl))) rfl rfl ?_ | refine AWo.pure ((PureOp.bin rfl rfl rfl).mono (v' := .bool true) (congrArg Value.bool (by rfl))) rfl rfl ?_
        refine AWo.pure (PureOp.assign rfl) rfl rfl ?_
        refine AWo.nil trivial ?_
        refine AW.ret ?_
        refine thenA_ret ?_
        refine RetQ.gc [_] [] [.tmp 8] (.inl rfl) rfl (.tmp rfl .nil) rfl (.cons rfl rfl .nil) (OutL.flat rfl (by first | exact flatM flat_vi | exact flatM flat_bool | (simp [flatV, flat_vi]; done)) (by intro h; first | rfl | exact h.elim id fun h => absurd h.1 (by simp)) trivial) (by decide) rfl
      ·
        have hxy : x ≠ y := by simpa using hb2
        refine AW.skip ?_
        refine thenA_normal ?_
        refine AW.seqD mixed ?_
        refine yLM (xs := M) 9 ?_
        refine yLM (xs := M) 9 ?_
        refine yLM (xs := M) 9 ?_
        refine yN 15000 1 ((((List.replicate 9 (0 : Fp)).map fe).flatten).map (vi .u64)) ?_ (hc := by exact (zeroFF 9).symm)
        refine yN 16000 1 ((((List.replicate 9 (0 : Fp)).map fe).flatten).map (vi .u64)) ?_ (hc := by exact (zeroFF 9).symm)
        refine yN 17000 1 ((((List.replicate 9 (0 : Fp)).map fe).flatten).map (vi .u64)) ?_ (hc := by exact (zeroFF 9).symm)
        refine ySE (vs := M) 0 ?_ (hl := by rw [hM]) (hj := by rw [hM]; exact Nat.le_refl 9)
        rw [setE_full (M := M) hM]
        refine ySE (vs := M) 0 ?_ (hl := by rw [hM]) (hj := by rw [hM]; exact Nat.le_refl 9)
        rw [setE_full (M := M) hM]
        refine ySE (vs := M) 0 ?_ (hl := by rw [hM]) (hj := by rw [hM]; exact Nat.le_refl 9)
        rw [setE_full (M := M) hM]
        refine AWo.nil (by kernel_rfl) ?_
        refine AW.seqD mixed ?_
        refine AWo.pure (PureOp.move rfl) rfl rfl ?_
        refine AWo.pure (PureOp.move rfl) rfl rfl ?_
        refine AWo.pure (PureOp.move rfl) rfl rfl ?_
        first | refine AWo.pure (PureOp.arr1 tbok rfl rfl rfl rfl (by first | decide | omega)) rfl rfl ?_ | refine AWo.pure (PureOp.arr tbok rfl rfl rfl rfl (by first | decide | omega)) rfl rfl ?_
        refine yLV (xs := M) (y * 3) ?_
        refine AWo.pure (PureOp.move rfl) rfl rfl ?_
        first | refine AWo.pure (PureOp.arr1 tbok rfl rfl rfl rfl (by first | decide | omega)) rfl rfl ?_ | refine AWo.pure (PureOp.arr tbok rfl rfl rfl rfl (by first | decide | omega)) rfl rfl ?_
        refine yLV (xs := M) (x * 3) ?_
        first | refine AWo.pure (PureOp.arr1 tbok rfl rfl rfl rfl (by first | decide | omega)) rfl rfl ?_ | refine AWo.pure (PureOp.arr tbok rfl rfl rfl rfl (by first | decide | omega)) rfl rfl ?_
        refine ySE (vs := row3 M y) (x * 3) ?_ (hj := by simp only [setE_len, List.length_cons, List.length_nil, row3]; omega)
        first | refine AWo.pure (PureOp.arr1 tbok rfl rfl rfl rfl (by first | decide | omega)) rfl rfl ?_ | refine AWo.pure (PureOp.arr tbok rfl rfl rfl rfl (by first | decide | omega)) rfl rfl ?_
        refine ySE (vs := row3 M x) (y * 3) ?_ (hj := by simp only [setE_len, List.length_cons, List.length_nil, row3]; omega)
        refine AWo.nil (by kernel_rfl) ?_
        refine AW.seqR ?_
        refine AWo.pure (PureOp.move rfl) rfl rfl ?_
        refine AWo.pure (PureOp.move rfl) rfl rfl ?_
        first | refine AWo.pure (PureOp.arr1 tbok rfl rfl rfl rfl (by first | decide | omega)) rfl rfl ?_ | refine AWo.pure (PureOp.arr tbok rfl rfl rfl rfl (by first | decide | omega)) rfl rfl ?_
        refine yLV (xs := M) (y * 3) ?_
        first | refine AWo.pure (PureOp.arr1 tbok rfl rfl rfl rfl (by first | decide | omega)) rfl rfl ?_ | refine AWo.pure (PureOp.arr tbok rfl rfl rfl rfl (by first | decide | omega)) rfl rfl ?_
        refine ySE (vs := row3 M y) (x * 3) ?_ (hj := by simp only [setE_len, List.length_cons, List.length_nil, row3]; omega)
        refine AWo.nil trivial ?_
        refine AW.seqR ?_
        refine AWo.pure (PureOp.move rfl) rfl rfl ?_
        refine AWo.callX (fromwideF_ctr (b := b) hb (by omega)) bd30 [(0, 0)] [] rfl (.cons rfl .nil) rfl (.cons rfl rfl .nil) (.flat rfl (by first | exact flatM flat_vi | exact flatM flat_bool | (simp [flatV, flat_vi]; done)) (by intro h; first | exact h | rfl) .nil) rfl (.keep rfl .nil) frN (by decide) (.pure (by first | rfl | exact pure_aggM flat_vi | exact pure_aggM flat_bool) .nil) rfl rfl rfl rfl ?_
        refine AWo.alloc tbok 18000 1 _ rfl rfl rfl rfl rfl rfl ?_
        refine AWo.storeAllN tbok rfl rfl rfl rfl (by first | (simp [*]; done) | rfl) (by first | (simp [*]; done) | rfl) (by first | exact oneM (fun _ => rfl) _ | rfl | (simp; done)) rfl ?_
        refine AWo.nil trivial ?_
        refine AW.seq ?_
        obtain ⟨e, he⟩ : ∃ e, fp (num 256 b) = e := ⟨_, rfl⟩
        rw [he]
        refine AW.seqR ?_
        refine AWo.pure (PureOp.move rfl) rfl rfl ?_
        refine AWo.nil trivial ?_
        refine AW.block ?_
        refine AW.loopw (fun mm σ => ∃ k, (k ≤ 3) ∧ mm = 3 - k ∧ σ = ⟨(upd (upd (upd (upd (upd (upd (upd (upd emp 9 (.pointer (some ⟨10000, 0, none⟩))) 11 (.pointer (some ⟨12000, 0, none⟩))) 12 (vi .i64 x)) 14 (.pointer (some ⟨15000, 0, none⟩))) 15 (.pointer (some ⟨16000, 0, none⟩))) 16 (.pointer (some ⟨17000, 0, none⟩))) 17 (.pointer (some ⟨18000, 0, none⟩))) 72 (vi .i64 k)), (upd (upd (upd (upd (upd (upd (upd emp 0 ⟨b.map (vi .u8), false, 1⟩) 10000 ⟨((M.map fe).flatten).map (vi .u64), true, 1⟩) 12000 ⟨(fe (dtm M)).map (vi .u64), true, 1⟩) 15000 ⟨(((setE (setE M (x * 3) (row3 M y)) (y * 3) (row3 M x)).map fe).flatten).map (vi .u64), true, 1⟩) 16000 ⟨(((setE M (x * 3) (row3 M y)).map fe).flatten).map (vi .u64), true, 1⟩) 17000 ⟨(((tmL M x e k).map fe).flatten).map (vi .u64), true, 1⟩) 18000 ⟨(fe (e)).map (vi .u64), true, 1⟩)⟩) (fm := []) ?_ ⟨0, by omega, rfl, rfl⟩ ?_
        ·
          refine Wk.of [0, 10000, 12000, 15000, 16000, 17000, 18000] ?_ ?_ ?_ (by decide) rfl
          ·
            refine WkE.upd rfl (by first | exact VR.flat _ rfl | exact VR.eqv (vp_succ _) rfl | exact VR.eqv (vp_succ _).symm rfl | exact VR.eqv (by first | rfl | (congr 1; omega) | (simp; done) | (simp; omega)) rfl) ?_
            refine WkE.upd rfl (.ptr (18000) 0 ⟨_, rfl⟩) ?_
            refine WkE.upd rfl (.ptr (17000) 0 ⟨_, rfl⟩) ?_
            refine WkE.upd rfl (.ptr (16000) 0 ⟨_, rfl⟩) ?_
            refine WkE.upd rfl (.ptr (15000) 0 ⟨_, rfl⟩) ?_
            refine WkE.upd rfl (by first | exact VR.flat _ rfl | exact VR.eqv (vp_succ _) rfl | exact VR.eqv (vp_succ _).symm rfl | exact VR.eqv (by first | rfl | (congr 1; omega) | (simp; done) | (simp; omega)) rfl) ?_
            refine WkE.upd rfl (.ptr (12000) 0 ⟨_, rfl⟩) ?_
            refine WkE.upd rfl (.ptr (10000) 0 ⟨_, rfl⟩) ?_
            exact WkE.emp
          ·
            refine WkM.flat rfl (flatM flat_vi) (fun h => h) ?_
            refine WkM.flat rfl (flatM flat_vi) (fun h => h) ?_
            refine WkM.flat rfl (flatM flat_vi) (fun h => h) ?_
            refine WkM.flat rfl (flatM flat_vi) (fun h => h) ?_
            refine WkM.flat rfl (flatM flat_vi) (fun h => h) ?_
            refine WkM.flat rfl (flatM flat_vi) (fun h => h) ?_
            refine WkM.flat rfl (flatM flat_vi) (fun h => h) ?_
            exact WkM.emp
          ·
            repeat (refine dom_upd_mem (by decide) ?_)
            exact dom_emp
        ·
          rintro mm σ ⟨k, hinv, rfl, rfl⟩
          refine AW.seqR ?_
          first | refine AWo.pure (PureOp.ltN (b := 3) rfl rfl) rfl rfl ?_ | refine AWo.pure (PureOp.bin rfl rfl rfl) rfl rfl ?_
          refine AWo.nil trivial ?_
          refine AW.seq ?_
          refine AW.cond rfl (fun hb3 => ?_) (fun hb3 => ?_)
          ·
            have hk : k < 3 := by simpa using hb3
            refine AW.skip ?_
            refine thenA_normal ?_
            refine AW.seq ?_
            refine AW.block ?_
            refine AW.seqR ?_
            refine AWo.pure (PureOp.move rfl) rfl rfl ?_
            refine AWo.pure (PureOp.assign rfl) rfl rfl ?_
            refine AWo.nil trivial ?_
            refine AW.draw mixed ?_
            refine AWo.pure (PureOp.move rfl) rfl rfl ?_
            refine AWo.pure (PureOp.move rfl) rfl rfl ?_
            refine AWo.pure (PureOp.move rfl) rfl rfl ?_
            refine AWo.pure (PureOp.move rfl) rfl rfl ?_
            first | refine AWo.pure (PureOp.arr1 tbok rfl rfl rfl rfl (by first | decide | omega)) rfl rfl ?_ | refine AWo.pure (PureOp.arr tbok rfl rfl rfl rfl (by first | decide | omega)) rfl rfl ?_
            first | refine AWo.pure (PureOp.arr1 tbok rfl rfl rfl rfl (by first | decide | omega)) rfl rfl ?_ | refine AWo.pure (PureOp.arr tbok rfl rfl rfl rfl (by first | decide | omega)) rfl rfl ?_
            refine yLJ (xs := tmL M x e k) (x * 3 + k) ?_ (hj := by rw [tmL_len]; omega)
            first | refine yLE ?_ | refine yLEi ?_
            refine AWo.callX (mulF_ctr) bd35 [] [] rfl (.cons rfl (.cons rfl .nil)) rfl (.pure (by first | rfl | exact pure_aggM flat_vi | exact pure_aggM flat_bool) (.pure (by first | rfl | exact pure_aggM flat_vi | exact pure_aggM flat_bool) .nil)) .nil rfl .nil frN (by decide) (.pure (by first | rfl | exact pure_aggM flat_vi | exact pure_aggM flat_bool) .nil) rfl rfl rfl rfl ?_
            first | refine AWo.pure (PureOp.arr1 tbok rfl rfl rfl rfl (by first | decide | omega)) rfl rfl ?_ | refine AWo.pure (PureOp.arr tbok rfl rfl rfl rfl (by first | decide | omega)) rfl rfl ?_
            first | refine AWo.pure (PureOp.arr1 tbok rfl rfl rfl rfl (by first | decide | omega)) rfl rfl ?_ | refine AWo.pure (PureOp.arr tbok rfl rfl rfl rfl (by first | decide | omega)) rfl rfl ?_
            refine ySJ (x * 3 + k) ?_ (hj := by rw [tmL_len]; omega)
            refine AWo.nil (by kernel_rfl) ?_
            refine inBlockA_normal ?_
            refine thenA_normal ?_
            refine AW.region ?_
            first | refine AWo.pure (PureOp.addI (b := 1) rfl rfl (by first | decide | omega)) rfl rfl ?_ | refine AWo.pure (PureOp.bin rfl rfl rfl) rfl rfl ?_
            refine AWo.pure (PureOp.move rfl) rfl rfl ?_
            refine AWo.nil trivial ?_
            refine thenA_normal ?_
            refine ⟨3 - (k + 1), [], _, by omega, ?_, k + 1, by omega, rfl, rfl⟩
            refine Wk.of [0, 10000, 12000, 15000, 16000, 17000, 18000] ?_ ?_ ?_ (by decide) rfl
            ·
              refine WkE.upd rfl (by first | exact VR.flat _ rfl | exact VR.eqv (vp_succ _) rfl | exact VR.eqv (vp_succ _).symm rfl | exact VR.eqv (by first | rfl | (congr 1; omega) | (simp; done) | (simp; omega)) rfl) ?_
              refine WkE.upd rfl (.ptr (18000) 0 ⟨_, rfl⟩) ?_
              refine WkE.upd rfl (.ptr (17000) 0 ⟨_, rfl⟩) ?_
              refine WkE.upd rfl (.ptr (16000) 0 ⟨_, rfl⟩) ?_
              refine WkE.upd rfl (.ptr (15000) 0 ⟨_, rfl⟩) ?_
              refine WkE.upd rfl (by first | exact VR.flat _ rfl | exact VR.eqv (vp_succ _) rfl | exact VR.eqv (vp_succ _).symm rfl | exact VR.eqv (by first | rfl | (congr 1; omega) | (simp; done) | (simp; omega)) rfl) ?_
              refine WkE.upd rfl (.ptr (12000) 0 ⟨_, rfl⟩) ?_
              refine WkE.upd rfl (.ptr (10000) 0 ⟨_, rfl⟩) ?_
              exact WkE.emp
            ·
              refine WkM.flat rfl (flatM flat_vi) (fun h => h) ?_
              refine WkM.flat rfl (flatM flat_vi) (fun h => h) ?_
              refine WkM.flat rfl (flatM flat_vi) (fun h => h) ?_
              refine WkM.flat rfl (flatM flat_vi) (fun h => h) ?_
              refine WkM.flat rfl (flatM flat_vi) (fun h => h) ?_
              refine WkM.flat rfl (flatM flat_vi) (fun h => h) ?_
              refine WkM.flat rfl (flatM flat_vi) (fun h => h) ?_
              exact WkM.emp
            ·
              repeat (refine dom_upd_mem (by decide) ?_)
              exact dom_emp
          ·
            obtain rfl : k = 3 := by simp at hb3; omega
            refine AW.exit ?_
            refine thenA_exit ?_
            refine thenA_exit ?_
            refine inBlockA_hit ?_
            refine thenA_normal ?_
            refine AW.seqD mixed ?_
            refine yLM (xs := setE (setE M (x * 3) (row3 M y)) (y * 3) (row3 M x)) 9 ?_ (hm := by rw [setE_len, setE_len]; exact hM)
            refine AWo.callX (det_ctr (M := setE (setE M (x * 3) (row3 M y)) (y * 3) (row3 M x)) (by rw [setE_len, setE_len]; exact hM)) bd43 [] [] rfl (.cons rfl .nil) rfl (.pure (by first | rfl | exact pure_aggM flat_vi | exact pure_aggM flat_bool) .nil) .nil rfl .nil frN (by decide) (.pure (by first | rfl | exact pure_aggM flat_vi | exact pure_aggM flat_bool) .nil) rfl rfl rfl rfl ?_
            first | refine yLE ?_ | refine yLEi ?_
            refine AWo.callX (negF_ctr) bd45 [] [] rfl (.cons rfl .nil) rfl (.pure (by first | rfl | exact pure_aggM flat_vi | exact pure_aggM flat_bool) .nil) .nil rfl .nil frN (by decide) (.pure (by first | rfl | exact pure_aggM flat_vi | exact pure_aggM flat_bool) .nil) rfl rfl rfl rfl ?_
            refine AWo.callX (v := .bool true) (equalF_ctr (x := dtm (setE (setE M (x * 3) (row3 M y)) (y * 3) (row3 M x))) (y := -dtm M)) bd19 [] [] rfl (.cons rfl (.cons rfl .nil)) rfl (.pure (by first | rfl | exact pure_aggM flat_vi | exact pure_aggM flat_bool) (.pure (by first | rfl | exact pure_aggM flat_vi | exact pure_aggM flat_bool) .nil)) .nil rfl .nil frN (by decide) (.cons rfl rfl .nil) (congrArg Value.bool (decide_eq_true (turned hM hx3 hy3 hxy))) rfl rfl rfl ?_
            refine AWo.pure (PureOp.move rfl) rfl rfl ?_
            refine yLM (xs := setE M (x * 3) (row3 M y)) 9 ?_ (hm := by rw [setE_len]; exact hM)
            refine AWo.callX (det_ctr (M := setE M (x * 3) (row3 M y)) (by rw [setE_len]; exact hM)) bd43 [] [] rfl (.cons rfl .nil) rfl (.pure (by first | rfl | exact pure_aggM flat_vi | exact pure_aggM flat_bool) .nil) .nil rfl .nil frN (by decide) (.pure (by first | rfl | exact pure_aggM flat_vi | exact pure_aggM flat_bool) .nil) rfl rfl rfl rfl ?_
            refine AWo.callX (v := .bool true) (iszeroF_ctr (x := dtm (setE M (x * 3) (row3 M y)))) bd46 [] [] rfl (.cons rfl .nil) rfl (.pure (by first | rfl | exact pure_aggM flat_vi | exact pure_aggM flat_bool) .nil) .nil rfl .nil frN (by decide) (.cons rfl rfl .nil) (congrArg Value.bool (decide_eq_true (alike hM hx3 hy3 hxy))) rfl rfl rfl ?_
            refine AWo.pure (PureOp.pickT rfl rfl) rfl rfl ?_
            refine AWo.pure (PureOp.move rfl) rfl rfl ?_
            refine yLM (xs := setE M (x * 3) (row3 M y)) 9 ?_ (hm := by rw [setE_len]; exact hM)
            refine AWo.callX (v := .bool false) (goodM_ctr (M := setE M (x * 3) (row3 M y)) (by rw [setE_len]; exact hM)) bd47 [] [] rfl (.cons rfl .nil) rfl (.pure (by first | rfl | exact pure_aggM flat_vi | exact pure_aggM flat_bool) .nil) .nil rfl .nil frN (by decide) (.cons rfl rfl .nil) (by rw [bad_of (alike hM hx3 hy3 hxy)]; rfl) rfl rfl rfl ?_
            refine AWo.pure (PureOp.not rfl) rfl rfl ?_
            refine AWo.pure (PureOp.pickT rfl rfl) rfl rfl ?_
            refine AWo.pure (PureOp.move rfl) rfl rfl ?_
            refine yLM (xs := tmL M x e 3) 9 ?_ (hm := by rw [tmL_len]; exact hM)
            refine AWo.callX (det_ctr (M := tmL M x e 3) (by rw [tmL_len]; exact hM)) bd43 [] [] rfl (.cons rfl .nil) rfl (.pure (by first | rfl | exact pure_aggM flat_vi | exact pure_aggM flat_bool) .nil) .nil rfl .nil frN (by decide) (.pure (by first | rfl | exact pure_aggM flat_vi | exact pure_aggM flat_bool) .nil) rfl rfl rfl rfl ?_
            first | refine yLE ?_ | refine yLEi ?_
            first | refine yLE ?_ | refine yLEi ?_
            refine AWo.callX (mulF_ctr) bd35 [] [] rfl (.cons rfl (.cons rfl .nil)) rfl (.pure (by first | rfl | exact pure_aggM flat_vi | exact pure_aggM flat_bool) (.pure (by first | rfl | exact pure_aggM flat_vi | exact pure_aggM flat_bool) .nil)) .nil rfl .nil frN (by decide) (.pure (by first | rfl | exact pure_aggM flat_vi | exact pure_aggM flat_bool) .nil) rfl rfl rfl rfl ?_
            refine AWo.callX (v := .bool true) (equalF_ctr (x := dtm (tmL M x e 3)) (y := dtm M * e)) bd19 [] [] rfl (.cons rfl (.cons rfl .nil)) rfl (.pure (by first | rfl | exact pure_aggM flat_vi | exact pure_aggM flat_bool) (.pure (by first | rfl | exact pure_aggM flat_vi | exact pure_aggM flat_bool) .nil)) .nil rfl .nil frN (by decide) (.cons rfl rfl .nil) (congrArg Value.bool (decide_eq_true (times hM hx3 e))) rfl rfl rfl ?_
            refine AWo.pure (PureOp.pickT rfl rfl) rfl rfl ?_
            refine AWo.pure (PureOp.assign rfl) rfl rfl ?_
            refine AWo.nil (by kernel_rfl) ?_
            refine AW.ret ?_
            refine RetQ.gc [_] [] [.tmp 8] (.inl rfl) rfl (.tmp rfl .nil) rfl (.cons rfl rfl .nil) (OutL.flat rfl (by first | exact flatM flat_vi | exact flatM flat_bool | (simp [flatV, flat_vi]; done)) (by intro h; first | rfl | exact h.elim id fun h => absurd h.1 (by simp)) trivial) (by decide) rfl
theorem mlaws_ctr {As Bs Cs : List (List Nat)} (hAs : As.length = 9) (hA1 : ∀ b ∈ As, bd 256 b) (hBs : Bs.length = 9) (hB1 : ∀ b ∈ Bs, bd 256 b) (hCs : Cs.length = 9) (hC1 : ∀ b ∈ Cs, bd 256 b) : GC Try.prog 8 [.agg (As.map db).toArray, .agg (Bs.map db).toArray, .agg (Cs.map db).toArray] [] [.bool true] [] := by
  refine GC.intro Try.func8 rfl (by show 3 ≤ 137; decide) (by first | exact Nat.le_refl _ | decide | simp) ?_
  refine AW.seqR ?_
  refine AWo.box 4000 1 _ rfl rfl rfl rfl rfl ?_
  refine AWo.box 5000 1 _ rfl rfl rfl rfl rfl ?_
  refine AWo.box 6000 1 _ rfl rfl rfl rfl rfl ?_
  refine AWo.pure (PureOp.assign rfl) rfl rfl ?_
  refine AWo.nil trivial ?_
  refine AW.seq ?_
  refine AW.seqR ?_
  refine AWo.callX (speaks9_ctr) bd40 [] [] rfl .nil rfl .nil .nil rfl .nil frN (by decide) (.cons rfl rfl .nil) rfl rfl rfl rfl ?_
  first | refine AWo.pure ((PureOp.not rfl).mono (v' := .bool false) (congrArg Value.bool (by rfl))) rfl rfl ?_
  refine AWo.pure (PureOp.move rfl) rfl rfl ?_
  refine AWo.loadAll tbok rfl rfl rfl rfl (by show (As.map db).length = 9; rw [List.length_map]; assumption) rfl rfl ?_
  refine AWo.callX (few_ctr (by first | assumption | omega)) bd41 [] [] rfl (.cons rfl .nil) rfl (.clo (cloAggM fun _ => rfl) .nil) .nil rfl .nil frN (by decide) (.cons rfl rfl .nil) rfl rfl rfl rfl ?_
  first | refine AWo.pureB (PureOp.not rfl) rfl rfl (fun hb0 => ?_) (fun hb0 => ?_)
  ·
    refine AWo.pure (PureOp.pickF rfl rfl) rfl rfl ?_
    refine AWo.pure (PureOp.move rfl) rfl rfl ?_
    refine AWo.skipped rfl rfl ?_
    refine AWo.skipped rfl rfl ?_
    refine AWo.skipped rfl rfl ?_
    refine AWo.pure (PureOp.pickT rfl rfl) rfl rfl ?_
    refine AWo.pure (PureOp.move rfl) rfl rfl ?_
    refine AWo.skipped rfl rfl ?_
    refine AWo.skipped rfl rfl ?_
    refine AWo.skipped rfl rfl ?_
    refine AWo.pure (PureOp.pickT rfl rfl) rfl rfl ?_
    refine AWo.nil trivial ?_
    refine AW.condT rfl ?_
    refine AW.seqR ?_
    refine AWo.callX (speaks9_ctr) bd40 [] [] rfl .nil rfl .nil .nil rfl .nil frN (by decide) (.cons rfl rfl .nil) rfl rfl rfl rfl ?_
    refine AWo.pure (PureOp.assign rfl) rfl rfl ?_
    refine AWo.nil trivial ?_
    refine AW.ret ?_
    refine thenA_ret ?_
    refine RetQ.gc [_] [] [.tmp 6] (.inl rfl) rfl (.tmp rfl .nil) rfl (.cons rfl rfl .nil) trivial (by decide) rfl
  ·
    have hA : ∀ b ∈ As, b.length ≤ 40 := by simpa using hb0
    refine AWo.pure (PureOp.pickF rfl rfl) rfl rfl ?_
    refine AWo.pure (PureOp.move rfl) rfl rfl ?_
    refine AWo.loadAll tbok rfl rfl rfl rfl (by show (Bs.map db).length = 9; rw [List.length_map]; assumption) rfl rfl ?_
    refine AWo.callX (few_ctr (by first | assumption | omega)) bd41 [] [] rfl (.cons rfl .nil) rfl (.clo (cloAggM fun _ => rfl) .nil) .nil rfl .nil frN (by decide) (.cons rfl rfl .nil) rfl rfl rfl rfl ?_
    first | refine AWo.pureB (PureOp.not rfl) rfl rfl (fun hb1 => ?_) (fun hb1 => ?_)
    ·
      refine AWo.pure (PureOp.pickF rfl rfl) rfl rfl ?_
      refine AWo.pure (PureOp.move rfl) rfl rfl ?_
      refine AWo.skipped rfl rfl ?_
      refine AWo.skipped rfl rfl ?_
      refine AWo.skipped rfl rfl ?_
      refine AWo.pure (PureOp.pickT rfl rfl) rfl rfl ?_
      refine AWo.nil trivial ?_
      refine AW.condT rfl ?_
      refine AW.seqR ?_
      refine AWo.callX (speaks9_ctr) bd40 [] [] rfl .nil rfl .nil .nil rfl .nil frN (by decide) (.cons rfl rfl .nil) rfl rfl rfl rfl ?_
      refine AWo.pure (PureOp.assign rfl) rfl rfl ?_
      refine AWo.nil trivial ?_
      refine AW.ret ?_
      refine thenA_ret ?_
      refine RetQ.gc [_] [] [.tmp 6] (.inl rfl) rfl (.tmp rfl .nil) rfl (.cons rfl rfl .nil) trivial (by decide) rfl
    ·
      have hB : ∀ b ∈ Bs, b.length ≤ 40 := by simpa using hb1
      refine AWo.pure (PureOp.pickF rfl rfl) rfl rfl ?_
      refine AWo.pure (PureOp.move rfl) rfl rfl ?_
      refine AWo.loadAll tbok rfl rfl rfl rfl (by show (Cs.map db).length = 9; rw [List.length_map]; assumption) rfl rfl ?_
      refine AWo.callX (few_ctr (by first | assumption | omega)) bd41 [] [] rfl (.cons rfl .nil) rfl (.clo (cloAggM fun _ => rfl) .nil) .nil rfl .nil frN (by decide) (.cons rfl rfl .nil) rfl rfl rfl rfl ?_
      first | refine AWo.pureB (PureOp.not rfl) rfl rfl (fun hb2 => ?_) (fun hb2 => ?_)
      ·
        refine AWo.pure (PureOp.pickF rfl rfl) rfl rfl ?_
        refine AWo.nil trivial ?_
        refine AW.condT rfl ?_
        refine AW.seqR ?_
        refine AWo.callX (speaks9_ctr) bd40 [] [] rfl .nil rfl .nil .nil rfl .nil frN (by decide) (.cons rfl rfl .nil) rfl rfl rfl rfl ?_
        refine AWo.pure (PureOp.assign rfl) rfl rfl ?_
        refine AWo.nil trivial ?_
        refine AW.ret ?_
        refine thenA_ret ?_
        refine RetQ.gc [_] [] [.tmp 6] (.inl rfl) rfl (.tmp rfl .nil) rfl (.cons rfl rfl .nil) trivial (by decide) rfl
      ·
        have hC : ∀ b ∈ Cs, b.length ≤ 40 := by simpa using hb2
        refine AWo.pure (PureOp.pickF rfl rfl) rfl rfl ?_
        refine AWo.nil trivial ?_
        refine AW.condF rfl ?_
        refine AW.skip ?_
        refine thenA_normal ?_
        refine AW.seqR ?_
        refine AWo.loadAll tbok rfl rfl rfl rfl (by show (As.map db).length = 9; rw [List.length_map]; assumption) rfl rfl ?_
        refine AWo.callX (of9_ctr (Ls := As) hAs hA1 hA) bd42 [] [] rfl (.cons rfl .nil) rfl (.clo (cloAggM fun _ => rfl) .nil) .nil rfl .nil frN (by decide) (.pure (by first | rfl | exact pure_aggM flat_vi | exact pure_aggM flat_bool) (.cons rfl rfl .nil)) rfl rfl rfl rfl ?_
        refine AWo.pure (PureOp.move rfl) rfl rfl ?_
        refine AWo.pure (PureOp.extract rfl rfl) rfl rfl ?_
        refine AWo.pure (PureOp.extract rfl rfl) rfl rfl ?_
        refine yN 8000 1 ((((List.replicate 9 (0 : Fp)).map fe).flatten).map (vi .u64)) ?_ (hc := by exact (zeroFF 9).symm)
        refine ySE (vs := tab (nbF As)) 0 ?_ (hj := by exact Nat.le_refl 9)
        refine AWo.pure (PureOp.assign rfl) rfl rfl ?_
        refine AWo.nil trivial ?_
        rw [show setE (List.replicate 9 (0 : Fp)) 0 (tab (nbF As)) = tab (nbF As) from rfl]
        obtain ⟨M, hMe⟩ : ∃ M, tab (nbF As) = M := ⟨_, rfl⟩
        rw [hMe]
        have hM : M.length = 9 := by rw [← hMe]; rfl
        refine AW.seqR ?_
        refine AWo.loadAll tbok rfl rfl rfl rfl (by show (Bs.map db).length = 9; rw [List.length_map]; assumption) rfl rfl ?_
        refine AWo.callX (of9_ctr (Ls := Bs) hBs hB1 hB) bd42 [] [] rfl (.cons rfl .nil) rfl (.clo (cloAggM fun _ => rfl) .nil) .nil rfl .nil frN (by decide) (.pure (by first | rfl | exact pure_aggM flat_vi | exact pure_aggM flat_bool) (.cons rfl rfl .nil)) rfl rfl rfl rfl ?_
        refine AWo.pure (PureOp.move rfl) rfl rfl ?_
        refine AWo.pure (PureOp.extract rfl rfl) rfl rfl ?_
        refine AWo.pure (PureOp.extract rfl rfl) rfl rfl ?_
        refine yN 10000 1 ((((List.replicate 9 (0 : Fp)).map fe).flatten).map (vi .u64)) ?_ (hc := by exact (zeroFF 9).symm)
        refine ySE (vs := tab (nbF Bs)) 0 ?_ (hj := by exact Nat.le_refl 9)
        refine AWo.pure (PureOp.assign rfl) rfl rfl ?_
        refine AWo.nil trivial ?_
        rw [show setE (List.replicate 9 (0 : Fp)) 0 (tab (nbF Bs)) = tab (nbF Bs) from rfl]
        obtain ⟨N, hNe⟩ : ∃ M, tab (nbF Bs) = M := ⟨_, rfl⟩
        rw [hNe]
        have hN : N.length = 9 := by rw [← hNe]; rfl
        refine AW.seqR ?_
        refine AWo.loadAll tbok rfl rfl rfl rfl (by show (Cs.map db).length = 9; rw [List.length_map]; assumption) rfl rfl ?_
        refine AWo.callX (of9_ctr (Ls := Cs) hCs hC1 hC) bd42 [] [] rfl (.cons rfl .nil) rfl (.clo (cloAggM fun _ => rfl) .nil) .nil rfl .nil frN (by decide) (.pure (by first | rfl | exact pure_aggM flat_vi | exact pure_aggM flat_bool) (.cons rfl rfl .nil)) rfl rfl rfl rfl ?_
        refine AWo.pure (PureOp.move rfl) rfl rfl ?_
        refine AWo.pure (PureOp.extract rfl rfl) rfl rfl ?_
        refine AWo.pure (PureOp.extract rfl rfl) rfl rfl ?_
        refine yN 12000 1 ((((List.replicate 9 (0 : Fp)).map fe).flatten).map (vi .u64)) ?_ (hc := by exact (zeroFF 9).symm)
        refine ySE (vs := tab (nbF Cs)) 0 ?_ (hj := by exact Nat.le_refl 9)
        refine AWo.pure (PureOp.assign rfl) rfl rfl ?_
        refine AWo.nil trivial ?_
        rw [show setE (List.replicate 9 (0 : Fp)) 0 (tab (nbF Cs)) = tab (nbF Cs) from rfl]
        obtain ⟨K, hKe⟩ : ∃ M, tab (nbF Cs) = M := ⟨_, rfl⟩
        rw [hKe]
        have hK : K.length = 9 := by rw [← hKe]; rfl
        refine AW.seqR ?_
        first | refine AWo.pure (PureOp.arr1 (j := 1) tbok rfl rfl rfl rfl (by first | decide | omega)) rfl rfl ?_ | refine AWo.pure (PureOp.arr (j := 1) tbok rfl rfl rfl rfl (by first | decide | omega)) rfl rfl ?_
        refine yLV (xs := K) (3) ?_
        refine yN 14000 1 ((((List.replicate 3 (0 : Fp)).map fe).flatten).map (vi .u64)) ?_ (hc := by exact (zeroFF 3).symm)
        refine ySE (vs := [K.getD 3 0, K.getD 4 0, K.getD 5 0]) 0 ?_ (hj := by exact Nat.le_refl 3)
        refine AWo.nil trivial ?_
        refine AW.seqD mixed ?_
        refine yLM (xs := M) 9 ?_
        refine yLM (xs := N) 9 ?_
        refine AWo.callX (mulM_ctr (M := M) (N := N) hM hN) bd48 [] [] rfl (.cons rfl (.cons rfl .nil)) rfl (.pure (by first | rfl | exact pure_aggM flat_vi | exact pure_aggM flat_bool) (.pure (by first | rfl | exact pure_aggM flat_vi | exact pure_aggM flat_bool) .nil)) .nil rfl .nil frN (by decide) (.pure (by first | rfl | exact pure_aggM flat_vi | exact pure_aggM flat_bool) .nil) rfl rfl rfl rfl ?_
        refine yLM (xs := K) 9 ?_
        refine AWo.callX (mulM_ctr (M := tab (mmF M N)) (N := K) rfl hK) bd48 [] [] rfl (.cons rfl (.cons rfl .nil)) rfl (.pure (by first | rfl | exact pure_aggM flat_vi | exact pure_aggM flat_bool) (.pure (by first | rfl | exact pure_aggM flat_vi | exact pure_aggM flat_bool) .nil)) .nil rfl .nil frN (by decide) (.pure (by first | rfl | exact pure_aggM flat_vi | exact pure_aggM flat_bool) .nil) rfl rfl rfl rfl ?_
        refine yLM (xs := M) 9 ?_
        refine yLM (xs := N) 9 ?_
        refine yLM (xs := K) 9 ?_
        refine AWo.callX (mulM_ctr (M := N) (N := K) hN hK) bd48 [] [] rfl (.cons rfl (.cons rfl .nil)) rfl (.pure (by first | rfl | exact pure_aggM flat_vi | exact pure_aggM flat_bool) (.pure (by first | rfl | exact pure_aggM flat_vi | exact pure_aggM flat_bool) .nil)) .nil rfl .nil frN (by decide) (.pure (by first | rfl | exact pure_aggM flat_vi | exact pure_aggM flat_bool) .nil) rfl rfl rfl rfl ?_
        refine AWo.callX (mulM_ctr (M := M) (N := tab (mmF N K)) hM rfl) bd48 [] [] rfl (.cons rfl (.cons rfl .nil)) rfl (.pure (by first | rfl | exact pure_aggM flat_vi | exact pure_aggM flat_bool) (.pure (by first | rfl | exact pure_aggM flat_vi | exact pure_aggM flat_bool) .nil)) .nil rfl .nil frN (by decide) (.pure (by first | rfl | exact pure_aggM flat_vi | exact pure_aggM flat_bool) .nil) rfl rfl rfl rfl ?_
        refine yN 15000 1 ((((List.replicate 9 (0 : Fp)).map fe).flatten).map (vi .u64)) ?_ (hc := by exact (zeroFF 9).symm)
        refine yN 16000 1 ((((List.replicate 9 (0 : Fp)).map fe).flatten).map (vi .u64)) ?_ (hc := by exact (zeroFF 9).symm)
        refine ySE (vs := tab (mmF (tab (mmF M N)) K)) 0 ?_ (hj := by exact Nat.le_refl 9)
        refine ySE (vs := tab (mmF M (tab (mmF N K)))) 0 ?_ (hj := by exact Nat.le_refl 9)
        refine AWo.nil (by kernel_rfl) ?_
        refine AW.seqD mixed ?_
        refine yLM (xs := M) 9 ?_
        refine yLM (xs := N) 9 ?_
        refine AWo.callX (mulM_ctr (M := M) (N := N) hM hN) bd48 [] [] rfl (.cons rfl (.cons rfl .nil)) rfl (.pure (by first | rfl | exact pure_aggM flat_vi | exact pure_aggM flat_bool) (.pure (by first | rfl | exact pure_aggM flat_vi | exact pure_aggM flat_bool) .nil)) .nil rfl .nil frN (by decide) (.pure (by first | rfl | exact pure_aggM flat_vi | exact pure_aggM flat_bool) .nil) rfl rfl rfl rfl ?_
        refine yLM (xs := [K.getD 3 0, K.getD 4 0, K.getD 5 0]) 3 ?_
        refine AWo.callX (apply_ctr (M := tab (mmF M N)) (p := K.getD 3 0) (q := K.getD 4 0) (r := K.getD 5 0) rfl) bd49 [] [] rfl (.cons rfl (.cons rfl .nil)) rfl (.pure (by first | rfl | exact pure_aggM flat_vi | exact pure_aggM flat_bool) (.pure (by first | rfl | exact pure_aggM flat_vi | exact pure_aggM flat_bool) .nil)) .nil rfl .nil frN (by decide) (.pure (by first | rfl | exact pure_aggM flat_vi | exact pure_aggM flat_bool) .nil) rfl rfl rfl rfl ?_
        refine yLM (xs := M) 9 ?_
        refine yLM (xs := N) 9 ?_
        refine yLM (xs := [K.getD 3 0, K.getD 4 0, K.getD 5 0]) 3 ?_
        refine AWo.callX (apply_ctr (M := N) (p := K.getD 3 0) (q := K.getD 4 0) (r := K.getD 5 0) hN) bd49 [] [] rfl (.cons rfl (.cons rfl .nil)) rfl (.pure (by first | rfl | exact pure_aggM flat_vi | exact pure_aggM flat_bool) (.pure (by first | rfl | exact pure_aggM flat_vi | exact pure_aggM flat_bool) .nil)) .nil rfl .nil frN (by decide) (.pure (by first | rfl | exact pure_aggM flat_vi | exact pure_aggM flat_bool) .nil) rfl rfl rfl rfl ?_
        refine AWo.callX (apply_ctr (M := M) (p := fsumL [N.getD 0 0 * K.getD 3 0, N.getD 1 0 * K.getD 4 0, N.getD 2 0 * K.getD 5 0]) (q := fsumL [N.getD 3 0 * K.getD 3 0, N.getD 4 0 * K.getD 4 0, N.getD 5 0 * K.getD 5 0]) (r := fsumL [N.getD 6 0 * K.getD 3 0, N.getD 7 0 * K.getD 4 0, N.getD 8 0 * K.getD 5 0]) hM) bd49 [] [] rfl (.cons rfl (.cons rfl .nil)) rfl (.pure (by first | rfl | exact pure_aggM flat_vi | exact pure_aggM flat_bool) (.pure (by first | rfl | exact pure_aggM flat_vi | exact pure_aggM flat_bool) .nil)) .nil rfl .nil frN (by decide) (.pure (by first | rfl | exact pure_aggM flat_vi | exact pure_aggM flat_bool) .nil) rfl rfl rfl rfl ?_
        refine yN 17000 1 ((((List.replicate 3 (0 : Fp)).map fe).flatten).map (vi .u64)) ?_ (hc := by exact (zeroFF 3).symm)
        refine yN 18000 1 ((((List.replicate 3 (0 : Fp)).map fe).flatten).map (vi .u64)) ?_ (hc := by exact (zeroFF 3).symm)
        refine ySE (vs := apl (tab (mmF M N)) (K.getD 3 0) (K.getD 4 0) (K.getD 5 0)) 0 ?_ (hj := by exact Nat.le_refl 3)
        refine ySE (vs := apl M (fsumL [N.getD 0 0 * K.getD 3 0, N.getD 1 0 * K.getD 4 0, N.getD 2 0 * K.getD 5 0]) (fsumL [N.getD 3 0 * K.getD 3 0, N.getD 4 0 * K.getD 4 0, N.getD 5 0 * K.getD 5 0]) (fsumL [N.getD 6 0 * K.getD 3 0, N.getD 7 0 * K.getD 4 0, N.getD 8 0 * K.getD 5 0])) 0 ?_ (hj := by exact Nat.le_refl 3)
        refine AWo.nil (by kernel_rfl) ?_
        refine AW.seqD mixed ?_
        refine yLM (xs := M) 9 ?_
        refine AWo.callX (unitM_ctr) bd50 [] [] rfl .nil rfl .nil .nil rfl .nil frN (by decide) (.pure (by first | rfl | exact pure_aggM flat_vi | exact pure_aggM flat_bool) .nil) rfl rfl rfl rfl ?_
        refine AWo.callX (mulM_ctr (M := M) (N := tab (fun i j => if i = j then fp 1 else 0)) hM rfl) bd48 [] [] rfl (.cons rfl (.cons rfl .nil)) rfl (.pure (by first | rfl | exact pure_aggM flat_vi | exact pure_aggM flat_bool) (.pure (by first | rfl | exact pure_aggM flat_vi | exact pure_aggM flat_bool) .nil)) .nil rfl .nil frN (by decide) (.pure (by first | rfl | exact pure_aggM flat_vi | exact pure_aggM flat_bool) .nil) rfl rfl rfl rfl ?_
        refine yN 19000 1 ((((List.replicate 9 (0 : Fp)).map fe).flatten).map (vi .u64)) ?_ (hc := by exact (zeroFF 9).symm)
        refine ySE (vs := tab (mmF M (tab (fun i j => if i = j then fp 1 else 0)))) 0 ?_ (hj := by exact Nat.le_refl 9)
        refine AWo.nil (by kernel_rfl) ?_
        refine AW.seq ?_
        rw [show setE (List.replicate 9 (0 : Fp)) 0 (tab (mmF (tab (mmF M N)) K)) = tab (mmF (tab (mmF M N)) K) from rfl, show setE (List.replicate 9 (0 : Fp)) 0 (tab (mmF M (tab (mmF N K)))) = tab (mmF M (tab (mmF N K))) from rfl, mm_assoc, show setE (List.replicate 9 (0 : Fp)) 0 (tab (mmF M (tab (fun i j => if i = j then fp 1 else 0)))) = tab (mmF M (tab (fun i j => if i = j then fp 1 else 0))) from rfl, mm_unit hM, show setE (List.replicate 3 (0 : Fp)) 0 (apl (tab (mmF M N)) (K.getD 3 0) (K.getD 4 0) (K.getD 5 0)) = apl (tab (mmF M N)) (K.getD 3 0) (K.getD 4 0) (K.getD 5 0) from rfl, show setE (List.replicate 3 (0 : Fp)) 0 (apl M (fsumL [N.getD 0 0 * K.getD 3 0, N.getD 1 0 * K.getD 4 0, N.getD 2 0 * K.getD 5 0]) (fsumL [N.getD 3 0 * K.getD 3 0, N.getD 4 0 * K.getD 4 0, N.getD 5 0 * K.getD 5 0]) (fsumL [N.getD 6 0 * K.getD 3 0, N.getD 7 0 * K.getD 4 0, N.getD 8 0 * K.getD 5 0])) = apl M (fsumL [N.getD 0 0 * K.getD 3 0, N.getD 1 0 * K.getD 4 0, N.getD 2 0 * K.getD 5 0]) (fsumL [N.getD 3 0 * K.getD 3 0, N.getD 4 0 * K.getD 4 0, N.getD 5 0 * K.getD 5 0]) (fsumL [N.getD 6 0 * K.getD 3 0, N.getD 7 0 * K.getD 4 0, N.getD 8 0 * K.getD 5 0]) from rfl, apl_mm]
        obtain ⟨X, hXe⟩ : ∃ X, tab (mmF M (tab (mmF N K))) = X := ⟨_, rfl⟩
        have hX : X.length = 9 := by rw [← hXe]; rfl
        obtain ⟨Q, hQe⟩ : ∃ Q, apl M (fsumL [N.getD 0 0 * K.getD 3 0, N.getD 1 0 * K.getD 4 0, N.getD 2 0 * K.getD 5 0]) (fsumL [N.getD 3 0 * K.getD 3 0, N.getD 4 0 * K.getD 4 0, N.getD 5 0 * K.getD 5 0]) (fsumL [N.getD 6 0 * K.getD 3 0, N.getD 7 0 * K.getD 4 0, N.getD 8 0 * K.getD 5 0]) = Q := ⟨_, rfl⟩
        have hQ : Q.length = 3 := by rw [← hQe]; rfl
        rw [hXe, hQe]
        refine AW.seqR ?_
        refine AWo.pure (PureOp.move rfl) rfl rfl ?_
        refine AWo.nil trivial ?_
        refine AW.block ?_
        refine AW.loopw (fun mm σ => ∃ i, (i ≤ 3) ∧ mm = 3 - i ∧ σ = ⟨(upd (upd (upd (upd (upd (upd (upd (upd emp 7 (.pointer (some ⟨8000, 0, none⟩))) 9 (.pointer (some ⟨10000, 0, none⟩))) 14 (.pointer (some ⟨15000, 0, none⟩))) 15 (.pointer (some ⟨16000, 0, none⟩))) 16 (.pointer (some ⟨17000, 0, none⟩))) 17 (.pointer (some ⟨18000, 0, none⟩))) 18 (.pointer (some ⟨19000, 0, none⟩))) 79 (vi .i64 i)), (upd (upd (upd (upd (upd (upd (upd emp 8000 ⟨((M.map fe).flatten).map (vi .u64), true, 1⟩) 10000 ⟨((N.map fe).flatten).map (vi .u64), true, 1⟩) 15000 ⟨((X.map fe).flatten).map (vi .u64), true, 1⟩) 16000 ⟨((X.map fe).flatten).map (vi .u64), true, 1⟩) 17000 ⟨((Q.map fe).flatten).map (vi .u64), true, 1⟩) 18000 ⟨((Q.map fe).flatten).map (vi .u64), true, 1⟩) 19000 ⟨((M.map fe).flatten).map (vi .u64), true, 1⟩)⟩) (fm := []) ?_ ⟨0, by omega, rfl, rfl⟩ ?_
        ·
          refine Wk.of [8000, 10000, 15000, 16000, 17000, 18000, 19000] ?_ ?_ ?_ (by decide) rfl
          ·
            refine WkE.upd rfl (by first | exact VR.flat _ rfl | exact VR.eqv (vp_succ _) rfl | exact VR.eqv (vp_succ _).symm rfl | exact VR.eqv (by first | rfl | (congr 1; omega) | (simp; done) | (simp; omega)) rfl) ?_
            refine WkE.upd rfl (.ptr (19000) 0 ⟨_, rfl⟩) ?_
            refine WkE.upd rfl (.ptr (18000) 0 ⟨_, rfl⟩) ?_
            refine WkE.upd rfl (.ptr (17000) 0 ⟨_, rfl⟩) ?_
            refine WkE.upd rfl (.ptr (16000) 0 ⟨_, rfl⟩) ?_
            refine WkE.upd rfl (.ptr (15000) 0 ⟨_, rfl⟩) ?_
            refine WkE.upd rfl (.ptr (10000) 0 ⟨_, rfl⟩) ?_
            refine WkE.upd rfl (.ptr (8000) 0 ⟨_, rfl⟩) ?_
            exact WkE.emp
          ·
            refine WkM.flat rfl (flatM flat_vi) (fun h => h) ?_
            refine WkM.flat rfl (flatM flat_vi) (fun h => h) ?_
            refine WkM.flat rfl (flatM flat_vi) (fun h => h) ?_
            refine WkM.flat rfl (flatM flat_vi) (fun h => h) ?_
            refine WkM.flat rfl (flatM flat_vi) (fun h => h) ?_
            refine WkM.flat rfl (flatM flat_vi) (fun h => h) ?_
            refine WkM.flat rfl (flatM flat_vi) (fun h => h) ?_
            exact WkM.emp
          ·
            repeat (refine dom_upd_mem (by decide) ?_)
            exact dom_emp
        ·
          rintro mm σ ⟨i, hinv, rfl, rfl⟩
          refine AW.seqR ?_
          first | refine AWo.pure (PureOp.ltN (b := 3) rfl rfl) rfl rfl ?_ | refine AWo.pure (PureOp.bin rfl rfl rfl) rfl rfl ?_
          refine AWo.nil trivial ?_
          refine AW.seq ?_
          refine AW.cond rfl (fun hb3 => ?_) (fun hb3 => ?_)
          ·
            have hi : i < 3 := by simpa using hb3
            refine AW.skip ?_
            refine thenA_normal ?_
            refine AW.seq ?_
            refine AW.block ?_
            refine AW.seqR ?_
            refine AWo.pure (PureOp.move rfl) rfl rfl ?_
            refine AWo.pure (PureOp.assign rfl) rfl rfl ?_
            refine AWo.nil trivial ?_
            refine AW.seq ?_
            refine AW.seqD mixed ?_
            refine AWo.pure (PureOp.move rfl) rfl rfl ?_
            first | refine AWo.pure (PureOp.arr1 tbok rfl rfl rfl rfl (by first | decide | omega)) rfl rfl ?_ | refine AWo.pure (PureOp.arr tbok rfl rfl rfl rfl (by first | decide | omega)) rfl rfl ?_
            refine yLJ (xs := Q) (i) ?_
            refine AWo.pure (PureOp.move rfl) rfl rfl ?_
            first | refine AWo.pure (PureOp.arr1 tbok rfl rfl rfl rfl (by first | decide | omega)) rfl rfl ?_ | refine AWo.pure (PureOp.arr tbok rfl rfl rfl rfl (by first | decide | omega)) rfl rfl ?_
            refine yLJ (xs := Q) (i) ?_
            refine AWo.callX (v := .bool true) (equalF_ctr (x := Q.getD i 0) (y := Q.getD i 0)) bd19 [] [] rfl (.cons rfl (.cons rfl .nil)) rfl (.pure (by first | rfl | exact pure_aggM flat_vi | exact pure_aggM flat_bool) (.pure (by first | rfl | exact pure_aggM flat_vi | exact pure_aggM flat_bool) .nil)) .nil rfl .nil frN (by decide) (.cons rfl rfl .nil) (congrArg Value.bool (decide_eq_true (rfl))) rfl rfl rfl ?_
            first | refine AWo.pure ((PureOp.not rfl).mono (v' := .bool false) (congrArg Value.bool (by rfl))) rfl rfl ?_
            refine AWo.nil (by kernel_rfl) ?_
            refine AW.condF rfl ?_
            refine AW.skip ?_
            refine thenA_normal ?_
            refine AW.seqR ?_
            refine AWo.pure (PureOp.move rfl) rfl rfl ?_
            refine AWo.nil trivial ?_
            refine AW.block ?_
            refine AW.loopw (fun mm σ => ∃ j, (j ≤ 3) ∧ mm = 3 - j ∧ σ = ⟨(upd (upd (upd (upd (upd (upd (upd (upd (upd (upd emp 7 (.pointer (some ⟨8000, 0, none⟩))) 9 (.pointer (some ⟨10000, 0, none⟩))) 14 (.pointer (some ⟨15000, 0, none⟩))) 15 (.pointer (some ⟨16000, 0, none⟩))) 16 (.pointer (some ⟨17000, 0, none⟩))) 17 (.pointer (some ⟨18000, 0, none⟩))) 18 (.pointer (some ⟨19000, 0, none⟩))) 19 (vi .i64 i)) 79 (vi .i64 i)) 90 (vi .i64 j)), (upd (upd (upd (upd (upd (upd (upd emp 8000 ⟨((M.map fe).flatten).map (vi .u64), true, 1⟩) 10000 ⟨((N.map fe).flatten).map (vi .u64), true, 1⟩) 15000 ⟨((X.map fe).flatten).map (vi .u64), true, 1⟩) 16000 ⟨((X.map fe).flatten).map (vi .u64), true, 1⟩) 17000 ⟨((Q.map fe).flatten).map (vi .u64), true, 1⟩) 18000 ⟨((Q.map fe).flatten).map (vi .u64), true, 1⟩) 19000 ⟨((M.map fe).flatten).map (vi .u64), true, 1⟩)⟩) (fm := []) ?_ ⟨0, by omega, rfl, rfl⟩ ?_
            ·
              refine Wk.of [8000, 10000, 15000, 16000, 17000, 18000, 19000] ?_ ?_ ?_ (by decide) rfl
              ·
                refine WkE.upd rfl (by first | exact VR.flat _ rfl | exact VR.eqv (vp_succ _) rfl | exact VR.eqv (vp_succ _).symm rfl | exact VR.eqv (by first | rfl | (congr 1; omega) | (simp; done) | (simp; omega)) rfl) ?_
                refine WkE.upd rfl (by first | exact VR.flat _ rfl | exact VR.eqv (vp_succ _) rfl | exact VR.eqv (vp_succ _).symm rfl | exact VR.eqv (by first | rfl | (congr 1; omega) | (simp; done) | (simp; omega)) rfl) ?_
                refine WkE.upd rfl (by first | exact VR.flat _ rfl | exact VR.eqv (vp_succ _) rfl | exact VR.eqv (vp_succ _).symm rfl | exact VR.eqv (by first | rfl | (congr 1; omega) | (simp; done) | (simp; omega)) rfl) ?_
                refine WkE.upd rfl (.ptr (19000) 0 ⟨_, rfl⟩) ?_
                refine WkE.upd rfl (.ptr (18000) 0 ⟨_, rfl⟩) ?_
                refine WkE.upd rfl (.ptr (17000) 0 ⟨_, rfl⟩) ?_
                refine WkE.upd rfl (.ptr (16000) 0 ⟨_, rfl⟩) ?_
                refine WkE.upd rfl (.ptr (15000) 0 ⟨_, rfl⟩) ?_
                refine WkE.upd rfl (.ptr (10000) 0 ⟨_, rfl⟩) ?_
                refine WkE.upd rfl (.ptr (8000) 0 ⟨_, rfl⟩) ?_
                exact WkE.emp
              ·
                refine WkM.flat rfl (flatM flat_vi) (fun h => h) ?_
                refine WkM.flat rfl (flatM flat_vi) (fun h => h) ?_
                refine WkM.flat rfl (flatM flat_vi) (fun h => h) ?_
                refine WkM.flat rfl (flatM flat_vi) (fun h => h) ?_
                refine WkM.flat rfl (flatM flat_vi) (fun h => h) ?_
                refine WkM.flat rfl (flatM flat_vi) (fun h => h) ?_
                refine WkM.flat rfl (flatM flat_vi) (fun h => h) ?_
                exact WkM.emp
              ·
                repeat (refine dom_upd_mem (by decide) ?_)
                exact dom_emp
            ·
              rintro mm σ ⟨j, hinv, rfl, rfl⟩
              refine AW.seqR ?_
              first | refine AWo.pure (PureOp.ltN (b := 3) rfl rfl) rfl rfl ?_ | refine AWo.pure (PureOp.bin rfl rfl rfl) rfl rfl ?_
              refine AWo.nil trivial ?_
              refine AW.seq ?_
              refine AW.cond rfl (fun hb4 => ?_) (fun hb4 => ?_)
              ·
                have hj : j < 3 := by simpa using hb4
                refine AW.skip ?_
                refine thenA_normal ?_
                refine AW.seq ?_
                refine AW.block ?_
                refine AW.seqR ?_
                refine AWo.pure (PureOp.move rfl) rfl rfl ?_
                refine AWo.pure (PureOp.assign rfl) rfl rfl ?_
                refine AWo.nil trivial ?_
                refine AW.seqD mixed ?_
                refine AWo.pure (PureOp.move rfl) rfl rfl ?_
                refine AWo.pure (PureOp.move rfl) rfl rfl ?_
                first | refine AWo.pure (PureOp.arr1 tbok rfl rfl rfl rfl (by first | decide | omega)) rfl rfl ?_ | refine AWo.pure (PureOp.arr tbok rfl rfl rfl rfl (by first | decide | omega)) rfl rfl ?_
                first | refine AWo.pure (PureOp.arr1 tbok rfl rfl rfl rfl (by first | decide | omega)) rfl rfl ?_ | refine AWo.pure (PureOp.arr tbok rfl rfl rfl rfl (by first | decide | omega)) rfl rfl ?_
                refine yLJ (xs := X) (i * 3 + j) ?_
                refine AWo.pure (PureOp.move rfl) rfl rfl ?_
                refine AWo.pure (PureOp.move rfl) rfl rfl ?_
                first | refine AWo.pure (PureOp.arr1 tbok rfl rfl rfl rfl (by first | decide | omega)) rfl rfl ?_ | refine AWo.pure (PureOp.arr tbok rfl rfl rfl rfl (by first | decide | omega)) rfl rfl ?_
                first | refine AWo.pure (PureOp.arr1 tbok rfl rfl rfl rfl (by first | decide | omega)) rfl rfl ?_ | refine AWo.pure (PureOp.arr tbok rfl rfl rfl rfl (by first | decide | omega)) rfl rfl ?_
                refine yLJ (xs := X) (i * 3 + j) ?_
                refine AWo.callX (v := .bool true) (equalF_ctr (x := X.getD (i * 3 + j) 0) (y := X.getD (i * 3 + j) 0)) bd19 [] [] rfl (.cons rfl (.cons rfl .nil)) rfl (.pure (by first | rfl | exact pure_aggM flat_vi | exact pure_aggM flat_bool) (.pure (by first | rfl | exact pure_aggM flat_vi | exact pure_aggM flat_bool) .nil)) .nil rfl .nil frN (by decide) (.cons rfl rfl .nil) (congrArg Value.bool (decide_eq_true (rfl))) rfl rfl rfl ?_
                first | refine AWo.pure ((PureOp.not rfl).mono (v' := .bool false) (congrArg Value.bool (by rfl))) rfl rfl ?_
                refine AWo.pure (PureOp.move rfl) rfl rfl ?_
                refine AWo.pure (PureOp.move rfl) rfl rfl ?_
                refine AWo.pure (PureOp.move rfl) rfl rfl ?_
                first | refine AWo.pure (PureOp.arr1 tbok rfl rfl rfl rfl (by first | decide | omega)) rfl rfl ?_ | refine AWo.pure (PureOp.arr tbok rfl rfl rfl rfl (by first | decide | omega)) rfl rfl ?_
                first | refine AWo.pure (PureOp.arr1 tbok rfl rfl rfl rfl (by first | decide | omega)) rfl rfl ?_ | refine AWo.pure (PureOp.arr tbok rfl rfl rfl rfl (by first | decide | omega)) rfl rfl ?_
                refine yLJ (xs := M) (i * 3 + j) ?_
                refine AWo.pure (PureOp.move rfl) rfl rfl ?_
                refine AWo.pure (PureOp.move rfl) rfl rfl ?_
                first | refine AWo.pure (PureOp.arr1 tbok rfl rfl rfl rfl (by first | decide | omega)) rfl rfl ?_ | refine AWo.pure (PureOp.arr tbok rfl rfl rfl rfl (by first | decide | omega)) rfl rfl ?_
                first | refine AWo.pure (PureOp.arr1 tbok rfl rfl rfl rfl (by first | decide | omega)) rfl rfl ?_ | refine AWo.pure (PureOp.arr tbok rfl rfl rfl rfl (by first | decide | omega)) rfl rfl ?_
                refine yLJ (xs := M) (i * 3 + j) ?_
                refine AWo.callX (v := .bool true) (equalF_ctr (x := M.getD (i * 3 + j) 0) (y := M.getD (i * 3 + j) 0)) bd19 [] [] rfl (.cons rfl (.cons rfl .nil)) rfl (.pure (by first | rfl | exact pure_aggM flat_vi | exact pure_aggM flat_bool) (.pure (by first | rfl | exact pure_aggM flat_vi | exact pure_aggM flat_bool) .nil)) .nil rfl .nil frN (by decide) (.cons rfl rfl .nil) (congrArg Value.bool (decide_eq_true (rfl))) rfl rfl rfl ?_
                first | refine AWo.pure ((PureOp.not rfl).mono (v' := .bool false) (congrArg Value.bool (by rfl))) rfl rfl ?_
                refine AWo.pure (PureOp.pickF rfl rfl) rfl rfl ?_
                refine AWo.nil (by kernel_rfl) ?_
                refine AW.condF rfl ?_
                refine AW.skip ?_
                refine inBlockA_normal ?_
                refine thenA_normal ?_
                refine AW.region ?_
                first | refine AWo.pure (PureOp.addI (b := 1) rfl rfl (by first | decide | omega)) rfl rfl ?_ | refine AWo.pure (PureOp.bin rfl rfl rfl) rfl rfl ?_
                refine AWo.pure (PureOp.move rfl) rfl rfl ?_
                refine AWo.nil trivial ?_
                refine thenA_normal ?_
                refine ⟨3 - (j + 1), [], _, by omega, ?_, j + 1, by omega, rfl, rfl⟩
                refine Wk.of [8000, 10000, 15000, 16000, 17000, 18000, 19000] ?_ ?_ ?_ (by decide) rfl
                ·
                  refine WkE.upd rfl (by first | exact VR.flat _ rfl | exact VR.eqv (vp_succ _) rfl | exact VR.eqv (vp_succ _).symm rfl | exact VR.eqv (by first | rfl | (congr 1; omega) | (simp; done) | (simp; omega)) rfl) ?_
                  refine WkE.upd rfl (by first | exact VR.flat _ rfl | exact VR.eqv (vp_succ _) rfl | exact VR.eqv (vp_succ _).symm rfl | exact VR.eqv (by first | rfl | (congr 1; omega) | (simp; done) | (simp; omega)) rfl) ?_
                  refine WkE.upd rfl (by first | exact VR.flat _ rfl | exact VR.eqv (vp_succ _) rfl | exact VR.eqv (vp_succ _).symm rfl | exact VR.eqv (by first | rfl | (congr 1; omega) | (simp; done) | (simp; omega)) rfl) ?_
                  refine WkE.upd rfl (.ptr (19000) 0 ⟨_, rfl⟩) ?_
                  refine WkE.upd rfl (.ptr (18000) 0 ⟨_, rfl⟩) ?_
                  refine WkE.upd rfl (.ptr (17000) 0 ⟨_, rfl⟩) ?_
                  refine WkE.upd rfl (.ptr (16000) 0 ⟨_, rfl⟩) ?_
                  refine WkE.upd rfl (.ptr (15000) 0 ⟨_, rfl⟩) ?_
                  refine WkE.upd rfl (.ptr (10000) 0 ⟨_, rfl⟩) ?_
                  refine WkE.upd rfl (.ptr (8000) 0 ⟨_, rfl⟩) ?_
                  exact WkE.emp
                ·
                  refine WkM.flat rfl (flatM flat_vi) (fun h => h) ?_
                  refine WkM.flat rfl (flatM flat_vi) (fun h => h) ?_
                  refine WkM.flat rfl (flatM flat_vi) (fun h => h) ?_
                  refine WkM.flat rfl (flatM flat_vi) (fun h => h) ?_
                  refine WkM.flat rfl (flatM flat_vi) (fun h => h) ?_
                  refine WkM.flat rfl (flatM flat_vi) (fun h => h) ?_
                  refine WkM.flat rfl (flatM flat_vi) (fun h => h) ?_
                  exact WkM.emp
                ·
                  repeat (refine dom_upd_mem (by decide) ?_)
                  exact dom_emp
              ·
                refine AW.exit ?_
                refine thenA_exit ?_
                refine thenA_exit ?_
                refine inBlockA_hit ?_
                refine inBlockA_normal ?_
                refine thenA_normal ?_
                refine AW.region ?_
                first | refine AWo.pure (PureOp.addI (b := 1) rfl rfl (by first | decide | omega)) rfl rfl ?_ | refine AWo.pure (PureOp.bin rfl rfl rfl) rfl rfl ?_
                refine AWo.pure (PureOp.move rfl) rfl rfl ?_
                refine AWo.nil trivial ?_
                refine thenA_normal ?_
                refine ⟨3 - (i + 1), [], _, by omega, ?_, i + 1, by omega, rfl, rfl⟩
                refine Wk.of [8000, 10000, 15000, 16000, 17000, 18000, 19000] ?_ ?_ ?_ (by decide) rfl
                ·
                  refine WkE.upd rfl (by first | exact VR.flat _ rfl | exact VR.eqv (vp_succ _) rfl | exact VR.eqv (vp_succ _).symm rfl | exact VR.eqv (by first | rfl | (congr 1; omega) | (simp; done) | (simp; omega)) rfl) ?_
                  refine WkE.upd rfl (.ptr (19000) 0 ⟨_, rfl⟩) ?_
                  refine WkE.upd rfl (.ptr (18000) 0 ⟨_, rfl⟩) ?_
                  refine WkE.upd rfl (.ptr (17000) 0 ⟨_, rfl⟩) ?_
                  refine WkE.upd rfl (.ptr (16000) 0 ⟨_, rfl⟩) ?_
                  refine WkE.upd rfl (.ptr (15000) 0 ⟨_, rfl⟩) ?_
                  refine WkE.upd rfl (.ptr (10000) 0 ⟨_, rfl⟩) ?_
                  refine WkE.upd rfl (.ptr (8000) 0 ⟨_, rfl⟩) ?_
                  exact WkE.emp
                ·
                  refine WkM.flat rfl (flatM flat_vi) (fun h => h) ?_
                  refine WkM.flat rfl (flatM flat_vi) (fun h => h) ?_
                  refine WkM.flat rfl (flatM flat_vi) (fun h => h) ?_
                  refine WkM.flat rfl (flatM flat_vi) (fun h => h) ?_
                  refine WkM.flat rfl (flatM flat_vi) (fun h => h) ?_
                  refine WkM.flat rfl (flatM flat_vi) (fun h => h) ?_
                  refine WkM.flat rfl (flatM flat_vi) (fun h => h) ?_
                  exact WkM.emp
                ·
                  repeat (refine dom_upd_mem (by decide) ?_)
                  exact dom_emp
          ·
            refine AW.exit ?_
            refine thenA_exit ?_
            refine thenA_exit ?_
            refine inBlockA_hit ?_
            refine thenA_normal ?_
            refine AW.seqD mixed ?_
            refine yLM (xs := M) 9 ?_
            refine yLM (xs := N) 9 ?_
            refine AWo.callX (mulM_ctr (M := M) (N := N) hM hN) bd48 [] [] rfl (.cons rfl (.cons rfl .nil)) rfl (.pure (by first | rfl | exact pure_aggM flat_vi | exact pure_aggM flat_bool) (.pure (by first | rfl | exact pure_aggM flat_vi | exact pure_aggM flat_bool) .nil)) .nil rfl .nil frN (by decide) (.pure (by first | rfl | exact pure_aggM flat_vi | exact pure_aggM flat_bool) .nil) rfl rfl rfl rfl ?_
            refine AWo.callX (det_ctr (M := tab (mmF M N)) rfl) bd43 [] [] rfl (.cons rfl .nil) rfl (.pure (by first | rfl | exact pure_aggM flat_vi | exact pure_aggM flat_bool) .nil) .nil rfl .nil frN (by decide) (.pure (by first | rfl | exact pure_aggM flat_vi | exact pure_aggM flat_bool) .nil) rfl rfl rfl rfl ?_
            refine yLM (xs := M) 9 ?_
            refine AWo.callX (det_ctr (M := M) hM) bd43 [] [] rfl (.cons rfl .nil) rfl (.pure (by first | rfl | exact pure_aggM flat_vi | exact pure_aggM flat_bool) .nil) .nil rfl .nil frN (by decide) (.pure (by first | rfl | exact pure_aggM flat_vi | exact pure_aggM flat_bool) .nil) rfl rfl rfl rfl ?_
            refine yLM (xs := N) 9 ?_
            refine AWo.callX (det_ctr (M := N) hN) bd43 [] [] rfl (.cons rfl .nil) rfl (.pure (by first | rfl | exact pure_aggM flat_vi | exact pure_aggM flat_bool) .nil) .nil rfl .nil frN (by decide) (.pure (by first | rfl | exact pure_aggM flat_vi | exact pure_aggM flat_bool) .nil) rfl rfl rfl rfl ?_
            refine AWo.callX (mulF_ctr) bd35 [] [] rfl (.cons rfl (.cons rfl .nil)) rfl (.pure (by first | rfl | exact pure_aggM flat_vi | exact pure_aggM flat_bool) (.pure (by first | rfl | exact pure_aggM flat_vi | exact pure_aggM flat_bool) .nil)) .nil rfl .nil frN (by decide) (.pure (by first | rfl | exact pure_aggM flat_vi | exact pure_aggM flat_bool) .nil) rfl rfl rfl rfl ?_
            refine AWo.callX (v := .bool true) (equalF_ctr (x := dtm (tab (mmF M N))) (y := dtm M * dtm N)) bd19 [] [] rfl (.cons rfl (.cons rfl .nil)) rfl (.pure (by first | rfl | exact pure_aggM flat_vi | exact pure_aggM flat_bool) (.pure (by first | rfl | exact pure_aggM flat_vi | exact pure_aggM flat_bool) .nil)) .nil rfl .nil frN (by decide) (.cons rfl rfl .nil) (congrArg Value.bool (decide_eq_true (dtm_mm hM hN))) rfl rfl rfl ?_
            refine AWo.pure (PureOp.move rfl) rfl rfl ?_
            refine AWo.callX (unitM_ctr) bd50 [] [] rfl .nil rfl .nil .nil rfl .nil frN (by decide) (.pure (by first | rfl | exact pure_aggM flat_vi | exact pure_aggM flat_bool) .nil) rfl rfl rfl rfl ?_
            refine AWo.callX (det_ctr (M := tab (fun i j => if i = j then fp 1 else 0)) rfl) bd43 [] [] rfl (.cons rfl .nil) rfl (.pure (by first | rfl | exact pure_aggM flat_vi | exact pure_aggM flat_bool) .nil) .nil rfl .nil frN (by decide) (.pure (by first | rfl | exact pure_aggM flat_vi | exact pure_aggM flat_bool) .nil) rfl rfl rfl rfl ?_
            refine AWo.callX (fromuF_ctr (v := 1) (by decide)) bd37 [] [] rfl (.cons rfl .nil) rfl (.cons rfl rfl .nil) .nil rfl .nil frN (by decide) (.pure (by first | rfl | exact pure_aggM flat_vi | exact pure_aggM flat_bool) .nil) rfl rfl rfl rfl ?_
            refine AWo.callX (v := .bool true) (equalF_ctr (x := dtm (tab (fun i j => if i = j then fp 1 else 0))) (y := fp 1)) bd19 [] [] rfl (.cons rfl (.cons rfl .nil)) rfl (.pure (by first | rfl | exact pure_aggM flat_vi | exact pure_aggM flat_bool) (.pure (by first | rfl | exact pure_aggM flat_vi | exact pure_aggM flat_bool) .nil)) .nil rfl .nil frN (by decide) (.cons rfl rfl .nil) (congrArg Value.bool (decide_eq_true (dtm_unit))) rfl rfl rfl ?_
            refine AWo.pure (PureOp.pickT rfl rfl) rfl rfl ?_
            refine AWo.pure (PureOp.assign rfl) rfl rfl ?_
            refine AWo.nil (by kernel_rfl) ?_
            refine AW.ret ?_
            refine RetQ.gc [_] [] [.tmp 6] (.inl rfl) rfl (.tmp rfl .nil) rfl (.cons rfl rfl .nil) trivial (by decide) rfl
end Go.Proofs.Yteeifahhejangaa
namespace Go.Proofs.Yteeifahhejangaa
open Go
namespace Head
set_option maxRecDepth 100000 in
theorem words : ∃ l, Try.prog.initOrder = String.ofList l ∧ (behindMainWord (wordsSigns l)).head? = some "cut".toList := ⟨_, rfl, by kernel_rfl⟩
theorem head_of {P : Program} (h : ∃ l, P.initOrder = String.ofList l ∧ (behindMainWord (wordsSigns l)).head? = some "cut".toList) :
    ∃ rest, behindMainWord (wordsSigns P.initOrder.toList) = "cut".toList :: rest := by
  obtain ⟨l, h, hh⟩ := h
  rw [h, String.toList_ofList]
  cases hb : behindMainWord (wordsSigns l) with
  | nil => rw [hb] at hh; cases hh
  | cons c r => rw [hb] at hh; simp only [List.head?_cons, Option.some.injEq] at hh; exact ⟨r, by rw [hh]⟩
theorem cut_words : (liftWords.all fun s => !("cut".toList == s.toList)) = true := by decide +kernel
theorem strip_cut (rest : List (List Char)) : stripLifts liftWords ("cut".toList :: rest) = ([], "cut".toList :: rest) := by
  have key : ∀ o : List String, (o.all fun s => !("cut".toList == s.toList)) = true → stripLifts o ("cut".toList :: rest) = ([], "cut".toList :: rest) := by
    intro o
    induction o with
    | nil => intro _; rfl
    | cons s o ih =>
      intro h
      simp only [List.all_cons, Bool.and_eq_true, Bool.not_eq_true'] at h
      rw [stripLifts, if_neg (by rw [h.1]; exact Bool.false_ne_true)]
      exact ih h.2
  exact key liftWords cut_words
theorem mayEnter_of {P : Program} {rest : List (List Char)} (hr : behindMainWord (wordsSigns P.initOrder.toList) = "cut".toList :: rest) (e1 : P.laysLater = false) (e2 : P.bearsReflect = false) (e3 : P.doorFits [] = true) : P.mayEnter = true := by
  unfold Program.mayEnter
  rw [hr]
  simp only [strip_cut, e1, e2, e3]
  simp
theorem headLifts_of {P : Program} {rest : List (List Char)} (hr : behindMainWord (wordsSigns P.initOrder.toList) = "cut".toList :: rest) : P.headLifts = [] := by
  unfold Program.headLifts
  rw [hr, strip_cut]
  simp
theorem cut_ne : ("cut".toList == "carried".toList) = false ∧ ("cut".toList == "gc".toList) = false ∧ ("cut".toList == "spec".toList) = false := by decide +kernel
theorem liftsFinal_of {P : Program} {rest : List (List Char)} (hr : behindMainWord (wordsSigns P.initOrder.toList) = "cut".toList :: rest) : P.liftsFinal = false := by
  unfold Program.liftsFinal
  rw [hr, headLifts_of hr]
  simp
theorem make_of {P : Program} {rest : List (List Char)} (hr : behindMainWord (wordsSigns P.initOrder.toList) = "cut".toList :: rest) : P.make = some .cut := by
  unfold Program.make
  rw [hr]
  simp only [cut_ne.2.1, cut_ne.2.2, beq_self_eq_true]
  simp
theorem laysLater : Try.prog.laysLater = false := by kernel_rfl
theorem bearsReflect : Try.prog.bearsReflect = false := by kernel_rfl
theorem doorFits : Try.prog.doorFits [] = true := by kernel_rfl
theorem mayEnter : Try.prog.mayEnter = true := let ⟨_, hr⟩ := head_of words; mayEnter_of hr laysLater bearsReflect doorFits
theorem liftsFinal : Try.prog.liftsFinal = false := let ⟨_, hr⟩ := head_of words; liftsFinal_of hr
theorem make_cut : Try.prog.make = some .cut := let ⟨_, hr⟩ := head_of words; make_of hr
theorem band {a b : Bool} (ha : a = true) (hb : b = true) : (a && b) = true := by rw [ha, hb]; rfl
end Head
end Go.Proofs.Yteeifahhejangaa
