/- What the proof stands on, part 5: the walk of each function, and plain laws of numbers. -/
import Derived.Test.YteeifahhejangaaK4
import Derived.Test.YteeifahhejangaaRows
import Derived.ProofKit
namespace Go.Proofs.Yteeifahhejangaa
open Go Sim
def nb (b : List Nat) : Fp := fp (num 256 b)
theorem nb_step {Ls : List (List Nat)} {i : Nat} (h : i < Ls.length) : (Ls.take i).map nb ++ [nb (Ls.getD i [])] = (Ls.take (i + 1)).map nb := by
  rw [List.take_succ_eq_append_getElem h, List.map_append, List.getD_eq_getElem?_getD, List.getElem?_eq_getElem h]; rfl
theorem finv_one : finv (fp 1) = fp 1 := by
  have h := mul_finv (x := fp 1) (by decide)
  have e : fp 1 * finv (fp 1) = finv (fp 1) := Rg.one_mul _
  rw [e] at h; exact h
theorem thr13 : thr [fp 1, fp 3] = [fp 1, fp 2] := by
  unfold thr
  have e : difN [fp 1, fp 3] ([fp 1, fp 3].length - 1) = inn [fp 1, fp 3] (fp 1) 2 1 := by
    show inn [fp 1, fp 3] (finv (fp (0 + 1))) 2 1 = _
    rw [finv_one]
  rw [e]
  decide +kernel
def fewB (Ls : List (List Nat)) (most : Nat) : Bool := (Ls.all fun b => decide (b.length ≤ 40)) && decide (Ls.length ≤ most)
theorem fewB_ok {Ls : List (List Nat)} {most : Nat} (h : ∀ b ∈ Ls, b.length ≤ 40) : fewB Ls most = decide (Ls.length ≤ most) := by
  rw [fewB, List.all_eq_true.2 fun b hb => decide_eq_true (h b hb), Bool.true_and]
theorem fewB_bad {Ls : List (List Nat)} {most i : Nat} (hi : i < Ls.length) (h : 40 < (Ls.getD i []).length) : fewB Ls most = false := by
  have : (Ls.all fun b => decide (b.length ≤ 40)) = false := by
    rw [← Bool.not_eq_true, List.all_eq_true]
    intro hh
    have h2 := of_decide_eq_true (hh (Ls.getD i []) (by rw [List.getD_eq_getElem?_getD, List.getElem?_eq_getElem hi]; exact List.getElem_mem _))
    omega
  rw [fewB, this, Bool.false_and]
theorem fewB_get {Ls : List (List Nat)} {most : Nat} (h : fewB Ls most = true) : (∀ b ∈ Ls, b.length ≤ 40) ∧ Ls.length ≤ most := by
  rw [fewB, Bool.and_eq_true, List.all_eq_true] at h
  exact ⟨fun b hb => of_decide_eq_true (h.1 b hb), of_decide_eq_true h.2⟩
theorem ofb_short {b : List Nat} (h : bd 256 b) (hl : b.length ≤ 40) : (D 4294967296 (num 256 b)).length < 1000000 := by
  have h1 : num 256 b < 256 ^ 40 := Nat.lt_of_lt_of_le (num_lt h) (Nat.pow_le_pow_right (by decide) hl)
  have h2 := (D_len_le (B := 4294967296) (by decide) (num 256 b) 10).2 (Nat.lt_of_lt_of_le h1 (by decide))
  omega
theorem speaks22_ctr : GC Try.prog 23 [] [] [.bool true] [] := by
  refine GC.intro Try.func23 rfl (by show 0 ≤ 30; decide) (by first | exact Nat.le_refl _ | decide | simp) ?_
  refine AW.seqR ?_
  refine AWo.pure (PureOp.assign rfl) rfl rfl ?_
  refine AWo.nil trivial ?_
  refine AW.seqR ?_
  refine AWo.callX (fromuF_ctr (v := 1) (by decide)) bd37 [] [] rfl (.cons rfl .nil) rfl (.cons rfl rfl .nil) .nil rfl .nil frN (by decide) (.pure (by first | rfl | exact pure_aggM flat_vi | exact pure_aggM flat_bool) .nil) rfl rfl rfl rfl ?_
  refine AWo.callX (fromuF_ctr (v := 3) (by decide)) bd37 [] [] rfl (.cons rfl .nil) rfl (.cons rfl rfl .nil) .nil rfl .nil frN (by decide) (.pure (by first | rfl | exact pure_aggM flat_vi | exact pure_aggM flat_bool) .nil) rfl rfl rfl rfl ?_
  refine AWo.buildSlice tbok 5000 [(0, .agg ((fe (fp 1)).map (vi .u64)).toArray), (1, .agg ((fe (fp 3)).map (vi .u64)).toArray)] (out := FF [fp 1, fp 3]) rfl rfl (by decide) rfl rfl rfl (by decide) rfl fillB2 rfl rfl rfl ?_
  refine AWo.callX (thrp_ctr (vs := [fp 1, fp 3]) (n := 2) rfl (by decide)) bd38 [(5000, 0)] [6000] rfl (.cons rfl .nil) rfl (.cons rfl rfl .nil) (.flat rfl (flatM flat_vi) (by intro h; first | exact h | rfl) .nil) rfl (.keep rfl (.new (flat_map_ren (flatM flat_vi)) (OkL.flat (flatM flat_vi)) .nil)) (frC rfl frN) (by decide) (.cons rfl rfl .nil) rfl rfl rfl rfl ?_
  refine AWo.pure (PureOp.assign rfl) rfl rfl ?_
  refine AWo.nil trivial ?_
  rw [thr13]
  refine AW.seqD mixed ?_
  refine AWo.pure (PureOp.move rfl) rfl rfl ?_
  first | refine AWo.pure (PureOp.lenS tbok rfl rfl) rfl rfl ?_ | refine AWo.pure (PureOp.lenD tbok rfl rfl) rfl rfl ?_
  first | refine AWo.pure (PureOp.eqN (b := 2) rfl rfl) rfl rfl ?_ | refine AWo.pure (PureOp.bin rfl rfl rfl) rfl rfl ?_
  refine AWo.pure (PureOp.move rfl) rfl rfl ?_
  refine AWo.pure (PureOp.move rfl) rfl rfl ?_
  first | refine AWo.pure (PureOp.idx1 (j := 0) tbok rfl rfl rfl rfl (by first | decide | omega)) rfl rfl ?_ | refine AWo.pure (PureOp.idx (j := 0) tbok rfl rfl rfl rfl (by first | decide | omega)) rfl rfl ?_
  refine yLJ (xs := [fp 1, fp 2]) 0 ?_ (ho := by exact rfl)
  refine AWo.callX (fromuF_ctr (v := 1) (by decide)) bd37 [] [] rfl (.cons rfl .nil) rfl (.cons rfl rfl .nil) .nil rfl .nil frN (by decide) (.pure (by first | rfl | exact pure_aggM flat_vi | exact pure_aggM flat_bool) .nil) rfl rfl rfl rfl ?_
  refine AWo.callX (v := .bool true) (equalF_ctr (x := fp 1) (y := fp 1)) bd19 [] [] rfl (.cons rfl (.cons rfl .nil)) rfl (.pure (by first | rfl | exact pure_aggM flat_vi | exact pure_aggM flat_bool) (.pure (by first | rfl | exact pure_aggM flat_vi | exact pure_aggM flat_bool) .nil)) .nil rfl .nil frN (by decide) (.cons rfl rfl .nil) (congrArg Value.bool (decide_eq_true (rfl))) rfl rfl rfl ?_
  refine AWo.pure (PureOp.pickT rfl rfl) rfl rfl ?_
  refine AWo.pure (PureOp.move rfl) rfl rfl ?_
  refine AWo.pure (PureOp.move rfl) rfl rfl ?_
  first | refine AWo.pure (PureOp.idx1 (j := 1) tbok rfl rfl rfl rfl (by first | decide | omega)) rfl rfl ?_ | refine AWo.pure (PureOp.idx (j := 1) tbok rfl rfl rfl rfl (by first | decide | omega)) rfl rfl ?_
  refine yLJ (xs := [fp 1, fp 2]) 1 ?_ (ho := by exact rfl)
  refine AWo.callX (fromuF_ctr (v := 2) (by decide)) bd37 [] [] rfl (.cons rfl .nil) rfl (.cons rfl rfl .nil) .nil rfl .nil frN (by decide) (.pure (by first | rfl | exact pure_aggM flat_vi | exact pure_aggM flat_bool) .nil) rfl rfl rfl rfl ?_
  refine AWo.callX (v := .bool true) (equalF_ctr (x := fp 2) (y := fp 2)) bd19 [] [] rfl (.cons rfl (.cons rfl .nil)) rfl (.pure (by first | rfl | exact pure_aggM flat_vi | exact pure_aggM flat_bool) (.pure (by first | rfl | exact pure_aggM flat_vi | exact pure_aggM flat_bool) .nil)) .nil rfl .nil frN (by decide) (.cons rfl rfl .nil) (congrArg Value.bool (decide_eq_true (rfl))) rfl rfl rfl ?_
  refine AWo.pure (PureOp.pickT rfl rfl) rfl rfl ?_
  refine AWo.pure (PureOp.move rfl) rfl rfl ?_
  refine AWo.pure (PureOp.move rfl) rfl rfl ?_
  first | refine AWo.pure (PureOp.idx1 (j := 1) tbok rfl rfl rfl rfl (by first | decide | omega)) rfl rfl ?_ | refine AWo.pure (PureOp.idx (j := 1) tbok rfl rfl rfl rfl (by first | decide | omega)) rfl rfl ?_
  refine yLJ (xs := [fp 1, fp 2]) 1 ?_ (ho := by exact rfl)
  refine AWo.callX (v := .bool false) (iszeroF_ctr (x := fp 2)) bd46 [] [] rfl (.cons rfl .nil) rfl (.pure (by first | rfl | exact pure_aggM flat_vi | exact pure_aggM flat_bool) .nil) .nil rfl .nil frN (by decide) (.cons rfl rfl .nil) (congrArg Value.bool (by decide)) rfl rfl rfl ?_
  refine AWo.pure (PureOp.not rfl) rfl rfl ?_
  refine AWo.pure (PureOp.pickT rfl rfl) rfl rfl ?_
  refine AWo.pure (PureOp.assign rfl) rfl rfl ?_
  refine AWo.nil (by kernel_rfl) ?_
  refine AW.ret ?_
  refine RetQ.gc [_] [] [.tmp 0] (.inl rfl) rfl (.tmp rfl .nil) rfl (.cons rfl rfl .nil) trivial (by decide) rfl
theorem few22_ctr {Ls : List (List Nat)} {most : Nat} (hl : Ls.length ≤ 9223372036854775807) (hm : most < 100000000) : GC Try.prog 28 [.slice (some ⟨0, 0, none⟩) Ls.length 0, vi .i64 (most)] [⟨Ls.map (db), false, 1⟩] [.bool (fewB Ls most)] [⟨Ls.map (db), false, 1⟩] := by
  refine GC.intro Try.func28 rfl (by show 2 ≤ 21; decide) (by first | exact Nat.le_refl _ | decide | simp) ?_
  refine AW.seqR ?_
  refine AWo.pure (PureOp.assign rfl) rfl rfl ?_
  refine AWo.nil trivial ?_
  refine AW.seq ?_
  refine AW.seqR ?_
  refine AWo.pure (PureOp.move rfl) rfl rfl ?_
  first | refine AWo.pure (PureOp.lenS tbok rfl rfl) rfl rfl ?_ | refine AWo.pure (PureOp.lenD tbok rfl rfl) rfl rfl ?_
  refine AWo.pure (PureOp.move rfl) rfl rfl ?_
  refine AWo.nil trivial ?_
  refine AW.block ?_
  refine AW.loopw (fun mm σ => ∃ i, (i ≤ Ls.length ∧ ∀ b ∈ Ls.take i, b.length ≤ 40) ∧ mm = Ls.length - i ∧ σ = ⟨(upd (upd (upd (upd (upd emp 0 (.slice (some ⟨0, 0, none⟩) Ls.length 0)) 1 (vi .i64 most)) 7 (.slice (some ⟨0, 0, none⟩) Ls.length 0)) 8 (vi .i64 Ls.length)) 9 (vi .i64 i)), (upd emp 0 ⟨Ls.map db, false, 1⟩)⟩) (fm := []) ?_ ⟨0, ⟨Nat.zero_le _, fun b hb => by simp at hb⟩, rfl, rfl⟩ ?_
  ·
    refine Wk.of [0] ?_ ?_ ?_ (by decide) rfl
    ·
      refine WkE.upd rfl (by first | exact VR.flat _ rfl | exact VR.eqv (vp_succ _) rfl | exact VR.eqv (vp_succ _).symm rfl | exact VR.eqv (by first | rfl | (congr 1; omega) | (simp; done) | (simp; omega)) rfl) ?_
      refine WkE.upd rfl (by first | exact VR.flat _ rfl | exact VR.eqv (vp_succ _) rfl | exact VR.eqv (vp_succ _).symm rfl | exact VR.eqv (by first | rfl | (congr 1; omega) | (simp; done) | (simp; omega)) rfl) ?_
      refine WkE.upd rfl (.slice (0) 0 _ 0 ⟨_, rfl⟩ (by simp) (by simp)) ?_
      refine WkE.upd rfl (by first | exact VR.flat _ rfl | exact VR.eqv (vp_succ _) rfl | exact VR.eqv (vp_succ _).symm rfl | exact VR.eqv (by first | rfl | (congr 1; omega) | (simp; done) | (simp; omega)) rfl) ?_
      refine WkE.upd rfl (.slice (0) 0 _ 0 ⟨_, rfl⟩ (by simp) (by simp)) ?_
      exact WkE.emp
    ·
      refine WkM.cloM rfl rfl (fun _ => rfl) (fun h => h) ?_
      exact WkM.emp
    ·
      repeat (refine dom_upd_mem (by decide) ?_)
      exact dom_emp
  ·
    rintro mm σ ⟨i, ⟨hi0, hs⟩, rfl, rfl⟩
    refine AW.seqR ?_
    first | refine AWo.pure (PureOp.ltN rfl rfl) rfl rfl ?_ | refine AWo.pure (PureOp.bin rfl rfl rfl) rfl rfl ?_
    refine AWo.nil trivial ?_
    refine AW.seq ?_
    refine AW.cond rfl (fun hb0 => ?_) (fun hb0 => ?_)
    ·
      have hi : i < Ls.length := by simpa using hb0
      refine AW.skip ?_
      refine thenA_normal ?_
      refine AW.seq ?_
      refine AW.block ?_
      refine AW.seqR ?_
      refine AWo.pure (PureOp.idx1 tbok (j := i) rfl rfl rfl rfl hi) rfl rfl ?_
      refine AWo.loadM tbok (f := db) [] rfl rfl rfl hi rfl rfl ?_
      refine AWo.pure (PureOp.assign rfl) rfl rfl ?_
      refine AWo.nil trivial ?_
      refine AW.seqR ?_
      refine AWo.pure (PureOp.move rfl) rfl rfl ?_
      first | refine AWo.pure (PureOp.lenS tbok rfl rfl) rfl rfl ?_ | refine AWo.pure (PureOp.lenD tbok rfl rfl) rfl rfl ?_
      first | refine AWo.pure (PureOp.gtN (b := 40) rfl rfl) rfl rfl ?_ | refine AWo.pure (PureOp.bin rfl rfl rfl) rfl rfl ?_
      refine AWo.nil trivial ?_
      refine AW.cond rfl (fun hb1 => ?_) (fun hb1 => ?_)
      ·
        have hgt : 40 < (Ls.getD i []).length := by simpa using hb1
        rw [fewB_bad hi hgt]
        refine AW.seqR ?_
        refine AWo.pure (PureOp.assign rfl) rfl rfl ?_
        refine AWo.nil trivial ?_
        refine AW.ret ?_
        refine inBlockA_ret ?_
        refine thenA_ret ?_
        refine thenA_ret ?_
        refine inBlockA_ret ?_
        refine thenA_ret ?_
        refine RetQ.gc [_] [] [.tmp 4] (.inl rfl) rfl (.tmp rfl .nil) rfl (.cons rfl rfl .nil) (OutL.clo rfl (cloM fun _ => rfl) (by intro h; first | rfl | exact h.elim id fun h => absurd h.1 (by simp)) trivial) (by decide) rfl
      ·
        have hle : (Ls.getD i []).length ≤ 40 := by simpa using hb1
        refine AW.skip ?_
        refine inBlockA_normal ?_
        refine thenA_normal ?_
        refine AW.region ?_
        first | refine AWo.pure (PureOp.addI (b := 1) rfl rfl (by first | decide | omega)) rfl rfl ?_ | refine AWo.pure (PureOp.bin rfl rfl rfl) rfl rfl ?_
        refine AWo.pure (PureOp.move rfl) rfl rfl ?_
        refine AWo.nil trivial ?_
        refine thenA_normal ?_
        refine ⟨Ls.length - (i + 1), [], _, by omega, ?_, i + 1, ⟨by omega, few_step hi hs hle⟩, rfl, rfl⟩
        refine Wk.of [0] ?_ ?_ ?_ (by decide) rfl
        ·
          refine WkE.upd rfl (by first | exact VR.flat _ rfl | exact VR.eqv (vp_succ _) rfl | exact VR.eqv (vp_succ _).symm rfl | exact VR.eqv (by first | rfl | (congr 1; omega) | (simp; done) | (simp; omega)) rfl) ?_
          refine WkE.upd rfl (by first | exact VR.flat _ rfl | exact VR.eqv (vp_succ _) rfl | exact VR.eqv (vp_succ _).symm rfl | exact VR.eqv (by first | rfl | (congr 1; omega) | (simp; done) | (simp; omega)) rfl) ?_
          refine WkE.upd rfl (.slice (0) 0 _ 0 ⟨_, rfl⟩ (by simp) (by simp)) ?_
          refine WkE.upd rfl (by first | exact VR.flat _ rfl | exact VR.eqv (vp_succ _) rfl | exact VR.eqv (vp_succ _).symm rfl | exact VR.eqv (by first | rfl | (congr 1; omega) | (simp; done) | (simp; omega)) rfl) ?_
          refine WkE.upd rfl (.slice (0) 0 _ 0 ⟨_, rfl⟩ (by simp) (by simp)) ?_
          exact WkE.emp
        ·
          refine WkM.cloM rfl rfl (fun _ => rfl) (fun h => h) ?_
          exact WkM.emp
        ·
          repeat (refine dom_upd_mem (by decide) ?_)
          exact dom_emp
    ·
      obtain rfl : i = Ls.length := by simp at hb0; omega
      rw [List.take_length] at hs
      rw [fewB_ok hs]
      refine AW.exit ?_
      refine thenA_exit ?_
      refine thenA_exit ?_
      refine inBlockA_hit ?_
      refine thenA_normal ?_
      refine AW.seqR ?_
      refine AWo.pure (PureOp.move rfl) rfl rfl ?_
      first | refine AWo.pure (PureOp.lenS tbok rfl rfl) rfl rfl ?_ | refine AWo.pure (PureOp.lenD tbok rfl rfl) rfl rfl ?_
      refine AWo.pure (PureOp.move rfl) rfl rfl ?_
      first | refine AWo.pure (PureOp.leN rfl rfl) rfl rfl ?_ | refine AWo.pure (PureOp.bin rfl rfl rfl) rfl rfl ?_
      refine AWo.pure (PureOp.assign rfl) rfl rfl ?_
      refine AWo.nil trivial ?_
      refine AW.ret ?_
      refine RetQ.gc [_] [] [.tmp 4] (.inl rfl) rfl (.tmp rfl .nil) rfl (.cons rfl rfl .nil) (OutL.clo rfl (cloM fun _ => rfl) (by intro h; first | rfl | exact h.elim id fun h => absurd h.1 (by simp)) trivial) (by decide) rfl
theorem of22_ctr {Ls : List (List Nat)} (hB : ∀ b ∈ Ls, bd 256 b) (hS : ∀ b ∈ Ls, b.length ≤ 40) (hl : Ls.length < 1000000) : GC Try.prog 29 [.slice (some ⟨0, 0, none⟩) Ls.length 0] [⟨Ls.map (db), false, 1⟩] [.slice (some ⟨1, 0, none⟩) Ls.length 0, .slice (some ⟨2, 0, none⟩) Ls.length 0] [⟨Ls.map (db), false, 1⟩, ⟨(((Ls.map nb).map fe).flatten).map (vi .u64), true, 4⟩, ⟨(Ls.map nb).map dv, true, 1⟩] := by
  refine GC.intro Try.func29 rfl (by show 1 ≤ 29; decide) (by first | exact Nat.le_refl _ | decide | simp) ?_
  refine AW.seqR ?_
  refine AWo.pure (PureOp.assign rfl) rfl rfl ?_
  refine AWo.pure (PureOp.assign rfl) rfl rfl ?_
  refine AWo.nil trivial ?_
  refine AW.seqR ?_
  refine AWo.pure (PureOp.assign rfl) rfl rfl ?_
  refine AWo.nil trivial ?_
  refine AW.seqR ?_
  refine AWo.buildSlice tbok 9000 [] (out := []) rfl rfl (by decide) rfl rfl rfl (by decide) rfl rfl rfl rfl rfl ?_
  refine AWo.pure (PureOp.assign rfl) rfl rfl ?_
  refine AWo.nil trivial ?_
  refine AW.seq ?_
  refine AW.seqR ?_
  refine AWo.pure (PureOp.move rfl) rfl rfl ?_
  first | refine AWo.pure (PureOp.lenS tbok rfl rfl) rfl rfl ?_ | refine AWo.pure (PureOp.lenD tbok rfl rfl) rfl rfl ?_
  refine AWo.pure (PureOp.move rfl) rfl rfl ?_
  refine AWo.nil trivial ?_
  refine AW.block ?_
  refine AW.ghost 77000 4 rfl ?_
  refine AW.loopw (fun mm σ => ∃ i, (i ≤ Ls.length) ∧ mm = Ls.length - i ∧ σ = ⟨(upd (upd (upd (upd (upd emp 4 (.slice (some ⟨77000, 0, none⟩) i 0)) 5 (.slice (some ⟨77001, 0, none⟩) i 0)) 9 (.slice (some ⟨0, 0, none⟩) Ls.length 0)) 10 (vi .i64 Ls.length)) 11 (vi .i64 i)), (upd (upd (upd emp 0 ⟨Ls.map db, false, 1⟩) 77000 ⟨((((Ls.take i).map nb).map fe).flatten).map (vi .u64), true, 4⟩) 77001 ⟨((Ls.take i).map nb).map dv, true, 1⟩)⟩) (fm := [(77001, 9000)]) ?_ ⟨0, Nat.zero_le _, rfl, rfl⟩ ?_
  ·
    refine Wk.of [0, 77000, 77001] ?_ ?_ ?_ (by decide) rfl
    ·
      refine WkE.upd rfl (by first | exact VR.flat _ rfl | exact VR.eqv (vp_succ _) rfl | exact VR.eqv (vp_succ _).symm rfl | exact VR.eqv (by first | rfl | (congr 1; omega) | (simp; done) | (simp; omega)) rfl) ?_
      refine WkE.upd rfl (by first | exact VR.flat _ rfl | exact VR.eqv (vp_succ _) rfl | exact VR.eqv (vp_succ _).symm rfl | exact VR.eqv (by first | rfl | (congr 1; omega) | (simp; done) | (simp; omega)) rfl) ?_
      refine WkE.upd rfl (.slice (0) 0 _ 0 ⟨_, rfl⟩ (by simp) (by simp)) ?_
      refine WkE.upd rfl (by first | exact .nilS _ (by simp) | exact .slice (77001) 0 _ 0 ⟨_, rfl⟩ (by simp) (by simp)) ?_
      refine WkE.upd rfl (by first | exact .nilS _ (by simp) | exact .slice (77000) 0 _ 0 ⟨_, rfl⟩ (by simp) (by simp)) ?_
      exact WkE.emp
    ·
      refine WkM.cloM rfl rfl (fun _ => rfl) (fun h => h) ?_
      refine WkM.flat rfl (flatM flat_vi) (fun h => h) ?_
      refine WkM.cloM rfl rfl (fun _ => rfl) (fun h => h) ?_
      exact WkM.emp
    ·
      repeat (refine dom_upd_mem (by decide) ?_)
      exact dom_emp
  ·
    rintro mm σ ⟨i, hinv, rfl, rfl⟩
    refine AW.seqR ?_
    first | refine AWo.pure (PureOp.ltN rfl rfl) rfl rfl ?_ | refine AWo.pure (PureOp.bin rfl rfl rfl) rfl rfl ?_
    refine AWo.nil trivial ?_
    refine AW.seq ?_
    refine AW.cond rfl (fun hb0 => ?_) (fun hb0 => ?_)
    ·
      have hi : i < Ls.length := by simpa using hb0
      have hbm : Ls.getD i [] ∈ Ls := by rw [List.getD_eq_getElem?_getD, List.getElem?_eq_getElem hi]; exact List.getElem_mem _
      have hbb := hB _ hbm
      have hbl := hS _ hbm
      refine AW.skip ?_
      refine thenA_normal ?_
      refine AW.seq ?_
      refine AW.block ?_
      refine AW.seqR ?_
      refine AWo.pure (PureOp.idx1 tbok (j := i) rfl rfl rfl rfl hi) rfl rfl ?_
      refine AWo.loadM tbok (f := db) [] rfl rfl rfl hi rfl rfl ?_
      refine AWo.pure (PureOp.assign rfl) rfl rfl ?_
      refine AWo.nil trivial ?_
      refine AW.seqR ?_
      refine AWo.pure (PureOp.move rfl) rfl rfl ?_
      refine AWo.pure (PureOp.move rfl) rfl rfl ?_
      refine AWo.callX (fromwideFd (b := Ls.getD i []) hbb (by omega)) bd30 [] [] rfl (.cons rfl .nil) rfl (.cons rfl rfl .nil) .nil rfl .nil frN (by decide) (.pure (by first | rfl | exact pure_aggM flat_vi | exact pure_aggM flat_bool) .nil) rfl rfl rfl rfl ?_
      refine AWo.buildSlice tbok 19000 [(0, .agg ((fe (nb (Ls.getD i []))).map (vi .u64)).toArray)] (out := [fe (nb (Ls.getD i []))].flatten.map (vi .u64)) rfl rfl (by decide) rfl rfl rfl (by decide) rfl (fillB1 (fe_len _)) rfl rfl rfl ?_
      refine AWo.append tbok (all := ((((Ls.take (i + 1)).map nb).map fe).flatten).map (vi .u64)) (news := [fe (nb (Ls.getD i []))].flatten.map (vi .u64)) 20000 rfl rfl rfl rfl (by show (FF _).length = _; rw [FF_len, List.length_map, List.length_take, Nat.min_eq_left hinv]) (by show List.take _ (List.drop 0 _) = _; rw [List.drop_zero]; exact List.take_of_length_le (by simp)) (by simp; done) (by decide) rfl rfl rfl (by first | decide | exact Nat.one_ne_zero) rfl rfl rfl (by first | decide | omega) (by first | decide | omega) (by first | exact oneM (fun _ => rfl) _ | (simp; done)) (by show FF _ ++ FF [_] = FF _; rw [← FF_app, nb_step hi]) rfl rfl ?_
      refine AWo.pure (PureOp.assign rfl) rfl rfl ?_
      refine AWo.nil trivial ?_
      refine AW.region ?_
      refine AWo.pure (PureOp.move rfl) rfl rfl ?_
      refine AWo.pure (PureOp.move rfl) rfl rfl ?_
      refine AWo.callX (ofbd (a := Ls.getD i []) hbb (by omega)) bd52 [] [] rfl (.cons rfl .nil) rfl (.cons rfl rfl .nil) .nil rfl .nil frN (by decide) (.cons rfl rfl .nil) rfl rfl rfl rfl ?_
      refine AWo.callX (modRd (v := num 256 (Ls.getD i [])) (ofb_short hbb hbl)) bd51 [] [] rfl (.cons rfl .nil) rfl (.cons rfl rfl .nil) .nil rfl .nil frN (by decide) (.cons rfl rfl .nil) rfl rfl rfl rfl ?_
      refine AWo.buildSlice tbok 25000 [(0, dv (nb (Ls.getD i [])))] (out := [dv (nb (Ls.getD i []))]) rfl rfl (by decide) rfl rfl rfl (by decide) rfl rfl rfl rfl rfl ?_
      refine AWo.append tbok (all := ((Ls.take (i + 1)).map nb).map dv) (news := [dv (nb (Ls.getD i []))]) 26000 rfl rfl rfl rfl (by simp; omega) (by show List.take _ (List.drop 0 _) = _; rw [List.drop_zero]; exact List.take_of_length_le (by simp)) (by first | decide | (simp; done) | (simp; omega)) (by decide) rfl rfl rfl (by first | decide | exact Nat.one_ne_zero) rfl rfl rfl (by first | decide | omega) (by first | decide | omega) (by rfl) (by rw [← nb_step hi, List.map_append]; rfl) rfl rfl ?_
      refine AWo.pure (PureOp.assign rfl) rfl rfl ?_
      refine AWo.nil trivial ?_
      refine inBlockA_normal ?_
      refine thenA_normal ?_
      refine AW.region ?_
      first | refine AWo.pure (PureOp.addI (b := 1) rfl rfl (by first | decide | omega)) rfl rfl ?_ | refine AWo.pure (PureOp.bin rfl rfl rfl) rfl rfl ?_
      refine AWo.pure (PureOp.move rfl) rfl rfl ?_
      refine AWo.nil trivial ?_
      refine thenA_normal ?_
      refine ⟨Ls.length - (i + 1), [(77000, 20000), (77001, 26000)], _, by omega, ?_, i + 1, by omega, rfl, rfl⟩
      refine Wk.of [0, 77000, 77001] ?_ ?_ ?_ (by decide) rfl
      ·
        refine WkE.upd rfl (by first | exact VR.flat _ rfl | exact VR.eqv (vp_succ _) rfl | exact VR.eqv (vp_succ _).symm rfl | exact VR.eqv (by first | rfl | (congr 1; omega) | (simp; done) | (simp; omega)) rfl) ?_
        refine WkE.upd rfl (by first | exact VR.flat _ rfl | exact VR.eqv (vp_succ _) rfl | exact VR.eqv (vp_succ _).symm rfl | exact VR.eqv (by first | rfl | (congr 1; omega) | (simp; done) | (simp; omega)) rfl) ?_
        refine WkE.upd rfl (.slice (0) 0 _ 0 ⟨_, rfl⟩ (by simp) (by simp)) ?_
        refine WkE.upd rfl (by first | exact .nilS _ (by simp) | exact .slice (77001) 0 _ 0 ⟨_, rfl⟩ (by simp) (by simp)) ?_
        refine WkE.upd rfl (by first | exact .nilS _ (by simp) | exact .slice (77000) 0 _ 0 ⟨_, rfl⟩ (by simp) (by simp)) ?_
        exact WkE.emp
      ·
        refine WkM.cloM rfl rfl (fun _ => rfl) (fun h => h) ?_
        refine WkM.flat rfl (flatM flat_vi) (fun h => h) ?_
        refine WkM.cloM rfl rfl (fun _ => rfl) (fun h => h) ?_
        exact WkM.emp
      ·
        repeat (refine dom_upd_mem (by decide) ?_)
        exact dom_emp
    ·
      obtain rfl : i = Ls.length := by simp at hb0; omega
      simp only [List.take_length]
      refine AW.exit ?_
      refine thenA_exit ?_
      refine thenA_exit ?_
      refine inBlockA_hit ?_
      refine thenA_normal ?_
      refine AW.seqR ?_
      refine AWo.pure (PureOp.move rfl) rfl rfl ?_
      refine AWo.pure (PureOp.move rfl) rfl rfl ?_
      refine AWo.pure (PureOp.assign rfl) rfl rfl ?_
      refine AWo.pure (PureOp.assign rfl) rfl rfl ?_
      refine AWo.nil trivial ?_
      refine AW.ret ?_
      refine RetQ.gc [_, _] [77000, 77001] [.tmp 2, .tmp 3] (.inl rfl) rfl (.tmp rfl (.tmp rfl .nil)) rfl (.cons rfl rfl (.cons rfl rfl .nil)) (OutL.clo rfl (cloM fun _ => rfl) (by intro h; first | rfl | exact h.elim id fun h => absurd h.1 (by simp)) (OutL.flat rfl (flatM flat_vi) (by intro h; first | rfl | exact h.elim id fun h => absurd h.1 (by simp)) (OutL.clo rfl (cloM fun _ => rfl) (by intro h; first | rfl | exact h.elim id fun h => absurd h.1 (by simp)) trivial))) (by decide) rfl
end Go.Proofs.Yteeifahhejangaa
namespace Go.Proofs.Yteeifahhejangaa
open Go Sim
theorem Fp_dom (x y : Fp) (h : x * y = 0) : x = 0 ∨ y = 0 := by
  by_cases hx : x = 0
  · exact .inl hx
  · exact .inr (Rg.unit_zero (mul_finv hx) h)
theorem nc_fp : ∀ k : Nat, (Po.nc k : Fp) = fp k
  | 0 => rfl
  | k + 1 => by
    rw [Po.nc, nc_fp k, fp_addN]; rfl
theorem fp_val_lt {k : Nat} (h : k < 21888242871839275222246405745257275088548364400416034343698204186575808495617) : (fp k).val = k := Nat.mod_eq_of_lt h
theorem fp_ne {i j : Nat} (h : i < j) (hj : j < 1000000) : fp i ≠ fp j := fun e => by
  have h1 := congrArg Fin.val e
  have hP : 1000000 < 21888242871839275222246405745257275088548364400416034343698204186575808495617 := by decide
  rw [fp_val_lt (show i < 21888242871839275222246405745257275088548364400416034343698204186575808495617 by omega), fp_val_lt (show j < 21888242871839275222246405745257275088548364400416034343698204186575808495617 by omega)] at h1
  omega
theorem dg_bound {q : List Fp} {d : Nat} (h : ∀ i, d ≤ i → Po.co q i = 0) : Po.dg q ≤ d := by
  rcases Nat.lt_or_ge d (Po.dg q) with h1 | h1
  · obtain ⟨m, hm⟩ : ∃ m, Po.dg q = m + 1 := ⟨Po.dg q - 1, by omega⟩
    exact absurd (h m (by omega)) (Po.co_top q m hm)
  · exact h1
theorem co_pm2 {r s : Fp} : ∀ (p : List Fp) (i : Nat), p.length + 1 ≤ i → Po.co (Po.pm p [r, s]) i = 0
  | [], i, _ => by rw [Po.pm, Po.co_nil]
  | a :: p, 0, h => by simp at h
  | a :: p, i + 1, h => by
    simp only [List.length_cons] at h
    rw [Po.co_pm_succ, Po.co_len (p := [r, s]) (by simp only [List.length_cons, List.length_nil]; omega), co_pm2 p i (by omega), Rg.zero_mul, Rg.zero_add]
theorem nwL_len2 (ds : List Fp) (n : Nat) : ∀ j, (nwL ds n j).length ≤ j
  | 0 => Nat.le_refl _
  | j + 1 => by
    have h := nwL_len2 ds n j
    rw [nwL, Po.tr_len]
    have h1 := Po.dg_le (Po.pa (Po.tr (Po.pm (nwL ds n j) [-(fp (n - 1 - j)), fp 1])) [ds.getD (n - 1 - j) 0])
    rw [Po.pa_len, Po.tr_len] at h1
    have h2 : Po.dg (Po.pm (nwL ds n j) [-(fp (n - 1 - j)), fp 1]) ≤ (nwL ds n j).length + 1 := dg_bound fun i hi => co_pm2 _ i hi
    simp only [List.length_cons, List.length_nil] at h1
    have h4 : max (Po.dg (Po.pm (nwL ds n j) [-(fp (n - 1 - j)), fp 1])) (0 + 1) ≤ j + 1 := Nat.max_le.2 ⟨by omega, by omega⟩
    omega
theorem ringE (x k e d : Fp) : (0 + d) + e * (((0 * x + fp 1) * x) + -k) = e * (x - k) + d := by
  have h1 : fp 1 = (1 : Fp) := rfl
  rw [h1, Rg.zero_mul, Rg.zero_add, Rg.zero_add, Rg.one_mul, Rg.add_comm]
  congr 2
  exact (Fin.sub_eq_add_neg x k).symm
theorem ev_nwL (ds : List Fp) (n : Nat) (x : Fp) : ∀ j, Po.ev x (nwL ds n j) = Po.nw (fun k => ds.getD k 0) x n j
  | 0 => rfl
  | j + 1 => by
    rw [nwL, Po.ev_tr, Po.ev_pa, Po.ev_tr, Po.ev_pm, ev_nwL ds n x j, Po.nw, nc_fp, show n - (j + 1) = n - 1 - j by omega]
    have := ringE x (fp (n - 1 - j)) (Po.nw (fun k => ds.getD k 0) x n j) (ds.getD (n - 1 - j) 0)
    rw [← this, Rg.add_comm]
    congr 1
    show Po.ev x [] * x + _ = _
    rw [show Po.ev x ([] : List Fp) = 0 from rfl, Rg.zero_mul]
theorem inn_get {l : List Fp} {far : Fp} {n : Nat} (hn : l.length = n) (i : Nat) : ∀ m, m + 1 ≤ n → Po.co (inn l far n m) i = if n - m ≤ i ∧ i < n then (Po.co l i - Po.co l (i - 1)) * far else Po.co l i
  | 0, _ => by rw [if_neg (by omega), inn]
  | m + 1, h => by
    have hq := inn_get (far := far) hn (n - 1 - m) m (by omega)
    have hp := inn_get (far := far) hn (n - 1 - m - 1) m (by omega)
    rw [if_neg (by omega)] at hq hp
    rw [inn, co_set (by rw [inn_len, hn]; omega)]
    by_cases e : i = n - 1 - m
    · subst e
      rw [if_pos rfl, if_pos ⟨by omega, by omega⟩]
      show (Po.co (inn l far n m) (n - 1 - m) - Po.co (inn l far n m) (n - 1 - m - 1)) * far = _
      rw [hq, hp]
    · rw [if_neg e, inn_get hn i m (by omega)]
      by_cases h2 : n - m ≤ i ∧ i < n
      · rw [if_pos h2, if_pos ⟨by omega, h2.2⟩]
      · rw [if_neg h2, if_neg (by omega)]
def ivF (k : Nat) : Fp := finv (fp k)
theorem difN_get (vs : List Fp) : ∀ c, c + 1 ≤ vs.length → ∀ i, i < vs.length → Po.co (difN vs c) i = if i ≤ c then Po.U ivF (Po.co vs) i 0 else Po.U ivF (Po.co vs) c (i - c)
  | 0, _, i, _ => by
    rw [difN]
    by_cases h : i ≤ 0
    · obtain rfl : i = 0 := by omega
      rw [if_pos h]; rfl
    · rw [if_neg h]; rfl
  | c + 1, hc, i, hi => by
    have h1 := difN_get vs c (by omega) i hi
    rw [difN, inn_get (difN_len vs c) i (vs.length - 1 - c) (by omega)]
    by_cases h2 : i ≤ c
    · rw [if_neg (by omega), h1, if_pos h2, if_pos (by omega)]
    · have h3 := difN_get vs c (by omega) (i - 1) (by omega)
      have e3 : Po.co (difN vs c) (i - 1) = Po.U ivF (Po.co vs) c (i - 1 - c) := by
        rw [h3]
        by_cases h4 : i - 1 ≤ c
        · have : i - 1 = c := by omega
          rw [if_pos h4, this, Nat.sub_self]
        · rw [if_neg h4]
      rw [if_pos ⟨by omega, hi⟩, h1, if_neg h2, e3]
      have e4 : (Po.U ivF (Po.co vs) c (i - c) - Po.U ivF (Po.co vs) c (i - 1 - c)) * finv (fp (c + 1)) = Po.U ivF (Po.co vs) (c + 1) (i - (c + 1)) := by
        rw [Po.U, show i - (c + 1) + 1 = i - c by omega, show i - 1 - c = i - (c + 1) by omega]; rfl
      rw [e4]
      by_cases h5 : i ≤ c + 1
      · obtain rfl : i = c + 1 := by omega
        rw [if_pos h5, Nat.sub_self]
      · rw [if_neg h5]
theorem nw_congr {d d' : Nat → Fp} {x : Fp} {n : Nat} (h : ∀ k, k < n → d k = d' k) : ∀ j, j ≤ n → Po.nw d x n j = Po.nw d' x n j
  | 0, _ => rfl
  | j + 1, hj => by rw [Po.nw, Po.nw, nw_congr h j (by omega), h _ (by omega)]
theorem thr_ev {vs : List Fp} {m : Nat} (hn : vs.length < 1000000) (hm : m < vs.length) : Po.ev (fp m) (thr vs) = Po.co vs m := by
  rw [thr, Po.ev_tr, ev_nwL, nw_congr (d' := fun k => Po.U ivF (Po.co vs) k 0) (fun k hk => ?_) _ (Nat.le_refl _), ← nc_fp]
  · refine Po.newton (fun k hk h0 => ?_) hm
    rw [nc_fp]
    exact mul_finv fun e => fp_ne (i := 0) (j := k) h0 (by omega) e.symm
  · have := difN_get vs (vs.length - 1) (by omega) k hk
    rw [if_pos (by omega)] at this
    exact this
theorem thr_le (vs : List Fp) : (thr vs).length ≤ vs.length := by
  rw [thr, Po.tr_len]
  exact Nat.le_trans (Po.dg_le _) (nwL_len2 _ _ _)
theorem thr_uniq {vs q : List Fp} (hn : vs.length < 1000000) (hq : q.length ≤ vs.length) (h : ∀ m, m < vs.length → Po.ev (fp m) q = Po.co vs m) : thr vs = Po.tr q := by
  have h1 : ∀ i, Po.co (nwL (difN vs (vs.length - 1)) vs.length vs.length) i = Po.co q i := by
    refine Po.uniq Fp_dom (N := vs.length) (fun i j hi hj => by rw [nc_fp, nc_fp]; exact fp_ne hi (by omega)) (nwL_len2 _ _ _) hq fun m hm => ?_
    rw [nc_fp, h m hm, ← thr_ev hn hm, thr, Po.ev_tr]
  exact Po.tr_congr h1
end Go.Proofs.Yteeifahhejangaa
namespace Go.Proofs.Yteeifahhejangaa
open Go Sim
theorem dv_pos {x : Fp} (h : 0 < (D 4294967296 x.val).length) : ¬ x = 0 := fun e => by rw [e] at h; exact absurd h (by decide)
theorem dv_none {x : Fp} (h : ¬ 0 < (D 4294967296 x.val).length) : x = 0 := by
  rcases Nat.eq_zero_or_pos x.val with e | e
  · exact Fin.ext e
  · exfalso
    rw [D_pos (by decide) (by omega)] at h
    simp at h
theorem rdeg_ctr {xs : List Fp} {n : Nat} (hn : xs.length = n) (hx : n < 1000000) : GC Try.prog 66 [.slice (some ⟨0, 0, none⟩) n 0] [⟨xs.map (dv), false, 1⟩] [vp (Po.dg xs)] [⟨xs.map (dv), false, 1⟩] := by
  refine GC.intro Try.func66 rfl (by show 1 ≤ 19; decide) (by first | exact Nat.le_refl _ | decide | simp) ?_
  subst hn
  rw [← hiN_dg]
  refine AW.seqR ?_
  refine AWo.pure (PureOp.assign rfl) rfl rfl ?_
  refine AWo.nil trivial ?_
  refine AW.seqR ?_
  refine AWo.pure (PureOp.assign rfl) rfl rfl ?_
  refine AWo.nil trivial ?_
  refine AW.seq ?_
  refine AW.seqR ?_
  refine AWo.pure (PureOp.assign rfl) rfl rfl ?_
  refine AWo.nil trivial ?_
  refine AW.block ?_
  refine AW.loopw (fun mm σ => ∃ i, (i ≤ xs.length) ∧ mm = xs.length - i ∧ σ = ⟨(upd (upd (upd emp 0 (.slice (some ⟨0, 0, none⟩) xs.length 0)) 3 (vp (hiN xs i))) 4 (vi .i64 i)), (upd emp 0 ⟨xs.map dv, false, 1⟩)⟩) (fm := []) ?_ ⟨0, Nat.zero_le _, rfl, rfl⟩ ?_
  ·
    refine Wk.of [0] ?_ ?_ ?_ (by decide) rfl
    ·
      refine WkE.upd rfl (by first | exact VR.flat _ rfl | exact VR.eqv (vp_succ _) rfl | exact VR.eqv (vp_succ _).symm rfl | exact VR.eqv (by first | rfl | (congr 1; omega) | (simp; done) | (simp; omega)) rfl) ?_
      refine WkE.upd rfl (by first | exact VR.flat _ rfl | exact VR.eqv (by rw [hh]; exact vp_succ _) rfl | exact VR.eqv (by rw [hh]) rfl) ?_
      refine WkE.upd rfl (.slice (0) 0 _ 0 ⟨_, rfl⟩ (by simp) (by simp)) ?_
      exact WkE.emp
    ·
      refine WkM.cloM rfl rfl (fun _ => rfl) (fun h => h) ?_
      exact WkM.emp
    ·
      repeat (refine dom_upd_mem (by decide) ?_)
      exact dom_emp
  ·
    rintro mm σ ⟨i, hinv, rfl, rfl⟩
    refine AW.seq ?_
    refine AW.seqR ?_
    refine AWo.pure (PureOp.move rfl) rfl rfl ?_
    refine AWo.pure (PureOp.move rfl) rfl rfl ?_
    first | refine AWo.pure (PureOp.lenS tbok rfl rfl) rfl rfl ?_ | refine AWo.pure (PureOp.lenD tbok rfl rfl) rfl rfl ?_
    first | refine AWo.pure (PureOp.ltN rfl rfl) rfl rfl ?_ | refine AWo.pure (PureOp.bin rfl rfl rfl) rfl rfl ?_
    refine AWo.nil trivial ?_
    refine AW.cond rfl (fun hb0 => ?_) (fun hb0 => ?_)
    ·
      have hi : i < xs.length := by simpa using hb0
      refine AW.skip ?_
      refine thenA_normal ?_
      refine AW.seq ?_
      refine AW.block ?_
      refine AW.seqR ?_
      refine AWo.pure (PureOp.move rfl) rfl rfl ?_
      refine AWo.pure (PureOp.move rfl) rfl rfl ?_
      refine AWo.pure (PureOp.idx1 tbok (j := i) rfl rfl rfl rfl hi) rfl rfl ?_
      refine AWo.loadM tbok (f := dv) 0 rfl rfl rfl hi rfl rfl ?_
      first | refine AWo.pure (PureOp.lenS tbok rfl rfl) rfl rfl ?_ | refine AWo.pure (PureOp.lenD tbok rfl rfl) rfl rfl ?_
      first | refine AWo.pure (PureOp.gtN (b := 0) rfl rfl) rfl rfl ?_ | refine AWo.pure (PureOp.bin rfl rfl rfl) rfl rfl ?_
      refine AWo.nil trivial ?_
      refine AW.cond rfl (fun hb1 => ?_) (fun hb1 => ?_)
      ·
        have hh : hiN xs (i + 1) = i + 1 := by rw [hiN, if_neg (dv_pos (of_decide_eq_true hb1))]
        refine AW.region ?_
        refine AWo.pure (PureOp.move rfl) rfl rfl ?_
        refine AWo.pure (PureOp.assign rfl) rfl rfl ?_
        refine AWo.nil trivial ?_
        refine inBlockA_normal ?_
        refine thenA_normal ?_
        refine AW.region ?_
        refine AWo.pure (PureOp.move rfl) rfl rfl ?_
        first | refine AWo.pure (PureOp.addI (b := 1) rfl rfl (by first | decide | omega)) rfl rfl ?_ | refine AWo.pure (PureOp.bin rfl rfl rfl) rfl rfl ?_
        refine AWo.pure (PureOp.assign rfl) rfl rfl ?_
        refine AWo.nil trivial ?_
        refine thenA_normal ?_
        refine ⟨xs.length - (i + 1), [], _, by omega, ?_, i + 1, by omega, rfl, rfl⟩
        refine Wk.of [0] ?_ ?_ ?_ (by decide) rfl
        ·
          refine WkE.upd rfl (by first | exact VR.flat _ rfl | exact VR.eqv (vp_succ _) rfl | exact VR.eqv (vp_succ _).symm rfl | exact VR.eqv (by first | rfl | (congr 1; omega) | (simp; done) | (simp; omega)) rfl) ?_
          refine WkE.upd rfl (by first | exact VR.flat _ rfl | exact VR.eqv (by rw [hh]; exact vp_succ _) rfl | exact VR.eqv (by rw [hh]) rfl) ?_
          refine WkE.upd rfl (.slice (0) 0 _ 0 ⟨_, rfl⟩ (by simp) (by simp)) ?_
          exact WkE.emp
        ·
          refine WkM.cloM rfl rfl (fun _ => rfl) (fun h => h) ?_
          exact WkM.emp
        ·
          repeat (refine dom_upd_mem (by decide) ?_)
          exact dom_emp
      ·
        have hh : hiN xs (i + 1) = hiN xs i := by rw [hiN, if_pos (dv_none (of_decide_eq_false hb1))]
        refine AW.skip ?_
        refine inBlockA_normal ?_
        refine thenA_normal ?_
        refine AW.region ?_
        refine AWo.pure (PureOp.move rfl) rfl rfl ?_
        first | refine AWo.pure (PureOp.addI (b := 1) rfl rfl (by first | decide | omega)) rfl rfl ?_ | refine AWo.pure (PureOp.bin rfl rfl rfl) rfl rfl ?_
        refine AWo.pure (PureOp.assign rfl) rfl rfl ?_
        refine AWo.nil trivial ?_
        refine thenA_normal ?_
        refine ⟨xs.length - (i + 1), [], _, by omega, ?_, i + 1, by omega, rfl, rfl⟩
        refine Wk.of [0] ?_ ?_ ?_ (by decide) rfl
        ·
          refine WkE.upd rfl (by first | exact VR.flat _ rfl | exact VR.eqv (vp_succ _) rfl | exact VR.eqv (vp_succ _).symm rfl | exact VR.eqv (by first | rfl | (congr 1; omega) | (simp; done) | (simp; omega)) rfl) ?_
          refine WkE.upd rfl (by first | exact VR.flat _ rfl | exact VR.eqv (by rw [hh]; exact vp_succ _) rfl | exact VR.eqv (by rw [hh]) rfl) ?_
          refine WkE.upd rfl (.slice (0) 0 _ 0 ⟨_, rfl⟩ (by simp) (by simp)) ?_
          exact WkE.emp
        ·
          refine WkM.cloM rfl rfl (fun _ => rfl) (fun h => h) ?_
          exact WkM.emp
        ·
          repeat (refine dom_upd_mem (by decide) ?_)
          exact dom_emp
    ·
      obtain rfl : i = xs.length := by simp at hb0; omega
      refine AW.exit ?_
      refine thenA_exit ?_
      refine thenA_exit ?_
      refine inBlockA_hit ?_
      refine thenA_normal ?_
      refine AW.seqR ?_
      refine AWo.pure (PureOp.move rfl) rfl rfl ?_
      refine AWo.pure (PureOp.assign rfl) rfl rfl ?_
      refine AWo.nil trivial ?_
      refine AW.ret ?_
      refine RetQ.gc [_] [] [.tmp 2] (.inl rfl) rfl (.tmp rfl .nil) rfl (.cons rfl rfl .nil) (OutL.clo rfl (cloM fun _ => rfl) (by intro h; first | rfl | exact h.elim id fun h => absurd h.1 (by simp)) trivial) (by decide) rfl
theorem rget_ctr {xs : List Fp} {n i : Nat} (hn : xs.length = n) (hx : n < 1000000) : GC Try.prog 108 [.slice (some ⟨0, 0, none⟩) n 0, vi .i64 (i)] [⟨xs.map (dv), false, 1⟩] [dv (Po.co xs i)] [⟨xs.map (dv), false, 1⟩] := by
  refine GC.intro Try.func108 rfl (by show 2 ≤ 13; decide) (by first | exact Nat.le_refl _ | decide | simp) ?_
  subst hn
  refine AW.seqR ?_
  refine yP (PureOp.nilDeep 1) ?_
  refine AWo.nil trivial ?_
  refine AW.seq ?_
  refine AW.seqR ?_
  refine AWo.pure (PureOp.move rfl) rfl rfl ?_
  refine AWo.pure (PureOp.move rfl) rfl rfl ?_
  first | refine AWo.pure (PureOp.lenS tbok rfl rfl) rfl rfl ?_ | refine AWo.pure (PureOp.lenD tbok rfl rfl) rfl rfl ?_
  first | refine AWo.pure (PureOp.ltN rfl rfl) rfl rfl ?_ | refine AWo.pure (PureOp.bin rfl rfl rfl) rfl rfl ?_
  refine AWo.nil trivial ?_
  refine AW.cond rfl (fun hb0 => ?_) (fun hb0 => ?_)
  ·
    have hi : i < xs.length := by simpa using hb0
    refine AW.seqR ?_
    refine AWo.pure (PureOp.move rfl) rfl rfl ?_
    refine AWo.pure (PureOp.move rfl) rfl rfl ?_
    refine AWo.pure (PureOp.idx1 tbok (j := i) rfl rfl rfl rfl hi) rfl rfl ?_
    refine AWo.loadM tbok (f := dv) 0 rfl rfl rfl hi rfl rfl ?_
    refine yA ?_
    refine AWo.nil trivial ?_
    refine AW.ret ?_
    refine thenA_ret ?_
    refine RetQ.gc [_] [] [.tmp 4] (.inl rfl) rfl (.tmp rfl .nil) rfl (.cons rfl rfl .nil) (OutL.clo rfl (cloM fun _ => rfl) (by intro h; first | rfl | exact h.elim id fun h => absurd h.1 (by simp)) trivial) (by decide) rfl
  ·
    have hi : Po.co xs i = 0 := Po.co_len (by have := of_decide_eq_false hb0; omega)
    rw [hi]
    refine AW.skip ?_
    refine thenA_normal ?_
    refine AW.seqR ?_
    refine yP (PureOp.nilDeep 1) ?_
    refine AWo.nil trivial ?_
    refine AW.ret ?_
    refine RetQ.gc [_] [] [.tmp 4] (.inl rfl) rfl (.tmp rfl .nil) rfl (.cons rfl rfl .nil) (OutL.clo rfl (cloM fun _ => rfl) (by intro h; first | rfl | exact h.elim id fun h => absurd h.1 (by simp)) trivial) (by decide) rfl
end Go.Proofs.Yteeifahhejangaa
namespace Go.Proofs.Yteeifahhejangaa
open Go Sim
theorem rtrim_ctr {xs : List Fp} {n : Nat} (hn : xs.length = n) (hx : n < 1000000) : GC Try.prog 67 [.slice (some ⟨0, 0, none⟩) n 0] [⟨xs.map (dv), false, 1⟩] [.slice (some ⟨0, 0, none⟩) (Po.dg xs) 0] [⟨xs.map (dv), false, 1⟩] := by
  refine GC.intro Try.func67 rfl (by show 1 ≤ 8; decide) (by first | exact Nat.le_refl _ | decide | simp) ?_
  subst hn
  have hdl := Po.dg_le xs
  refine AW.seqR ?_
  refine AWo.pure (PureOp.assign rfl) rfl rfl ?_
  refine AWo.nil trivial ?_
  refine AW.seqR ?_
  refine AWo.pure (PureOp.move rfl) rfl rfl ?_
  refine AWo.pure (PureOp.move rfl) rfl rfl ?_
  refine AWo.callX (rdeg_ctr (xs := xs) (n := xs.length) rfl (by omega)) bd66 [(0, 0)] [] rfl (.cons rfl .nil) rfl (.cons rfl rfl .nil) (.clo rfl (cloM fun _ => rfl) (by intro h; first | exact h | rfl) .nil) rfl (.keep rfl .nil) frN (by decide) (.cons rfl rfl .nil) rfl rfl rfl rfl ?_
  refine yP (PureOp.vpSucc (r := Po.dg xs) rfl rfl (by omega)) ?_
  refine AWo.sliceS tbok rfl .none (.some rfl) rfl rfl rfl rfl (by first | decide | omega | (simp; done) | (simp; omega)) (by first | decide | omega | (simp; done) | (simp; omega)) (.inl rfl) rfl rfl rfl ?_
  refine AWo.pure (PureOp.assign rfl) rfl rfl ?_
  refine AWo.nil trivial ?_
  refine AW.ret ?_
  refine RetQ.gc [_] [] [.tmp 2] (.inl rfl) rfl (.tmp rfl .nil) rfl (.cons rfl rfl .nil) (OutL.clo rfl (cloM fun _ => rfl) (by intro h; first | rfl | exact h.elim id fun h => absurd h.1 (by simp)) trivial) (by decide) rfl
end Go.Proofs.Yteeifahhejangaa
namespace Go.Proofs.Yteeifahhejangaa
open Go Sim
theorem are_get {xs zs : List Fp} {i : Nat} (hz : zs.take xs.length = xs) (hi : i < xs.length) : zs.getD i 0 = xs.getD i 0 := by
  have h := congrArg (fun l => l.getD i 0) hz
  simp only [List.getD_eq_getElem?_getD] at h ⊢
  rw [List.getElem?_take, if_pos hi] at h
  exact h
theorem are_ctr {xs zs : List Fp} {n m : Nat} (hn : xs.length = n) (hm : xs.length = m) (hz : zs.take xs.length = xs) (hx : n < 1000000) : GC Try.prog 26 [.slice (some ⟨0, 0, none⟩) n 0, .slice (some ⟨1, 0, none⟩) m 0] [⟨((xs.map fe).flatten).map (vi .u64), false, 4⟩, ⟨zs.map (dv), false, 1⟩] [.bool true] [⟨((xs.map fe).flatten).map (vi .u64), false, 4⟩, ⟨zs.map (dv), false, 1⟩] := by
  refine GC.intro Try.func26 rfl (by show 2 ≤ 27; decide) (by first | exact Nat.le_refl _ | decide | simp) ?_
  subst hn
  subst hm
  refine AW.seqR ?_
  refine AWo.pure (PureOp.assign rfl) rfl rfl ?_
  refine AWo.nil trivial ?_
  refine AW.seq ?_
  refine AW.seqR ?_
  refine AWo.pure (PureOp.move rfl) rfl rfl ?_
  first | refine AWo.pure (PureOp.lenS tbok rfl rfl) rfl rfl ?_ | refine AWo.pure (PureOp.lenD tbok rfl rfl) rfl rfl ?_
  refine AWo.pure (PureOp.move rfl) rfl rfl ?_
  first | refine AWo.pure (PureOp.lenS tbok rfl rfl) rfl rfl ?_ | refine AWo.pure (PureOp.lenD tbok rfl rfl) rfl rfl ?_
  first | refine AWo.pure ((PureOp.neN rfl rfl).mono (v' := .bool false) (congrArg Value.bool (by simp))) rfl rfl ?_ | refine AWo.pure ((PureOp.bin rfl rfl rfl).mono (v' := .bool false) (congrArg Value.bool (by simp))) rfl rfl ?_
  refine AWo.nil trivial ?_
  refine AW.condF rfl ?_
  refine AW.skip ?_
  refine thenA_normal ?_
  refine AW.seq ?_
  refine AW.seqR ?_
  refine AWo.pure (PureOp.move rfl) rfl rfl ?_
  first | refine AWo.pure (PureOp.lenS tbok rfl rfl) rfl rfl ?_ | refine AWo.pure (PureOp.lenD tbok rfl rfl) rfl rfl ?_
  refine AWo.pure (PureOp.move rfl) rfl rfl ?_
  refine AWo.nil trivial ?_
  refine AW.block ?_
  refine AW.loopw (fun mm σ => ∃ i, (i ≤ xs.length) ∧ mm = xs.length - i ∧ σ = ⟨(upd (upd (upd (upd emp 0 (.slice (some ⟨0, 0, none⟩) xs.length 0)) 1 (.slice (some ⟨1, 0, none⟩) xs.length 0)) 12 (vi .i64 xs.length)) 13 (vi .i64 i)), (upd (upd emp 0 ⟨((xs.map fe).flatten).map (vi .u64), false, 4⟩) 1 ⟨zs.map dv, false, 1⟩)⟩) (fm := []) ?_ ⟨0, Nat.zero_le _, rfl, rfl⟩ ?_
  ·
    refine Wk.of [0, 1] ?_ ?_ ?_ (by decide) rfl
    ·
      refine WkE.upd rfl (by first | exact VR.flat _ rfl | exact VR.eqv (vp_succ _) rfl | exact VR.eqv (vp_succ _).symm rfl | exact VR.eqv (by first | rfl | (congr 1; omega) | (simp; done) | (simp; omega)) rfl) ?_
      refine WkE.upd rfl (by first | exact VR.flat _ rfl | exact VR.eqv (vp_succ _) rfl | exact VR.eqv (vp_succ _).symm rfl | exact VR.eqv (by first | rfl | (congr 1; omega) | (simp; done) | (simp; omega)) rfl) ?_
      refine WkE.upd rfl (.slice (1) 0 _ 0 ⟨_, rfl⟩ (by simp) (by simp)) ?_
      refine WkE.upd rfl (.slice (0) 0 _ 0 ⟨_, rfl⟩ (by simp) (by simp)) ?_
      exact WkE.emp
    ·
      refine WkM.cloM rfl rfl (fun _ => rfl) (fun h => h) ?_
      refine WkM.flat rfl (flatM flat_vi) (fun h => h) ?_
      exact WkM.emp
    ·
      repeat (refine dom_upd_mem (by decide) ?_)
      exact dom_emp
  ·
    rintro mm σ ⟨i, hinv, rfl, rfl⟩
    refine AW.seqR ?_
    first | refine AWo.pure (PureOp.ltN rfl rfl) rfl rfl ?_ | refine AWo.pure (PureOp.bin rfl rfl rfl) rfl rfl ?_
    refine AWo.nil trivial ?_
    refine AW.seq ?_
    refine AW.cond rfl (fun hb0 => ?_) (fun hb0 => ?_)
    ·
      have hi : i < xs.length := by simpa using hb0
      refine AW.skip ?_
      refine thenA_normal ?_
      refine AW.seq ?_
      refine AW.block ?_
      refine AW.seqR ?_
      refine AWo.pure (PureOp.move rfl) rfl rfl ?_
      refine AWo.pure (PureOp.assign rfl) rfl rfl ?_
      refine AWo.nil trivial ?_
      refine AW.seqD mixed ?_
      refine AWo.pure (PureOp.move rfl) rfl rfl ?_
      refine AWo.pure (PureOp.move rfl) rfl rfl ?_
      first | refine AWo.pure (PureOp.idx1 tbok rfl rfl rfl rfl (by first | decide | omega)) rfl rfl ?_ | refine AWo.pure (PureOp.idx tbok rfl rfl rfl rfl (by first | decide | omega)) rfl rfl ?_
      refine yLJ (xs := xs) i ?_
      refine AWo.pure (PureOp.move rfl) rfl rfl ?_
      refine AWo.pure (PureOp.move rfl) rfl rfl ?_
      refine AWo.pure (PureOp.idx1 tbok (j := i) rfl rfl rfl rfl hi) rfl rfl ?_
      refine AWo.loadM tbok (f := dv) 0 rfl rfl rfl (by rw [← hz] at hi; rw [List.length_take] at hi; omega) rfl rfl ?_
      rw [show zs.getD i 0 = xs.getD i 0 from are_get hz hi]
      refine AWo.callX (isFd (x := xs.getD i 0)) bd22 [] [] rfl (.cons rfl (.cons rfl .nil)) rfl (.pure (by first | rfl | exact pure_aggM flat_vi | exact pure_aggM flat_bool) (.cons rfl rfl .nil)) .nil rfl .nil frN (by decide) (.cons rfl rfl .nil) rfl rfl rfl rfl ?_
      refine AWo.pure (PureOp.not rfl) rfl rfl ?_
      refine AWo.nil (by kernel_rfl) ?_
      refine AW.condF rfl ?_
      refine AW.skip ?_
      refine inBlockA_normal ?_
      refine thenA_normal ?_
      refine AW.region ?_
      first | refine AWo.pure (PureOp.addI (b := 1) rfl rfl (by first | decide | omega)) rfl rfl ?_ | refine AWo.pure (PureOp.bin rfl rfl rfl) rfl rfl ?_
      refine AWo.pure (PureOp.move rfl) rfl rfl ?_
      refine AWo.nil trivial ?_
      refine thenA_normal ?_
      refine ⟨xs.length - (i + 1), [], _, by omega, ?_, i + 1, by omega, rfl, rfl⟩
      refine Wk.of [0, 1] ?_ ?_ ?_ (by decide) rfl
      ·
        refine WkE.upd rfl (by first | exact VR.flat _ rfl | exact VR.eqv (vp_succ _) rfl | exact VR.eqv (vp_succ _).symm rfl | exact VR.eqv (by first | rfl | (congr 1; omega) | (simp; done) | (simp; omega)) rfl) ?_
        refine WkE.upd rfl (by first | exact VR.flat _ rfl | exact VR.eqv (vp_succ _) rfl | exact VR.eqv (vp_succ _).symm rfl | exact VR.eqv (by first | rfl | (congr 1; omega) | (simp; done) | (simp; omega)) rfl) ?_
        refine WkE.upd rfl (.slice (1) 0 _ 0 ⟨_, rfl⟩ (by simp) (by simp)) ?_
        refine WkE.upd rfl (.slice (0) 0 _ 0 ⟨_, rfl⟩ (by simp) (by simp)) ?_
        exact WkE.emp
      ·
        refine WkM.cloM rfl rfl (fun _ => rfl) (fun h => h) ?_
        refine WkM.flat rfl (flatM flat_vi) (fun h => h) ?_
        exact WkM.emp
      ·
        repeat (refine dom_upd_mem (by decide) ?_)
        exact dom_emp
    ·
      obtain rfl : i = xs.length := by simp at hb0; omega
      refine AW.exit ?_
      refine thenA_exit ?_
      refine thenA_exit ?_
      refine inBlockA_hit ?_
      refine thenA_normal ?_
      refine AW.seqR ?_
      refine AWo.pure (PureOp.assign rfl) rfl rfl ?_
      refine AWo.nil trivial ?_
      refine AW.ret ?_
      refine RetQ.gc [_] [] [.tmp 4] (.inl rfl) rfl (.tmp rfl .nil) rfl (.cons rfl rfl .nil) (OutL.flat rfl (flatM flat_vi) (by intro h; first | rfl | exact h.elim id fun h => absurd h.1 (by simp)) (OutL.clo rfl (cloM fun _ => rfl) (by intro h; first | rfl | exact h.elim id fun h => absurd h.1 (by simp)) trivial)) (by decide) rfl
end Go.Proofs.Yteeifahhejangaa
namespace Go.Proofs.Yteeifahhejangaa
open Go Sim
theorem sum0 {xs ys : List Fp} {k : Nat} : deep 0 1 ([] : List Value) = dv (Po.co (Po.pm (xs.take 0) ys) k) := by
  rw [List.take_zero, Po.pm, Po.co_nil]; rfl
theorem sum_step {xs ys : List Fp} {k i : Nat} (hi : i < xs.length) (hik : i ≤ k) : Po.co (Po.pm (xs.take (i + 1)) ys) k = Po.co (Po.pm (xs.take i) ys) k + xs.getD i 0 * Po.co ys (k - i) := by
  rw [List.take_succ_eq_append_getElem hi, co_snoc, List.length_take, Nat.min_eq_left (by omega), if_pos hik, List.getD_eq_getElem?_getD, List.getElem?_eq_getElem hi]; rfl
theorem sum_more {xs ys : List Fp} {k i : Nat} (h : k < i) : ∀ d, i + d ≤ xs.length → Po.co (Po.pm (xs.take (i + d)) ys) k = Po.co (Po.pm (xs.take i) ys) k
  | 0, _ => rfl
  | d + 1, hd => by
    rw [← Nat.add_assoc, List.take_succ_eq_append_getElem (show i + d < xs.length by omega), co_snoc, List.length_take, Nat.min_eq_left (by omega), if_neg (by omega), Rg.add_zero, sum_more h d (by omega)]
theorem sum_end {xs ys : List Fp} {k i : Nat} (h : (k < i) ∨ xs.length ≤ i) : Po.co (Po.pm (xs.take i) ys) k = Po.co (Po.pm xs ys) k := by
  by_cases h1 : xs.length ≤ i
  · rw [List.take_of_length_le h1]
  · have := sum_more (xs := xs) (ys := ys) (k := k) (i := i) (by omega) (xs.length - i) (by omega)
    rw [show i + (xs.length - i) = xs.length by omega, List.take_length] at this
    exact this.symm
theorem co_pad (xs ys : List Fp) (i : Nat) : Po.co ((List.range (xs.length + ys.length)).map (Po.co (Po.pm xs ys))) i = Po.co (Po.pm xs ys) i := by
  by_cases h : i < xs.length + ys.length
  · rw [Po.co_lt (by simpa using h)]; simp
  · rw [Po.co_len (by simp; omega), Po.co_len (Nat.le_trans (Po.pm_len xs ys) (by omega))]
theorem dg_pad (xs ys : List Fp) : Po.dg ((List.range (xs.length + ys.length)).map (Po.co (Po.pm xs ys))) = Po.dg (Po.pm xs ys) := Po.dg_congr (co_pad xs ys)
end Go.Proofs.Yteeifahhejangaa
namespace Go.Proofs.Yteeifahhejangaa
open Go Sim
theorem pad_tr (xs ys : List Fp) : ((List.range (xs.length + ys.length)).map (Po.co (Po.pm xs ys))).take (Po.dg (Po.pm xs ys)) = Po.tr (Po.pm xs ys) := by
  rw [← dg_pad]; exact Po.tr_congr (co_pad xs ys)
end Go.Proofs.Yteeifahhejangaa
namespace Go.Proofs.Yteeifahhejangaa
open Go Sim
theorem OutL.cloPart {m : Nat} {nids : List Nat} {M : Mem} {n k : Nat} {c c' : List Value} {rw rw' : Bool} {es : Nat} {r : List Blk} (hM : M (hmap m nids k).blk = some ⟨c', rw', es⟩)
    (hc : c'.take c.length = c) (hf : ∀ x ∈ c, cloV x = true) (hrw : rw = true ∨ (m ≤ k ∧ c ≠ []) → rw' = true) (hl : c.length ≤ c'.length) (hr : OutL m nids M n (k + 1) r) : OutL m nids M n k (⟨c, rw, es⟩ :: r) :=
  ⟨⟨_, hM, by rw [clo_map_ren hf]; exact hc, OkL.clo hf, hrw, rfl, hl⟩, hr⟩
theorem take_pa (xs ys : List Fp) : ((Po.pa xs ys).map dv).take ((Po.tr (Po.pa xs ys)).map dv).length = (Po.tr (Po.pa xs ys)).map dv := by
  rw [← List.map_take, List.length_map, Po.tr_len]; rfl
theorem take_paL (xs ys : List Fp) : ((Po.tr (Po.pa xs ys)).map dv).length ≤ ((Po.pa xs ys).map dv).length := by
  rw [List.length_map, List.length_map, Po.tr_len]; exact Po.dg_le _
theorem take_pm (xs ys : List Fp) : (((List.range (xs.length + ys.length)).map (Po.co (Po.pm xs ys))).map dv).take ((Po.tr (Po.pm xs ys)).map dv).length = (Po.tr (Po.pm xs ys)).map dv := by
  rw [← List.map_take, List.length_map, Po.tr_len, pad_tr]
theorem take_pmL (xs ys : List Fp) : ((Po.tr (Po.pm xs ys)).map dv).length ≤ (((List.range (xs.length + ys.length)).map (Po.co (Po.pm xs ys))).map dv).length := by
  rw [List.length_map, List.length_map, Po.tr_len, List.length_map, List.length_range]
  exact Nat.le_trans (Po.dg_le _) (Po.pm_len xs ys)
theorem raddT_ctr {xs ys zs : List Fp} {n k : Nat} (hn : xs.length = n) (hk : ys.length = k) (hx : n < 1000000) (hy : k < 1000000) (hz : Po.tr (Po.pa xs ys) = zs) : GC Try.prog 53 [.slice (some ⟨0, 0, none⟩) n 0, .slice (some ⟨1, 0, none⟩) k 0] [⟨xs.map (dv), false, 1⟩, ⟨ys.map (dv), false, 1⟩] [.slice (some ⟨2, 0, none⟩) zs.length 0] [⟨xs.map (dv), false, 1⟩, ⟨ys.map (dv), false, 1⟩, ⟨zs.map dv, true, 1⟩] := by
  subst hz
  rw [Po.tr_len]
  refine GC.intro Try.func53 rfl (by show 2 ≤ 32; decide) (by first | exact Nat.le_refl _ | decide | simp) ?_
  subst hn
  subst hk
  have hpl : (Po.pa xs ys).length = (Nat.max xs.length ys.length) := Po.pa_len xs ys
  have hm1 := Nat.max_lt.2 ⟨hx, hy⟩
  have hm2 : (Nat.max xs.length ys.length) < 1000000 := hm1
  refine AW.seqR ?_
  refine AWo.pure (PureOp.assign rfl) rfl rfl ?_
  refine AWo.nil trivial ?_
  refine AW.seqR ?_
  refine AWo.buildSlice tbok 8000 [] (out := []) rfl rfl (by decide) rfl rfl rfl (by decide) rfl rfl rfl rfl rfl ?_
  refine AWo.pure (PureOp.assign rfl) rfl rfl ?_
  refine AWo.nil trivial ?_
  refine AW.seq ?_
  refine AW.seqR ?_
  refine AWo.pure (PureOp.assign rfl) rfl rfl ?_
  refine AWo.nil trivial ?_
  refine AW.block ?_
  refine AW.loopw (fun mm σ => ∃ i, (i ≤ (Nat.max xs.length ys.length)) ∧ mm = (Nat.max xs.length ys.length) - i ∧ σ = ⟨(upd (upd (upd (upd emp 0 (.slice (some ⟨0, 0, none⟩) xs.length 0)) 1 (.slice (some ⟨1, 0, none⟩) ys.length 0)) 5 (.slice (some ⟨77000, 0, none⟩) i 0)) 6 (vi .i64 i)), (upd (upd (upd emp 0 ⟨xs.map dv, false, 1⟩) 1 ⟨ys.map dv, false, 1⟩) 77000 ⟨((Po.pa xs ys).take i).map dv, true, 1⟩)⟩) (fm := [(77000, 8000)]) ?_ ⟨0, Nat.zero_le _, rfl, rfl⟩ ?_
  ·
    refine Wk.of [0, 1, 77000] ?_ ?_ ?_ (by decide) rfl
    ·
      refine WkE.upd rfl (by first | exact VR.flat _ rfl | exact VR.eqv (vp_succ _) rfl | exact VR.eqv (vp_succ _).symm rfl | exact VR.eqv (by first | rfl | (congr 1; omega) | (simp; done) | (simp; omega)) rfl) ?_
      refine WkE.upd rfl (by first | exact .nilS _ (by simp) | exact .slice (77000) 0 _ 0 ⟨_, rfl⟩ (by simp) (by simp)) ?_
      refine WkE.upd rfl (.slice (1) 0 _ 0 ⟨_, rfl⟩ (by simp) (by simp)) ?_
      refine WkE.upd rfl (.slice (0) 0 _ 0 ⟨_, rfl⟩ (by simp) (by simp)) ?_
      exact WkE.emp
    ·
      refine WkM.cloM rfl rfl (fun _ => rfl) (fun h => h) ?_
      refine WkM.cloM rfl rfl (fun _ => rfl) (fun h => h) ?_
      refine WkM.cloM rfl rfl (fun _ => rfl) (fun h => h) ?_
      exact WkM.emp
    ·
      repeat (refine dom_upd_mem (by decide) ?_)
      exact dom_emp
  ·
    rintro mm σ ⟨i, hinv, rfl, rfl⟩
    refine AW.seq ?_
    refine AW.seqR ?_
    refine AWo.pure (PureOp.move rfl) rfl rfl ?_
    refine AWo.pure (PureOp.move rfl) rfl rfl ?_
    first | refine AWo.pure (PureOp.lenS tbok rfl rfl) rfl rfl ?_ | refine AWo.pure (PureOp.lenD tbok rfl rfl) rfl rfl ?_
    first | refine AWo.pure (PureOp.ltN rfl rfl) rfl rfl ?_ | refine AWo.pure (PureOp.bin rfl rfl rfl) rfl rfl ?_
    first | refine AWo.pureB (PureOp.move rfl) rfl rfl (fun hb0 => ?_) (fun hb0 => ?_)
    ·
      have hi : i < (Nat.max xs.length ys.length) := Nat.lt_of_lt_of_le (of_decide_eq_true hb0) (Nat.le_max_left _ _)
      refine AWo.skipped rfl rfl ?_
      refine AWo.skipped rfl rfl ?_
      refine AWo.skipped rfl rfl ?_
      refine AWo.skipped rfl rfl ?_
      refine AWo.pure (PureOp.pickT rfl rfl) rfl rfl ?_
      refine AWo.nil trivial ?_
      refine AW.condT rfl ?_
      refine AW.skip ?_
      refine thenA_normal ?_
      refine AW.seq ?_
      refine AW.block ?_
      refine AW.region ?_
      refine AWo.pure (PureOp.move rfl) rfl rfl ?_
      refine AWo.pure (PureOp.move rfl) rfl rfl ?_
      refine AWo.pure (PureOp.move rfl) rfl rfl ?_
      refine AWo.callX (rget_ctr (xs := xs) (n := xs.length) (i := i) rfl (by omega)) bd108 [(0, 0)] [] rfl (.cons rfl (.cons rfl .nil)) rfl (.cons rfl rfl (.cons rfl rfl .nil)) (.clo rfl (cloM fun _ => rfl) (by intro h; first | exact h | rfl) .nil) rfl (.keep rfl .nil) frN (by decide) (.cons rfl rfl .nil) rfl rfl rfl rfl ?_
      refine AWo.pure (PureOp.move rfl) rfl rfl ?_
      refine AWo.pure (PureOp.move rfl) rfl rfl ?_
      refine AWo.callX (rget_ctr (xs := ys) (n := ys.length) (i := i) rfl (by omega)) bd108 [(1, 0)] [] rfl (.cons rfl (.cons rfl .nil)) rfl (.cons rfl rfl (.cons rfl rfl .nil)) (.clo rfl (cloM fun _ => rfl) (by intro h; first | exact h | rfl) .nil) rfl (.keep rfl .nil) frN (by decide) (.cons rfl rfl .nil) rfl rfl rfl rfl ?_
      refine AWo.callX (addRd (x := Po.co xs i) (y := Po.co ys i)) bd69 [] [] rfl (.cons rfl (.cons rfl .nil)) rfl (.cons rfl rfl (.cons rfl rfl .nil)) .nil rfl .nil frN (by decide) (.cons rfl rfl .nil) rfl rfl rfl rfl ?_
      refine AWo.buildSlice tbok 29000 [(0, dv (Po.co xs i + Po.co ys i))] (out := [dv (Po.co xs i + Po.co ys i)]) rfl rfl (by decide) rfl rfl rfl (by decide) rfl rfl rfl rfl rfl ?_
      refine AWo.append tbok (all := ((Po.pa xs ys).take (i + 1)).map dv) (news := [dv (Po.co xs i + Po.co ys i)]) 30000 rfl rfl rfl rfl (by simp; omega) (by show List.take _ (List.drop 0 _) = _; rw [List.drop_zero]; exact List.take_of_length_le (by simp)) (by first | decide | (simp; done) | (simp; omega)) (by decide) rfl rfl rfl (by first | decide | exact Nat.one_ne_zero) rfl rfl rfl (by first | decide | omega) (by first | decide | omega) (by rfl) (by rw [← pa_step (by omega), List.map_append]; rfl) rfl rfl ?_
      refine AWo.pure (PureOp.assign rfl) rfl rfl ?_
      refine AWo.nil trivial ?_
      refine inBlockA_normal ?_
      refine thenA_normal ?_
      refine AW.region ?_
      refine AWo.pure (PureOp.move rfl) rfl rfl ?_
      first | refine AWo.pure (PureOp.addI (b := 1) rfl rfl (by first | decide | omega)) rfl rfl ?_ | refine AWo.pure (PureOp.bin rfl rfl rfl) rfl rfl ?_
      refine AWo.pure (PureOp.assign rfl) rfl rfl ?_
      refine AWo.nil trivial ?_
      refine thenA_normal ?_
      refine ⟨(Nat.max xs.length ys.length) - (i + 1), [(77000, 30000)], _, by omega, ?_, i + 1, by omega, rfl, rfl⟩
      refine Wk.of [0, 1, 77000] ?_ ?_ ?_ (by decide) rfl
      ·
        refine WkE.upd rfl (by first | exact VR.flat _ rfl | exact VR.eqv (vp_succ _) rfl | exact VR.eqv (vp_succ _).symm rfl | exact VR.eqv (by first | rfl | (congr 1; omega) | (simp; done) | (simp; omega)) rfl) ?_
        refine WkE.upd rfl (by first | exact .nilS _ (by simp) | exact .slice (77000) 0 _ 0 ⟨_, rfl⟩ (by simp) (by simp)) ?_
        refine WkE.upd rfl (.slice (1) 0 _ 0 ⟨_, rfl⟩ (by simp) (by simp)) ?_
        refine WkE.upd rfl (.slice (0) 0 _ 0 ⟨_, rfl⟩ (by simp) (by simp)) ?_
        exact WkE.emp
      ·
        refine WkM.cloM rfl rfl (fun _ => rfl) (fun h => h) ?_
        refine WkM.cloM rfl rfl (fun _ => rfl) (fun h => h) ?_
        refine WkM.cloM rfl rfl (fun _ => rfl) (fun h => h) ?_
        exact WkM.emp
      ·
        repeat (refine dom_upd_mem (by decide) ?_)
        exact dom_emp
    ·
      have hnx := of_decide_eq_false hb0
      refine AWo.pure (PureOp.move rfl) rfl rfl ?_
      refine AWo.pure (PureOp.move rfl) rfl rfl ?_
      first | refine AWo.pure (PureOp.lenS tbok rfl rfl) rfl rfl ?_ | refine AWo.pure (PureOp.lenD tbok rfl rfl) rfl rfl ?_
      first | refine AWo.pure (PureOp.ltN rfl rfl) rfl rfl ?_ | refine AWo.pure (PureOp.bin rfl rfl rfl) rfl rfl ?_
      refine AWo.pure (PureOp.pickF rfl rfl) rfl rfl ?_
      refine AWo.nil trivial ?_
      refine AW.cond rfl (fun hb1 => ?_) (fun hb1 => ?_)
      ·
        have hi : i < (Nat.max xs.length ys.length) := Nat.lt_of_lt_of_le (of_decide_eq_true hb1) (Nat.le_max_right _ _)
        refine AW.skip ?_
        refine thenA_normal ?_
        refine AW.seq ?_
        refine AW.block ?_
        refine AW.region ?_
        refine AWo.pure (PureOp.move rfl) rfl rfl ?_
        refine AWo.pure (PureOp.move rfl) rfl rfl ?_
        refine AWo.pure (PureOp.move rfl) rfl rfl ?_
        refine AWo.callX (rget_ctr (xs := xs) (n := xs.length) (i := i) rfl (by omega)) bd108 [(0, 0)] [] rfl (.cons rfl (.cons rfl .nil)) rfl (.cons rfl rfl (.cons rfl rfl .nil)) (.clo rfl (cloM fun _ => rfl) (by intro h; first | exact h | rfl) .nil) rfl (.keep rfl .nil) frN (by decide) (.cons rfl rfl .nil) rfl rfl rfl rfl ?_
        refine AWo.pure (PureOp.move rfl) rfl rfl ?_
        refine AWo.pure (PureOp.move rfl) rfl rfl ?_
        refine AWo.callX (rget_ctr (xs := ys) (n := ys.length) (i := i) rfl (by omega)) bd108 [(1, 0)] [] rfl (.cons rfl (.cons rfl .nil)) rfl (.cons rfl rfl (.cons rfl rfl .nil)) (.clo rfl (cloM fun _ => rfl) (by intro h; first | exact h | rfl) .nil) rfl (.keep rfl .nil) frN (by decide) (.cons rfl rfl .nil) rfl rfl rfl rfl ?_
        refine AWo.callX (addRd (x := Po.co xs i) (y := Po.co ys i)) bd69 [] [] rfl (.cons rfl (.cons rfl .nil)) rfl (.cons rfl rfl (.cons rfl rfl .nil)) .nil rfl .nil frN (by decide) (.cons rfl rfl .nil) rfl rfl rfl rfl ?_
        refine AWo.buildSlice tbok 29000 [(0, dv (Po.co xs i + Po.co ys i))] (out := [dv (Po.co xs i + Po.co ys i)]) rfl rfl (by decide) rfl rfl rfl (by decide) rfl rfl rfl rfl rfl ?_
        refine AWo.append tbok (all := ((Po.pa xs ys).take (i + 1)).map dv) (news := [dv (Po.co xs i + Po.co ys i)]) 30000 rfl rfl rfl rfl (by simp; omega) (by show List.take _ (List.drop 0 _) = _; rw [List.drop_zero]; exact List.take_of_length_le (by simp)) (by first | decide | (simp; done) | (simp; omega)) (by decide) rfl rfl rfl (by first | decide | exact Nat.one_ne_zero) rfl rfl rfl (by first | decide | omega) (by first | decide | omega) (by rfl) (by rw [← pa_step (by omega), List.map_append]; rfl) rfl rfl ?_
        refine AWo.pure (PureOp.assign rfl) rfl rfl ?_
        refine AWo.nil trivial ?_
        refine inBlockA_normal ?_
        refine thenA_normal ?_
        refine AW.region ?_
        refine AWo.pure (PureOp.move rfl) rfl rfl ?_
        first | refine AWo.pure (PureOp.addI (b := 1) rfl rfl (by first | decide | omega)) rfl rfl ?_ | refine AWo.pure (PureOp.bin rfl rfl rfl) rfl rfl ?_
        refine AWo.pure (PureOp.assign rfl) rfl rfl ?_
        refine AWo.nil trivial ?_
        refine thenA_normal ?_
        refine ⟨(Nat.max xs.length ys.length) - (i + 1), [(77000, 30000)], _, by omega, ?_, i + 1, by omega, rfl, rfl⟩
        refine Wk.of [0, 1, 77000] ?_ ?_ ?_ (by decide) rfl
        ·
          refine WkE.upd rfl (by first | exact VR.flat _ rfl | exact VR.eqv (vp_succ _) rfl | exact VR.eqv (vp_succ _).symm rfl | exact VR.eqv (by first | rfl | (congr 1; omega) | (simp; done) | (simp; omega)) rfl) ?_
          refine WkE.upd rfl (by first | exact .nilS _ (by simp) | exact .slice (77000) 0 _ 0 ⟨_, rfl⟩ (by simp) (by simp)) ?_
          refine WkE.upd rfl (.slice (1) 0 _ 0 ⟨_, rfl⟩ (by simp) (by simp)) ?_
          refine WkE.upd rfl (.slice (0) 0 _ 0 ⟨_, rfl⟩ (by simp) (by simp)) ?_
          exact WkE.emp
        ·
          refine WkM.cloM rfl rfl (fun _ => rfl) (fun h => h) ?_
          refine WkM.cloM rfl rfl (fun _ => rfl) (fun h => h) ?_
          refine WkM.cloM rfl rfl (fun _ => rfl) (fun h => h) ?_
          exact WkM.emp
        ·
          repeat (refine dom_upd_mem (by decide) ?_)
          exact dom_emp
      ·
        have hny := of_decide_eq_false hb1
        have hle : (Nat.max xs.length ys.length) ≤ i := Nat.max_le.2 ⟨by omega, by omega⟩
        obtain rfl : i = (Nat.max xs.length ys.length) := by omega
        simp only [List.take_of_length_le (show (Po.pa xs ys).length ≤ (Nat.max xs.length ys.length) by omega)]
        refine AW.exit ?_
        refine thenA_exit ?_
        refine thenA_exit ?_
        refine inBlockA_hit ?_
        refine thenA_normal ?_
        refine AW.seqR ?_
        refine AWo.pure (PureOp.move rfl) rfl rfl ?_
        refine AWo.callX (rtrim_ctr (xs := Po.pa xs ys) (n := (Nat.max xs.length ys.length)) hpl (by omega)) bd67 [(77000, 0)] [] rfl (.cons rfl .nil) rfl (.cons rfl rfl .nil) (.clo rfl (cloM fun _ => rfl) (by intro h; first | exact h | rfl) .nil) rfl (.keep rfl .nil) frN (by decide) (.cons rfl rfl .nil) rfl rfl rfl rfl ?_
        refine AWo.pure (PureOp.assign rfl) rfl rfl ?_
        refine AWo.nil trivial ?_
        refine AW.ret ?_
        refine RetQ.gc [_] [77000] [.tmp 4] (.inl rfl) rfl (.tmp rfl .nil) rfl (.cons rfl rfl .nil) (OutL.clo rfl (cloM fun _ => rfl) (by intro h; first | rfl | exact h.elim id fun h => absurd h.1 (by simp)) (OutL.clo rfl (cloM fun _ => rfl) (by intro h; first | rfl | exact h.elim id fun h => absurd h.1 (by simp)) (OutL.cloPart rfl (take_pa xs ys) (cloM fun _ => rfl) (fun _ => rfl) (take_paL xs ys) trivial))) (by decide) rfl
theorem rmulT_ctr {xs ys zs : List Fp} {n m : Nat} (hn : xs.length = n) (hk : ys.length = m) (hx : n < 100000) (hy : m < 100000) (hz : Po.tr (Po.pm xs ys) = zs) : GC Try.prog 54 [.slice (some ⟨0, 0, none⟩) n 0, .slice (some ⟨1, 0, none⟩) m 0] [⟨xs.map (dv), false, 1⟩, ⟨ys.map (dv), false, 1⟩] [.slice (some ⟨2, 0, none⟩) zs.length 0] [⟨xs.map (dv), false, 1⟩, ⟨ys.map (dv), false, 1⟩, ⟨zs.map dv, true, 1⟩] := by
  subst hz
  rw [Po.tr_len]
  refine GC.intro Try.func54 rfl (by show 2 ≤ 49; decide) (by first | exact Nat.le_refl _ | decide | simp) ?_
  subst hn
  subst hk
  refine AW.seqR ?_
  refine AWo.pure (PureOp.assign rfl) rfl rfl ?_
  refine AWo.nil trivial ?_
  refine AW.seqR ?_
  refine AWo.buildSlice tbok 10000 [] (out := []) rfl rfl (by decide) rfl rfl rfl (by decide) rfl rfl rfl rfl rfl ?_
  refine AWo.pure (PureOp.assign rfl) rfl rfl ?_
  refine AWo.nil trivial ?_
  refine AW.seq ?_
  refine AW.seqR ?_
  refine AWo.pure (PureOp.assign rfl) rfl rfl ?_
  refine AWo.nil trivial ?_
  refine AW.block ?_
  refine AW.loopw (fun mm σ => ∃ k, (k ≤ (xs.length + ys.length)) ∧ mm = (xs.length + ys.length) - k ∧ σ = ⟨(upd (upd (upd (upd emp 0 (.slice (some ⟨0, 0, none⟩) xs.length 0)) 1 (.slice (some ⟨1, 0, none⟩) ys.length 0)) 5 (.slice (some ⟨77000, 0, none⟩) k 0)) 6 (vi .i64 k)), (upd (upd (upd emp 0 ⟨xs.map dv, false, 1⟩) 1 ⟨ys.map dv, false, 1⟩) 77000 ⟨((List.range k).map (Po.co (Po.pm xs ys))).map dv, true, 1⟩)⟩) (fm := [(77000, 10000)]) ?_ ⟨0, Nat.zero_le _, rfl, rfl⟩ ?_
  ·
    refine Wk.of [0, 1, 77000] ?_ ?_ ?_ (by decide) rfl
    ·
      refine WkE.upd rfl (by first | exact VR.flat _ rfl | exact VR.eqv (vp_succ _) rfl | exact VR.eqv (vp_succ _).symm rfl | exact VR.eqv (by first | rfl | (congr 1; omega) | (simp; done) | (simp; omega)) rfl) ?_
      refine WkE.upd rfl (by first | exact .nilS _ (by simp) | exact .slice (77000) 0 _ 0 ⟨_, rfl⟩ (by simp) (by simp)) ?_
      refine WkE.upd rfl (.slice (1) 0 _ 0 ⟨_, rfl⟩ (by simp) (by simp)) ?_
      refine WkE.upd rfl (.slice (0) 0 _ 0 ⟨_, rfl⟩ (by simp) (by simp)) ?_
      exact WkE.emp
    ·
      refine WkM.cloM rfl rfl (fun _ => rfl) (fun h => h) ?_
      refine WkM.cloM rfl rfl (fun _ => rfl) (fun h => h) ?_
      refine WkM.cloM rfl rfl (fun _ => rfl) (fun h => h) ?_
      exact WkM.emp
    ·
      repeat (refine dom_upd_mem (by decide) ?_)
      exact dom_emp
  ·
    rintro mm σ ⟨k, hk0, rfl, rfl⟩
    refine AW.seq ?_
    refine AW.seqR ?_
    refine AWo.pure (PureOp.move rfl) rfl rfl ?_
    refine AWo.pure (PureOp.move rfl) rfl rfl ?_
    first | refine AWo.pure (PureOp.lenS tbok rfl rfl) rfl rfl ?_ | refine AWo.pure (PureOp.lenD tbok rfl rfl) rfl rfl ?_
    refine AWo.pure (PureOp.move rfl) rfl rfl ?_
    first | refine AWo.pure (PureOp.lenS tbok rfl rfl) rfl rfl ?_ | refine AWo.pure (PureOp.lenD tbok rfl rfl) rfl rfl ?_
    first | refine AWo.pure (PureOp.addI rfl rfl (by first | decide | omega)) rfl rfl ?_ | refine AWo.pure (PureOp.bin rfl rfl rfl) rfl rfl ?_
    first | refine AWo.pure (PureOp.ltN rfl rfl) rfl rfl ?_ | refine AWo.pure (PureOp.bin rfl rfl rfl) rfl rfl ?_
    refine AWo.nil trivial ?_
    refine AW.cond rfl (fun hb0 => ?_) (fun hb0 => ?_)
    ·
      have hk1 : k < (xs.length + ys.length) := by simpa using hb0
      refine AW.skip ?_
      refine thenA_normal ?_
      refine AW.seq ?_
      refine AW.block ?_
      refine AW.seqR ?_
      refine AWo.buildSlice tbok 20000 [] (out := []) rfl rfl (by decide) rfl rfl rfl (by decide) rfl rfl rfl rfl rfl ?_
      refine AWo.pure (PureOp.assign rfl) rfl rfl ?_
      refine AWo.nil trivial ?_
      refine AW.seq ?_
      refine AW.freeze 7 20000 ([] : List Value) ?_ rfl rfl (by simp) (by simp) rfl
      rw [sum0 (xs := xs) (ys := ys) (k := k)]
      refine AW.seqR ?_
      refine AWo.pure (PureOp.assign rfl) rfl rfl ?_
      refine AWo.nil trivial ?_
      refine AW.block ?_
      refine AW.loopw (fun mm σ => ∃ i, (i ≤ xs.length) ∧ mm = xs.length - i ∧ σ = ⟨(upd (upd (upd (upd (upd (upd emp 0 (.slice (some ⟨0, 0, none⟩) xs.length 0)) 1 (.slice (some ⟨1, 0, none⟩) ys.length 0)) 5 (.slice (some ⟨77000, 0, none⟩) k 0)) 6 (vi .i64 k)) 7 (dv (Po.co (Po.pm (xs.take i) ys) k))) 8 (vi .i64 i)), (upd (upd (upd emp 0 ⟨xs.map dv, false, 1⟩) 1 ⟨ys.map dv, false, 1⟩) 77000 ⟨((List.range k).map (Po.co (Po.pm xs ys))).map dv, true, 1⟩)⟩) (fm := []) ?_ ⟨0, Nat.zero_le _, rfl, rfl⟩ ?_
      ·
        refine Wk.of [0, 1, 77000] ?_ ?_ ?_ (by decide) rfl
        ·
          refine WkE.upd rfl (by first | exact VR.flat _ rfl | exact VR.eqv (vp_succ _) rfl | exact VR.eqv (vp_succ _).symm rfl | exact VR.eqv (by first | rfl | (congr 1; omega) | (simp; done) | (simp; omega)) rfl) ?_
          refine WkE.upd rfl (clo_refl (by simp) rfl) ?_
          refine WkE.upd rfl (by first | exact VR.flat _ rfl | exact VR.eqv (vp_succ _) rfl | exact VR.eqv (vp_succ _).symm rfl | exact VR.eqv (by first | rfl | (congr 1; omega) | (simp; done) | (simp; omega)) rfl) ?_
          refine WkE.upd rfl (by first | exact .nilS _ (by simp) | exact .slice (77000) 0 _ 0 ⟨_, rfl⟩ (by simp) (by simp)) ?_
          refine WkE.upd rfl (.slice (1) 0 _ 0 ⟨_, rfl⟩ (by simp) (by simp)) ?_
          refine WkE.upd rfl (.slice (0) 0 _ 0 ⟨_, rfl⟩ (by simp) (by simp)) ?_
          exact WkE.emp
        ·
          refine WkM.cloM rfl rfl (fun _ => rfl) (fun h => h) ?_
          refine WkM.cloM rfl rfl (fun _ => rfl) (fun h => h) ?_
          refine WkM.cloM rfl rfl (fun _ => rfl) (fun h => h) ?_
          exact WkM.emp
        ·
          repeat (refine dom_upd_mem (by decide) ?_)
          exact dom_emp
      ·
        rintro mm σ ⟨i, hinv, rfl, rfl⟩
        refine AW.seq ?_
        refine AW.seqR ?_
        refine AWo.pure (PureOp.move rfl) rfl rfl ?_
        refine AWo.pure (PureOp.move rfl) rfl rfl ?_
        refine yP (PureOp.leN (a := i) (b := k) rfl rfl) ?_
        first | refine AWo.pureB (PureOp.move rfl) rfl rfl (fun hb1 => ?_) (fun hb1 => ?_)
        ·
          have hik : i ≤ k := of_decide_eq_true hb1
          refine AWo.pure (PureOp.move rfl) rfl rfl ?_
          refine AWo.pure (PureOp.move rfl) rfl rfl ?_
          first | refine AWo.pure (PureOp.lenS tbok rfl rfl) rfl rfl ?_ | refine AWo.pure (PureOp.lenD tbok rfl rfl) rfl rfl ?_
          first | refine AWo.pure (PureOp.ltN rfl rfl) rfl rfl ?_ | refine AWo.pure (PureOp.bin rfl rfl rfl) rfl rfl ?_
          refine AWo.pure (PureOp.pickT rfl rfl) rfl rfl ?_
          refine AWo.nil trivial ?_
          refine AW.cond rfl (fun hb2 => ?_) (fun hb2 => ?_)
          ·
            have hi : i < xs.length := of_decide_eq_true hb2
            refine AW.skip ?_
            refine thenA_normal ?_
            refine AW.seq ?_
            refine AW.block ?_
            refine AW.draw mixed ?_
            refine AWo.pure (PureOp.move rfl) rfl rfl ?_
            refine AWo.pure (PureOp.move rfl) rfl rfl ?_
            refine AWo.pure (PureOp.move rfl) rfl rfl ?_
            refine AWo.pure (PureOp.idx1 tbok (j := i) rfl rfl rfl rfl hi) rfl rfl ?_
            refine AWo.loadM tbok (f := dv) 0 rfl rfl rfl hi rfl rfl ?_
            refine AWo.pure (PureOp.move rfl) rfl rfl ?_
            refine AWo.pure (PureOp.move rfl) rfl rfl ?_
            refine AWo.pure (PureOp.move rfl) rfl rfl ?_
            first | refine AWo.pure (PureOp.subI rfl rfl (by first | decide | omega) (by first | decide | omega)) rfl rfl ?_ | refine AWo.pure (PureOp.subP rfl rfl (by first | decide | omega)) rfl rfl ?_ | refine AWo.pure (PureOp.bin rfl rfl rfl) rfl rfl ?_
            refine AWo.callX (rget_ctr (xs := ys) (n := ys.length) (i := k - i) rfl (by omega)) bd108 [(1, 0)] [] rfl (.cons rfl (.cons rfl .nil)) rfl (.cons rfl rfl (.cons rfl rfl .nil)) (.clo rfl (cloM fun _ => rfl) (by intro h; first | exact h | rfl) .nil) rfl (.keep rfl .nil) frN (by decide) (.cons rfl rfl .nil) rfl rfl rfl rfl ?_
            refine AWo.callX (mulRd (x := xs.getD i 0) (y := Po.co ys (k - i))) bd109 [] [] rfl (.cons rfl (.cons rfl .nil)) rfl (.cons rfl rfl (.cons rfl rfl .nil)) .nil rfl .nil frN (by decide) (.cons rfl rfl .nil) rfl rfl rfl rfl ?_
            refine AWo.callX (v := dv (Po.co (Po.pm (xs.take (i + 1)) ys) k)) (addRd (x := Po.co (Po.pm (xs.take i) ys) k) (y := xs.getD i 0 * Po.co ys (k - i))) bd69 [] [] rfl (.cons rfl (.cons rfl .nil)) rfl (.cons rfl rfl (.cons rfl rfl .nil)) .nil rfl .nil frN (by decide) (.cons rfl rfl .nil) (by rw [sum_step hi hik]; rfl) rfl rfl rfl ?_
            refine AWo.pure (PureOp.assign rfl) rfl rfl ?_
            refine AWo.nil (by kernel_rfl) ?_
            refine inBlockA_normal ?_
            refine thenA_normal ?_
            refine AW.region ?_
            refine AWo.pure (PureOp.move rfl) rfl rfl ?_
            first | refine AWo.pure (PureOp.addI (b := 1) rfl rfl (by first | decide | omega)) rfl rfl ?_ | refine AWo.pure (PureOp.bin rfl rfl rfl) rfl rfl ?_
            refine AWo.pure (PureOp.assign rfl) rfl rfl ?_
            refine AWo.nil trivial ?_
            refine thenA_normal ?_
            refine ⟨xs.length - (i + 1), [], _, by omega, ?_, i + 1, by omega, rfl, rfl⟩
            refine Wk.of [0, 1, 77000] ?_ ?_ ?_ (by decide) rfl
            ·
              refine WkE.upd rfl (by first | exact VR.flat _ rfl | exact VR.eqv (vp_succ _) rfl | exact VR.eqv (vp_succ _).symm rfl | exact VR.eqv (by first | rfl | (congr 1; omega) | (simp; done) | (simp; omega)) rfl) ?_
              refine WkE.upd rfl (clo_refl (by simp) rfl) ?_
              refine WkE.upd rfl (by first | exact VR.flat _ rfl | exact VR.eqv (vp_succ _) rfl | exact VR.eqv (vp_succ _).symm rfl | exact VR.eqv (by first | rfl | (congr 1; omega) | (simp; done) | (simp; omega)) rfl) ?_
              refine WkE.upd rfl (by first | exact .nilS _ (by simp) | exact .slice (77000) 0 _ 0 ⟨_, rfl⟩ (by simp) (by simp)) ?_
              refine WkE.upd rfl (.slice (1) 0 _ 0 ⟨_, rfl⟩ (by simp) (by simp)) ?_
              refine WkE.upd rfl (.slice (0) 0 _ 0 ⟨_, rfl⟩ (by simp) (by simp)) ?_
              exact WkE.emp
            ·
              refine WkM.cloM rfl rfl (fun _ => rfl) (fun h => h) ?_
              refine WkM.cloM rfl rfl (fun _ => rfl) (fun h => h) ?_
              refine WkM.cloM rfl rfl (fun _ => rfl) (fun h => h) ?_
              exact WkM.emp
            ·
              repeat (refine dom_upd_mem (by decide) ?_)
              exact dom_emp
          ·
            have hi := of_decide_eq_false hb2
            rw [sum_end (xs := xs) (ys := ys) (k := k) (i := i) (.inr (by omega))]
            refine AW.exit ?_
            refine thenA_exit ?_
            refine thenA_exit ?_
            refine inBlockA_hit ?_
            refine thenA_normal ?_
            refine AW.region ?_
            refine AWo.pure (PureOp.move rfl) rfl rfl ?_
            refine AWo.pure (PureOp.move rfl) rfl rfl ?_
            refine AWo.buildSlice tbok 46000 [(0, dv (Po.co (Po.pm xs ys) k))] (out := [dv (Po.co (Po.pm xs ys) k)]) rfl rfl (by decide) rfl rfl rfl (by decide) rfl rfl rfl rfl rfl ?_
            refine AWo.append tbok (all := ((List.range (k + 1)).map (Po.co (Po.pm xs ys))).map dv) (news := [dv (Po.co (Po.pm xs ys) k)]) 47000 rfl rfl rfl rfl (by simp) (by show List.take _ (List.drop 0 _) = _; rw [List.drop_zero]; exact List.take_of_length_le (by simp)) (by first | decide | (simp; done) | (simp; omega)) (by decide) rfl rfl rfl (by first | decide | exact Nat.one_ne_zero) rfl rfl rfl (by first | decide | omega) (by first | decide | omega) (by rfl) (by rw [List.range_succ, List.map_append, List.map_append]; rfl) rfl rfl ?_
            refine AWo.pure (PureOp.assign rfl) rfl rfl ?_
            refine AWo.nil trivial ?_
            refine inBlockA_normal ?_
            refine thenA_normal ?_
            refine AW.region ?_
            refine AWo.pure (PureOp.move rfl) rfl rfl ?_
            first | refine AWo.pure (PureOp.addI (b := 1) rfl rfl (by first | decide | omega)) rfl rfl ?_ | refine AWo.pure (PureOp.bin rfl rfl rfl) rfl rfl ?_
            refine AWo.pure (PureOp.assign rfl) rfl rfl ?_
            refine AWo.nil trivial ?_
            refine thenA_normal ?_
            refine ⟨(xs.length + ys.length) - (k + 1), [(77000, 47000)], _, by omega, ?_, k + 1, by omega, rfl, rfl⟩
            refine Wk.of [0, 1, 77000] ?_ ?_ ?_ (by decide) rfl
            ·
              refine WkE.upd rfl (by first | exact VR.flat _ rfl | exact VR.eqv (vp_succ _) rfl | exact VR.eqv (vp_succ _).symm rfl | exact VR.eqv (by first | rfl | (congr 1; omega) | (simp; done) | (simp; omega)) rfl) ?_
              refine WkE.upd rfl (by first | exact .nilS _ (by simp) | exact .slice (77000) 0 _ 0 ⟨_, rfl⟩ (by simp) (by simp)) ?_
              refine WkE.upd rfl (.slice (1) 0 _ 0 ⟨_, rfl⟩ (by simp) (by simp)) ?_
              refine WkE.upd rfl (.slice (0) 0 _ 0 ⟨_, rfl⟩ (by simp) (by simp)) ?_
              exact WkE.emp
            ·
              refine WkM.cloM rfl rfl (fun _ => rfl) (fun h => h) ?_
              refine WkM.cloM rfl rfl (fun _ => rfl) (fun h => h) ?_
              refine WkM.cloM rfl rfl (fun _ => rfl) (fun h => h) ?_
              exact WkM.emp
            ·
              repeat (refine dom_upd_mem (by decide) ?_)
              exact dom_emp
        ·
          have hik := of_decide_eq_false hb1
          rw [sum_end (xs := xs) (ys := ys) (k := k) (i := i) (.inl (by omega))]
          refine AWo.skipped rfl rfl ?_
          refine AWo.skipped rfl rfl ?_
          refine AWo.skipped rfl rfl ?_
          refine AWo.skipped rfl rfl ?_
          refine AWo.pure (PureOp.pickF rfl rfl) rfl rfl ?_
          refine AWo.nil trivial ?_
          refine AW.condF rfl ?_
          refine AW.exit ?_
          refine thenA_exit ?_
          refine thenA_exit ?_
          refine inBlockA_hit ?_
          refine thenA_normal ?_
          refine AW.region ?_
          refine AWo.pure (PureOp.move rfl) rfl rfl ?_
          refine AWo.pure (PureOp.move rfl) rfl rfl ?_
          refine AWo.buildSlice tbok 46000 [(0, dv (Po.co (Po.pm xs ys) k))] (out := [dv (Po.co (Po.pm xs ys) k)]) rfl rfl (by decide) rfl rfl rfl (by decide) rfl rfl rfl rfl rfl ?_
          refine AWo.append tbok (all := ((List.range (k + 1)).map (Po.co (Po.pm xs ys))).map dv) (news := [dv (Po.co (Po.pm xs ys) k)]) 47000 rfl rfl rfl rfl (by simp) (by show List.take _ (List.drop 0 _) = _; rw [List.drop_zero]; exact List.take_of_length_le (by simp)) (by first | decide | (simp; done) | (simp; omega)) (by decide) rfl rfl rfl (by first | decide | exact Nat.one_ne_zero) rfl rfl rfl (by first | decide | omega) (by first | decide | omega) (by rfl) (by rw [List.range_succ, List.map_append, List.map_append]; rfl) rfl rfl ?_
          refine AWo.pure (PureOp.assign rfl) rfl rfl ?_
          refine AWo.nil trivial ?_
          refine inBlockA_normal ?_
          refine thenA_normal ?_
          refine AW.region ?_
          refine AWo.pure (PureOp.move rfl) rfl rfl ?_
          first | refine AWo.pure (PureOp.addI (b := 1) rfl rfl (by first | decide | omega)) rfl rfl ?_ | refine AWo.pure (PureOp.bin rfl rfl rfl) rfl rfl ?_
          refine AWo.pure (PureOp.assign rfl) rfl rfl ?_
          refine AWo.nil trivial ?_
          refine thenA_normal ?_
          refine ⟨(xs.length + ys.length) - (k + 1), [(77000, 47000)], _, by omega, ?_, k + 1, by omega, rfl, rfl⟩
          refine Wk.of [0, 1, 77000] ?_ ?_ ?_ (by decide) rfl
          ·
            refine WkE.upd rfl (by first | exact VR.flat _ rfl | exact VR.eqv (vp_succ _) rfl | exact VR.eqv (vp_succ _).symm rfl | exact VR.eqv (by first | rfl | (congr 1; omega) | (simp; done) | (simp; omega)) rfl) ?_
            refine WkE.upd rfl (by first | exact .nilS _ (by simp) | exact .slice (77000) 0 _ 0 ⟨_, rfl⟩ (by simp) (by simp)) ?_
            refine WkE.upd rfl (.slice (1) 0 _ 0 ⟨_, rfl⟩ (by simp) (by simp)) ?_
            refine WkE.upd rfl (.slice (0) 0 _ 0 ⟨_, rfl⟩ (by simp) (by simp)) ?_
            exact WkE.emp
          ·
            refine WkM.cloM rfl rfl (fun _ => rfl) (fun h => h) ?_
            refine WkM.cloM rfl rfl (fun _ => rfl) (fun h => h) ?_
            refine WkM.cloM rfl rfl (fun _ => rfl) (fun h => h) ?_
            exact WkM.emp
          ·
            repeat (refine dom_upd_mem (by decide) ?_)
            exact dom_emp
    ·
      obtain rfl : k = (xs.length + ys.length) := by simp at hb0; omega
      rw [← dg_pad xs ys]
      refine AW.exit ?_
      refine thenA_exit ?_
      refine thenA_exit ?_
      refine inBlockA_hit ?_
      refine thenA_normal ?_
      refine AW.seqR ?_
      refine AWo.pure (PureOp.move rfl) rfl rfl ?_
      refine AWo.callX (rtrim_ctr (xs := (List.range (xs.length + ys.length)).map (Po.co (Po.pm xs ys))) (n := (xs.length + ys.length)) (by simp) (by omega)) bd67 [(77000, 0)] [] rfl (.cons rfl .nil) rfl (.cons rfl rfl .nil) (.clo rfl (cloM fun _ => rfl) (by intro h; first | exact h | rfl) .nil) rfl (.keep rfl .nil) frN (by decide) (.cons rfl rfl .nil) rfl rfl rfl rfl ?_
      refine AWo.pure (PureOp.assign rfl) rfl rfl ?_
      refine AWo.nil trivial ?_
      refine AW.ret ?_
      refine RetQ.gc [_] [77000] [.tmp 4] (.inl rfl) rfl (.tmp rfl .nil) rfl (.cons rfl rfl .nil) (OutL.clo rfl (cloM fun _ => rfl) (by intro h; first | rfl | exact h.elim id fun h => absurd h.1 (by simp)) (OutL.clo rfl (cloM fun _ => rfl) (by intro h; first | rfl | exact h.elim id fun h => absurd h.1 (by simp)) (OutL.cloPart rfl (take_pm xs ys) (cloM fun _ => rfl) (fun _ => rfl) (take_pmL xs ys) trivial))) (by decide) rfl
def prt (vs : List Fp) (i : Nat) : Nat → List Fp
  | 0 => [vs.getD i 0]
  | j + 1 => if j = i then prt vs i j else Po.tr (Po.pm (prt vs i j) [(0 - fp j) * finv (fp i - fp j), finv (fp i - fp j)])
theorem prt_skip {vs : List Fp} {i j : Nat} (h : j = i) : prt vs i (j + 1) = prt vs i j := by rw [prt, if_pos h]
theorem prt_step {vs : List Fp} {i j : Nat} (h : ¬ j = i) : Po.tr (Po.pm (prt vs i j) [(0 - fp j) * finv (fp i - fp j), finv (fp i - fp j)]) = prt vs i (j + 1) := by rw [prt, if_neg h]
def lagO (vs : List Fp) : Nat → List Fp
  | 0 => []
  | i + 1 => Po.tr (Po.pa (lagO vs i) (prt vs i vs.length))
theorem tr_le {p : List Fp} {d : Nat} (h : ∀ i, d ≤ i → Po.co p i = 0) : (Po.tr p).length ≤ d := by rw [Po.tr_len]; exact dg_bound h
theorem prt_le2 (vs : List Fp) (i : Nat) : ∀ j, (prt vs i j).length ≤ 1 + (if i < j then j - 1 else j)
  | 0 => by simp [prt]
  | j + 1 => by
    have ih := prt_le2 vs i j
    rw [prt]
    split
    · rename_i h; subst h; rw [if_neg (Nat.lt_irrefl j)] at ih; rw [if_pos (Nat.lt_succ_self j)]; omega
    · rename_i h
      refine tr_le fun t ht => co_pm2 _ _ ?_
      split at ih <;> split at ht <;> omega
theorem prt_le (vs : List Fp) (i j : Nat) : (prt vs i j).length ≤ j + 1 := by
  have := prt_le2 vs i j; split at this <;> omega
theorem prt_all {vs : List Fp} {i : Nat} (h : i < vs.length) : (prt vs i vs.length).length ≤ vs.length := by
  have := prt_le2 vs i vs.length; rw [if_pos h] at this; omega
theorem lagO_le (vs : List Fp) : ∀ i, (lagO vs i).length ≤ vs.length + 1
  | 0 => Nat.zero_le _
  | i + 1 => by
    have := lagO_le vs i
    have := prt_le vs i vs.length
    rw [lagO, Po.tr_len]
    have h := Po.dg_le (Po.pa (lagO vs i) (prt vs i vs.length))
    rw [Po.pa_len] at h
    exact Nat.le_trans h (Nat.max_le.2 ⟨by omega, by omega⟩)
theorem lagO_le2 (vs : List Fp) : ∀ i, i ≤ vs.length → (lagO vs i).length ≤ vs.length
  | 0, _ => Nat.zero_le _
  | i + 1, hi => by
    have := lagO_le2 vs i (by omega)
    have := prt_all (vs := vs) (i := i) (by omega)
    rw [lagO, Po.tr_len]
    have h := Po.dg_le (Po.pa (lagO vs i) (prt vs i vs.length))
    rw [Po.pa_len] at h
    exact Nat.le_trans h (Nat.max_le.2 ⟨by omega, by omega⟩)
theorem ringL (x k b : Fp) : (0 * x + b) * x + (0 - k) * b = (x - k) * b := by grind
theorem ev_lin (x k b : Fp) : Po.ev x [(0 - k) * b, b] = (x - k) * b := by
  rw [Po.ev, Po.ev, Po.ev]; exact ringL x k b
theorem finv_mul {x : Fp} (h : ¬ x = 0) : x * finv x = 1 := mul_finv h
theorem ev_prt {vs : List Fp} {i m : Nat} (hi : i < 1000000) (hm : m < 1000000) : ∀ j, j < 1000000 → Po.ev (fp m) (prt vs i j) = if m = i then vs.getD i 0 else if m < j then 0 else Po.ev (fp m) (prt vs i j)
  | 0, _ => by
    split
    · rw [prt, Po.ev, Po.ev]; exact Po.ring9 _ _
    · rw [if_neg (Nat.not_lt_zero m)]
  | j + 1, hj => by
    have ih := ev_prt (vs := vs) hi hm j (by omega)
    by_cases hij : j = i
    · rw [prt_skip hij]
      by_cases h1 : m = i
      · rw [if_pos h1] at ih ⊢; exact ih
      · rw [if_neg h1] at ih ⊢
        by_cases h2 : m < j
        · rw [if_pos h2] at ih; rw [if_pos (by omega)]; exact ih
        · rw [if_neg (by omega)]
    · rw [← prt_step hij, Po.ev_tr, Po.ev_pm, ev_lin]
      by_cases h1 : m = i
      · rw [if_pos h1] at ih ⊢
        rw [ih, h1, finv_mul (fun e => by
          have e2 := Po.ring13 e
          rcases Nat.lt_or_gt_of_ne hij with h | h
          · exact fp_ne h (by omega) e2.symm
          · exact fp_ne h (by omega) e2), Rg.mul_one]
      · rw [if_neg h1] at ih ⊢
        by_cases h2 : m < j
        · rw [if_pos h2] at ih; rw [if_pos (by omega), ih, Rg.zero_mul]
        · by_cases h3 : m = j
          · subst h3; rw [if_pos (Nat.lt_succ_self m), Rg.sub_self, Rg.zero_mul, Rg.mul_zero]
          · rw [if_neg (by omega)]
theorem ev_lagO {vs : List Fp} {m : Nat} (hn : vs.length < 1000000) (hm : m < vs.length) : ∀ i, i ≤ vs.length → Po.ev (fp m) (lagO vs i) = if m < i then Po.co vs m else 0
  | 0, _ => by rw [if_neg (Nat.not_lt_zero m)]; rfl
  | i + 1, hi => by
    have ih := ev_lagO hn hm i (by omega)
    have e := ev_prt (vs := vs) (i := i) (m := m) (by omega) (by omega) vs.length hn
    rw [lagO, Po.ev_tr, Po.ev_pa, ih, e]
    by_cases h1 : m = i
    · subst h1; rw [if_pos rfl, if_neg (Nat.lt_irrefl m), if_pos (Nat.lt_succ_self m), Rg.zero_add]; rfl
    · rw [if_neg h1, if_pos hm, Rg.add_zero]
      by_cases h2 : m < i
      · rw [if_pos h2, if_pos (by omega)]
      · rw [if_neg h2, if_neg (by omega)]
theorem lag_thr {vs : List Fp} (hn : vs.length < 1000000) : thr vs = lagO vs vs.length := by
  rw [thr_uniq hn (lagO_le2 vs _ (Nat.le_refl _)) (fun m hm => by rw [ev_lagO hn hm _ (Nat.le_refl _), if_pos hm])]
  cases h : vs.length with
  | zero => rfl
  | succ k => rw [lagO, Po.tr_tr]
theorem dv_fp {v : Nat} (h : v < 1000000) : dv (fp v) = dd v := by
  show dd (fp v).val = dd v
  rw [fp_val_lt (by omega)]
theorem rthr_ctr {vs : List Fp} {n : Nat} (hn : vs.length = n) (hx : n < 10000) : GC Try.prog 56 [.slice (some ⟨0, 0, none⟩) n 0] [⟨vs.map (dv), false, 1⟩] [.slice (some ⟨1, 0, none⟩) (lagO vs vs.length).length 0] [⟨vs.map (dv), false, 1⟩, ⟨(lagO vs vs.length).map dv, true, 1⟩] := by
  refine GC.intro Try.func56 rfl (by show 1 ≤ 55; decide) (by first | exact Nat.le_refl _ | decide | simp) ?_
  subst hn
  have hLn := lagO_le vs
  refine AW.seqR ?_
  refine yA ?_
  refine AWo.nil trivial ?_
  refine AW.seqR ?_
  refine AWo.buildSlice tbok 11000 [] (out := []) rfl rfl (by decide) rfl rfl rfl (by decide) rfl rfl rfl rfl rfl ?_
  refine AWo.pure (PureOp.assign rfl) rfl rfl ?_
  refine AWo.nil trivial ?_
  refine AW.seq ?_
  refine AW.seqR ?_
  refine AWo.pure (PureOp.assign rfl) rfl rfl ?_
  refine AWo.nil trivial ?_
  refine AW.block ?_
  refine AW.loopw (fun mm σ => ∃ i, (i ≤ vs.length) ∧ mm = vs.length - i ∧ σ = ⟨(upd (upd (upd emp 0 (.slice (some ⟨0, 0, none⟩) vs.length 0)) 3 (.slice (some ⟨77000, 0, none⟩) (lagO vs i).length 0)) 4 (vi .i64 i)), (upd (upd emp 0 ⟨vs.map dv, false, 1⟩) 77000 ⟨(lagO vs i).map dv, true, 1⟩)⟩) (fm := [(77000, 11000)]) ?_ ⟨0, Nat.zero_le _, rfl, rfl⟩ ?_
  ·
    refine Wk.of [0, 77000] ?_ ?_ ?_ (by decide) rfl
    ·
      refine WkE.upd rfl (by first | exact VR.flat _ rfl | exact VR.eqv (vp_succ _) rfl | exact VR.eqv (vp_succ _).symm rfl | exact VR.eqv (by first | rfl | (congr 1; omega) | (simp; done) | (simp; omega)) rfl) ?_
      refine WkE.upd rfl (by first | exact .nilS _ (by simp) | exact .slice (77000) 0 _ 0 ⟨_, rfl⟩ (by simp) (by simp)) ?_
      refine WkE.upd rfl (.slice (0) 0 _ 0 ⟨_, rfl⟩ (by simp) (by simp)) ?_
      exact WkE.emp
    ·
      refine WkM.cloM rfl rfl (fun _ => rfl) (fun h => h) ?_
      refine WkM.cloM rfl rfl (fun _ => rfl) (fun h => h) ?_
      exact WkM.emp
    ·
      repeat (refine dom_upd_mem (by decide) ?_)
      exact dom_emp
  ·
    rintro mm σ ⟨i, hinv, rfl, rfl⟩
    have hLi := hLn i
    refine AW.seq ?_
    refine AW.seqR ?_
    refine AWo.pure (PureOp.move rfl) rfl rfl ?_
    refine AWo.pure (PureOp.move rfl) rfl rfl ?_
    first | refine AWo.pure (PureOp.lenS tbok rfl rfl) rfl rfl ?_ | refine AWo.pure (PureOp.lenD tbok rfl rfl) rfl rfl ?_
    first | refine AWo.pure (PureOp.ltN rfl rfl) rfl rfl ?_ | refine AWo.pure (PureOp.bin rfl rfl rfl) rfl rfl ?_
    refine AWo.nil trivial ?_
    refine AW.cond rfl (fun hb0 => ?_) (fun hb0 => ?_)
    ·
      have hi : i < vs.length := by simpa using hb0
      refine AW.skip ?_
      refine thenA_normal ?_
      refine AW.seq ?_
      refine AW.block ?_
      refine AW.seqR ?_
      refine AWo.pure (PureOp.move rfl) rfl rfl ?_
      refine AWo.pure (PureOp.move rfl) rfl rfl ?_
      refine AWo.pure (PureOp.idx1 tbok (j := i) rfl rfl rfl rfl hi) rfl rfl ?_
      refine AWo.loadM tbok (f := dv) 0 rfl rfl rfl hi rfl rfl ?_
      refine AWo.buildSlice tbok 22000 [(0, dv (vs.getD i 0))] (out := [dv (vs.getD i 0)]) rfl rfl (by decide) rfl rfl rfl (by decide) rfl rfl rfl rfl rfl ?_
      refine AWo.pure (PureOp.assign rfl) rfl rfl ?_
      refine AWo.nil trivial ?_
      refine AW.seq ?_
      refine AW.seqR ?_
      refine AWo.pure (PureOp.assign rfl) rfl rfl ?_
      refine AWo.nil trivial ?_
      refine AW.block ?_
      refine AW.loopw (fun mm σ => ∃ j, (j ≤ vs.length) ∧ mm = vs.length - j ∧ σ = ⟨(upd (upd (upd (upd (upd emp 0 (.slice (some ⟨0, 0, none⟩) vs.length 0)) 3 (.slice (some ⟨77000, 0, none⟩) (lagO vs i).length 0)) 4 (vi .i64 i)) 5 (.slice (some ⟨76000, 0, none⟩) (prt vs i j).length 0)) 6 (vi .i64 j)), (upd (upd (upd emp 0 ⟨vs.map dv, false, 1⟩) 77000 ⟨(lagO vs i).map dv, true, 1⟩) 76000 ⟨(prt vs i j).map dv, true, 1⟩)⟩) (fm := [(76000, 22000)]) ?_ ⟨0, Nat.zero_le _, rfl, rfl⟩ ?_
      ·
        refine Wk.of [0, 77000, 76000] ?_ ?_ ?_ (by decide) rfl
        ·
          refine WkE.upd rfl (by first | exact VR.flat _ rfl | exact VR.eqv (vp_succ _) rfl | exact VR.eqv (vp_succ _).symm rfl | exact VR.eqv (by first | rfl | (congr 1; omega) | (simp; done) | (simp; omega)) rfl) ?_
          refine WkE.upd rfl (.slice (76000) 0 _ 0 ⟨_, rfl⟩ (by simp) (by simp)) ?_
          refine WkE.upd rfl (by first | exact VR.flat _ rfl | exact VR.eqv (vp_succ _) rfl | exact VR.eqv (vp_succ _).symm rfl | exact VR.eqv (by first | rfl | (congr 1; omega) | (simp; done) | (simp; omega)) rfl) ?_
          refine WkE.upd rfl (by first | exact .nilS _ (by simp) | exact .slice (77000) 0 _ 0 ⟨_, rfl⟩ (by simp) (by simp)) ?_
          refine WkE.upd rfl (.slice (0) 0 _ 0 ⟨_, rfl⟩ (by simp) (by simp)) ?_
          exact WkE.emp
        ·
          refine WkM.cloM rfl rfl (fun _ => rfl) (fun h => h) ?_
          refine WkM.cloM rfl rfl (fun _ => rfl) (fun h => h) ?_
          refine WkM.cloM rfl rfl (fun _ => rfl) (fun h => h) ?_
          exact WkM.emp
        ·
          repeat (refine dom_upd_mem (by decide) ?_)
          exact dom_emp
      ·
        rintro mm σ ⟨j, hj0, rfl, rfl⟩
        have hpl := prt_le vs i j
        refine AW.seq ?_
        refine AW.seqR ?_
        refine AWo.pure (PureOp.move rfl) rfl rfl ?_
        refine AWo.pure (PureOp.move rfl) rfl rfl ?_
        first | refine AWo.pure (PureOp.lenS tbok rfl rfl) rfl rfl ?_ | refine AWo.pure (PureOp.lenD tbok rfl rfl) rfl rfl ?_
        first | refine AWo.pure (PureOp.ltN rfl rfl) rfl rfl ?_ | refine AWo.pure (PureOp.bin rfl rfl rfl) rfl rfl ?_
        refine AWo.nil trivial ?_
        refine AW.cond rfl (fun hb1 => ?_) (fun hb1 => ?_)
        ·
          have hj : j < vs.length := by simpa using hb1
          refine AW.skip ?_
          refine thenA_normal ?_
          refine AW.seq ?_
          refine AW.block ?_
          refine AW.seq ?_
          refine AW.seqR ?_
          refine AWo.pure (PureOp.move rfl) rfl rfl ?_
          refine AWo.pure (PureOp.move rfl) rfl rfl ?_
          first | refine AWo.pure (PureOp.eqN rfl rfl) rfl rfl ?_ | refine AWo.pure (PureOp.bin rfl rfl rfl) rfl rfl ?_
          refine AWo.nil trivial ?_
          refine AW.cond rfl (fun hb2 => ?_) (fun hb2 => ?_)
          ·
            have hij : j = i := by simpa using hb2
            rw [← prt_skip (vs := vs) hij]
            refine AW.exit ?_
            refine thenA_exit ?_
            refine inBlockA_hit ?_
            refine thenA_normal ?_
            refine AW.region ?_
            refine AWo.pure (PureOp.move rfl) rfl rfl ?_
            first | refine AWo.pure (PureOp.addI (b := 1) rfl rfl (by first | decide | omega)) rfl rfl ?_ | refine AWo.pure (PureOp.bin rfl rfl rfl) rfl rfl ?_
            refine AWo.pure (PureOp.assign rfl) rfl rfl ?_
            refine AWo.nil trivial ?_
            refine thenA_normal ?_
            refine ⟨vs.length - (j + 1), [], _, by omega, ?_, j + 1, by omega, rfl, rfl⟩
            refine Wk.of [0, 77000, 76000] ?_ ?_ ?_ (by decide) rfl
            ·
              refine WkE.upd rfl (by first | exact VR.flat _ rfl | exact VR.eqv (vp_succ _) rfl | exact VR.eqv (vp_succ _).symm rfl | exact VR.eqv (by first | rfl | (congr 1; omega) | (simp; done) | (simp; omega)) rfl) ?_
              refine WkE.upd rfl (.slice (76000) 0 _ 0 ⟨_, rfl⟩ (by simp) (by simp)) ?_
              refine WkE.upd rfl (by first | exact VR.flat _ rfl | exact VR.eqv (vp_succ _) rfl | exact VR.eqv (vp_succ _).symm rfl | exact VR.eqv (by first | rfl | (congr 1; omega) | (simp; done) | (simp; omega)) rfl) ?_
              refine WkE.upd rfl (by first | exact .nilS _ (by simp) | exact .slice (77000) 0 _ 0 ⟨_, rfl⟩ (by simp) (by simp)) ?_
              refine WkE.upd rfl (.slice (0) 0 _ 0 ⟨_, rfl⟩ (by simp) (by simp)) ?_
              exact WkE.emp
            ·
              refine WkM.cloM rfl rfl (fun _ => rfl) (fun h => h) ?_
              refine WkM.cloM rfl rfl (fun _ => rfl) (fun h => h) ?_
              refine WkM.cloM rfl rfl (fun _ => rfl) (fun h => h) ?_
              exact WkM.emp
            ·
              repeat (refine dom_upd_mem (by decide) ?_)
              exact dom_emp
          ·
            have hij : ¬ j = i := by simpa using hb2
            refine AW.skip ?_
            refine thenA_normal ?_
            refine AW.seqR ?_
            refine AWo.pure (PureOp.move rfl) rfl rfl ?_
            first | refine AWo.pure (PureOp.cvtN tbok 18446744073709551616 rfl rfl rfl (by decide) (by decide) (by first | decide | omega)) rfl rfl ?_ | refine AWo.pure (PureOp.cvtU tbok 18446744073709551616 rfl rfl rfl rfl rfl) rfl rfl ?_ | refine AWo.pure (PureOp.cvt tbok rfl rfl rfl) rfl rfl ?_
            refine AWo.callX (v := dv (fp i)) (ofRd (v := i) (by omega)) bd111 [] [] rfl (.cons rfl .nil) rfl (.cons rfl rfl .nil) .nil rfl .nil frN (by decide) (.cons rfl rfl .nil) (by rw [dv_fp (by omega)]; rfl) rfl rfl rfl ?_
            refine AWo.pure (PureOp.move rfl) rfl rfl ?_
            first | refine AWo.pure (PureOp.cvtN tbok 18446744073709551616 rfl rfl rfl (by decide) (by decide) (by first | decide | omega)) rfl rfl ?_ | refine AWo.pure (PureOp.cvtU tbok 18446744073709551616 rfl rfl rfl rfl rfl) rfl rfl ?_ | refine AWo.pure (PureOp.cvt tbok rfl rfl rfl) rfl rfl ?_
            refine AWo.callX (v := dv (fp j)) (ofRd (v := j) (by omega)) bd111 [] [] rfl (.cons rfl .nil) rfl (.cons rfl rfl .nil) .nil rfl .nil frN (by decide) (.cons rfl rfl .nil) (by rw [dv_fp (by omega)]; rfl) rfl rfl rfl ?_
            refine AWo.callX (subRd (x := fp i) (y := fp j)) bd110 [] [] rfl (.cons rfl (.cons rfl .nil)) rfl (.cons rfl rfl (.cons rfl rfl .nil)) .nil rfl .nil frN (by decide) (.cons rfl rfl .nil) rfl rfl rfl rfl ?_
            refine AWo.pure (PureOp.assign rfl) rfl rfl ?_
            refine AWo.nil trivial ?_
            refine AW.seqR ?_
            refine AWo.pure (PureOp.move rfl) rfl rfl ?_
            refine AWo.callX (invRd (x := fp i - fp j)) bd112 [] [] rfl (.cons rfl .nil) rfl (.cons rfl rfl .nil) .nil rfl .nil frN (by decide) (.cons rfl rfl .nil) rfl rfl rfl rfl ?_
            refine AWo.pure (PureOp.assign rfl) rfl rfl ?_
            refine AWo.nil trivial ?_
            refine AW.seqR ?_
            refine AWo.pure (PureOp.move rfl) rfl rfl ?_
            first | refine AWo.pure (PureOp.cvtN tbok 18446744073709551616 rfl rfl rfl (by decide) (by decide) (by first | decide | omega)) rfl rfl ?_ | refine AWo.pure (PureOp.cvtU tbok 18446744073709551616 rfl rfl rfl rfl rfl) rfl rfl ?_ | refine AWo.pure (PureOp.cvt tbok rfl rfl rfl) rfl rfl ?_
            refine AWo.callX (v := dv (fp j)) (ofRd (v := j) (by omega)) bd111 [] [] rfl (.cons rfl .nil) rfl (.cons rfl rfl .nil) .nil rfl .nil frN (by decide) (.cons rfl rfl .nil) (by rw [dv_fp (by omega)]; rfl) rfl rfl rfl ?_
            refine AWo.callX (subRd (x := 0) (y := fp j)) bd110 [] [] rfl (.cons rfl (.cons rfl .nil)) rfl (.deepN (.cons rfl rfl .nil)) .nil rfl .nil frN (by decide) (.cons rfl rfl .nil) rfl rfl rfl rfl ?_
            refine AWo.pure (PureOp.assign rfl) rfl rfl ?_
            refine AWo.nil trivial ?_
            refine AW.region ?_
            refine AWo.pure (PureOp.move rfl) rfl rfl ?_
            refine AWo.pure (PureOp.move rfl) rfl rfl ?_
            refine AWo.pure (PureOp.move rfl) rfl rfl ?_
            refine AWo.callX (mulRd (x := 0 - fp j) (y := (finv (fp i - fp j)))) bd109 [] [] rfl (.cons rfl (.cons rfl .nil)) rfl (.cons rfl rfl (.cons rfl rfl .nil)) .nil rfl .nil frN (by decide) (.cons rfl rfl .nil) rfl rfl rfl rfl ?_
            refine AWo.pure (PureOp.move rfl) rfl rfl ?_
            refine AWo.buildSlice tbok 50000 [(0, dv ((0 - fp j) * (finv (fp i - fp j)))), (1, dv (finv (fp i - fp j)))] (out := [dv ((0 - fp j) * (finv (fp i - fp j))), dv (finv (fp i - fp j))]) rfl rfl (by decide) rfl rfl rfl (by decide) rfl rfl rfl rfl rfl ?_
            refine AWo.callX (rmulT_ctr (xs := (prt vs i j)) (ys := [(0 - fp j) * (finv (fp i - fp j)), (finv (fp i - fp j))]) (zs := (prt vs i (j + 1))) (n := (prt vs i j).length) (m := 2) rfl rfl (by omega) (by decide) (prt_step hij)) bd54 [(76000, 0), (50000, 0)] [51000] rfl (.cons rfl (.cons rfl .nil)) rfl (.cons rfl rfl (.cons rfl rfl .nil)) (.clo rfl (cloM fun _ => rfl) (by intro h; first | exact h | rfl) (.clo rfl (cloM fun _ => rfl) (by intro h; first | exact h | rfl) .nil)) rfl (.keep rfl (.keep rfl (.new (clo_map_ren (cloM fun _ => rfl)) (OkL.clo (cloM fun _ => rfl)) .nil))) (frC rfl frN) (by decide) (.cons rfl rfl .nil) rfl rfl rfl rfl ?_
            refine AWo.pure (PureOp.assign rfl) rfl rfl ?_
            refine AWo.nil trivial ?_
            refine inBlockA_normal ?_
            refine thenA_normal ?_
            refine AW.region ?_
            refine AWo.pure (PureOp.move rfl) rfl rfl ?_
            first | refine AWo.pure (PureOp.addI (b := 1) rfl rfl (by first | decide | omega)) rfl rfl ?_ | refine AWo.pure (PureOp.bin rfl rfl rfl) rfl rfl ?_
            refine AWo.pure (PureOp.assign rfl) rfl rfl ?_
            refine AWo.nil trivial ?_
            refine thenA_normal ?_
            refine ⟨vs.length - (j + 1), [(76000, 51000)], _, by omega, ?_, j + 1, by omega, rfl, rfl⟩
            refine Wk.of [0, 77000, 76000] ?_ ?_ ?_ (by decide) rfl
            ·
              refine WkE.upd rfl (by first | exact VR.flat _ rfl | exact VR.eqv (vp_succ _) rfl | exact VR.eqv (vp_succ _).symm rfl | exact VR.eqv (by first | rfl | (congr 1; omega) | (simp; done) | (simp; omega)) rfl) ?_
              refine WkE.upd rfl (.slice (76000) 0 _ 0 ⟨_, rfl⟩ (by simp) (by simp)) ?_
              refine WkE.upd rfl (by first | exact VR.flat _ rfl | exact VR.eqv (vp_succ _) rfl | exact VR.eqv (vp_succ _).symm rfl | exact VR.eqv (by first | rfl | (congr 1; omega) | (simp; done) | (simp; omega)) rfl) ?_
              refine WkE.upd rfl (by first | exact .nilS _ (by simp) | exact .slice (77000) 0 _ 0 ⟨_, rfl⟩ (by simp) (by simp)) ?_
              refine WkE.upd rfl (.slice (0) 0 _ 0 ⟨_, rfl⟩ (by simp) (by simp)) ?_
              exact WkE.emp
            ·
              refine WkM.cloM rfl rfl (fun _ => rfl) (fun h => h) ?_
              refine WkM.cloM rfl rfl (fun _ => rfl) (fun h => h) ?_
              refine WkM.cloM rfl rfl (fun _ => rfl) (fun h => h) ?_
              exact WkM.emp
            ·
              repeat (refine dom_upd_mem (by decide) ?_)
              exact dom_emp
        ·
          obtain rfl : j = vs.length := by simp at hb1; omega
          refine AW.exit ?_
          refine thenA_exit ?_
          refine thenA_exit ?_
          refine inBlockA_hit ?_
          refine thenA_normal ?_
          refine AW.region ?_
          refine AWo.pure (PureOp.move rfl) rfl rfl ?_
          refine AWo.pure (PureOp.move rfl) rfl rfl ?_
          refine AWo.callX (raddT_ctr (xs := (lagO vs i)) (ys := (prt vs i vs.length)) (zs := (lagO vs (i + 1))) (n := (lagO vs i).length) (k := (prt vs i vs.length).length) rfl rfl (by omega) (by omega) rfl) bd53 [(77000, 0), (76000, 0)] [54000] rfl (.cons rfl (.cons rfl .nil)) rfl (.cons rfl rfl (.cons rfl rfl .nil)) (.clo rfl (cloM fun _ => rfl) (by intro h; first | exact h | rfl) (.clo rfl (cloM fun _ => rfl) (by intro h; first | exact h | rfl) .nil)) rfl (.keep rfl (.keep rfl (.new (clo_map_ren (cloM fun _ => rfl)) (OkL.clo (cloM fun _ => rfl)) .nil))) (frC rfl frN) (by decide) (.cons rfl rfl .nil) rfl rfl rfl rfl ?_
          refine AWo.pure (PureOp.assign rfl) rfl rfl ?_
          refine AWo.nil trivial ?_
          refine inBlockA_normal ?_
          refine thenA_normal ?_
          refine AW.region ?_
          refine AWo.pure (PureOp.move rfl) rfl rfl ?_
          first | refine AWo.pure (PureOp.addI (b := 1) rfl rfl (by first | decide | omega)) rfl rfl ?_ | refine AWo.pure (PureOp.bin rfl rfl rfl) rfl rfl ?_
          refine AWo.pure (PureOp.assign rfl) rfl rfl ?_
          refine AWo.nil trivial ?_
          refine thenA_normal ?_
          refine ⟨vs.length - (i + 1), [(77000, 54000)], _, by omega, ?_, i + 1, by omega, rfl, rfl⟩
          refine Wk.of [0, 77000] ?_ ?_ ?_ (by decide) rfl
          ·
            refine WkE.upd rfl (by first | exact VR.flat _ rfl | exact VR.eqv (vp_succ _) rfl | exact VR.eqv (vp_succ _).symm rfl | exact VR.eqv (by first | rfl | (congr 1; omega) | (simp; done) | (simp; omega)) rfl) ?_
            refine WkE.upd rfl (by first | exact .nilS _ (by simp) | exact .slice (77000) 0 _ 0 ⟨_, rfl⟩ (by simp) (by simp)) ?_
            refine WkE.upd rfl (.slice (0) 0 _ 0 ⟨_, rfl⟩ (by simp) (by simp)) ?_
            exact WkE.emp
          ·
            refine WkM.cloM rfl rfl (fun _ => rfl) (fun h => h) ?_
            refine WkM.cloM rfl rfl (fun _ => rfl) (fun h => h) ?_
            exact WkM.emp
          ·
            repeat (refine dom_upd_mem (by decide) ?_)
            exact dom_emp
    ·
      obtain rfl : i = vs.length := by simp at hb0; omega
      refine AW.exit ?_
      refine thenA_exit ?_
      refine thenA_exit ?_
      refine inBlockA_hit ?_
      refine thenA_normal ?_
      refine AW.seqR ?_
      refine AWo.pure (PureOp.move rfl) rfl rfl ?_
      refine yA ?_
      refine AWo.nil trivial ?_
      refine AW.ret ?_
      refine RetQ.gc [_] [77000] [.tmp 2] (.inl rfl) rfl (.tmp rfl .nil) rfl (.cons rfl rfl .nil) (OutL.clo rfl (cloM fun _ => rfl) (by intro h; first | rfl | exact h.elim id fun h => absurd h.1 (by simp)) (OutL.clo rfl (cloM fun _ => rfl) (by intro h; first | rfl | exact h.elim id fun h => absurd h.1 (by simp)) trivial)) (by decide) rfl
end Go.Proofs.Yteeifahhejangaa
namespace Go.Proofs.Yteeifahhejangaa
open Go Sim
theorem pthru_ctr {Ls : List (List Nat)} (hB : ∀ b ∈ Ls, bd 256 b) (hL : Ls.length ≤ 9223372036854775807) : GC Try.prog 10 [.slice (some ⟨0, 0, none⟩) Ls.length 0] [⟨Ls.map (db), false, 1⟩] [.bool true] [⟨Ls.map (db), false, 1⟩] := by
  refine GC.intro Try.func10 rfl (by show 1 ≤ 51; decide) (by first | exact Nat.le_refl _ | decide | simp) ?_
  refine AW.seqR ?_
  refine AWo.pure (PureOp.assign rfl) rfl rfl ?_
  refine AWo.nil trivial ?_
  refine AW.seq ?_
  refine AW.seqR ?_
  refine AWo.callX (speaks22_ctr) bd23 [] [] rfl .nil rfl .nil .nil rfl .nil frN (by decide) (.cons rfl rfl .nil) rfl rfl rfl rfl ?_
  refine AWo.pure (PureOp.not rfl) rfl rfl ?_
  refine AWo.pure (PureOp.move rfl) rfl rfl ?_
  refine AWo.pure (PureOp.move rfl) rfl rfl ?_
  refine AWo.callX (few22_ctr (Ls := Ls) (most := 9) hL (by decide)) bd28 [(0, 0)] [] rfl (.cons rfl (.cons rfl .nil)) rfl (.cons rfl rfl (.cons rfl rfl .nil)) (.clo rfl (cloM fun _ => rfl) (by intro h; first | exact h | rfl) .nil) rfl (.keep rfl .nil) frN (by decide) (.cons rfl rfl .nil) rfl rfl rfl rfl ?_
  first | refine AWo.pureB (PureOp.not rfl) rfl rfl (fun hb0 => ?_) (fun hb0 => ?_)
  ·
    refine AWo.pure (PureOp.pickF rfl rfl) rfl rfl ?_
    refine AWo.nil trivial ?_
    refine AW.condT rfl ?_
    refine AW.seqR ?_
    refine AWo.callX (speaks22_ctr) bd23 [] [] rfl .nil rfl .nil .nil rfl .nil frN (by decide) (.cons rfl rfl .nil) rfl rfl rfl rfl ?_
    refine AWo.pure (PureOp.assign rfl) rfl rfl ?_
    refine AWo.nil trivial ?_
    refine AW.ret ?_
    refine thenA_ret ?_
    refine RetQ.gc [_] [] [.tmp 2] (.inl rfl) rfl (.tmp rfl .nil) rfl (.cons rfl rfl .nil) (OutL.clo rfl (cloM fun _ => rfl) (by intro h; exact h.elim id fun h => absurd h.1 (by simp)) trivial) (by decide) rfl
  ·
    obtain ⟨hS, hLn⟩ := fewB_get (by simpa using hb0)
    refine AWo.pure (PureOp.pickF rfl rfl) rfl rfl ?_
    refine AWo.nil trivial ?_
    refine AW.condF rfl ?_
    refine AW.skip ?_
    refine thenA_normal ?_
    refine AW.seqR ?_
    refine AWo.pure (PureOp.move rfl) rfl rfl ?_
    refine AWo.callX (of22_ctr (Ls := Ls) hB hS (by omega)) bd29 [(0, 0)] [18000, 18001] rfl (.cons rfl .nil) rfl (.cons rfl rfl .nil) (.clo rfl (cloM fun _ => rfl) (by intro h; first | exact h | rfl) .nil) rfl (.keep rfl (.new (flat_map_ren (flatM flat_vi)) (OkL.flat (flatM flat_vi)) (.new (clo_map_ren (cloM fun _ => rfl)) (OkL.clo (cloM fun _ => rfl)) .nil))) (frC rfl (frC rfl frN)) (by decide) (.cons rfl rfl (.cons rfl rfl .nil)) rfl rfl rfl rfl ?_
    refine AWo.pure (PureOp.move rfl) rfl rfl ?_
    refine AWo.pure (PureOp.extract rfl rfl) rfl rfl ?_
    refine AWo.pure (PureOp.extract rfl rfl) rfl rfl ?_
    refine AWo.pure (PureOp.assign rfl) rfl rfl ?_
    refine AWo.pure (PureOp.assign rfl) rfl rfl ?_
    refine AWo.nil trivial ?_
    have hxl : (Ls.map nb).length = Ls.length := List.length_map ..
    generalize Ls.map nb = vs at hxl ⊢
    have hth := thr_le vs
    have hlg := lag_thr (vs := vs) (by omega)
    refine AW.seqR ?_
    refine AWo.pure (PureOp.move rfl) rfl rfl ?_
    refine AWo.callX (thrp_ctr (vs := vs) (n := Ls.length) hxl (by omega)) bd38 [(18000, 0)] [22000] rfl (.cons rfl .nil) rfl (.cons rfl rfl .nil) (.flat rfl (flatM flat_vi) (by intro h; first | exact h | rfl) .nil) rfl (.keep rfl (.new (flat_map_ren (flatM flat_vi)) (OkL.flat (flatM flat_vi)) .nil)) (frC rfl frN) (by decide) (.cons rfl rfl .nil) rfl rfl rfl rfl ?_
    refine AWo.pure (PureOp.assign rfl) rfl rfl ?_
    refine AWo.nil trivial ?_
    refine AW.seq ?_
    refine AW.seqR ?_
    refine AWo.pure (PureOp.move rfl) rfl rfl ?_
    refine AWo.pure (PureOp.move rfl) rfl rfl ?_
    refine AWo.callX (rthr_ctr (vs := vs) (n := Ls.length) hxl (by omega)) bd56 [(18001, 0)] [25000] rfl (.cons rfl .nil) rfl (.cons rfl rfl .nil) (.clo rfl (cloM fun _ => rfl) (by intro h; first | exact h | rfl) .nil) rfl (.keep rfl (.new (clo_map_ren (cloM fun _ => rfl)) (OkL.clo (cloM fun _ => rfl)) .nil)) (frC rfl frN) (by decide) (.cons rfl rfl .nil) rfl rfl rfl rfl ?_
    refine AWo.callX (are_ctr (xs := thr vs) (zs := lagO vs vs.length) (n := (thr vs).length) (m := (lagO vs vs.length).length) rfl (by rw [← hlg]) (by rw [← hlg]; exact List.take_length) (by omega)) bd26 [(22000, 0), (25000, 0)] [] rfl (.cons rfl (.cons rfl .nil)) rfl (.cons rfl rfl (.cons rfl rfl .nil)) (.flat rfl (flatM flat_vi) (by intro h; first | exact h | rfl) (.clo rfl (cloM fun _ => rfl) (by intro h; first | exact h | rfl) .nil)) rfl (.keep rfl (.keep rfl .nil)) frN (by decide) (.cons rfl rfl .nil) rfl rfl rfl rfl ?_
    refine AWo.pure (PureOp.not rfl) rfl rfl ?_
    refine AWo.pure (PureOp.move rfl) rfl rfl ?_
    refine AWo.pure (PureOp.move rfl) rfl rfl ?_
    first | refine AWo.pure (PureOp.lenS tbok rfl rfl) rfl rfl ?_ | refine AWo.pure (PureOp.lenD tbok rfl rfl) rfl rfl ?_
    refine AWo.pure (PureOp.move rfl) rfl rfl ?_
    first | refine AWo.pure (PureOp.lenS tbok rfl rfl) rfl rfl ?_ | refine AWo.pure (PureOp.lenD tbok rfl rfl) rfl rfl ?_
    first | refine AWo.pure ((PureOp.gtN rfl rfl).mono (v' := .bool false) (congrArg Value.bool (by simp; omega))) rfl rfl ?_ | refine AWo.pure ((PureOp.bin rfl rfl rfl).mono (v' := .bool false) (congrArg Value.bool (by simp; omega))) rfl rfl ?_
    refine AWo.pure (PureOp.pickF rfl rfl) rfl rfl ?_
    refine AWo.nil trivial ?_
    refine AW.condF rfl ?_
    refine AW.skip ?_
    refine thenA_normal ?_
    refine AW.seq ?_
    refine AW.seqR ?_
    refine AWo.pure (PureOp.move rfl) rfl rfl ?_
    first | refine AWo.pure (PureOp.lenS tbok rfl rfl) rfl rfl ?_ | refine AWo.pure (PureOp.lenD tbok rfl rfl) rfl rfl ?_
    refine AWo.pure (PureOp.move rfl) rfl rfl ?_
    refine AWo.nil trivial ?_
    refine AW.block ?_
    refine AW.loopw (fun mm σ => ∃ i, (i ≤ Ls.length) ∧ mm = Ls.length - i ∧ σ = ⟨(upd (upd (upd (upd emp 3 (.slice (some ⟨18000, 0, none⟩) Ls.length 0)) 5 (.slice (some ⟨22000, 0, none⟩) (thr vs).length 0)) 35 (vi .i64 Ls.length)) 36 (vi .i64 i)), (upd (upd (upd emp 0 ⟨Ls.map db, false, 1⟩) 18000 ⟨((vs.map fe).flatten).map (vi .u64), true, 4⟩) 22000 ⟨(((thr vs).map fe).flatten).map (vi .u64), true, 4⟩)⟩) (fm := []) ?_ ⟨0, Nat.zero_le _, rfl, rfl⟩ ?_
    ·
      refine Wk.of [0, 18000, 22000] ?_ ?_ ?_ (by decide) rfl
      ·
        refine WkE.upd rfl (by first | exact VR.flat _ rfl | exact VR.eqv (vp_succ _) rfl | exact VR.eqv (vp_succ _).symm rfl | exact VR.eqv (by first | rfl | (congr 1; omega) | (simp; done) | (simp; omega)) rfl) ?_
        refine WkE.upd rfl (by first | exact VR.flat _ rfl | exact VR.eqv (vp_succ _) rfl | exact VR.eqv (vp_succ _).symm rfl | exact VR.eqv (by first | rfl | (congr 1; omega) | (simp; done) | (simp; omega)) rfl) ?_
        refine WkE.upd rfl (.slice (22000) 0 _ 0 ⟨_, rfl⟩ (by simp) (by simp)) ?_
        refine WkE.upd rfl (.slice (18000) 0 _ 0 ⟨_, rfl⟩ (by simp) (by simp)) ?_
        exact WkE.emp
      ·
        refine WkM.flat rfl (flatM flat_vi) (fun h => h) ?_
        refine WkM.flat rfl (flatM flat_vi) (fun h => h) ?_
        refine WkM.cloM rfl rfl (fun _ => rfl) (fun h => h) ?_
        exact WkM.emp
      ·
        repeat (refine dom_upd_mem (by decide) ?_)
        exact dom_emp
    ·
      rintro mm σ ⟨i, hinv, rfl, rfl⟩
      refine AW.seqR ?_
      first | refine AWo.pure (PureOp.ltN rfl rfl) rfl rfl ?_ | refine AWo.pure (PureOp.bin rfl rfl rfl) rfl rfl ?_
      refine AWo.nil trivial ?_
      refine AW.seq ?_
      refine AW.cond rfl (fun hb1 => ?_) (fun hb1 => ?_)
      ·
        have hi : i < Ls.length := by simpa using hb1
        refine AW.skip ?_
        refine thenA_normal ?_
        refine AW.seq ?_
        refine AW.block ?_
        refine AW.seqR ?_
        refine AWo.pure (PureOp.move rfl) rfl rfl ?_
        refine AWo.pure (PureOp.assign rfl) rfl rfl ?_
        refine AWo.nil trivial ?_
        refine AW.seqD mixed ?_
        refine AWo.pure (PureOp.move rfl) rfl rfl ?_
        refine AWo.pure (PureOp.move rfl) rfl rfl ?_
        first | refine AWo.pure (PureOp.cvtN tbok 18446744073709551616 rfl rfl rfl (by decide) (by decide) (by first | decide | omega)) rfl rfl ?_ | refine AWo.pure (PureOp.cvtU tbok 18446744073709551616 rfl rfl rfl rfl rfl) rfl rfl ?_ | refine AWo.pure (PureOp.cvt tbok rfl rfl rfl) rfl rfl ?_
        refine AWo.callX (fromuF_ctr (v := i) (by omega)) bd37 [] [] rfl (.cons rfl .nil) rfl (.cons rfl rfl .nil) .nil rfl .nil frN (by decide) (.pure (by first | rfl | exact pure_aggM flat_vi | exact pure_aggM flat_bool) .nil) rfl rfl rfl rfl ?_
        refine AWo.callX (evalp_ctr (xs := thr vs) (n := (thr vs).length) (x := fp i) rfl (by omega)) bd32 [(22000, 0)] [] rfl (.cons rfl (.cons rfl .nil)) rfl (.cons rfl rfl (.pure (by first | rfl | exact pure_aggM flat_vi | exact pure_aggM flat_bool) .nil)) (.flat rfl (flatM flat_vi) (by intro h; first | exact h | rfl) .nil) rfl (.keep rfl .nil) frN (by decide) (.pure (by first | rfl | exact pure_aggM flat_vi | exact pure_aggM flat_bool) .nil) rfl rfl rfl rfl ?_
        refine AWo.pure (PureOp.move rfl) rfl rfl ?_
        refine AWo.pure (PureOp.move rfl) rfl rfl ?_
        first | refine AWo.pure (PureOp.idx1 tbok rfl rfl rfl rfl (by first | decide | omega)) rfl rfl ?_ | refine AWo.pure (PureOp.idx tbok rfl rfl rfl rfl (by first | decide | omega)) rfl rfl ?_
        refine yLJ (xs := vs) i ?_
        refine AWo.callX (v := .bool true) (equalF_ctr (x := Po.ev (fp i) (thr vs)) (y := vs.getD i 0)) bd19 [] [] rfl (.cons rfl (.cons rfl .nil)) rfl (.pure (by first | rfl | exact pure_aggM flat_vi | exact pure_aggM flat_bool) (.pure (by first | rfl | exact pure_aggM flat_vi | exact pure_aggM flat_bool) .nil)) .nil rfl .nil frN (by decide) (.cons rfl rfl .nil) (congrArg Value.bool (decide_eq_true (thr_ev (by omega) (by omega)))) rfl rfl rfl ?_
        refine AWo.pure (PureOp.not rfl) rfl rfl ?_
        refine AWo.nil (by kernel_rfl) ?_
        refine AW.condF rfl ?_
        refine AW.skip ?_
        refine inBlockA_normal ?_
        refine thenA_normal ?_
        refine AW.region ?_
        first | refine AWo.pure (PureOp.addI (b := 1) rfl rfl (by first | decide | omega)) rfl rfl ?_ | refine AWo.pure (PureOp.bin rfl rfl rfl) rfl rfl ?_
        refine AWo.pure (PureOp.move rfl) rfl rfl ?_
        refine AWo.nil trivial ?_
        refine thenA_normal ?_
        refine ⟨Ls.length - (i + 1), [], _, by omega, ?_, i + 1, by omega, rfl, rfl⟩
        refine Wk.of [0, 18000, 22000] ?_ ?_ ?_ (by decide) rfl
        ·
          refine WkE.upd rfl (by first | exact VR.flat _ rfl | exact VR.eqv (vp_succ _) rfl | exact VR.eqv (vp_succ _).symm rfl | exact VR.eqv (by first | rfl | (congr 1; omega) | (simp; done) | (simp; omega)) rfl) ?_
          refine WkE.upd rfl (by first | exact VR.flat _ rfl | exact VR.eqv (vp_succ _) rfl | exact VR.eqv (vp_succ _).symm rfl | exact VR.eqv (by first | rfl | (congr 1; omega) | (simp; done) | (simp; omega)) rfl) ?_
          refine WkE.upd rfl (.slice (22000) 0 _ 0 ⟨_, rfl⟩ (by simp) (by simp)) ?_
          refine WkE.upd rfl (.slice (18000) 0 _ 0 ⟨_, rfl⟩ (by simp) (by simp)) ?_
          exact WkE.emp
        ·
          refine WkM.flat rfl (flatM flat_vi) (fun h => h) ?_
          refine WkM.flat rfl (flatM flat_vi) (fun h => h) ?_
          refine WkM.cloM rfl rfl (fun _ => rfl) (fun h => h) ?_
          exact WkM.emp
        ·
          repeat (refine dom_upd_mem (by decide) ?_)
          exact dom_emp
      ·
        obtain rfl : i = Ls.length := by simp at hb1; omega
        refine AW.exit ?_
        refine thenA_exit ?_
        refine thenA_exit ?_
        refine inBlockA_hit ?_
        refine thenA_normal ?_
        refine AW.seqR ?_
        refine AWo.pure (PureOp.assign rfl) rfl rfl ?_
        refine AWo.nil trivial ?_
        refine AW.ret ?_
        refine RetQ.gc [_] [] [.tmp 2] (.inl rfl) rfl (.tmp rfl .nil) rfl (.cons rfl rfl .nil) (OutL.clo rfl (cloM fun _ => rfl) (by intro h; exact h.elim id fun h => absurd h.1 (by simp)) trivial) (by decide) rfl
end Go.Proofs.Yteeifahhejangaa
namespace Go.Proofs.Yteeifahhejangaa
open Go
namespace Head
set_option maxRecDepth 100000 in
theorem words : ∃ l, Try.prog.initOrder = String.ofList l ∧ (behindMainWord (wordsSigns l)).head? = some "cut".toList := ⟨_, rfl, by kernel_rfl⟩
theorem head_of {P : Program} (h : ∃ l, P.initOrder = String.ofList l ∧ (behindMainWord (wordsSigns l)).head? = some "cut".toList) :
    ∃ rest, behindMainWord (wordsSigns P.initOrder.toList) = "cut".toList :: rest := by
  obtain ⟨l, h, hh⟩ := h
  rw [h, String.toList_ofList]
  cases hb : behindMainWord (wordsSigns l) with
  | nil => rw [hb] at hh; cases hh
  | cons c r => rw [hb] at hh; simp only [List.head?_cons, Option.some.injEq] at hh; exact ⟨r, by rw [hh]⟩
theorem cut_words : (liftWords.all fun s => !("cut".toList == s.toList)) = true := by decide +kernel
theorem strip_cut (rest : List (List Char)) : stripLifts liftWords ("cut".toList :: rest) = ([], "cut".toList :: rest) := by
  have key : ∀ o : List String, (o.all fun s => !("cut".toList == s.toList)) = true → stripLifts o ("cut".toList :: rest) = ([], "cut".toList :: rest) := by
    intro o
    induction o with
    | nil => intro _; rfl
    | cons s o ih =>
      intro h
      simp only [List.all_cons, Bool.and_eq_true, Bool.not_eq_true'] at h
      rw [stripLifts, if_neg (by rw [h.1]; exact Bool.false_ne_true)]
      exact ih h.2
  exact key liftWords cut_words
theorem mayEnter_of {P : Program} {rest : List (List Char)} (hr : behindMainWord (wordsSigns P.initOrder.toList) = "cut".toList :: rest) (e1 : P.laysLater = false) (e2 : P.bearsReflect = false) (e3 : P.doorFits [] = true) : P.mayEnter = true := by
  unfold Program.mayEnter
  rw [hr]
  simp only [strip_cut, e1, e2, e3]
  simp
theorem headLifts_of {P : Program} {rest : List (List Char)} (hr : behindMainWord (wordsSigns P.initOrder.toList) = "cut".toList :: rest) : P.headLifts = [] := by
  unfold Program.headLifts
  rw [hr, strip_cut]
  simp
theorem cut_ne : ("cut".toList == "carried".toList) = false ∧ ("cut".toList == "gc".toList) = false ∧ ("cut".toList == "spec".toList) = false := by decide +kernel
theorem liftsFinal_of {P : Program} {rest : List (List Char)} (hr : behindMainWord (wordsSigns P.initOrder.toList) = "cut".toList :: rest) : P.liftsFinal = false := by
  unfold Program.liftsFinal
  rw [hr, headLifts_of hr]
  simp
theorem make_of {P : Program} {rest : List (List Char)} (hr : behindMainWord (wordsSigns P.initOrder.toList) = "cut".toList :: rest) : P.make = some .cut := by
  unfold Program.make
  rw [hr]
  simp only [cut_ne.2.1, cut_ne.2.2, beq_self_eq_true]
  simp
theorem laysLater : Try.prog.laysLater = false := by kernel_rfl
theorem bearsReflect : Try.prog.bearsReflect = false := by kernel_rfl
theorem doorFits : Try.prog.doorFits [] = true := by kernel_rfl
theorem mayEnter : Try.prog.mayEnter = true := let ⟨_, hr⟩ := head_of words; mayEnter_of hr laysLater bearsReflect doorFits
theorem liftsFinal : Try.prog.liftsFinal = false := let ⟨_, hr⟩ := head_of words; liftsFinal_of hr
theorem make_cut : Try.prog.make = some .cut := let ⟨_, hr⟩ := head_of words; make_of hr
theorem band {a b : Bool} (ha : a = true) (hb : b = true) : (a && b) = true := by rw [ha, hb]; rfl
end Head
end Go.Proofs.Yteeifahhejangaa
