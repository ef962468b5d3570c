/- What the proof stands on, part 5: the walk of each function, and plain laws of numbers. -/
import Derived.Test.YteeifahhejangaaK4
import Derived.Test.YteeifahhejangaaRows
import Derived.ProofKit
namespace Go.Proofs.Yteeifahhejangaa
open Go Sim
theorem clonee_ctr {xs : List Fp} {n : Nat} (hn : n ≤ xs.length) (hx : n < 1000000) : GC Try.prog 94 [.slice (some ⟨0, 0, none⟩) n 0] [⟨((xs.map fe).flatten).map (vi .u64), false, 4⟩] [.slice (some ⟨1, 0, none⟩) n 0]
    [⟨((xs.map fe).flatten).map (vi .u64), false, 4⟩, ⟨(((xs.take n).map fe).flatten).map (vi .u64), true, 4⟩] := by
  refine GC.intro Try.func94 rfl (by show 1 ≤ 8; decide) (Nat.le_succ _) ?_
  by_cases h0 : n = 0
  · subst h0
    refine AW.nilCase (t := 0) rfl ?_ ?_
    · refine AW.ghost 9000 4 rfl ?_
      refine zS ?_
      refine yA ?_
      refine zN (zQ (zS ?_))
      refine yM ?_
      refine yP (PureOp.nilEqNilS Try.underlying47 rfl) ?_
      refine zN (zC (zS ?_))
      refine yA ?_
      refine zN (zE ?_)
      exact rq [9000] [.tmp 2]
    · refine zS ?_
      refine yA ?_
      refine zN (zQ (zS ?_))
      refine yM ?_
      refine yP (PureOp.slEqDead Try.underlying47 rfl) ?_
      refine zN (zF (zK (zT (zS ?_))))
      refine AWo.buildSlice tbok 6000 [] (out := []) rfl rfl (by decide) rfl rfl rfl (by decide) rfl rfl rfl rfl rfl ?_
      refine yM ?_
      refine yP (PureOp.append0 Try.underlying47 (tbok.sz _ _ rfl) rfl rfl) ?_
      refine yA ?_
      refine zN (zE ?_)
      exact rq [6000] [.tmp 2]
  · refine zS ?_
    refine yA ?_
    refine zN (zQ (zS ?_))
    refine yM ?_
    refine yP (PureOp.slEqNil Try.underlying47 rfl h0) ?_
    refine zN (zF (zK (zT (zS ?_))))
    refine AWo.buildSlice tbok 6000 [] (out := []) rfl rfl (by decide) rfl rfl rfl (by decide) rfl rfl rfl rfl rfl ?_
    refine yM ?_
    refine AWo.append tbok (all := FF (xs.take n)) (news := FF (xs.take n)) 8000 rfl rfl rfl rfl rfl FF_cut (by rw [Nat.zero_add]; show n * 4 ≤ (FF xs).length; rw [FF_len]; omega) (by decide) rfl rfl rfl (by decide) rfl rfl rfl (by omega) (by omega) (oneM (fun _ => rfl) _) rfl rfl rfl ?_
    refine yA ?_
    refine zN (zE ?_)
    exact rq [8000] [.tmp 2] (hres := (.cons rfl (by simp [ren, ren1, hmap]) .nil))
def inn (l : List Fp) (far : Fp) (n : Nat) : Nat → List Fp
  | 0 => l
  | m + 1 => (inn l far n m).set (n - 1 - m) (((inn l far n m).getD (n - 1 - m) 0 - (inn l far n m).getD (n - 1 - m - 1) 0) * far)
def difN (vs : List Fp) : Nat → List Fp
  | 0 => vs
  | c + 1 => inn (difN vs c) (finv (fp (c + 1))) vs.length (vs.length - 1 - c)
theorem inn_len (l : List Fp) (far : Fp) (n : Nat) : ∀ m, (inn l far n m).length = l.length
  | 0 => rfl
  | m + 1 => by rw [inn, List.length_set, inn_len l far n m]
theorem difN_len (vs : List Fp) : ∀ c, (difN vs c).length = vs.length
  | 0 => rfl
  | c + 1 => by rw [difN, inn_len, difN_len vs c]
def nwL (ds : List Fp) (n : Nat) : Nat → List Fp
  | 0 => []
  | j + 1 => Po.tr (Po.pa (Po.tr (Po.pm (nwL ds n j) [-(fp (n - 1 - j)), fp 1])) [ds.getD (n - 1 - j) 0])
def thr (vs : List Fp) : List Fp := Po.tr (nwL (difN vs (vs.length - 1)) vs.length vs.length)
theorem nwL_len (ds : List Fp) (n : Nat) : ∀ j, (nwL ds n j).length ≤ 2 * j
  | 0 => Nat.le_refl _
  | j + 1 => by
    have h := nwL_len ds n j
    rw [nwL, Po.tr_len]
    have h1 := Po.dg_le (Po.pa (Po.tr (Po.pm (nwL ds n j) [-(fp (n - 1 - j)), fp 1])) [ds.getD (n - 1 - j) 0])
    rw [Po.pa_len, Po.tr_len] at h1
    have h2 := Po.dg_le (Po.pm (nwL ds n j) [-(fp (n - 1 - j)), fp 1])
    have h3 := Po.pm_len (nwL ds n j) [-(fp (n - 1 - j)), fp 1]
    simp only [List.length_cons, List.length_nil] at h1 h3
    have h4 : max (Po.dg (Po.pm (nwL ds n j) [-(fp (n - 1 - j)), fp 1])) (0 + 1) ≤ 2 * (j + 1) := Nat.max_le.2 ⟨by omega, by omega⟩
    omega
def thM (vs ds p : List Fp) : Mem := Sim.upd (Sim.upd (Sim.upd (Sim.upd (Sim.upd (fun _ => none) 0 ⟨((vs.map fe).flatten).map (vi .u64), false, 4⟩) 1 ⟨((ds.map fe).flatten).map (vi .u64), true, 4⟩) 2 ⟨[.slice (some ⟨77000, 0, none⟩) p.length 0], true, 1⟩)
  3 ⟨[.slice (some ⟨1, 0, none⟩) vs.length 0], true, 1⟩) 77000 ⟨((p.map fe).flatten).map (vi .u64), true, 4⟩
theorem WkI.nil1 {Dm : Nat → Prop} {fm : List (Nat × Nat)} {M N : Mem} {i : Nat} {p : Addr} {rw rw' : Bool} {es : Nat} {ids : List Nat} (h1 : M ((fm.lookup i).getD i) = some ⟨[.slice none 0 0], rw', es⟩)
    (h3 : rw = true → rw' = true) (h : WkI ids Dm fm M N) : WkI ids Dm fm M (Sim.upd N i ⟨[.slice (some p) 0 0], rw, es⟩) :=
  WkM.upd h1 (fun c x hx => by
    match c, hx with
    | 0, hx => cases hx; exact ⟨_, rfl, .nilS _ (by simp)⟩
    | c + 1, hx => simp at hx) h3 rfl (Nat.le_refl _) h
theorem fillB2 {c : Value} {x y : Fp} : fillL (fun i => some (i * 4, 4)) (List.replicate (2 * 4) c) [(0, .agg ((fe x).map (vi .u64)).toArray), (1, .agg ((fe y).map (vi .u64)).toArray)] = some (FF [x, y]) := by
  have hl : ∀ x : Fp, ((fe x).map (vi .u64)).length = 4 := fun x => by rw [List.length_map, fe_len]
  refine fill4 (A := []) (k := 4) rfl rfl (fill4 (k := 0) (by simp [hl]) rfl ?_)
  simp [fillL]
theorem AWd.ghost {P : Program} {n m : Nat} {c : Code} {E : Env} {M : Mem} {Q : Exit → ASt → Prop} {z : Bool} {id es : Nat} (hid : M id = none) (h : AWd z P n m c ⟨E, Sim.upd M id ⟨[], true, es⟩⟩ Q) : AWd z P n m c ⟨E, M⟩ Q :=
  fun C hn hm ds _ a w hz hst hR => let ⟨ρ', hR'⟩ := hR.2.ghost es hid; h C hn hm ds ρ' a w hz hst ⟨hR.1, hR'⟩
theorem thrp_ctr {vs : List Fp} {n : Nat} (hn : vs.length = n) (hx : n < 10000) : GC Try.prog 38 [.slice (some ⟨0, 0, none⟩) n 0] [⟨((vs.map fe).flatten).map (vi .u64), false, 4⟩] [.slice (some ⟨1, 0, none⟩) (thr vs).length 0] [⟨((vs.map fe).flatten).map (vi .u64), false, 4⟩, ⟨(((thr vs).map fe).flatten).map (vi .u64), true, 4⟩] := by
  refine GC.introD Try.func38 rfl (by show 1 ≤ 62; decide) (by first | exact Nat.le_refl _ | decide | simp) ?_
  subst hn
  refine AWd.firstR ?_
  refine AWo.pure (PureOp.assign rfl) rfl rfl ?_
  refine AWo.nil trivial ?_
  refine AWd.firstR ?_
  refine AWo.pure (PureOp.move rfl) rfl rfl ?_
  refine AWo.callX (clonee_ctr (xs := vs) (n := vs.length) (Nat.le_refl _) (by omega)) bd94 [(0, 0)] [1] rfl (.cons rfl .nil) rfl (.cons rfl rfl .nil) (.flat rfl (flatM flat_vi) (by intro h; first | exact h | rfl) .nil) rfl (.keep rfl (.new (flat_map_ren (flatM flat_vi)) (OkL.flat (flatM flat_vi)) .nil)) (frC rfl frN) (by decide) (.cons rfl rfl .nil) rfl rfl rfl rfl ?_
  refine AWo.pure (PureOp.assign rfl) rfl rfl ?_
  refine AWo.nil trivial ?_
  refine AWd.first ?_
  refine AW.seqR ?_
  refine AWo.pure (PureOp.assign rfl) rfl rfl ?_
  refine AWo.nil trivial ?_
  refine AW.block ?_
  refine AW.loopw (fun mm σ => ∃ c, (c + 1 ≤ vs.length ∨ c = 0) ∧ mm = vs.length - c ∧ σ = ⟨(upd (upd emp 3 (.slice (some ⟨1, 0, none⟩) vs.length 0)) 4 (vi .i64 (c + 1))), (upd (upd emp 0 ⟨((vs.map fe).flatten).map (vi .u64), false, 4⟩) 1 ⟨(((difN vs c).map fe).flatten).map (vi .u64), true, 4⟩)⟩) (fm := []) ?_ ⟨0, .inr rfl, rfl, rfl⟩ ?_
  ·
    refine Wk.of [0, 1] ?_ ?_ ?_ (by decide) rfl
    ·
      refine WkE.upd rfl (by first | exact VR.flat _ rfl | exact VR.eqv (vp_succ _) rfl | exact VR.eqv (vp_succ _).symm rfl | exact VR.eqv (by first | rfl | (congr 1; omega) | (simp; done) | (simp; omega)) rfl) ?_
      refine WkE.upd rfl (.slice (1) 0 _ 0 ⟨_, rfl⟩ (by simp) (by simp)) ?_
      exact WkE.emp
    ·
      refine WkM.flat (by first | rfl | (rw [List.take_length]; rfl)) (flatM flat_vi) (fun h => h) ?_
      refine WkM.flat rfl (flatM flat_vi) (fun h => h) ?_
      exact WkM.emp
    ·
      repeat (refine dom_upd_mem (by decide) ?_)
      exact dom_emp
  ·
    rintro mm σ ⟨c, hinv, rfl, rfl⟩
    refine AW.seq ?_
    refine AW.seqR ?_
    refine AWo.pure (PureOp.move rfl) rfl rfl ?_
    refine AWo.pure (PureOp.move rfl) rfl rfl ?_
    first | refine AWo.pure (PureOp.lenS tbok rfl rfl) rfl rfl ?_ | refine AWo.pure (PureOp.lenD tbok rfl rfl) rfl rfl ?_
    first | refine AWo.pure (PureOp.ltN rfl rfl) rfl rfl ?_ | refine AWo.pure (PureOp.bin rfl rfl rfl) rfl rfl ?_
    refine AWo.nil trivial ?_
    refine AW.cond rfl (fun hb0 => ?_) (fun hb0 => ?_)
    ·
      have hi : c + 1 < vs.length := by simpa using hb0
      refine AW.skip ?_
      refine thenA_normal ?_
      refine AW.seq ?_
      refine AW.block ?_
      refine AW.seqR ?_
      refine AWo.pure (PureOp.move rfl) rfl rfl ?_
      first | refine AWo.pure (PureOp.cvtN tbok 18446744073709551616 rfl rfl rfl (by decide) (by decide) (by first | decide | omega)) rfl rfl ?_ | refine AWo.pure (PureOp.cvtU tbok 18446744073709551616 rfl rfl rfl rfl rfl) rfl rfl ?_ | refine AWo.pure (PureOp.cvt tbok rfl rfl rfl) rfl rfl ?_
      refine AWo.callX (fromuF_ctr (v := c + 1) (by omega)) bd37 [] [] rfl (.cons rfl .nil) rfl (.cons rfl rfl .nil) .nil rfl .nil frN (by decide) (.pure (by first | rfl | exact pure_aggM flat_vi | exact pure_aggM flat_bool) .nil) rfl rfl rfl rfl ?_
      refine AWo.callX (invF_ctr (x := fp (c + 1))) bd95 [] [] rfl (.cons rfl .nil) rfl (.pure (by first | rfl | exact pure_aggM flat_vi | exact pure_aggM flat_bool) .nil) .nil rfl .nil frN (by decide) (.pure (by first | rfl | exact pure_aggM flat_vi | exact pure_aggM flat_bool) .nil) rfl rfl rfl rfl ?_
      refine AWo.alloc tbok 6000 1 _ rfl rfl rfl rfl rfl rfl ?_
      refine AWo.storeAllN tbok rfl rfl rfl rfl (by first | (simp [*]; done) | rfl) (by first | (simp [*]; done) | rfl) (by first | exact oneM (fun _ => rfl) _ | rfl | (simp; done)) rfl ?_
      refine AWo.nil trivial ?_
      refine AW.seqR ?_
      refine AWo.pure (PureOp.move rfl) rfl rfl ?_
      first | refine AWo.pure (PureOp.lenS tbok rfl rfl) rfl rfl ?_ | refine AWo.pure (PureOp.lenD tbok rfl rfl) rfl rfl ?_
      first | refine AWo.pure (PureOp.subI (b := 1) rfl rfl (by first | decide | omega) (by first | decide | omega)) rfl rfl ?_ | refine AWo.pure (PureOp.subP rfl rfl (by first | decide | omega)) rfl rfl ?_ | refine AWo.pure (PureOp.bin rfl rfl rfl) rfl rfl ?_
      refine AWo.pure (PureOp.assign rfl) rfl rfl ?_
      refine AWo.nil trivial ?_
      refine AW.block ?_
      refine AW.loopw (fun mm σ => ∃ m, (m + c + 1 ≤ vs.length) ∧ mm = vs.length - m ∧ σ = ⟨(upd (upd (upd (upd emp 3 (.slice (some ⟨1, 0, none⟩) vs.length 0)) 4 (vi .i64 (c + 1))) 5 (.pointer (some ⟨6000, 0, none⟩))) 6 (vi .i64 (vs.length - 1 - m))), (upd (upd (upd emp 0 ⟨((vs.map fe).flatten).map (vi .u64), false, 4⟩) 1 ⟨(((inn (difN vs c) (finv (fp (c + 1))) vs.length m).map fe).flatten).map (vi .u64), true, 4⟩) 6000 ⟨(fe (finv (fp (c + 1)))).map (vi .u64), true, 1⟩)⟩) (fm := []) ?_ ⟨0, by omega, rfl, rfl⟩ ?_
      ·
        refine Wk.of [0, 1, 6000] ?_ ?_ ?_ (by decide) rfl
        ·
          refine WkE.upd rfl (by first | exact VR.flat _ rfl | exact VR.eqv (vp_succ _) rfl | exact VR.eqv (vp_succ _).symm rfl | exact VR.eqv (by first | rfl | (congr 1; omega) | (simp; done) | (simp; omega)) rfl) ?_
          refine WkE.upd rfl (.ptr (6000) 0 ⟨_, rfl⟩) ?_
          refine WkE.upd rfl (by first | exact VR.flat _ rfl | exact VR.eqv (vp_succ _) rfl | exact VR.eqv (vp_succ _).symm rfl | exact VR.eqv (by first | rfl | (congr 1; omega) | (simp; done) | (simp; omega)) rfl) ?_
          refine WkE.upd rfl (.slice (1) 0 _ 0 ⟨_, rfl⟩ (by simp) (by simp)) ?_
          exact WkE.emp
        ·
          refine WkM.flat rfl (flatM flat_vi) (fun h => h) ?_
          refine WkM.flat rfl (flatM flat_vi) (fun h => h) ?_
          refine WkM.flat rfl (flatM flat_vi) (fun h => h) ?_
          exact WkM.emp
        ·
          repeat (refine dom_upd_mem (by decide) ?_)
          exact dom_emp
      ·
        rintro mm σ ⟨m, hm0, rfl, rfl⟩
        refine AW.seq ?_
        refine AW.seqR ?_
        refine AWo.pure (PureOp.move rfl) rfl rfl ?_
        refine AWo.pure (PureOp.move rfl) rfl rfl ?_
        first | refine AWo.pure (PureOp.geP rfl rfl) rfl rfl ?_ | refine AWo.pure (PureOp.geN rfl rfl) rfl rfl ?_ | refine AWo.pure (PureOp.bin rfl rfl rfl) rfl rfl ?_
        refine AWo.nil trivial ?_
        refine AW.cond rfl (fun hb1 => ?_) (fun hb1 => ?_)
        ·
          have hj : c + 1 ≤ vs.length - 1 - m := by simpa using hb1
          have hrl : (inn (difN vs c) (finv (fp (c + 1))) vs.length m).length = vs.length := by rw [inn_len, difN_len]
          refine AW.skip ?_
          refine thenA_normal ?_
          refine AW.seq ?_
          refine AW.block ?_
          refine AW.draw mixed ?_
          refine AWo.pure (PureOp.move rfl) rfl rfl ?_
          refine AWo.pure (PureOp.move rfl) rfl rfl ?_
          refine AWo.pure (PureOp.move rfl) rfl rfl ?_
          refine AWo.pure (PureOp.move rfl) rfl rfl ?_
          first | refine AWo.pure (PureOp.idx1 tbok rfl rfl rfl rfl (by first | decide | omega)) rfl rfl ?_ | refine AWo.pure (PureOp.idx tbok rfl rfl rfl rfl (by first | decide | omega)) rfl rfl ?_
          refine yLJ (xs := (inn (difN vs c) (finv (fp (c + 1))) vs.length m)) (vs.length - 1 - m) ?_
          refine AWo.pure (PureOp.move rfl) rfl rfl ?_
          refine AWo.pure (PureOp.move rfl) rfl rfl ?_
          first | refine AWo.pure (PureOp.subI (b := 1) rfl rfl (by first | decide | omega) (by first | decide | omega)) rfl rfl ?_ | refine AWo.pure (PureOp.subP rfl rfl (by first | decide | omega)) rfl rfl ?_ | refine AWo.pure (PureOp.bin rfl rfl rfl) rfl rfl ?_
          first | refine AWo.pure (PureOp.idx1 tbok rfl rfl rfl rfl (by first | decide | omega)) rfl rfl ?_ | refine AWo.pure (PureOp.idx tbok rfl rfl rfl rfl (by first | decide | omega)) rfl rfl ?_
          refine yLJ (xs := (inn (difN vs c) (finv (fp (c + 1))) vs.length m)) (vs.length - 1 - m - 1) ?_
          refine AWo.callX (subF_ctr (x := (inn (difN vs c) (finv (fp (c + 1))) vs.length m).getD (vs.length - 1 - m) 0) (y := (inn (difN vs c) (finv (fp (c + 1))) vs.length m).getD (vs.length - 1 - m - 1) 0)) bd96 [] [] rfl (.cons rfl (.cons rfl .nil)) rfl (.pure (by first | rfl | exact pure_aggM flat_vi | exact pure_aggM flat_bool) (.pure (by first | rfl | exact pure_aggM flat_vi | exact pure_aggM flat_bool) .nil)) .nil rfl .nil frN (by decide) (.pure (by first | rfl | exact pure_aggM flat_vi | exact pure_aggM flat_bool) .nil) rfl rfl rfl rfl ?_
          first | refine yLE ?_ | refine yLEi ?_
          refine AWo.callX (mulF_ctr (x := (inn (difN vs c) (finv (fp (c + 1))) vs.length m).getD (vs.length - 1 - m) 0 - (inn (difN vs c) (finv (fp (c + 1))) vs.length m).getD (vs.length - 1 - m - 1) 0) (y := finv (fp (c + 1)))) bd35 [] [] rfl (.cons rfl (.cons rfl .nil)) rfl (.pure (by first | rfl | exact pure_aggM flat_vi | exact pure_aggM flat_bool) (.pure (by first | rfl | exact pure_aggM flat_vi | exact pure_aggM flat_bool) .nil)) .nil rfl .nil frN (by decide) (.pure (by first | rfl | exact pure_aggM flat_vi | exact pure_aggM flat_bool) .nil) rfl rfl rfl rfl ?_
          first | refine AWo.pure (PureOp.idx1 tbok rfl rfl rfl rfl (by first | decide | omega)) rfl rfl ?_ | refine AWo.pure (PureOp.idx tbok rfl rfl rfl rfl (by first | decide | omega)) rfl rfl ?_
          refine ySJ (xs := (inn (difN vs c) (finv (fp (c + 1))) vs.length m)) (y := ((inn (difN vs c) (finv (fp (c + 1))) vs.length m).getD (vs.length - 1 - m) 0 - (inn (difN vs c) (finv (fp (c + 1))) vs.length m).getD (vs.length - 1 - m - 1) 0) * finv (fp (c + 1))) (vs.length - 1 - m) ?_
          refine AWo.nil (by kernel_rfl) ?_
          refine inBlockA_normal ?_
          refine thenA_normal ?_
          refine AW.region ?_
          refine AWo.pure (PureOp.move rfl) rfl rfl ?_
          first | refine AWo.pure (PureOp.subI (b := 1) rfl rfl (by first | decide | omega) (by first | decide | omega)) rfl rfl ?_ | refine AWo.pure (PureOp.subP rfl rfl (by first | decide | omega)) rfl rfl ?_ | refine AWo.pure (PureOp.bin rfl rfl rfl) rfl rfl ?_
          refine AWo.pure (PureOp.assign rfl) rfl rfl ?_
          refine AWo.nil trivial ?_
          refine thenA_normal ?_
          refine ⟨vs.length - (m + 1), [], _, by omega, ?_, m + 1, by omega, rfl, rfl⟩
          refine Wk.of [0, 1, 6000] ?_ ?_ ?_ (by decide) rfl
          ·
            refine WkE.upd rfl (by first | exact VR.flat _ rfl | exact VR.eqv (vp_succ _) rfl | exact VR.eqv (vp_succ _).symm rfl | exact VR.eqv (by first | rfl | (congr 1; omega) | (simp; done) | (simp; omega)) rfl) ?_
            refine WkE.upd rfl (.ptr (6000) 0 ⟨_, rfl⟩) ?_
            refine WkE.upd rfl (by first | exact VR.flat _ rfl | exact VR.eqv (vp_succ _) rfl | exact VR.eqv (vp_succ _).symm rfl | exact VR.eqv (by first | rfl | (congr 1; omega) | (simp; done) | (simp; omega)) rfl) ?_
            refine WkE.upd rfl (.slice (1) 0 _ 0 ⟨_, rfl⟩ (by simp) (by simp)) ?_
            exact WkE.emp
          ·
            refine WkM.flat rfl (flatM flat_vi) (fun h => h) ?_
            refine WkM.flat rfl (flatM flat_vi) (fun h => h) ?_
            refine WkM.flat rfl (flatM flat_vi) (fun h => h) ?_
            exact WkM.emp
          ·
            repeat (refine dom_upd_mem (by decide) ?_)
            exact dom_emp
        ·
          obtain rfl : m = vs.length - 1 - c := by have := of_decide_eq_false hb1; omega
          refine AW.exit ?_
          refine thenA_exit ?_
          refine thenA_exit ?_
          refine inBlockA_hit ?_
          refine inBlockA_normal ?_
          refine thenA_normal ?_
          refine AW.region ?_
          refine AWo.pure (PureOp.move rfl) rfl rfl ?_
          first | refine AWo.pure (PureOp.addI (b := 1) rfl rfl (by first | decide | omega)) rfl rfl ?_ | refine AWo.pure (PureOp.bin rfl rfl rfl) rfl rfl ?_
          refine AWo.pure (PureOp.assign rfl) rfl rfl ?_
          refine AWo.nil trivial ?_
          refine thenA_normal ?_
          refine ⟨vs.length - (c + 1), [], _, by omega, ?_, c + 1, by omega, rfl, rfl⟩
          refine Wk.of [0, 1] ?_ ?_ ?_ (by decide) rfl
          ·
            refine WkE.upd rfl (by first | exact VR.flat _ rfl | exact VR.eqv (vp_succ _) rfl | exact VR.eqv (vp_succ _).symm rfl | exact VR.eqv (by first | rfl | (congr 1; omega) | (simp; done) | (simp; omega)) rfl) ?_
            refine WkE.upd rfl (.slice (1) 0 _ 0 ⟨_, rfl⟩ (by simp) (by simp)) ?_
            exact WkE.emp
          ·
            refine WkM.flat (by first | rfl | (rw [List.take_length]; rfl)) (flatM flat_vi) (fun h => h) ?_
            refine WkM.flat rfl (flatM flat_vi) (fun h => h) ?_
            exact WkM.emp
          ·
            repeat (refine dom_upd_mem (by decide) ?_)
            exact dom_emp
    ·
      obtain rfl : c = vs.length - 1 := by have := of_decide_eq_false hb0; omega
      refine AW.exit ?_
      refine thenA_exit ?_
      refine thenA_exit ?_
      refine inBlockA_hit ?_
      refine thenA_normal ?_
      refine AWd.firstR ?_
      refine AWo.alloc tbok 2 1 _ rfl rfl rfl rfl rfl rfl ?_
      refine AWo.nil trivial ?_
      have hdl : (difN vs (vs.length - 1)).length = vs.length := difN_len _ _
      generalize hds : difN vs (vs.length - 1) = ds at hdl
      refine AWd.seq ?_
      refine AWd.firstR ?_
      refine yM ?_
      refine yC (backwe_ctr (xs := ds) (n := vs.length)) bd97 [(1, 0)] [3] ?_
      refine zN ?_
      refine AWd.block (AWd.ghost (id := 77000) (es := 4) rfl (AWd.weaken (fm := []) (τ := ⟨Sim.upd (Sim.upd (fun _ => none) 7 (.pointer (some ⟨2, 0, none⟩))) 46 (.func (.func 133) #[] #[.pointer (some ⟨3, 0, none⟩)]), thM vs ds []⟩)
        (wk [0, 1, 2, 3, 77000] (hE := WkE.upd rfl (okVI_rel (ids := [3]) (by simp) rfl (dom_all rfl) rfl) (WkE.upd rfl (.ptr _ _ ⟨_, rfl⟩) WkE.emp))
          (hM := WkI.flatM (l := (([] : List Fp).map fe).flatten) (l' := []) rfl rfl flat_vi (fun h => h) (WkI.ren rfl rfl rfl (dom_all rfl) (fun h => h) (WkI.nil1 rfl (fun h => h) (WkI.flatM rfl rfl flat_vi (fun h => h) (WkI.flatM rfl rfl flat_vi (fun h => h) WkM.emp)))))) ?_))
      refine AWd.range (back_e (xs := ds) (bx := 3) (id := 1) (n := vs.length) (m := 4) (by omega) (by omega) (by omega)) (Sim.upd (fun _ => none) 7 (.pointer (some ⟨2, 0, none⟩)))
        (fun k M => M = thM vs ds (nwL ds vs.length k)) (fun _ => False)
        (by show 1 ≤ 4; decide) rfl ?_ ?_ (fun args w => run_callFunc bd133 args w) ?_ (fun _ => rfl) (by decide) rfl ?_ ?_ ?_ (fun M h => h.elim)
      · intro v hv
        simp only [List.mem_cons, List.not_mem_nil, or_false] at hv
        subst hv; exact Low.ptr (by decide)
      · intro i hi
        match i, hi with
        | 0, _ => exact ⟨_, rfl⟩
        | 1, _ => exact ⟨_, rfl⟩
        | 2, _ => exact ⟨_, rfl⟩
        | 3, _ => exact ⟨_, rfl⟩
      · intro t v ht
        simp only [Sim.upd] at ht
        split at ht
        · rename_i e; subst e; cases ht
          exact ⟨rfl, Low.ptr (by decide)⟩
        · cases ht
      · rintro k M rfl
        exact ⟨⟨_, _, rfl⟩, ⟨_, _, rfl⟩⟩
      · rintro k M hk rfl
        have he : backE ds vs.length k = [vi .i64 (vs.length - 1 - k : Nat), .agg ((fe (ds.getD (vs.length - 1 - k) 0)).map (vi .u64)).toArray] := rfl
        have hpl := nwL_len ds vs.length k
        rw [he, encE2]
        refine AWX.seqR ?_
        refine yA ?_
        refine zN ?_
        refine AWX.region ?_
        refine yN 10000 1 _ ?_
        refine ySA ?_
        refine zN ?_
        refine AWX.block (AWX.draw (by kernel_rfl) ?_)
        refine yL1 ?_
        refine yM ?_
        refine yP (PureOp.cvtN tbok 18446744073709551616 rfl rfl rfl (by decide) (by decide) (by omega)) ?_
        refine yC (fromuF_ctr (v := vs.length - 1 - k) (by omega)) bd37 [] [] ?_
        refine yC (negF_ctr (x := fp (vs.length - 1 - k))) bd45 [] [] ?_
        refine yC (fromuF_ctr (v := 1) (by decide)) bd37 [] [] ?_
        refine AWo.buildSlice tbok 56000 [(0, .agg ((fe (-(fp (vs.length - 1 - k)))).map (vi .u64)).toArray), (1, .agg ((fe (fp 1)).map (vi .u64)).toArray)] (out := FF [-(fp (vs.length - 1 - k)), fp 1]) rfl rfl (by decide) rfl rfl rfl (by decide) rfl fillB2 rfl rfl rfl ?_
        have hm1 := Po.pm_len (nwL ds vs.length k) [-(fp (vs.length - 1 - k)), fp 1]
        have hm2 := Po.dg_le (Po.pm (nwL ds vs.length k) [-(fp (vs.length - 1 - k)), fp 1])
        simp only [List.length_cons, List.length_nil] at hm1
        refine yC (mulp_ctr (xs := nwL ds vs.length k) (ys := [-(fp (vs.length - 1 - k)), fp 1]) rfl rfl (by omega) (by show 2 < 100000; decide)) bd34 [(77000, 0), (56000, 0)] [57000] ?_
        refine yLE ?_
        refine AWo.buildSlice tbok 59000 [(0, .agg ((fe (ds.getD (vs.length - 1 - k) 0)).map (vi .u64)).toArray)] (out := FF [ds.getD (vs.length - 1 - k) 0]) rfl rfl (by decide) rfl rfl rfl (by decide) rfl (fillB1 (fe_len _)) rfl rfl rfl ?_
        refine yC (addp_ctr (xs := Po.tr (Po.pm (nwL ds vs.length k) [-(fp (vs.length - 1 - k)), fp 1])) (ys := [ds.getD (vs.length - 1 - k) 0]) rfl rfl (by rw [Po.tr_len]; omega) (by show 1 < 1000000; decide)) bd31 [(57000, 0), (59000, 0)] [60000] ?_
        refine AWo.store1 tbok rfl rfl rfl rfl rfl (by simp) rfl rfl ?_
        refine zD ?_
        exact ⟨[(77000, 60000)], ⟨fun _ => none, thM vs ds (nwL ds vs.length (k + 1))⟩, wk [0, 1, 2, 3, 77000], .inl ⟨rfl, rfl⟩⟩
      · rintro M rfl
        have hpl := nwL_len ds vs.length vs.length
        refine AWd.ofX (AWX.seqR ?_)
        refine yL1 ?_
        refine yC (trimp_ctr (xs := nwL ds vs.length vs.length) rfl (by omega)) bd39 [(77000, 0)] [90000] ?_
        refine yA ?_
        refine zN ?_
        refine AWX.ret ?_
        rw [thr, hds]
        exact rq [90000] [.tmp 2]
end Go.Proofs.Yteeifahhejangaa
namespace Go.Proofs.Yteeifahhejangaa
open Go Sim
def nb (b : List Nat) : Fp := fp (num 256 b)
theorem nb_step {Ls : List (List Nat)} {i : Nat} (h : i < Ls.length) : (Ls.take i).map nb ++ [nb (Ls.getD i [])] = (Ls.take (i + 1)).map nb := by
  rw [List.take_succ_eq_append_getElem h, List.map_append, List.getD_eq_getElem?_getD, List.getElem?_eq_getElem h]; rfl
theorem finv_one : finv (fp 1) = fp 1 := by
  have h := mul_finv (x := fp 1) (by decide)
  have e : fp 1 * finv (fp 1) = finv (fp 1) := Rg.one_mul _
  rw [e] at h; exact h
theorem thr13 : thr [fp 1, fp 3] = [fp 1, fp 2] := by
  unfold thr
  have e : difN [fp 1, fp 3] ([fp 1, fp 3].length - 1) = inn [fp 1, fp 3] (fp 1) 2 1 := by
    show inn [fp 1, fp 3] (finv (fp (0 + 1))) 2 1 = _
    rw [finv_one]
  rw [e]
  decide +kernel
def fewB (Ls : List (List Nat)) (most : Nat) : Bool := (Ls.all fun b => decide (b.length ≤ 40)) && decide (Ls.length ≤ most)
theorem fewB_ok {Ls : List (List Nat)} {most : Nat} (h : ∀ b ∈ Ls, b.length ≤ 40) : fewB Ls most = decide (Ls.length ≤ most) := by
  rw [fewB, List.all_eq_true.2 fun b hb => decide_eq_true (h b hb), Bool.true_and]
theorem fewB_bad {Ls : List (List Nat)} {most i : Nat} (hi : i < Ls.length) (h : 40 < (Ls.getD i []).length) : fewB Ls most = false := by
  have : (Ls.all fun b => decide (b.length ≤ 40)) = false := by
    rw [← Bool.not_eq_true, List.all_eq_true]
    intro hh
    have h2 := of_decide_eq_true (hh (Ls.getD i []) (by rw [List.getD_eq_getElem?_getD, List.getElem?_eq_getElem hi]; exact List.getElem_mem _))
    omega
  rw [fewB, this, Bool.false_and]
theorem fewB_get {Ls : List (List Nat)} {most : Nat} (h : fewB Ls most = true) : (∀ b ∈ Ls, b.length ≤ 40) ∧ Ls.length ≤ most := by
  rw [fewB, Bool.and_eq_true, List.all_eq_true] at h
  exact ⟨fun b hb => of_decide_eq_true (h.1 b hb), of_decide_eq_true h.2⟩
theorem ofb_short {b : List Nat} (h : bd 256 b) (hl : b.length ≤ 40) : (D 4294967296 (num 256 b)).length < 1000000 := by
  have h1 : num 256 b < 256 ^ 40 := Nat.lt_of_lt_of_le (num_lt h) (Nat.pow_le_pow_right (by decide) hl)
  have h2 := (D_len_le (B := 4294967296) (by decide) (num 256 b) 10).2 (Nat.lt_of_lt_of_le h1 (by decide))
  omega
theorem speaks22_ctr : GC Try.prog 23 [] [] [.bool true] [] := by
  refine GC.intro Try.func23 rfl (by show 0 ≤ 30; decide) (by first | exact Nat.le_refl _ | decide | simp) ?_
  refine AW.seqR ?_
  refine AWo.pure (PureOp.assign rfl) rfl rfl ?_
  refine AWo.nil trivial ?_
  refine AW.seqR ?_
  refine AWo.callX (fromuF_ctr (v := 1) (by decide)) bd37 [] [] rfl (.cons rfl .nil) rfl (.cons rfl rfl .nil) .nil rfl .nil frN (by decide) (.pure (by first | rfl | exact pure_aggM flat_vi | exact pure_aggM flat_bool) .nil) rfl rfl rfl rfl ?_
  refine AWo.callX (fromuF_ctr (v := 3) (by decide)) bd37 [] [] rfl (.cons rfl .nil) rfl (.cons rfl rfl .nil) .nil rfl .nil frN (by decide) (.pure (by first | rfl | exact pure_aggM flat_vi | exact pure_aggM flat_bool) .nil) rfl rfl rfl rfl ?_
  refine AWo.buildSlice tbok 5000 [(0, .agg ((fe (fp 1)).map (vi .u64)).toArray), (1, .agg ((fe (fp 3)).map (vi .u64)).toArray)] (out := FF [fp 1, fp 3]) rfl rfl (by decide) rfl rfl rfl (by decide) rfl fillB2 rfl rfl rfl ?_
  refine AWo.callX (thrp_ctr (vs := [fp 1, fp 3]) (n := 2) rfl (by decide)) bd38 [(5000, 0)] [6000] rfl (.cons rfl .nil) rfl (.cons rfl rfl .nil) (.flat rfl (flatM flat_vi) (by intro h; first | exact h | rfl) .nil) rfl (.keep rfl (.new (flat_map_ren (flatM flat_vi)) (OkL.flat (flatM flat_vi)) .nil)) (frC rfl frN) (by decide) (.cons rfl rfl .nil) rfl rfl rfl rfl ?_
  refine AWo.pure (PureOp.assign rfl) rfl rfl ?_
  refine AWo.nil trivial ?_
  rw [thr13]
  refine AW.seqD mixed ?_
  refine AWo.pure (PureOp.move rfl) rfl rfl ?_
  first | refine AWo.pure (PureOp.lenS tbok rfl rfl) rfl rfl ?_ | refine AWo.pure (PureOp.lenD tbok rfl rfl) rfl rfl ?_
  first | refine AWo.pure (PureOp.eqN (b := 2) rfl rfl) rfl rfl ?_ | refine AWo.pure (PureOp.bin rfl rfl rfl) rfl rfl ?_
  refine AWo.pure (PureOp.move rfl) rfl rfl ?_
  refine AWo.pure (PureOp.move rfl) rfl rfl ?_
  first | refine AWo.pure (PureOp.idx1 (j := 0) tbok rfl rfl rfl rfl (by first | decide | omega)) rfl rfl ?_ | refine AWo.pure (PureOp.idx (j := 0) tbok rfl rfl rfl rfl (by first | decide | omega)) rfl rfl ?_
  refine yLJ (xs := [fp 1, fp 2]) 0 ?_ (ho := by exact rfl)
  refine AWo.callX (fromuF_ctr (v := 1) (by decide)) bd37 [] [] rfl (.cons rfl .nil) rfl (.cons rfl rfl .nil) .nil rfl .nil frN (by decide) (.pure (by first | rfl | exact pure_aggM flat_vi | exact pure_aggM flat_bool) .nil) rfl rfl rfl rfl ?_
  refine AWo.callX (v := .bool true) (equalF_ctr (x := fp 1) (y := fp 1)) bd19 [] [] rfl (.cons rfl (.cons rfl .nil)) rfl (.pure (by first | rfl | exact pure_aggM flat_vi | exact pure_aggM flat_bool) (.pure (by first | rfl | exact pure_aggM flat_vi | exact pure_aggM flat_bool) .nil)) .nil rfl .nil frN (by decide) (.cons rfl rfl .nil) (congrArg Value.bool (decide_eq_true (rfl))) rfl rfl rfl ?_
  refine AWo.pure (PureOp.pickT rfl rfl) rfl rfl ?_
  refine AWo.pure (PureOp.move rfl) rfl rfl ?_
  refine AWo.pure (PureOp.move rfl) rfl rfl ?_
  first | refine AWo.pure (PureOp.idx1 (j := 1) tbok rfl rfl rfl rfl (by first | decide | omega)) rfl rfl ?_ | refine AWo.pure (PureOp.idx (j := 1) tbok rfl rfl rfl rfl (by first | decide | omega)) rfl rfl ?_
  refine yLJ (xs := [fp 1, fp 2]) 1 ?_ (ho := by exact rfl)
  refine AWo.callX (fromuF_ctr (v := 2) (by decide)) bd37 [] [] rfl (.cons rfl .nil) rfl (.cons rfl rfl .nil) .nil rfl .nil frN (by decide) (.pure (by first | rfl | exact pure_aggM flat_vi | exact pure_aggM flat_bool) .nil) rfl rfl rfl rfl ?_
  refine AWo.callX (v := .bool true) (equalF_ctr (x := fp 2) (y := fp 2)) bd19 [] [] rfl (.cons rfl (.cons rfl .nil)) rfl (.pure (by first | rfl | exact pure_aggM flat_vi | exact pure_aggM flat_bool) (.pure (by first | rfl | exact pure_aggM flat_vi | exact pure_aggM flat_bool) .nil)) .nil rfl .nil frN (by decide) (.cons rfl rfl .nil) (congrArg Value.bool (decide_eq_true (rfl))) rfl rfl rfl ?_
  refine AWo.pure (PureOp.pickT rfl rfl) rfl rfl ?_
  refine AWo.pure (PureOp.move rfl) rfl rfl ?_
  refine AWo.pure (PureOp.move rfl) rfl rfl ?_
  first | refine AWo.pure (PureOp.idx1 (j := 1) tbok rfl rfl rfl rfl (by first | decide | omega)) rfl rfl ?_ | refine AWo.pure (PureOp.idx (j := 1) tbok rfl rfl rfl rfl (by first | decide | omega)) rfl rfl ?_
  refine yLJ (xs := [fp 1, fp 2]) 1 ?_ (ho := by exact rfl)
  refine AWo.callX (v := .bool false) (iszeroF_ctr (x := fp 2)) bd46 [] [] rfl (.cons rfl .nil) rfl (.pure (by first | rfl | exact pure_aggM flat_vi | exact pure_aggM flat_bool) .nil) .nil rfl .nil frN (by decide) (.cons rfl rfl .nil) (congrArg Value.bool (by decide)) rfl rfl rfl ?_
  refine AWo.pure (PureOp.not rfl) rfl rfl ?_
  refine AWo.pure (PureOp.pickT rfl rfl) rfl rfl ?_
  refine AWo.pure (PureOp.assign rfl) rfl rfl ?_
  refine AWo.nil (by kernel_rfl) ?_
  refine AW.ret ?_
  refine RetQ.gc [_] [] [.tmp 0] (.inl rfl) rfl (.tmp rfl .nil) rfl (.cons rfl rfl .nil) trivial (by decide) rfl
theorem few22_ctr {Ls : List (List Nat)} {most : Nat} (hl : Ls.length ≤ 9223372036854775807) (hm : most < 100000000) : GC Try.prog 28 [.slice (some ⟨0, 0, none⟩) Ls.length 0, vi .i64 (most)] [⟨Ls.map (db), false, 1⟩] [.bool (fewB Ls most)] [⟨Ls.map (db), false, 1⟩] := by
  refine GC.intro Try.func28 rfl (by show 2 ≤ 21; decide) (by first | exact Nat.le_refl _ | decide | simp) ?_
  refine AW.seqR ?_
  refine AWo.pure (PureOp.assign rfl) rfl rfl ?_
  refine AWo.nil trivial ?_
  refine AW.seq ?_
  refine AW.seqR ?_
  refine AWo.pure (PureOp.move rfl) rfl rfl ?_
  first | refine AWo.pure (PureOp.lenS tbok rfl rfl) rfl rfl ?_ | refine AWo.pure (PureOp.lenD tbok rfl rfl) rfl rfl ?_
  refine AWo.pure (PureOp.move rfl) rfl rfl ?_
  refine AWo.nil trivial ?_
  refine AW.block ?_
  refine AW.loopw (fun mm σ => ∃ i, (i ≤ Ls.length ∧ ∀ b ∈ Ls.take i, b.length ≤ 40) ∧ mm = Ls.length - i ∧ σ = ⟨(upd (upd (upd (upd (upd emp 0 (.slice (some ⟨0, 0, none⟩) Ls.length 0)) 1 (vi .i64 most)) 7 (.slice (some ⟨0, 0, none⟩) Ls.length 0)) 8 (vi .i64 Ls.length)) 9 (vi .i64 i)), (upd emp 0 ⟨Ls.map db, false, 1⟩)⟩) (fm := []) ?_ ⟨0, ⟨Nat.zero_le _, fun b hb => by simp at hb⟩, rfl, rfl⟩ ?_
  ·
    refine Wk.of [0] ?_ ?_ ?_ (by decide) rfl
    ·
      refine WkE.upd rfl (by first | exact VR.flat _ rfl | exact VR.eqv (vp_succ _) rfl | exact VR.eqv (vp_succ _).symm rfl | exact VR.eqv (by first | rfl | (congr 1; omega) | (simp; done) | (simp; omega)) rfl) ?_
      refine WkE.upd rfl (by first | exact VR.flat _ rfl | exact VR.eqv (vp_succ _) rfl | exact VR.eqv (vp_succ _).symm rfl | exact VR.eqv (by first | rfl | (congr 1; omega) | (simp; done) | (simp; omega)) rfl) ?_
      refine WkE.upd rfl (.slice (0) 0 _ 0 ⟨_, rfl⟩ (by simp) (by simp)) ?_
      refine WkE.upd rfl (by first | exact VR.flat _ rfl | exact VR.eqv (vp_succ _) rfl | exact VR.eqv (vp_succ _).symm rfl | exact VR.eqv (by first | rfl | (congr 1; omega) | (simp; done) | (simp; omega)) rfl) ?_
      refine WkE.upd rfl (.slice (0) 0 _ 0 ⟨_, rfl⟩ (by simp) (by simp)) ?_
      exact WkE.emp
    ·
      refine WkM.cloM rfl rfl (fun _ => rfl) (fun h => h) ?_
      exact WkM.emp
    ·
      repeat (refine dom_upd_mem (by decide) ?_)
      exact dom_emp
  ·
    rintro mm σ ⟨i, ⟨hi0, hs⟩, rfl, rfl⟩
    refine AW.seqR ?_
    first | refine AWo.pure (PureOp.ltN rfl rfl) rfl rfl ?_ | refine AWo.pure (PureOp.bin rfl rfl rfl) rfl rfl ?_
    refine AWo.nil trivial ?_
    refine AW.seq ?_
    refine AW.cond rfl (fun hb0 => ?_) (fun hb0 => ?_)
    ·
      have hi : i < Ls.length := by simpa using hb0
      refine AW.skip ?_
      refine thenA_normal ?_
      refine AW.seq ?_
      refine AW.block ?_
      refine AW.seqR ?_
      refine AWo.pure (PureOp.idx1 tbok (j := i) rfl rfl rfl rfl hi) rfl rfl ?_
      refine AWo.loadM tbok (f := db) [] rfl rfl rfl hi rfl rfl ?_
      refine AWo.pure (PureOp.assign rfl) rfl rfl ?_
      refine AWo.nil trivial ?_
      refine AW.seqR ?_
      refine AWo.pure (PureOp.move rfl) rfl rfl ?_
      first | refine AWo.pure (PureOp.lenS tbok rfl rfl) rfl rfl ?_ | refine AWo.pure (PureOp.lenD tbok rfl rfl) rfl rfl ?_
      first | refine AWo.pure (PureOp.gtN (b := 40) rfl rfl) rfl rfl ?_ | refine AWo.pure (PureOp.bin rfl rfl rfl) rfl rfl ?_
      refine AWo.nil trivial ?_
      refine AW.cond rfl (fun hb1 => ?_) (fun hb1 => ?_)
      ·
        have hgt : 40 < (Ls.getD i []).length := by simpa using hb1
        rw [fewB_bad hi hgt]
        refine AW.seqR ?_
        refine AWo.pure (PureOp.assign rfl) rfl rfl ?_
        refine AWo.nil trivial ?_
        refine AW.ret ?_
        refine inBlockA_ret ?_
        refine thenA_ret ?_
        refine thenA_ret ?_
        refine inBlockA_ret ?_
        refine thenA_ret ?_
        refine RetQ.gc [_] [] [.tmp 4] (.inl rfl) rfl (.tmp rfl .nil) rfl (.cons rfl rfl .nil) (OutL.clo rfl (cloM fun _ => rfl) (by intro h; first | rfl | exact h.elim id fun h => absurd h.1 (by simp)) trivial) (by decide) rfl
      ·
        have hle : (Ls.getD i []).length ≤ 40 := by simpa using hb1
        refine AW.skip ?_
        refine inBlockA_normal ?_
        refine thenA_normal ?_
        refine AW.region ?_
        first | refine AWo.pure (PureOp.addI (b := 1) rfl rfl (by first | decide | omega)) rfl rfl ?_ | refine AWo.pure (PureOp.bin rfl rfl rfl) rfl rfl ?_
        refine AWo.pure (PureOp.move rfl) rfl rfl ?_
        refine AWo.nil trivial ?_
        refine thenA_normal ?_
        refine ⟨Ls.length - (i + 1), [], _, by omega, ?_, i + 1, ⟨by omega, few_step hi hs hle⟩, rfl, rfl⟩
        refine Wk.of [0] ?_ ?_ ?_ (by decide) rfl
        ·
          refine WkE.upd rfl (by first | exact VR.flat _ rfl | exact VR.eqv (vp_succ _) rfl | exact VR.eqv (vp_succ _).symm rfl | exact VR.eqv (by first | rfl | (congr 1; omega) | (simp; done) | (simp; omega)) rfl) ?_
          refine WkE.upd rfl (by first | exact VR.flat _ rfl | exact VR.eqv (vp_succ _) rfl | exact VR.eqv (vp_succ _).symm rfl | exact VR.eqv (by first | rfl | (congr 1; omega) | (simp; done) | (simp; omega)) rfl) ?_
          refine WkE.upd rfl (.slice (0) 0 _ 0 ⟨_, rfl⟩ (by simp) (by simp)) ?_
          refine WkE.upd rfl (by first | exact VR.flat _ rfl | exact VR.eqv (vp_succ _) rfl | exact VR.eqv (vp_succ _).symm rfl | exact VR.eqv (by first | rfl | (congr 1; omega) | (simp; done) | (simp; omega)) rfl) ?_
          refine WkE.upd rfl (.slice (0) 0 _ 0 ⟨_, rfl⟩ (by simp) (by simp)) ?_
          exact WkE.emp
        ·
          refine WkM.cloM rfl rfl (fun _ => rfl) (fun h => h) ?_
          exact WkM.emp
        ·
          repeat (refine dom_upd_mem (by decide) ?_)
          exact dom_emp
    ·
      obtain rfl : i = Ls.length := by simp at hb0; omega
      rw [List.take_length] at hs
      rw [fewB_ok hs]
      refine AW.exit ?_
      refine thenA_exit ?_
      refine thenA_exit ?_
      refine inBlockA_hit ?_
      refine thenA_normal ?_
      refine AW.seqR ?_
      refine AWo.pure (PureOp.move rfl) rfl rfl ?_
      first | refine AWo.pure (PureOp.lenS tbok rfl rfl) rfl rfl ?_ | refine AWo.pure (PureOp.lenD tbok rfl rfl) rfl rfl ?_
      refine AWo.pure (PureOp.move rfl) rfl rfl ?_
      first | refine AWo.pure (PureOp.leN rfl rfl) rfl rfl ?_ | refine AWo.pure (PureOp.bin rfl rfl rfl) rfl rfl ?_
      refine AWo.pure (PureOp.assign rfl) rfl rfl ?_
      refine AWo.nil trivial ?_
      refine AW.ret ?_
      refine RetQ.gc [_] [] [.tmp 4] (.inl rfl) rfl (.tmp rfl .nil) rfl (.cons rfl rfl .nil) (OutL.clo rfl (cloM fun _ => rfl) (by intro h; first | rfl | exact h.elim id fun h => absurd h.1 (by simp)) trivial) (by decide) rfl
theorem of22_ctr {Ls : List (List Nat)} (hB : ∀ b ∈ Ls, bd 256 b) (hS : ∀ b ∈ Ls, b.length ≤ 40) (hl : Ls.length < 1000000) : GC Try.prog 29 [.slice (some ⟨0, 0, none⟩) Ls.length 0] [⟨Ls.map (db), false, 1⟩] [.slice (some ⟨1, 0, none⟩) Ls.length 0, .slice (some ⟨2, 0, none⟩) Ls.length 0] [⟨Ls.map (db), false, 1⟩, ⟨(((Ls.map nb).map fe).flatten).map (vi .u64), true, 4⟩, ⟨(Ls.map nb).map dv, true, 1⟩] := by
  refine GC.intro Try.func29 rfl (by show 1 ≤ 29; decide) (by first | exact Nat.le_refl _ | decide | simp) ?_
  refine AW.seqR ?_
  refine AWo.pure (PureOp.assign rfl) rfl rfl ?_
  refine AWo.pure (PureOp.assign rfl) rfl rfl ?_
  refine AWo.nil trivial ?_
  refine AW.seqR ?_
  refine AWo.pure (PureOp.assign rfl) rfl rfl ?_
  refine AWo.nil trivial ?_
  refine AW.seqR ?_
  refine AWo.buildSlice tbok 9000 [] (out := []) rfl rfl (by decide) rfl rfl rfl (by decide) rfl rfl rfl rfl rfl ?_
  refine AWo.pure (PureOp.assign rfl) rfl rfl ?_
  refine AWo.nil trivial ?_
  refine AW.seq ?_
  refine AW.seqR ?_
  refine AWo.pure (PureOp.move rfl) rfl rfl ?_
  first | refine AWo.pure (PureOp.lenS tbok rfl rfl) rfl rfl ?_ | refine AWo.pure (PureOp.lenD tbok rfl rfl) rfl rfl ?_
  refine AWo.pure (PureOp.move rfl) rfl rfl ?_
  refine AWo.nil trivial ?_
  refine AW.block ?_
  refine AW.ghost 77000 4 rfl ?_
  refine AW.loopw (fun mm σ => ∃ i, (i ≤ Ls.length) ∧ mm = Ls.length - i ∧ σ = ⟨(upd (upd (upd (upd (upd emp 4 (.slice (some ⟨77000, 0, none⟩) i 0)) 5 (.slice (some ⟨77001, 0, none⟩) i 0)) 9 (.slice (some ⟨0, 0, none⟩) Ls.length 0)) 10 (vi .i64 Ls.length)) 11 (vi .i64 i)), (upd (upd (upd emp 0 ⟨Ls.map db, false, 1⟩) 77000 ⟨((((Ls.take i).map nb).map fe).flatten).map (vi .u64), true, 4⟩) 77001 ⟨((Ls.take i).map nb).map dv, true, 1⟩)⟩) (fm := [(77001, 9000)]) ?_ ⟨0, Nat.zero_le _, rfl, rfl⟩ ?_
  ·
    refine Wk.of [0, 77000, 77001] ?_ ?_ ?_ (by decide) rfl
    ·
      refine WkE.upd rfl (by first | exact VR.flat _ rfl | exact VR.eqv (vp_succ _) rfl | exact VR.eqv (vp_succ _).symm rfl | exact VR.eqv (by first | rfl | (congr 1; omega) | (simp; done) | (simp; omega)) rfl) ?_
      refine WkE.upd rfl (by first | exact VR.flat _ rfl | exact VR.eqv (vp_succ _) rfl | exact VR.eqv (vp_succ _).symm rfl | exact VR.eqv (by first | rfl | (congr 1; omega) | (simp; done) | (simp; omega)) rfl) ?_
      refine WkE.upd rfl (.slice (0) 0 _ 0 ⟨_, rfl⟩ (by simp) (by simp)) ?_
      refine WkE.upd rfl (by first | exact .nilS _ (by simp) | exact .slice (77001) 0 _ 0 ⟨_, rfl⟩ (by simp) (by simp)) ?_
      refine WkE.upd rfl (by first | exact .nilS _ (by simp) | exact .slice (77000) 0 _ 0 ⟨_, rfl⟩ (by simp) (by simp)) ?_
      exact WkE.emp
    ·
      refine WkM.cloM rfl rfl (fun _ => rfl) (fun h => h) ?_
      refine WkM.flat rfl (flatM flat_vi) (fun h => h) ?_
      refine WkM.cloM rfl rfl (fun _ => rfl) (fun h => h) ?_
      exact WkM.emp
    ·
      repeat (refine dom_upd_mem (by decide) ?_)
      exact dom_emp
  ·
    rintro mm σ ⟨i, hinv, rfl, rfl⟩
    refine AW.seqR ?_
    first | refine AWo.pure (PureOp.ltN rfl rfl) rfl rfl ?_ | refine AWo.pure (PureOp.bin rfl rfl rfl) rfl rfl ?_
    refine AWo.nil trivial ?_
    refine AW.seq ?_
    refine AW.cond rfl (fun hb0 => ?_) (fun hb0 => ?_)
    ·
      have hi : i < Ls.length := by simpa using hb0
      have hbm : Ls.getD i [] ∈ Ls := by rw [List.getD_eq_getElem?_getD, List.getElem?_eq_getElem hi]; exact List.getElem_mem _
      have hbb := hB _ hbm
      have hbl := hS _ hbm
      refine AW.skip ?_
      refine thenA_normal ?_
      refine AW.seq ?_
      refine AW.block ?_
      refine AW.seqR ?_
      refine AWo.pure (PureOp.idx1 tbok (j := i) rfl rfl rfl rfl hi) rfl rfl ?_
      refine AWo.loadM tbok (f := db) [] rfl rfl rfl hi rfl rfl ?_
      refine AWo.pure (PureOp.assign rfl) rfl rfl ?_
      refine AWo.nil trivial ?_
      refine AW.seqR ?_
      refine AWo.pure (PureOp.move rfl) rfl rfl ?_
      refine AWo.pure (PureOp.move rfl) rfl rfl ?_
      refine AWo.callX (fromwideFd (b := Ls.getD i []) hbb (by omega)) bd30 [] [] rfl (.cons rfl .nil) rfl (.cons rfl rfl .nil) .nil rfl .nil frN (by decide) (.pure (by first | rfl | exact pure_aggM flat_vi | exact pure_aggM flat_bool) .nil) rfl rfl rfl rfl ?_
      refine AWo.buildSlice tbok 19000 [(0, .agg ((fe (nb (Ls.getD i []))).map (vi .u64)).toArray)] (out := [fe (nb (Ls.getD i []))].flatten.map (vi .u64)) rfl rfl (by decide) rfl rfl rfl (by decide) rfl (fillB1 (fe_len _)) rfl rfl rfl ?_
      refine AWo.append tbok (all := ((((Ls.take (i + 1)).map nb).map fe).flatten).map (vi .u64)) (news := [fe (nb (Ls.getD i []))].flatten.map (vi .u64)) 20000 rfl rfl rfl rfl (by show (FF _).length = _; rw [FF_len, List.length_map, List.length_take, Nat.min_eq_left hinv]) (by show List.take _ (List.drop 0 _) = _; rw [List.drop_zero]; exact List.take_of_length_le (by simp)) (by simp; done) (by decide) rfl rfl rfl (by first | decide | exact Nat.one_ne_zero) rfl rfl rfl (by first | decide | omega) (by first | decide | omega) (by first | exact oneM (fun _ => rfl) _ | (simp; done)) (by show FF _ ++ FF [_] = FF _; rw [← FF_app, nb_step hi]) rfl rfl ?_
      refine AWo.pure (PureOp.assign rfl) rfl rfl ?_
      refine AWo.nil trivial ?_
      refine AW.region ?_
      refine AWo.pure (PureOp.move rfl) rfl rfl ?_
      refine AWo.pure (PureOp.move rfl) rfl rfl ?_
      refine AWo.callX (ofbd (a := Ls.getD i []) hbb (by omega)) bd52 [] [] rfl (.cons rfl .nil) rfl (.cons rfl rfl .nil) .nil rfl .nil frN (by decide) (.cons rfl rfl .nil) rfl rfl rfl rfl ?_
      refine AWo.callX (modRd (v := num 256 (Ls.getD i [])) (ofb_short hbb hbl)) bd51 [] [] rfl (.cons rfl .nil) rfl (.cons rfl rfl .nil) .nil rfl .nil frN (by decide) (.cons rfl rfl .nil) rfl rfl rfl rfl ?_
      refine AWo.buildSlice tbok 25000 [(0, dv (nb (Ls.getD i [])))] (out := [dv (nb (Ls.getD i []))]) rfl rfl (by decide) rfl rfl rfl (by decide) rfl rfl rfl rfl rfl ?_
      refine AWo.append tbok (all := ((Ls.take (i + 1)).map nb).map dv) (news := [dv (nb (Ls.getD i []))]) 26000 rfl rfl rfl rfl (by simp; omega) (by show List.take _ (List.drop 0 _) = _; rw [List.drop_zero]; exact List.take_of_length_le (by simp)) (by first | decide | (simp; done) | (simp; omega)) (by decide) rfl rfl rfl (by first | decide | exact Nat.one_ne_zero) rfl rfl rfl (by first | decide | omega) (by first | decide | omega) (by rfl) (by rw [← nb_step hi, List.map_append]; rfl) rfl rfl ?_
      refine AWo.pure (PureOp.assign rfl) rfl rfl ?_
      refine AWo.nil trivial ?_
      refine inBlockA_normal ?_
      refine thenA_normal ?_
      refine AW.region ?_
      first | refine AWo.pure (PureOp.addI (b := 1) rfl rfl (by first | decide | omega)) rfl rfl ?_ | refine AWo.pure (PureOp.bin rfl rfl rfl) rfl rfl ?_
      refine AWo.pure (PureOp.move rfl) rfl rfl ?_
      refine AWo.nil trivial ?_
      refine thenA_normal ?_
      refine ⟨Ls.length - (i + 1), [(77000, 20000), (77001, 26000)], _, by omega, ?_, i + 1, by omega, rfl, rfl⟩
      refine Wk.of [0, 77000, 77001] ?_ ?_ ?_ (by decide) rfl
      ·
        refine WkE.upd rfl (by first | exact VR.flat _ rfl | exact VR.eqv (vp_succ _) rfl | exact VR.eqv (vp_succ _).symm rfl | exact VR.eqv (by first | rfl | (congr 1; omega) | (simp; done) | (simp; omega)) rfl) ?_
        refine WkE.upd rfl (by first | exact VR.flat _ rfl | exact VR.eqv (vp_succ _) rfl | exact VR.eqv (vp_succ _).symm rfl | exact VR.eqv (by first | rfl | (congr 1; omega) | (simp; done) | (simp; omega)) rfl) ?_
        refine WkE.upd rfl (.slice (0) 0 _ 0 ⟨_, rfl⟩ (by simp) (by simp)) ?_
        refine WkE.upd rfl (by first | exact .nilS _ (by simp) | exact .slice (77001) 0 _ 0 ⟨_, rfl⟩ (by simp) (by simp)) ?_
        refine WkE.upd rfl (by first | exact .nilS _ (by simp) | exact .slice (77000) 0 _ 0 ⟨_, rfl⟩ (by simp) (by simp)) ?_
        exact WkE.emp
      ·
        refine WkM.cloM rfl rfl (fun _ => rfl) (fun h => h) ?_
        refine WkM.flat rfl (flatM flat_vi) (fun h => h) ?_
        refine WkM.cloM rfl rfl (fun _ => rfl) (fun h => h) ?_
        exact WkM.emp
      ·
        repeat (refine dom_upd_mem (by decide) ?_)
        exact dom_emp
    ·
      obtain rfl : i = Ls.length := by simp at hb0; omega
      simp only [List.take_length]
      refine AW.exit ?_
      refine thenA_exit ?_
      refine thenA_exit ?_
      refine inBlockA_hit ?_
      refine thenA_normal ?_
      refine AW.seqR ?_
      refine AWo.pure (PureOp.move rfl) rfl rfl ?_
      refine AWo.pure (PureOp.move rfl) rfl rfl ?_
      refine AWo.pure (PureOp.assign rfl) rfl rfl ?_
      refine AWo.pure (PureOp.assign rfl) rfl rfl ?_
      refine AWo.nil trivial ?_
      refine AW.ret ?_
      refine RetQ.gc [_, _] [77000, 77001] [.tmp 2, .tmp 3] (.inl rfl) rfl (.tmp rfl (.tmp rfl .nil)) rfl (.cons rfl rfl (.cons rfl rfl .nil)) (OutL.clo rfl (cloM fun _ => rfl) (by intro h; first | rfl | exact h.elim id fun h => absurd h.1 (by simp)) (OutL.flat rfl (flatM flat_vi) (by intro h; first | rfl | exact h.elim id fun h => absurd h.1 (by simp)) (OutL.clo rfl (cloM fun _ => rfl) (by intro h; first | rfl | exact h.elim id fun h => absurd h.1 (by simp)) trivial))) (by decide) rfl
end Go.Proofs.Yteeifahhejangaa
namespace Go.Proofs.Yteeifahhejangaa
open Go Sim
theorem co_up : ∀ (xs : List Fp) (i : Nat), Po.co (Po.pm xs [0, fp 1]) i = Po.co (0 :: xs) i
  | [], 0 => rfl
  | [], i + 1 => by rw [Po.pm, Po.co_nil, Po.co_succ, Po.co_nil]
  | a :: xs, 0 => by rw [Po.co_pm_zero, Po.co_zero, Po.co_zero, Rg.zero_mul, Rg.add_zero]
  | a :: xs, 1 => by
    rw [Po.co_pm_succ, co_up xs 0, Po.co_zero, Po.co_succ, Po.co_succ, Po.co_zero, Po.co_zero, Rg.add_zero]; exact Rg.one_mul a
  | a :: xs, i + 2 => by
    rw [Po.co_pm_succ, co_up xs (i + 1), Po.co_succ, Po.co_succ, Po.co_succ, Po.co_succ, Po.co_succ, Po.co_nil, Rg.zero_mul, Rg.zero_add]
theorem up_tr (xs : List Fp) : Po.tr (Po.pm xs [0, fp 1]) = if Po.dg xs = 0 then [] else 0 :: Po.tr xs := by
  rw [Po.tr_congr (co_up xs)]
  by_cases h : Po.dg xs = 0
  · rw [if_pos h]
    refine Po.tr_nil fun i => ?_
    cases i with
    | zero => rfl
    | succ i => rw [Po.co_succ]; exact Po.dg_zero h i
  · rw [if_neg h]
    obtain ⟨m, hm⟩ : ∃ m, Po.dg xs = m + 1 := ⟨Po.dg xs - 1, by omega⟩
    have hd : Po.dg (0 :: xs) = Po.dg xs + 1 := by
      refine Po.dg_eq (fun i hi => ?_) (fun k hk => ?_)
      · obtain ⟨j, rfl⟩ : ∃ j, i = j + 1 := ⟨i - 1, by omega⟩
        rw [Po.co_succ]; exact Po.co_ge xs j (by omega)
      · obtain rfl : k = m + 1 := by omega
        rw [Po.co_succ]; exact Po.co_top xs m hm
    rw [Po.tr, hd, List.take_succ_cons, Po.tr]
theorem ev_none {xs : List Fp} (h : Po.dg xs = 0) (x : Fp) : Po.ev x xs = 0 := Po.ev_zero x (Po.dg_zero h)
theorem ev_at0 (xs : List Fp) : Po.ev 0 xs = Po.co xs 0 := by
  cases xs with
  | nil => rfl
  | cons a p => rw [Po.ev, Rg.mul_zero, Rg.zero_add, Po.co_zero]
theorem ev_low (xs : List Fp) : Po.ev 0 xs = (Po.tr xs).getD 0 0 := by
  rw [ev_at0, ← Po.co_tr]; rfl
theorem ringD (x a : Fp) : x * fp 1 + a = a + x := by rw [Rg.add_comm]; congr 1; exact Rg.mul_one x
theorem ev_at1 : ∀ xs : List Fp, Po.ev (fp 1) xs = fsumL xs
  | [] => rfl
  | a :: p => by
    rw [Po.ev, ev_at1 p, ringD]
    have := fsumL_app [a] p
    rw [List.singleton_append] at this
    rw [this, show fsumL [a] = a from Rg.zero_add a]
theorem ends_ev (xs : List Fp) : Po.co xs 0 + fsumL xs = Po.ev 0 xs + Po.ev (fp 1) xs := by rw [ev_at0, ev_at1]
theorem scaled (c d : Fp) (xs : List Fp) : Po.tr (Po.ps d (Po.tr (Po.ps c xs))) = Po.tr (Po.ps (c * d) xs) := Po.tr_congr fun i => by
  rw [Po.co_ps, Po.co_tr, Po.co_ps, Po.co_ps, Rg.mul_assoc]
theorem pshifts_ctr {Ls : List (List Nat)} {a b : List Nat} (hB : ∀ b ∈ Ls, bd 256 b) (hL : Ls.length ≤ 9223372036854775807) (ha : bd 256 a) (hb : bd 256 b) : GC Try.prog 11 [.slice (some ⟨0, 0, none⟩) Ls.length 0, .slice (some ⟨1, 0, none⟩) a.length 0, .slice (some ⟨2, 0, none⟩) b.length 0] [⟨Ls.map (db), false, 1⟩, ⟨a.map (vi .u8), false, 1⟩, ⟨b.map (vi .u8), false, 1⟩] [.bool true] [⟨Ls.map (db), false, 1⟩, ⟨a.map (vi .u8), false, 1⟩, ⟨b.map (vi .u8), false, 1⟩] := by
  refine GC.intro Try.func11 rfl (by show 3 ≤ 147; decide) (by first | exact Nat.le_refl _ | decide | simp) ?_
  refine AW.seqR ?_
  refine AWo.pure (PureOp.assign rfl) rfl rfl ?_
  refine AWo.nil trivial ?_
  refine AW.seq ?_
  refine AW.seqR ?_
  refine AWo.callX (speaks22_ctr) bd23 [] [] rfl .nil rfl .nil .nil rfl .nil frN (by decide) (.cons rfl rfl .nil) rfl rfl rfl rfl ?_
  refine AWo.pure (PureOp.not rfl) rfl rfl ?_
  refine AWo.pure (PureOp.move rfl) rfl rfl ?_
  refine AWo.pure (PureOp.move rfl) rfl rfl ?_
  refine AWo.callX (few22_ctr (Ls := Ls) (most := 10) hL (by decide)) bd28 [(0, 0)] [] rfl (.cons rfl (.cons rfl .nil)) rfl (.cons rfl rfl (.cons rfl rfl .nil)) (.clo rfl (cloM fun _ => rfl) (by intro h; first | exact h | rfl) .nil) rfl (.keep rfl .nil) frN (by decide) (.cons rfl rfl .nil) rfl rfl rfl rfl ?_
  first | refine AWo.pureB (PureOp.not rfl) rfl rfl (fun hb0 => ?_) (fun hb0 => ?_)
  ·
    refine AWo.pure (PureOp.pickF rfl rfl) rfl rfl ?_
    refine AWo.pure (PureOp.move rfl) rfl rfl ?_
    refine AWo.skipped rfl rfl ?_
    refine AWo.skipped rfl rfl ?_
    refine AWo.skipped rfl rfl ?_
    refine AWo.pure (PureOp.pickT rfl rfl) rfl rfl ?_
    refine AWo.pure (PureOp.move rfl) rfl rfl ?_
    refine AWo.skipped rfl rfl ?_
    refine AWo.skipped rfl rfl ?_
    refine AWo.skipped rfl rfl ?_
    refine AWo.pure (PureOp.pickT rfl rfl) rfl rfl ?_
    refine AWo.nil trivial ?_
    refine AW.condT rfl ?_
    refine AW.seqR ?_
    refine AWo.callX (speaks22_ctr) bd23 [] [] rfl .nil rfl .nil .nil rfl .nil frN (by decide) (.cons rfl rfl .nil) rfl rfl rfl rfl ?_
    refine AWo.pure (PureOp.assign rfl) rfl rfl ?_
    refine AWo.nil trivial ?_
    refine AW.ret ?_
    refine thenA_ret ?_
    refine RetQ.gc [_] [] [.tmp 6] (.inl rfl) rfl (.tmp rfl .nil) rfl (.cons rfl rfl .nil) (OutL.clo rfl (cloM fun _ => rfl) (by intro h; exact h.elim id fun h => absurd h.1 (by simp)) (OutL.flat rfl (flatM flat_vi) (by intro h; exact h.elim id fun h => absurd h.1 (by simp)) (OutL.flat rfl (flatM flat_vi) (by intro h; exact h.elim id fun h => absurd h.1 (by simp)) trivial))) (by decide) rfl
  ·
    obtain ⟨hS, hLn⟩ := fewB_get (by simpa using hb0)
    refine AWo.pure (PureOp.pickF rfl rfl) rfl rfl ?_
    refine AWo.pure (PureOp.move rfl) rfl rfl ?_
    refine AWo.pure (PureOp.move rfl) rfl rfl ?_
    first | refine AWo.pure (PureOp.lenS tbok rfl rfl) rfl rfl ?_ | refine AWo.pure (PureOp.lenD tbok rfl rfl) rfl rfl ?_
    first | refine AWo.pureB (PureOp.gtN (b := 40) rfl rfl) rfl rfl (fun hb1 => ?_) (fun hb1 => ?_) | refine AWo.pureB (PureOp.bin rfl rfl rfl) rfl rfl (fun hb1 => ?_) (fun hb1 => ?_)
    ·
      refine AWo.pure (PureOp.pickF rfl rfl) rfl rfl ?_
      refine AWo.pure (PureOp.move rfl) rfl rfl ?_
      refine AWo.skipped rfl rfl ?_
      refine AWo.skipped rfl rfl ?_
      refine AWo.skipped rfl rfl ?_
      refine AWo.pure (PureOp.pickT rfl rfl) rfl rfl ?_
      refine AWo.nil trivial ?_
      refine AW.condT rfl ?_
      refine AW.seqR ?_
      refine AWo.callX (speaks22_ctr) bd23 [] [] rfl .nil rfl .nil .nil rfl .nil frN (by decide) (.cons rfl rfl .nil) rfl rfl rfl rfl ?_
      refine AWo.pure (PureOp.assign rfl) rfl rfl ?_
      refine AWo.nil trivial ?_
      refine AW.ret ?_
      refine thenA_ret ?_
      refine RetQ.gc [_] [] [.tmp 6] (.inl rfl) rfl (.tmp rfl .nil) rfl (.cons rfl rfl .nil) (OutL.clo rfl (cloM fun _ => rfl) (by intro h; exact h.elim id fun h => absurd h.1 (by simp)) (OutL.flat rfl (flatM flat_vi) (by intro h; exact h.elim id fun h => absurd h.1 (by simp)) (OutL.flat rfl (flatM flat_vi) (by intro h; exact h.elim id fun h => absurd h.1 (by simp)) trivial))) (by decide) rfl
    ·
      have hal : a.length ≤ 40 := by simpa using hb1
      refine AWo.pure (PureOp.pickF rfl rfl) rfl rfl ?_
      refine AWo.pure (PureOp.move rfl) rfl rfl ?_
      refine AWo.pure (PureOp.move rfl) rfl rfl ?_
      first | refine AWo.pure (PureOp.lenS tbok rfl rfl) rfl rfl ?_ | refine AWo.pure (PureOp.lenD tbok rfl rfl) rfl rfl ?_
      first | refine AWo.pureB (PureOp.gtN (b := 40) rfl rfl) rfl rfl (fun hb2 => ?_) (fun hb2 => ?_) | refine AWo.pureB (PureOp.bin rfl rfl rfl) rfl rfl (fun hb2 => ?_) (fun hb2 => ?_)
      ·
        refine AWo.pure (PureOp.pickF rfl rfl) rfl rfl ?_
        refine AWo.nil trivial ?_
        refine AW.condT rfl ?_
        refine AW.seqR ?_
        refine AWo.callX (speaks22_ctr) bd23 [] [] rfl .nil rfl .nil .nil rfl .nil frN (by decide) (.cons rfl rfl .nil) rfl rfl rfl rfl ?_
        refine AWo.pure (PureOp.assign rfl) rfl rfl ?_
        refine AWo.nil trivial ?_
        refine AW.ret ?_
        refine thenA_ret ?_
        refine RetQ.gc [_] [] [.tmp 6] (.inl rfl) rfl (.tmp rfl .nil) rfl (.cons rfl rfl .nil) (OutL.clo rfl (cloM fun _ => rfl) (by intro h; exact h.elim id fun h => absurd h.1 (by simp)) (OutL.flat rfl (flatM flat_vi) (by intro h; exact h.elim id fun h => absurd h.1 (by simp)) (OutL.flat rfl (flatM flat_vi) (by intro h; exact h.elim id fun h => absurd h.1 (by simp)) trivial))) (by decide) rfl
      ·
        have hbl : b.length ≤ 40 := by simpa using hb2
        refine AWo.pure (PureOp.pickF rfl rfl) rfl rfl ?_
        refine AWo.nil trivial ?_
        refine AW.condF rfl ?_
        refine AW.skip ?_
        refine thenA_normal ?_
        refine AW.seqR ?_
        refine AWo.pure (PureOp.move rfl) rfl rfl ?_
        refine AWo.callX (of22_ctr (Ls := Ls) hB hS (by omega)) bd29 [(0, 0)] [39000, 39001] rfl (.cons rfl .nil) rfl (.cons rfl rfl .nil) (.clo rfl (cloM fun _ => rfl) (by intro h; first | exact h | rfl) .nil) rfl (.keep rfl (.new (flat_map_ren (flatM flat_vi)) (OkL.flat (flatM flat_vi)) (.new (clo_map_ren (cloM fun _ => rfl)) (OkL.clo (cloM fun _ => rfl)) .nil))) (frC rfl (frC rfl frN)) (by decide) (.cons rfl rfl (.cons rfl rfl .nil)) rfl rfl rfl rfl ?_
        refine AWo.pure (PureOp.move rfl) rfl rfl ?_
        refine AWo.pure (PureOp.extract rfl rfl) rfl rfl ?_
        refine AWo.pure (PureOp.extract rfl rfl) rfl rfl ?_
        refine AWo.pure (PureOp.assign rfl) rfl rfl ?_
        refine AWo.pure (PureOp.assign rfl) rfl rfl ?_
        refine AWo.nil trivial ?_
        have hxl : (Ls.map nb).length = Ls.length := List.length_map ..
        generalize Ls.map nb = xs at hxl ⊢
        refine AW.seqR ?_
        refine AWo.pure ((PureOp.buildStruct [] pl33.choose_spec.1 zr33 (by decide) pl33.choose_spec.2 rfl rfl).mono (v' := .agg ((fe 0).map (vi .u64)).toArray) (by rw [fe_zero]; rfl)) rfl rfl ?_
        refine AWo.callX (fromuF_ctr (v := 1) (by decide)) bd37 [] [] rfl (.cons rfl .nil) rfl (.cons rfl rfl .nil) .nil rfl .nil frN (by decide) (.pure (by first | rfl | exact pure_aggM flat_vi | exact pure_aggM flat_bool) .nil) rfl rfl rfl rfl ?_
        refine AWo.buildSlice tbok 44000 [(0, .agg ((fe 0).map (vi .u64)).toArray), (1, .agg ((fe (fp 1)).map (vi .u64)).toArray)] (out := FF [0, fp 1]) rfl rfl (by decide) rfl rfl rfl (by decide) rfl fillB2 rfl rfl rfl ?_
        refine AWo.pure (PureOp.assign rfl) rfl rfl ?_
        refine AWo.nil trivial ?_
        refine AW.seqR ?_
        refine AWo.pure (PureOp.move rfl) rfl rfl ?_
        refine AWo.pure (PureOp.move rfl) rfl rfl ?_
        refine AWo.callX (mulp_ctr (xs := xs) (ys := [0, fp 1]) (n := Ls.length) (k := 2) hxl rfl (by omega) (by decide)) bd34 [(39000, 0), (44000, 0)] [47000] rfl (.cons rfl (.cons rfl .nil)) rfl (.cons rfl rfl (.cons rfl rfl .nil)) (.flat rfl (flatM flat_vi) (by intro h; first | exact h | rfl) (.flat rfl (flatM flat_vi) (by intro h; first | exact h | rfl) .nil)) rfl (.keep rfl (.keep rfl (.new (flat_map_ren (flatM flat_vi)) (OkL.flat (flatM flat_vi)) .nil))) (frC rfl frN) (by decide) (.cons rfl rfl .nil) rfl rfl rfl rfl ?_
        refine AWo.pure (PureOp.move rfl) rfl rfl ?_
        refine AWo.callX (trimp_ctr (xs := xs) (n := Ls.length) hxl (by omega)) bd39 [(39000, 0)] [49000] rfl (.cons rfl .nil) rfl (.cons rfl rfl .nil) (.flat rfl (flatM flat_vi) (by intro h; first | exact h | rfl) .nil) rfl (.keep rfl (.new (flat_map_ren (flatM flat_vi)) (OkL.flat (flatM flat_vi)) .nil)) (frC rfl frN) (by decide) (.cons rfl rfl .nil) rfl rfl rfl rfl ?_
        refine AWo.pure (PureOp.assign rfl) rfl rfl ?_
        refine AWo.pure (PureOp.assign rfl) rfl rfl ?_
        refine AWo.nil trivial ?_
        refine AW.seq ?_
        refine AW.seqR ?_
        refine AWo.pure (PureOp.move rfl) rfl rfl ?_
        first | refine AWo.pure (PureOp.lenS tbok rfl rfl) rfl rfl ?_ | refine AWo.pure (PureOp.lenD tbok rfl rfl) rfl rfl ?_
        first | refine AWo.pure (PureOp.eqN (b := 0) rfl rfl) rfl rfl ?_ | refine AWo.pure (PureOp.bin rfl rfl rfl) rfl rfl ?_
        refine AWo.nil trivial ?_
        refine AW.cond rfl (fun hb3 => ?_) (fun hb3 => ?_)
        ·
          have h0 : Po.dg xs = 0 := by rw [← Po.tr_len]; simpa using hb3
          have hu : Po.tr (Po.pm xs [0, fp 1]) = [] := by rw [up_tr, if_pos h0]
          refine AW.seqR ?_
          refine AWo.pure (PureOp.move rfl) rfl rfl ?_
          first | refine AWo.pure (PureOp.lenS tbok rfl rfl) rfl rfl ?_ | refine AWo.pure (PureOp.lenD tbok rfl rfl) rfl rfl ?_
          first | refine AWo.pure ((PureOp.eqN (b := 0) rfl rfl).mono (v' := .bool true) (congrArg Value.bool (by rw [hu]; rfl))) rfl rfl ?_ | refine AWo.pure ((PureOp.bin rfl rfl rfl).mono (v' := .bool true) (congrArg Value.bool (by rw [hu]; rfl))) rfl rfl ?_
          refine AWo.pure (PureOp.move rfl) rfl rfl ?_
          refine AWo.pure (PureOp.move rfl) rfl rfl ?_
          refine AWo.pure (PureOp.move rfl) rfl rfl ?_
          refine AWo.callX (fromwideF_ctr (b := a) ha (by omega)) bd30 [(1, 0)] [] rfl (.cons rfl .nil) rfl (.cons rfl rfl .nil) (.flat rfl (by first | exact flatM flat_vi | exact flatM flat_bool | (simp [flatV, flat_vi]; done)) (by intro h; first | exact h | rfl) .nil) rfl (.keep rfl .nil) frN (by decide) (.pure (by first | rfl | exact pure_aggM flat_vi | exact pure_aggM flat_bool) .nil) rfl rfl rfl rfl ?_
          refine AWo.callX (evalp_ctr (xs := xs) (n := Ls.length) (x := (fp (num 256 a))) hxl (by omega)) bd32 [(39000, 0)] [] rfl (.cons rfl (.cons rfl .nil)) rfl (.cons rfl rfl (.pure (by first | rfl | exact pure_aggM flat_vi | exact pure_aggM flat_bool) .nil)) (.flat rfl (flatM flat_vi) (by intro h; first | exact h | rfl) .nil) rfl (.keep rfl .nil) frN (by decide) (.pure (by first | rfl | exact pure_aggM flat_vi | exact pure_aggM flat_bool) .nil) rfl rfl rfl rfl ?_
          refine AWo.callX (v := .bool true) (iszeroF_ctr (x := Po.ev (fp (num 256 a)) xs)) bd46 [] [] rfl (.cons rfl .nil) rfl (.pure (by first | rfl | exact pure_aggM flat_vi | exact pure_aggM flat_bool) .nil) .nil rfl .nil frN (by decide) (.cons rfl rfl .nil) (congrArg Value.bool (decide_eq_true (ev_none h0 _))) rfl rfl rfl ?_
          refine AWo.pure (PureOp.pickT rfl rfl) rfl rfl ?_
          refine AWo.pure (PureOp.assign rfl) rfl rfl ?_
          refine AWo.nil trivial ?_
          refine AW.ret ?_
          refine thenA_ret ?_
          refine RetQ.gc [_] [] [.tmp 6] (.inl rfl) rfl (.tmp rfl .nil) rfl (.cons rfl rfl .nil) (OutL.clo rfl (cloM fun _ => rfl) (by intro h; exact h.elim id fun h => absurd h.1 (by simp)) (OutL.flat rfl (flatM flat_vi) (by intro h; exact h.elim id fun h => absurd h.1 (by simp)) (OutL.flat rfl (flatM flat_vi) (by intro h; exact h.elim id fun h => absurd h.1 (by simp)) trivial))) (by decide) rfl
        ·
          have h0 : ¬ Po.dg xs = 0 := by rw [← Po.tr_len]; simpa using hb3
          have hpos : 0 < (Po.tr xs).length := by rw [Po.tr_len]; omega
          have hle : (Po.tr xs).length ≤ 10 := by have := Po.dg_le xs; rw [Po.tr_len]; omega
          have hu : Po.tr (Po.pm xs [0, fp 1]) = 0 :: Po.tr xs := by rw [up_tr, if_neg h0]
          rw [hu]
          refine AW.skip ?_
          refine thenA_normal ?_
          refine AW.seq ?_
          refine AW.seqD mixed ?_
          refine AWo.pure (PureOp.move rfl) rfl rfl ?_
          first | refine AWo.pure (PureOp.lenS tbok rfl rfl) rfl rfl ?_ | refine AWo.pure (PureOp.lenD tbok rfl rfl) rfl rfl ?_
          refine AWo.pure (PureOp.move rfl) rfl rfl ?_
          first | refine AWo.pure (PureOp.lenS tbok rfl rfl) rfl rfl ?_ | refine AWo.pure (PureOp.lenD tbok rfl rfl) rfl rfl ?_
          first | refine AWo.pure (PureOp.addI (b := 1) rfl rfl (by first | decide | omega)) rfl rfl ?_ | refine AWo.pure (PureOp.bin rfl rfl rfl) rfl rfl ?_
          first | refine AWo.pure ((PureOp.neN rfl rfl).mono (v' := .bool false) (congrArg Value.bool (by simp))) rfl rfl ?_ | refine AWo.pure ((PureOp.bin rfl rfl rfl).mono (v' := .bool false) (congrArg Value.bool (by simp))) rfl rfl ?_
          refine AWo.pure (PureOp.move rfl) rfl rfl ?_
          refine AWo.pure (PureOp.move rfl) rfl rfl ?_
          refine yP (pI (j := 0) (n := (0 :: Po.tr xs).length) (hi := by simp)) ?_
          refine yLJ (xs := (0 :: Po.tr xs)) 0 ?_ (hj := by simp) (ho := by exact rfl)
          refine AWo.callX (v := .bool true) (iszeroF_ctr (x := (0 :: Po.tr xs).getD 0 0)) bd46 [] [] rfl (.cons rfl .nil) rfl (.pure (by first | rfl | exact pure_aggM flat_vi | exact pure_aggM flat_bool) .nil) .nil rfl .nil frN (by decide) (.cons rfl rfl .nil) (congrArg Value.bool (decide_eq_true rfl)) rfl rfl rfl ?_
          refine AWo.pure (PureOp.not rfl) rfl rfl ?_
          refine AWo.pure (PureOp.pickF rfl rfl) rfl rfl ?_
          refine AWo.pure (PureOp.move rfl) rfl rfl ?_
          refine AWo.pure (PureOp.move rfl) rfl rfl ?_
          refine AWo.pure ((PureOp.buildStruct [] pl33.choose_spec.1 zr33 (by decide) pl33.choose_spec.2 rfl rfl).mono (v' := .agg ((fe 0).map (vi .u64)).toArray) (by rw [fe_zero]; rfl)) rfl rfl ?_
          refine AWo.callX (evalp_ctr (xs := xs) (n := Ls.length) (x := 0) hxl (by omega)) bd32 [(39000, 0)] [] rfl (.cons rfl (.cons rfl .nil)) rfl (.cons rfl rfl (.pure (by first | rfl | exact pure_aggM flat_vi | exact pure_aggM flat_bool) .nil)) (.flat rfl (flatM flat_vi) (by intro h; first | exact h | rfl) .nil) rfl (.keep rfl .nil) frN (by decide) (.pure (by first | rfl | exact pure_aggM flat_vi | exact pure_aggM flat_bool) .nil) rfl rfl rfl rfl ?_
          refine AWo.pure (PureOp.move rfl) rfl rfl ?_
          first | refine AWo.pure (PureOp.idx1 (j := 0) tbok rfl rfl rfl rfl (by first | decide | omega)) rfl rfl ?_ | refine AWo.pure (PureOp.idx (j := 0) tbok rfl rfl rfl rfl (by first | decide | omega)) rfl rfl ?_
          refine yLJ (xs := Po.tr xs) 0 ?_ (hj := by omega) (ho := by exact rfl)
          refine AWo.callX (v := .bool true) (equalF_ctr (x := Po.ev 0 xs) (y := (Po.tr xs).getD 0 0)) bd19 [] [] rfl (.cons rfl (.cons rfl .nil)) rfl (.pure (by first | rfl | exact pure_aggM flat_vi | exact pure_aggM flat_bool) (.pure (by first | rfl | exact pure_aggM flat_vi | exact pure_aggM flat_bool) .nil)) .nil rfl .nil frN (by decide) (.cons rfl rfl .nil) (congrArg Value.bool (decide_eq_true (ev_low xs))) rfl rfl rfl ?_
          refine AWo.pure (PureOp.not rfl) rfl rfl ?_
          refine AWo.pure (PureOp.pickF rfl rfl) rfl rfl ?_
          refine AWo.nil (by kernel_rfl) ?_
          refine AW.condF rfl ?_
          refine AW.skip ?_
          refine thenA_normal ?_
          refine AW.seq ?_
          refine AW.seqR ?_
          refine AWo.pure (PureOp.move rfl) rfl rfl ?_
          first | refine AWo.pure (PureOp.lenS tbok rfl rfl) rfl rfl ?_ | refine AWo.pure (PureOp.lenD tbok rfl rfl) rfl rfl ?_
          refine AWo.pure (PureOp.move rfl) rfl rfl ?_
          refine AWo.nil trivial ?_
          refine AW.block ?_
          refine AW.loopw (fun mm σ => ∃ i, (i ≤ (Po.tr xs).length) ∧ mm = (Po.tr xs).length - i ∧ σ = ⟨(upd (upd (upd (upd (upd (upd (upd emp 1 (.slice (some ⟨1, 0, none⟩) a.length 0)) 2 (.slice (some ⟨2, 0, none⟩) b.length 0)) 7 (.slice (some ⟨39000, 0, none⟩) Ls.length 0)) 10 (.slice (some ⟨47000, 0, none⟩) ((Po.tr xs).length + 1) 0)) 11 (.slice (some ⟨49000, 0, none⟩) (Po.tr xs).length 0)) 86 (vi .i64 (Po.tr xs).length)) 87 (vi .i64 i)), (upd (upd (upd (upd (upd (upd emp 0 ⟨Ls.map db, false, 1⟩) 1 ⟨a.map (vi .u8), false, 1⟩) 2 ⟨b.map (vi .u8), false, 1⟩) 39000 ⟨((xs.map fe).flatten).map (vi .u64), true, 4⟩) 47000 ⟨(((0 :: Po.tr xs).map fe).flatten).map (vi .u64), true, 4⟩) 49000 ⟨(((Po.tr xs).map fe).flatten).map (vi .u64), true, 4⟩)⟩) (fm := []) ?_ ⟨0, Nat.zero_le _, rfl, rfl⟩ ?_
          ·
            refine Wk.of [0, 1, 2, 39000, 47000, 49000] ?_ ?_ ?_ (by decide) rfl
            ·
              refine WkE.upd rfl (by first | exact VR.flat _ rfl | exact VR.eqv (vp_succ _) rfl | exact VR.eqv (vp_succ _).symm rfl | exact VR.eqv (by first | rfl | (congr 1; omega) | (simp; done) | (simp; omega)) rfl) ?_
              refine WkE.upd rfl (by first | exact VR.flat _ rfl | exact VR.eqv (vp_succ _) rfl | exact VR.eqv (vp_succ _).symm rfl | exact VR.eqv (by first | rfl | (congr 1; omega) | (simp; done) | (simp; omega)) rfl) ?_
              refine WkE.upd rfl (.slice (49000) 0 _ 0 ⟨_, rfl⟩ (by simp) (by simp)) ?_
              refine WkE.upd rfl (.slice (47000) 0 _ 0 ⟨_, rfl⟩ (by simp) (by simp)) ?_
              refine WkE.upd rfl (.slice (39000) 0 _ 0 ⟨_, rfl⟩ (by simp) (by simp)) ?_
              refine WkE.upd rfl (.slice (2) 0 _ 0 ⟨_, rfl⟩ (by simp) (by simp)) ?_
              refine WkE.upd rfl (.slice (1) 0 _ 0 ⟨_, rfl⟩ (by simp) (by simp)) ?_
              exact WkE.emp
            ·
              refine WkM.flat rfl (flatM flat_vi) (fun h => h) ?_
              refine WkM.flat rfl (flatM flat_vi) (fun h => h) ?_
              refine WkM.flat rfl (flatM flat_vi) (fun h => h) ?_
              refine WkM.flat rfl (flatM flat_vi) (fun h => h) ?_
              refine WkM.flat rfl (flatM flat_vi) (fun h => h) ?_
              refine WkM.cloM rfl rfl (fun _ => rfl) (fun h => h) ?_
              exact WkM.emp
            ·
              repeat (refine dom_upd_mem (by decide) ?_)
              exact dom_emp
          ·
            rintro mm σ ⟨i, hinv, rfl, rfl⟩
            refine AW.seqR ?_
            first | refine AWo.pure (PureOp.ltN rfl rfl) rfl rfl ?_ | refine AWo.pure (PureOp.bin rfl rfl rfl) rfl rfl ?_
            refine AWo.nil trivial ?_
            refine AW.seq ?_
            refine AW.cond rfl (fun hb4 => ?_) (fun hb4 => ?_)
            ·
              have hi : i < (Po.tr xs).length := by simpa using hb4
              refine AW.skip ?_
              refine thenA_normal ?_
              refine AW.seq ?_
              refine AW.block ?_
              refine AW.seqR ?_
              refine AWo.pure (PureOp.move rfl) rfl rfl ?_
              refine AWo.pure (PureOp.assign rfl) rfl rfl ?_
              refine AWo.nil trivial ?_
              refine AW.seqD mixed ?_
              refine AWo.pure (PureOp.move rfl) rfl rfl ?_
              refine AWo.pure (PureOp.move rfl) rfl rfl ?_
              first | refine AWo.pure (PureOp.addI (b := 1) rfl rfl (by first | decide | omega)) rfl rfl ?_ | refine AWo.pure (PureOp.bin rfl rfl rfl) rfl rfl ?_
              first | refine AWo.pure (PureOp.idx1 tbok rfl rfl rfl rfl (by first | decide | omega)) rfl rfl ?_ | refine AWo.pure (PureOp.idx tbok rfl rfl rfl rfl (by first | decide | omega)) rfl rfl ?_
              refine yLJ (xs := (0 :: Po.tr xs)) (i + 1) ?_ (hj := by simp; omega)
              refine AWo.pure (PureOp.move rfl) rfl rfl ?_
              refine AWo.pure (PureOp.move rfl) rfl rfl ?_
              first | refine AWo.pure (PureOp.idx1 tbok rfl rfl rfl rfl (by first | decide | omega)) rfl rfl ?_ | refine AWo.pure (PureOp.idx tbok rfl rfl rfl rfl (by first | decide | omega)) rfl rfl ?_
              refine yLJ (xs := Po.tr xs) i ?_
              refine AWo.callX (v := .bool true) (equalF_ctr (x := (0 :: Po.tr xs).getD (i + 1) 0) (y := (Po.tr xs).getD i 0)) bd19 [] [] rfl (.cons rfl (.cons rfl .nil)) rfl (.pure (by first | rfl | exact pure_aggM flat_vi | exact pure_aggM flat_bool) (.pure (by first | rfl | exact pure_aggM flat_vi | exact pure_aggM flat_bool) .nil)) .nil rfl .nil frN (by decide) (.cons rfl rfl .nil) (congrArg Value.bool (decide_eq_true (rfl))) rfl rfl rfl ?_
              refine AWo.pure (PureOp.not rfl) rfl rfl ?_
              refine AWo.nil (by kernel_rfl) ?_
              refine AW.condF rfl ?_
              refine AW.skip ?_
              refine inBlockA_normal ?_
              refine thenA_normal ?_
              refine AW.region ?_
              first | refine AWo.pure (PureOp.addI (b := 1) rfl rfl (by first | decide | omega)) rfl rfl ?_ | refine AWo.pure (PureOp.bin rfl rfl rfl) rfl rfl ?_
              refine AWo.pure (PureOp.move rfl) rfl rfl ?_
              refine AWo.nil trivial ?_
              refine thenA_normal ?_
              refine ⟨(Po.tr xs).length - (i + 1), [], _, by omega, ?_, i + 1, by omega, rfl, rfl⟩
              refine Wk.of [0, 1, 2, 39000, 47000, 49000] ?_ ?_ ?_ (by decide) rfl
              ·
                refine WkE.upd rfl (by first | exact VR.flat _ rfl | exact VR.eqv (vp_succ _) rfl | exact VR.eqv (vp_succ _).symm rfl | exact VR.eqv (by first | rfl | (congr 1; omega) | (simp; done) | (simp; omega)) rfl) ?_
                refine WkE.upd rfl (by first | exact VR.flat _ rfl | exact VR.eqv (vp_succ _) rfl | exact VR.eqv (vp_succ _).symm rfl | exact VR.eqv (by first | rfl | (congr 1; omega) | (simp; done) | (simp; omega)) rfl) ?_
                refine WkE.upd rfl (.slice (49000) 0 _ 0 ⟨_, rfl⟩ (by simp) (by simp)) ?_
                refine WkE.upd rfl (.slice (47000) 0 _ 0 ⟨_, rfl⟩ (by simp) (by simp)) ?_
                refine WkE.upd rfl (.slice (39000) 0 _ 0 ⟨_, rfl⟩ (by simp) (by simp)) ?_
                refine WkE.upd rfl (.slice (2) 0 _ 0 ⟨_, rfl⟩ (by simp) (by simp)) ?_
                refine WkE.upd rfl (.slice (1) 0 _ 0 ⟨_, rfl⟩ (by simp) (by simp)) ?_
                exact WkE.emp
              ·
                refine WkM.flat rfl (flatM flat_vi) (fun h => h) ?_
                refine WkM.flat rfl (flatM flat_vi) (fun h => h) ?_
                refine WkM.flat rfl (flatM flat_vi) (fun h => h) ?_
                refine WkM.flat rfl (flatM flat_vi) (fun h => h) ?_
                refine WkM.flat rfl (flatM flat_vi) (fun h => h) ?_
                refine WkM.cloM rfl rfl (fun _ => rfl) (fun h => h) ?_
                exact WkM.emp
              ·
                repeat (refine dom_upd_mem (by decide) ?_)
                exact dom_emp
            ·
              obtain rfl : i = (Po.tr xs).length := by simp at hb4; omega
              refine AW.exit ?_
              refine thenA_exit ?_
              refine thenA_exit ?_
              refine inBlockA_hit ?_
              refine thenA_normal ?_
              refine AW.seqR ?_
              refine AWo.pure (PureOp.move rfl) rfl rfl ?_
              refine AWo.callX (fromwideF_ctr (b := a) ha (by omega)) bd30 [(1, 0)] [] rfl (.cons rfl .nil) rfl (.cons rfl rfl .nil) (.flat rfl (by first | exact flatM flat_vi | exact flatM flat_bool | (simp [flatV, flat_vi]; done)) (by intro h; first | exact h | rfl) .nil) rfl (.keep rfl .nil) frN (by decide) (.pure (by first | rfl | exact pure_aggM flat_vi | exact pure_aggM flat_bool) .nil) rfl rfl rfl rfl ?_
              refine AWo.pure (PureOp.move rfl) rfl rfl ?_
              refine AWo.callX (fromwideF_ctr (b := b) hb (by omega)) bd30 [(2, 0)] [] rfl (.cons rfl .nil) rfl (.cons rfl rfl .nil) (.flat rfl (by first | exact flatM flat_vi | exact flatM flat_bool | (simp [flatV, flat_vi]; done)) (by intro h; first | exact h | rfl) .nil) rfl (.keep rfl .nil) frN (by decide) (.pure (by first | rfl | exact pure_aggM flat_vi | exact pure_aggM flat_bool) .nil) rfl rfl rfl rfl ?_
              refine AWo.alloc tbok 14000 1 _ rfl rfl rfl rfl rfl rfl ?_
              refine AWo.alloc tbok 15000 1 _ rfl rfl rfl rfl rfl rfl ?_
              refine AWo.storeAllN tbok rfl rfl rfl rfl (by first | (simp [*]; done) | rfl) (by first | (simp [*]; done) | rfl) (by first | exact oneM (fun _ => rfl) _ | rfl | (simp; done)) rfl ?_
              refine AWo.storeAllN tbok rfl rfl rfl rfl (by first | (simp [*]; done) | rfl) (by first | (simp [*]; done) | rfl) (by first | exact oneM (fun _ => rfl) _ | rfl | (simp; done)) rfl ?_
              refine AWo.nil trivial ?_
              refine AW.seqD mixed ?_
              refine AWo.pure (PureOp.move rfl) rfl rfl ?_
              first | refine yLE ?_ | refine yLEi ?_
              refine AWo.callX (scalep_ctr (xs := xs) (n := Ls.length) (c := (fp (num 256 a))) hxl (by omega)) bd55 [(39000, 0)] [109000] rfl (.cons rfl (.cons rfl .nil)) rfl (.cons rfl rfl (.pure (by first | rfl | exact pure_aggM flat_vi | exact pure_aggM flat_bool) .nil)) (.flat rfl (flatM flat_vi) (by intro h; first | exact h | rfl) .nil) rfl (.keep rfl (.new (flat_map_ren (flatM flat_vi)) (OkL.flat (flatM flat_vi)) .nil)) (frC rfl frN) (by decide) (.cons rfl rfl .nil) rfl rfl rfl rfl ?_
              first | refine yLE ?_ | refine yLEi ?_
              refine AWo.callX (scalep_ctr (xs := Po.tr (Po.ps (fp (num 256 a)) xs)) (c := (fp (num 256 b))) rfl (by rw [Po.tr_len]; have := Po.dg_le (Po.ps (fp (num 256 a)) xs); rw [Po.ps, List.length_map] at this; rw [Po.ps]; omega)) bd55 [(109000, 0)] [111000] rfl (.cons rfl (.cons rfl .nil)) rfl (.cons rfl rfl (.pure (by first | rfl | exact pure_aggM flat_vi | exact pure_aggM flat_bool) .nil)) (.flat rfl (flatM flat_vi) (by intro h; first | exact h | rfl) .nil) rfl (.keep rfl (.new (flat_map_ren (flatM flat_vi)) (OkL.flat (flatM flat_vi)) .nil)) (frC rfl frN) (by decide) (.cons rfl rfl .nil) rfl rfl rfl rfl ?_
              refine AWo.pure (PureOp.move rfl) rfl rfl ?_
              first | refine yLE ?_ | refine yLEi ?_
              first | refine yLE ?_ | refine yLEi ?_
              refine AWo.callX (mulF_ctr (x := (fp (num 256 a))) (y := (fp (num 256 b)))) bd35 [] [] rfl (.cons rfl (.cons rfl .nil)) rfl (.pure (by first | rfl | exact pure_aggM flat_vi | exact pure_aggM flat_bool) (.pure (by first | rfl | exact pure_aggM flat_vi | exact pure_aggM flat_bool) .nil)) .nil rfl .nil frN (by decide) (.pure (by first | rfl | exact pure_aggM flat_vi | exact pure_aggM flat_bool) .nil) rfl rfl rfl rfl ?_
              refine AWo.callX (scalep_ctr (xs := xs) (n := Ls.length) (c := (fp (num 256 a)) * (fp (num 256 b))) hxl (by omega)) bd55 [(39000, 0)] [116000] rfl (.cons rfl (.cons rfl .nil)) rfl (.cons rfl rfl (.pure (by first | rfl | exact pure_aggM flat_vi | exact pure_aggM flat_bool) .nil)) (.flat rfl (flatM flat_vi) (by intro h; first | exact h | rfl) .nil) rfl (.keep rfl (.new (flat_map_ren (flatM flat_vi)) (OkL.flat (flatM flat_vi)) .nil)) (frC rfl frN) (by decide) (.cons rfl rfl .nil) rfl rfl rfl rfl ?_
              refine AWo.pure (PureOp.assign rfl) rfl rfl ?_
              refine AWo.pure (PureOp.assign rfl) rfl rfl ?_
              refine AWo.nil (by kernel_rfl) ?_
              refine AW.seq ?_
              rw [scaled (fp (num 256 a)) (fp (num 256 b)) xs]
              refine AW.seqR ?_
              refine AWo.pure (PureOp.move rfl) rfl rfl ?_
              first | refine AWo.pure (PureOp.lenS tbok rfl rfl) rfl rfl ?_ | refine AWo.pure (PureOp.lenD tbok rfl rfl) rfl rfl ?_
              refine AWo.pure (PureOp.move rfl) rfl rfl ?_
              first | refine AWo.pure (PureOp.lenS tbok rfl rfl) rfl rfl ?_ | refine AWo.pure (PureOp.lenD tbok rfl rfl) rfl rfl ?_
              first | refine AWo.pure ((PureOp.neN rfl rfl).mono (v' := .bool false) (congrArg Value.bool (by simp))) rfl rfl ?_ | refine AWo.pure ((PureOp.bin rfl rfl rfl).mono (v' := .bool false) (congrArg Value.bool (by simp))) rfl rfl ?_
              refine AWo.nil trivial ?_
              refine AW.condF rfl ?_
              refine AW.skip ?_
              refine thenA_normal ?_
              refine AW.seq ?_
              refine AW.seqR ?_
              refine AWo.pure (PureOp.move rfl) rfl rfl ?_
              first | refine AWo.pure (PureOp.lenS tbok rfl rfl) rfl rfl ?_ | refine AWo.pure (PureOp.lenD tbok rfl rfl) rfl rfl ?_
              refine AWo.pure (PureOp.move rfl) rfl rfl ?_
              refine AWo.nil trivial ?_
              refine AW.block ?_
              refine AW.loopw (fun mm σ => ∃ i, (i ≤ (Po.tr (Po.ps ((fp (num 256 a)) * (fp (num 256 b))) xs)).length) ∧ mm = (Po.tr (Po.ps ((fp (num 256 a)) * (fp (num 256 b))) xs)).length - i ∧ σ = ⟨(upd (upd (upd (upd (upd emp 7 (.slice (some ⟨39000, 0, none⟩) Ls.length 0)) 15 (.slice (some ⟨111000, 0, none⟩) (Po.tr (Po.ps ((fp (num 256 a)) * (fp (num 256 b))) xs)).length 0)) 16 (.slice (some ⟨116000, 0, none⟩) (Po.tr (Po.ps ((fp (num 256 a)) * (fp (num 256 b))) xs)).length 0)) 122 (vi .i64 (Po.tr (Po.ps ((fp (num 256 a)) * (fp (num 256 b))) xs)).length)) 123 (vi .i64 i)), (upd (upd (upd (upd (upd (upd emp 0 ⟨Ls.map db, false, 1⟩) 1 ⟨a.map (vi .u8), false, 1⟩) 2 ⟨b.map (vi .u8), false, 1⟩) 39000 ⟨((xs.map fe).flatten).map (vi .u64), true, 4⟩) 111000 ⟨(((Po.tr (Po.ps ((fp (num 256 a)) * (fp (num 256 b))) xs)).map fe).flatten).map (vi .u64), true, 4⟩) 116000 ⟨(((Po.tr (Po.ps ((fp (num 256 a)) * (fp (num 256 b))) xs)).map fe).flatten).map (vi .u64), true, 4⟩)⟩) (fm := []) ?_ ⟨0, Nat.zero_le _, rfl, rfl⟩ ?_
              ·
                refine Wk.of [0, 1, 2, 39000, 111000, 116000] ?_ ?_ ?_ (by decide) rfl
                ·
                  refine WkE.upd rfl (by first | exact VR.flat _ rfl | exact VR.eqv (vp_succ _) rfl | exact VR.eqv (vp_succ _).symm rfl | exact VR.eqv (by first | rfl | (congr 1; omega) | (simp; done) | (simp; omega)) rfl) ?_
                  refine WkE.upd rfl (by first | exact VR.flat _ rfl | exact VR.eqv (vp_succ _) rfl | exact VR.eqv (vp_succ _).symm rfl | exact VR.eqv (by first | rfl | (congr 1; omega) | (simp; done) | (simp; omega)) rfl) ?_
                  refine WkE.upd rfl (.slice (116000) 0 _ 0 ⟨_, rfl⟩ (by simp) (by simp)) ?_
                  refine WkE.upd rfl (.slice (111000) 0 _ 0 ⟨_, rfl⟩ (by simp) (by simp)) ?_
                  refine WkE.upd rfl (.slice (39000) 0 _ 0 ⟨_, rfl⟩ (by simp) (by simp)) ?_
                  exact WkE.emp
                ·
                  refine WkM.flat rfl (flatM flat_vi) (fun h => h) ?_
                  refine WkM.flat rfl (flatM flat_vi) (fun h => h) ?_
                  refine WkM.flat rfl (flatM flat_vi) (fun h => h) ?_
                  refine WkM.flat rfl (flatM flat_vi) (fun h => h) ?_
                  refine WkM.flat rfl (flatM flat_vi) (fun h => h) ?_
                  refine WkM.cloM rfl rfl (fun _ => rfl) (fun h => h) ?_
                  exact WkM.emp
                ·
                  repeat (refine dom_upd_mem (by decide) ?_)
                  exact dom_emp
              ·
                rintro mm σ ⟨i, hinv, rfl, rfl⟩
                refine AW.seqR ?_
                first | refine AWo.pure (PureOp.ltN rfl rfl) rfl rfl ?_ | refine AWo.pure (PureOp.bin rfl rfl rfl) rfl rfl ?_
                refine AWo.nil trivial ?_
                refine AW.seq ?_
                refine AW.cond rfl (fun hb5 => ?_) (fun hb5 => ?_)
                ·
                  have hi : i < (Po.tr (Po.ps ((fp (num 256 a)) * (fp (num 256 b))) xs)).length := by simpa using hb5
                  have hol : (Po.tr (Po.ps ((fp (num 256 a)) * (fp (num 256 b))) xs)).length ≤ 10 := by have := Po.dg_le (Po.ps ((fp (num 256 a)) * (fp (num 256 b))) xs); rw [Po.ps, List.length_map] at this; rw [Po.tr_len, Po.ps]; omega
                  refine AW.skip ?_
                  refine thenA_normal ?_
                  refine AW.seq ?_
                  refine AW.block ?_
                  refine AW.seqR ?_
                  refine AWo.pure (PureOp.move rfl) rfl rfl ?_
                  refine AWo.pure (PureOp.assign rfl) rfl rfl ?_
                  refine AWo.nil trivial ?_
                  refine AW.seqD mixed ?_
                  refine AWo.pure (PureOp.move rfl) rfl rfl ?_
                  refine AWo.pure (PureOp.move rfl) rfl rfl ?_
                  first | refine AWo.pure (PureOp.idx1 tbok rfl rfl rfl rfl (by first | decide | omega)) rfl rfl ?_ | refine AWo.pure (PureOp.idx tbok rfl rfl rfl rfl (by first | decide | omega)) rfl rfl ?_
                  refine yLJ (xs := (Po.tr (Po.ps ((fp (num 256 a)) * (fp (num 256 b))) xs))) i ?_
                  refine AWo.pure (PureOp.move rfl) rfl rfl ?_
                  refine AWo.pure (PureOp.move rfl) rfl rfl ?_
                  first | refine AWo.pure (PureOp.idx1 tbok rfl rfl rfl rfl (by first | decide | omega)) rfl rfl ?_ | refine AWo.pure (PureOp.idx tbok rfl rfl rfl rfl (by first | decide | omega)) rfl rfl ?_
                  refine yLJ (xs := (Po.tr (Po.ps ((fp (num 256 a)) * (fp (num 256 b))) xs))) i ?_
                  refine AWo.callX (v := .bool true) (equalF_ctr (x := (Po.tr (Po.ps ((fp (num 256 a)) * (fp (num 256 b))) xs)).getD i 0) (y := (Po.tr (Po.ps ((fp (num 256 a)) * (fp (num 256 b))) xs)).getD i 0)) bd19 [] [] rfl (.cons rfl (.cons rfl .nil)) rfl (.pure (by first | rfl | exact pure_aggM flat_vi | exact pure_aggM flat_bool) (.pure (by first | rfl | exact pure_aggM flat_vi | exact pure_aggM flat_bool) .nil)) .nil rfl .nil frN (by decide) (.cons rfl rfl .nil) (congrArg Value.bool (decide_eq_true (rfl))) rfl rfl rfl ?_
                  refine AWo.pure (PureOp.not rfl) rfl rfl ?_
                  refine AWo.nil (by kernel_rfl) ?_
                  refine AW.condF rfl ?_
                  refine AW.skip ?_
                  refine inBlockA_normal ?_
                  refine thenA_normal ?_
                  refine AW.region ?_
                  first | refine AWo.pure (PureOp.addI (b := 1) rfl rfl (by first | decide | omega)) rfl rfl ?_ | refine AWo.pure (PureOp.bin rfl rfl rfl) rfl rfl ?_
                  refine AWo.pure (PureOp.move rfl) rfl rfl ?_
                  refine AWo.nil trivial ?_
                  refine thenA_normal ?_
                  refine ⟨(Po.tr (Po.ps ((fp (num 256 a)) * (fp (num 256 b))) xs)).length - (i + 1), [], _, by omega, ?_, i + 1, by omega, rfl, rfl⟩
                  refine Wk.of [0, 1, 2, 39000, 111000, 116000] ?_ ?_ ?_ (by decide) rfl
                  ·
                    refine WkE.upd rfl (by first | exact VR.flat _ rfl | exact VR.eqv (vp_succ _) rfl | exact VR.eqv (vp_succ _).symm rfl | exact VR.eqv (by first | rfl | (congr 1; omega) | (simp; done) | (simp; omega)) rfl) ?_
                    refine WkE.upd rfl (by first | exact VR.flat _ rfl | exact VR.eqv (vp_succ _) rfl | exact VR.eqv (vp_succ _).symm rfl | exact VR.eqv (by first | rfl | (congr 1; omega) | (simp; done) | (simp; omega)) rfl) ?_
                    refine WkE.upd rfl (.slice (116000) 0 _ 0 ⟨_, rfl⟩ (by simp) (by simp)) ?_
                    refine WkE.upd rfl (.slice (111000) 0 _ 0 ⟨_, rfl⟩ (by simp) (by simp)) ?_
                    refine WkE.upd rfl (.slice (39000) 0 _ 0 ⟨_, rfl⟩ (by simp) (by simp)) ?_
                    exact WkE.emp
                  ·
                    refine WkM.flat rfl (flatM flat_vi) (fun h => h) ?_
                    refine WkM.flat rfl (flatM flat_vi) (fun h => h) ?_
                    refine WkM.flat rfl (flatM flat_vi) (fun h => h) ?_
                    refine WkM.flat rfl (flatM flat_vi) (fun h => h) ?_
                    refine WkM.flat rfl (flatM flat_vi) (fun h => h) ?_
                    refine WkM.cloM rfl rfl (fun _ => rfl) (fun h => h) ?_
                    exact WkM.emp
                  ·
                    repeat (refine dom_upd_mem (by decide) ?_)
                    exact dom_emp
                ·
                  obtain rfl : i = (Po.tr (Po.ps ((fp (num 256 a)) * (fp (num 256 b))) xs)).length := by simp at hb5; omega
                  refine AW.exit ?_
                  refine thenA_exit ?_
                  refine thenA_exit ?_
                  refine inBlockA_hit ?_
                  refine thenA_normal ?_
                  refine AW.seqR ?_
                  refine AWo.pure (PureOp.move rfl) rfl rfl ?_
                  refine AWo.callX (endsp_ctr (xs := xs) (n := Ls.length) hxl (by omega)) bd57 [(39000, 0)] [] rfl (.cons rfl .nil) rfl (.cons rfl rfl .nil) (.flat rfl (flatM flat_vi) (by intro h; first | exact h | rfl) .nil) rfl (.keep rfl .nil) frN (by decide) (.pure (by first | rfl | exact pure_aggM flat_vi | exact pure_aggM flat_bool) .nil) rfl rfl rfl rfl ?_
                  refine AWo.pure (PureOp.move rfl) rfl rfl ?_
                  refine AWo.pure ((PureOp.buildStruct [] pl33.choose_spec.1 zr33 (by decide) pl33.choose_spec.2 rfl rfl).mono (v' := .agg ((fe 0).map (vi .u64)).toArray) (by rw [fe_zero]; rfl)) rfl rfl ?_
                  refine AWo.callX (evalp_ctr (xs := xs) (n := Ls.length) (x := 0) hxl (by omega)) bd32 [(39000, 0)] [] rfl (.cons rfl (.cons rfl .nil)) rfl (.cons rfl rfl (.pure (by first | rfl | exact pure_aggM flat_vi | exact pure_aggM flat_bool) .nil)) (.flat rfl (flatM flat_vi) (by intro h; first | exact h | rfl) .nil) rfl (.keep rfl .nil) frN (by decide) (.pure (by first | rfl | exact pure_aggM flat_vi | exact pure_aggM flat_bool) .nil) rfl rfl rfl rfl ?_
                  refine AWo.pure (PureOp.move rfl) rfl rfl ?_
                  refine AWo.callX (fromuF_ctr (v := 1) (by decide)) bd37 [] [] rfl (.cons rfl .nil) rfl (.cons rfl rfl .nil) .nil rfl .nil frN (by decide) (.pure (by first | rfl | exact pure_aggM flat_vi | exact pure_aggM flat_bool) .nil) rfl rfl rfl rfl ?_
                  refine AWo.callX (evalp_ctr (xs := xs) (n := Ls.length) (x := (fp 1)) hxl (by omega)) bd32 [(39000, 0)] [] rfl (.cons rfl (.cons rfl .nil)) rfl (.cons rfl rfl (.pure (by first | rfl | exact pure_aggM flat_vi | exact pure_aggM flat_bool) .nil)) (.flat rfl (flatM flat_vi) (by intro h; first | exact h | rfl) .nil) rfl (.keep rfl .nil) frN (by decide) (.pure (by first | rfl | exact pure_aggM flat_vi | exact pure_aggM flat_bool) .nil) rfl rfl rfl rfl ?_
                  refine AWo.callX (addF_ctr (x := Po.ev 0 xs) (y := Po.ev (fp 1) xs)) bd33 [] [] rfl (.cons rfl (.cons rfl .nil)) rfl (.pure (by first | rfl | exact pure_aggM flat_vi | exact pure_aggM flat_bool) (.pure (by first | rfl | exact pure_aggM flat_vi | exact pure_aggM flat_bool) .nil)) .nil rfl .nil frN (by decide) (.pure (by first | rfl | exact pure_aggM flat_vi | exact pure_aggM flat_bool) .nil) rfl rfl rfl rfl ?_
                  refine AWo.callX (v := .bool true) (equalF_ctr (x := Po.co xs 0 + fsumL xs) (y := Po.ev 0 xs + Po.ev (fp 1) xs)) bd19 [] [] rfl (.cons rfl (.cons rfl .nil)) rfl (.pure (by first | rfl | exact pure_aggM flat_vi | exact pure_aggM flat_bool) (.pure (by first | rfl | exact pure_aggM flat_vi | exact pure_aggM flat_bool) .nil)) .nil rfl .nil frN (by decide) (.cons rfl rfl .nil) (congrArg Value.bool (decide_eq_true (ends_ev xs))) rfl rfl rfl ?_
                  refine AWo.pure (PureOp.assign rfl) rfl rfl ?_
                  refine AWo.nil trivial ?_
                  refine AW.ret ?_
                  refine RetQ.gc [_] [] [.tmp 6] (.inl rfl) rfl (.tmp rfl .nil) rfl (.cons rfl rfl .nil) (OutL.clo rfl (cloM fun _ => rfl) (by intro h; exact h.elim id fun h => absurd h.1 (by simp)) (OutL.flat rfl (flatM flat_vi) (by intro h; exact h.elim id fun h => absurd h.1 (by simp)) (OutL.flat rfl (flatM flat_vi) (by intro h; exact h.elim id fun h => absurd h.1 (by simp)) trivial))) (by decide) rfl
end Go.Proofs.Yteeifahhejangaa
namespace Go.Proofs.Yteeifahhejangaa
open Go
namespace Head
set_option maxRecDepth 100000 in
theorem words : ∃ l, Try.prog.initOrder = String.ofList l ∧ (behindMainWord (wordsSigns l)).head? = some "cut".toList := ⟨_, rfl, by kernel_rfl⟩
theorem head_of {P : Program} (h : ∃ l, P.initOrder = String.ofList l ∧ (behindMainWord (wordsSigns l)).head? = some "cut".toList) :
    ∃ rest, behindMainWord (wordsSigns P.initOrder.toList) = "cut".toList :: rest := by
  obtain ⟨l, h, hh⟩ := h
  rw [h, String.toList_ofList]
  cases hb : behindMainWord (wordsSigns l) with
  | nil => rw [hb] at hh; cases hh
  | cons c r => rw [hb] at hh; simp only [List.head?_cons, Option.some.injEq] at hh; exact ⟨r, by rw [hh]⟩
theorem cut_words : (liftWords.all fun s => !("cut".toList == s.toList)) = true := by decide +kernel
theorem strip_cut (rest : List (List Char)) : stripLifts liftWords ("cut".toList :: rest) = ([], "cut".toList :: rest) := by
  have key : ∀ o : List String, (o.all fun s => !("cut".toList == s.toList)) = true → stripLifts o ("cut".toList :: rest) = ([], "cut".toList :: rest) := by
    intro o
    induction o with
    | nil => intro _; rfl
    | cons s o ih =>
      intro h
      simp only [List.all_cons, Bool.and_eq_true, Bool.not_eq_true'] at h
      rw [stripLifts, if_neg (by rw [h.1]; exact Bool.false_ne_true)]
      exact ih h.2
  exact key liftWords cut_words
theorem mayEnter_of {P : Program} {rest : List (List Char)} (hr : behindMainWord (wordsSigns P.initOrder.toList) = "cut".toList :: rest) (e1 : P.laysLater = false) (e2 : P.bearsReflect = false) (e3 : P.doorFits [] = true) : P.mayEnter = true := by
  unfold Program.mayEnter
  rw [hr]
  simp only [strip_cut, e1, e2, e3]
  simp
theorem headLifts_of {P : Program} {rest : List (List Char)} (hr : behindMainWord (wordsSigns P.initOrder.toList) = "cut".toList :: rest) : P.headLifts = [] := by
  unfold Program.headLifts
  rw [hr, strip_cut]
  simp
theorem cut_ne : ("cut".toList == "carried".toList) = false ∧ ("cut".toList == "gc".toList) = false ∧ ("cut".toList == "spec".toList) = false := by decide +kernel
theorem liftsFinal_of {P : Program} {rest : List (List Char)} (hr : behindMainWord (wordsSigns P.initOrder.toList) = "cut".toList :: rest) : P.liftsFinal = false := by
  unfold Program.liftsFinal
  rw [hr, headLifts_of hr]
  simp
theorem make_of {P : Program} {rest : List (List Char)} (hr : behindMainWord (wordsSigns P.initOrder.toList) = "cut".toList :: rest) : P.make = some .cut := by
  unfold Program.make
  rw [hr]
  simp only [cut_ne.2.1, cut_ne.2.2, beq_self_eq_true]
  simp
theorem laysLater : Try.prog.laysLater = false := by kernel_rfl
theorem bearsReflect : Try.prog.bearsReflect = false := by kernel_rfl
theorem doorFits : Try.prog.doorFits [] = true := by kernel_rfl
theorem mayEnter : Try.prog.mayEnter = true := let ⟨_, hr⟩ := head_of words; mayEnter_of hr laysLater bearsReflect doorFits
theorem liftsFinal : Try.prog.liftsFinal = false := let ⟨_, hr⟩ := head_of words; liftsFinal_of hr
theorem make_cut : Try.prog.make = some .cut := let ⟨_, hr⟩ := head_of words; make_of hr
theorem band {a b : Bool} (ha : a = true) (hb : b = true) : (a && b) = true := by rw [ha, hb]; rfl
end Head
end Go.Proofs.Yteeifahhejangaa
namespace Go.Proofs.Yteeifahhejangaa
open Go Sim
theorem Fp_dom (x y : Fp) (h : x * y = 0) : x = 0 ∨ y = 0 := by
  by_cases hx : x = 0
  · exact .inl hx
  · exact .inr (Rg.unit_zero (mul_finv hx) h)
theorem nc_fp : ∀ k : Nat, (Po.nc k : Fp) = fp k
  | 0 => rfl
  | k + 1 => by
    rw [Po.nc, nc_fp k, fp_addN]; rfl
theorem fp_val_lt {k : Nat} (h : k < 21888242871839275222246405745257275088548364400416034343698204186575808495617) : (fp k).val = k := Nat.mod_eq_of_lt h
theorem fp_ne {i j : Nat} (h : i < j) (hj : j < 1000000) : fp i ≠ fp j := fun e => by
  have h1 := congrArg Fin.val e
  have hP : 1000000 < 21888242871839275222246405745257275088548364400416034343698204186575808495617 := by decide
  rw [fp_val_lt (show i < 21888242871839275222246405745257275088548364400416034343698204186575808495617 by omega), fp_val_lt (show j < 21888242871839275222246405745257275088548364400416034343698204186575808495617 by omega)] at h1
  omega
theorem dg_bound {q : List Fp} {d : Nat} (h : ∀ i, d ≤ i → Po.co q i = 0) : Po.dg q ≤ d := by
  rcases Nat.lt_or_ge d (Po.dg q) with h1 | h1
  · obtain ⟨m, hm⟩ : ∃ m, Po.dg q = m + 1 := ⟨Po.dg q - 1, by omega⟩
    exact absurd (h m (by omega)) (Po.co_top q m hm)
  · exact h1
theorem co_pm2 {r s : Fp} : ∀ (p : List Fp) (i : Nat), p.length + 1 ≤ i → Po.co (Po.pm p [r, s]) i = 0
  | [], i, _ => by rw [Po.pm, Po.co_nil]
  | a :: p, 0, h => by simp at h
  | a :: p, i + 1, h => by
    simp only [List.length_cons] at h
    rw [Po.co_pm_succ, Po.co_len (p := [r, s]) (by simp only [List.length_cons, List.length_nil]; omega), co_pm2 p i (by omega), Rg.zero_mul, Rg.zero_add]
theorem nwL_len2 (ds : List Fp) (n : Nat) : ∀ j, (nwL ds n j).length ≤ j
  | 0 => Nat.le_refl _
  | j + 1 => by
    have h := nwL_len2 ds n j
    rw [nwL, Po.tr_len]
    have h1 := Po.dg_le (Po.pa (Po.tr (Po.pm (nwL ds n j) [-(fp (n - 1 - j)), fp 1])) [ds.getD (n - 1 - j) 0])
    rw [Po.pa_len, Po.tr_len] at h1
    have h2 : Po.dg (Po.pm (nwL ds n j) [-(fp (n - 1 - j)), fp 1]) ≤ (nwL ds n j).length + 1 := dg_bound fun i hi => co_pm2 _ i hi
    simp only [List.length_cons, List.length_nil] at h1
    have h4 : max (Po.dg (Po.pm (nwL ds n j) [-(fp (n - 1 - j)), fp 1])) (0 + 1) ≤ j + 1 := Nat.max_le.2 ⟨by omega, by omega⟩
    omega
theorem ringE (x k e d : Fp) : (0 + d) + e * (((0 * x + fp 1) * x) + -k) = e * (x - k) + d := by
  have h1 : fp 1 = (1 : Fp) := rfl
  rw [h1, Rg.zero_mul, Rg.zero_add, Rg.zero_add, Rg.one_mul, Rg.add_comm]
  congr 2
  exact (Fin.sub_eq_add_neg x k).symm
theorem ev_nwL (ds : List Fp) (n : Nat) (x : Fp) : ∀ j, Po.ev x (nwL ds n j) = Po.nw (fun k => ds.getD k 0) x n j
  | 0 => rfl
  | j + 1 => by
    rw [nwL, Po.ev_tr, Po.ev_pa, Po.ev_tr, Po.ev_pm, ev_nwL ds n x j, Po.nw, nc_fp, show n - (j + 1) = n - 1 - j by omega]
    have := ringE x (fp (n - 1 - j)) (Po.nw (fun k => ds.getD k 0) x n j) (ds.getD (n - 1 - j) 0)
    rw [← this, Rg.add_comm]
    congr 1
    show Po.ev x [] * x + _ = _
    rw [show Po.ev x ([] : List Fp) = 0 from rfl, Rg.zero_mul]
theorem inn_get {l : List Fp} {far : Fp} {n : Nat} (hn : l.length = n) (i : Nat) : ∀ m, m + 1 ≤ n → Po.co (inn l far n m) i = if n - m ≤ i ∧ i < n then (Po.co l i - Po.co l (i - 1)) * far else Po.co l i
  | 0, _ => by rw [if_neg (by omega), inn]
  | m + 1, h => by
    have hq := inn_get (far := far) hn (n - 1 - m) m (by omega)
    have hp := inn_get (far := far) hn (n - 1 - m - 1) m (by omega)
    rw [if_neg (by omega)] at hq hp
    rw [inn, co_set (by rw [inn_len, hn]; omega)]
    by_cases e : i = n - 1 - m
    · subst e
      rw [if_pos rfl, if_pos ⟨by omega, by omega⟩]
      show (Po.co (inn l far n m) (n - 1 - m) - Po.co (inn l far n m) (n - 1 - m - 1)) * far = _
      rw [hq, hp]
    · rw [if_neg e, inn_get hn i m (by omega)]
      by_cases h2 : n - m ≤ i ∧ i < n
      · rw [if_pos h2, if_pos ⟨by omega, h2.2⟩]
      · rw [if_neg h2, if_neg (by omega)]
def ivF (k : Nat) : Fp := finv (fp k)
theorem difN_get (vs : List Fp) : ∀ c, c + 1 ≤ vs.length → ∀ i, i < vs.length → Po.co (difN vs c) i = if i ≤ c then Po.U ivF (Po.co vs) i 0 else Po.U ivF (Po.co vs) c (i - c)
  | 0, _, i, _ => by
    rw [difN]
    by_cases h : i ≤ 0
    · obtain rfl : i = 0 := by omega
      rw [if_pos h]; rfl
    · rw [if_neg h]; rfl
  | c + 1, hc, i, hi => by
    have h1 := difN_get vs c (by omega) i hi
    rw [difN, inn_get (difN_len vs c) i (vs.length - 1 - c) (by omega)]
    by_cases h2 : i ≤ c
    · rw [if_neg (by omega), h1, if_pos h2, if_pos (by omega)]
    · have h3 := difN_get vs c (by omega) (i - 1) (by omega)
      have e3 : Po.co (difN vs c) (i - 1) = Po.U ivF (Po.co vs) c (i - 1 - c) := by
        rw [h3]
        by_cases h4 : i - 1 ≤ c
        · have : i - 1 = c := by omega
          rw [if_pos h4, this, Nat.sub_self]
        · rw [if_neg h4]
      rw [if_pos ⟨by omega, hi⟩, h1, if_neg h2, e3]
      have e4 : (Po.U ivF (Po.co vs) c (i - c) - Po.U ivF (Po.co vs) c (i - 1 - c)) * finv (fp (c + 1)) = Po.U ivF (Po.co vs) (c + 1) (i - (c + 1)) := by
        rw [Po.U, show i - (c + 1) + 1 = i - c by omega, show i - 1 - c = i - (c + 1) by omega]; rfl
      rw [e4]
      by_cases h5 : i ≤ c + 1
      · obtain rfl : i = c + 1 := by omega
        rw [if_pos h5, Nat.sub_self]
      · rw [if_neg h5]
theorem nw_congr {d d' : Nat → Fp} {x : Fp} {n : Nat} (h : ∀ k, k < n → d k = d' k) : ∀ j, j ≤ n → Po.nw d x n j = Po.nw d' x n j
  | 0, _ => rfl
  | j + 1, hj => by rw [Po.nw, Po.nw, nw_congr h j (by omega), h _ (by omega)]
theorem thr_ev {vs : List Fp} {m : Nat} (hn : vs.length < 1000000) (hm : m < vs.length) : Po.ev (fp m) (thr vs) = Po.co vs m := by
  rw [thr, Po.ev_tr, ev_nwL, nw_congr (d' := fun k => Po.U ivF (Po.co vs) k 0) (fun k hk => ?_) _ (Nat.le_refl _), ← nc_fp]
  · refine Po.newton (fun k hk h0 => ?_) hm
    rw [nc_fp]
    exact mul_finv fun e => fp_ne (i := 0) (j := k) h0 (by omega) e.symm
  · have := difN_get vs (vs.length - 1) (by omega) k hk
    rw [if_pos (by omega)] at this
    exact this
theorem thr_uniq {vs q : List Fp} (hn : vs.length < 1000000) (hq : q.length ≤ vs.length) (h : ∀ m, m < vs.length → Po.ev (fp m) q = Po.co vs m) : thr vs = Po.tr q := by
  have h1 : ∀ i, Po.co (nwL (difN vs (vs.length - 1)) vs.length vs.length) i = Po.co q i := by
    refine Po.uniq Fp_dom (N := vs.length) (fun i j hi hj => by rw [nc_fp, nc_fp]; exact fp_ne hi (by omega)) (nwL_len2 _ _ _) hq fun m hm => ?_
    rw [nc_fp, h m hm, ← thr_ev hn hm, thr, Po.ev_tr]
  exact Po.tr_congr h1
end Go.Proofs.Yteeifahhejangaa
namespace Go.Proofs.Yteeifahhejangaa
open Go Sim
theorem degreep_ctr {xs : List Fp} {n : Nat} (hn : xs.length = n) (hx : n < 1000000) : GC Try.prog 36 [.slice (some ⟨0, 0, none⟩) n 0] [⟨((xs.map fe).flatten).map (vi .u64), false, 4⟩] [vp (Po.dg xs)] [⟨((xs.map fe).flatten).map (vi .u64), false, 4⟩] := by
  subst hn
  rw [← hiN_dg]
  exact degree_ctr (Nat.le_refl _) (by omega)
theorem dg_sum {xs ys : List Fp} (hx : 0 < Po.dg xs) (hy : 0 < Po.dg ys) : Po.dg (Po.pm xs ys) + 1 = Po.dg xs + Po.dg ys := by
  obtain ⟨m, hm⟩ : ∃ m, Po.dg xs = m + 1 := ⟨Po.dg xs - 1, by omega⟩
  obtain ⟨l, hl⟩ : ∃ l, Po.dg ys = l + 1 := ⟨Po.dg ys - 1, by omega⟩
  have := Po.dg_pm Fp_dom hm hl
  omega
theorem thr_vals {xs : List Fp} {n : Nat} (hxl : xs.length = n) (hn : n < 1000000) : thr ((List.range n).map (fun k => Po.ev (fp k) xs)) = Po.tr xs := by
  refine thr_uniq (by rw [List.length_map, List.length_range]; exact hn) (by rw [List.length_map, List.length_range]; omega) fun m hm => ?_
  rw [List.length_map, List.length_range] at hm
  unfold Po.co
  rw [List.getD_eq_getElem?_getD, List.getElem?_map, List.getElem?_range hm]; rfl
theorem PureOp.vpAdd {P : Program} {E : Env} {t t' : TypeId} {x y : Operand} {a b d : Nat} (h1 : aev E x = some (vp a)) (h2 : aev E y = some (vp b)) (h : d + 1 = a + b) (hb : a + b < 1000000) : PureOp P (.binOp .add t x y t') E (vp d) :=
  PureOp.bin h1 h2 (by simp only [evalBin, vp]; rw [IntWalk.i64_in _ (by omega)]; congr 2; omega)
theorem plaws_ctr {Ls Ks : List (List Nat)} {c : List Nat} (hB : ∀ b ∈ Ls, bd 256 b) (hL : Ls.length ≤ 9223372036854775807) (hB2 : ∀ b ∈ Ks, bd 256 b) (hK : Ks.length ≤ 9223372036854775807) (hc : bd 256 c) : GC Try.prog 6 [.slice (some ⟨0, 0, none⟩) Ls.length 0, .slice (some ⟨1, 0, none⟩) Ks.length 0, .slice (some ⟨2, 0, none⟩) c.length 0] [⟨Ls.map (db), false, 1⟩, ⟨Ks.map (db), false, 1⟩, ⟨c.map (vi .u8), false, 1⟩] [.bool true] [⟨Ls.map (db), false, 1⟩, ⟨Ks.map (db), false, 1⟩, ⟨c.map (vi .u8), false, 1⟩] := by
  refine GC.intro Try.func6 rfl (by show 3 ≤ 136; decide) (by first | exact Nat.le_refl _ | decide | simp) ?_
  refine AW.seqR ?_
  refine AWo.pure (PureOp.assign rfl) rfl rfl ?_
  refine AWo.nil trivial ?_
  refine AW.seq ?_
  refine AW.seqR ?_
  refine AWo.callX (speaks22_ctr) bd23 [] [] rfl .nil rfl .nil .nil rfl .nil frN (by decide) (.cons rfl rfl .nil) rfl rfl rfl rfl ?_
  refine AWo.pure (PureOp.not rfl) rfl rfl ?_
  refine AWo.pure (PureOp.move rfl) rfl rfl ?_
  refine AWo.pure (PureOp.move rfl) rfl rfl ?_
  refine AWo.callX (few22_ctr (Ls := Ls) (most := 8) hL (by decide)) bd28 [(0, 0)] [] rfl (.cons rfl (.cons rfl .nil)) rfl (.cons rfl rfl (.cons rfl rfl .nil)) (.clo rfl (cloM fun _ => rfl) (by intro h; first | exact h | rfl) .nil) rfl (.keep rfl .nil) frN (by decide) (.cons rfl rfl .nil) rfl rfl rfl rfl ?_
  first | refine AWo.pureB (PureOp.not rfl) rfl rfl (fun hb0 => ?_) (fun hb0 => ?_)
  ·
    refine AWo.pure (PureOp.pickF rfl rfl) rfl rfl ?_
    refine AWo.pure (PureOp.move rfl) rfl rfl ?_
    refine AWo.skipped rfl rfl ?_
    refine AWo.skipped rfl rfl ?_
    refine AWo.skipped rfl rfl ?_
    refine AWo.pure (PureOp.pickT rfl rfl) rfl rfl ?_
    refine AWo.pure (PureOp.move rfl) rfl rfl ?_
    refine AWo.skipped rfl rfl ?_
    refine AWo.skipped rfl rfl ?_
    refine AWo.skipped rfl rfl ?_
    refine AWo.pure (PureOp.pickT rfl rfl) rfl rfl ?_
    refine AWo.nil trivial ?_
    refine AW.condT rfl ?_
    refine AW.seqR ?_
    refine AWo.callX (speaks22_ctr) bd23 [] [] rfl .nil rfl .nil .nil rfl .nil frN (by decide) (.cons rfl rfl .nil) rfl rfl rfl rfl ?_
    refine AWo.pure (PureOp.assign rfl) rfl rfl ?_
    refine AWo.nil trivial ?_
    refine AW.ret ?_
    refine thenA_ret ?_
    refine RetQ.gc [_] [] [.tmp 6] (.inl rfl) rfl (.tmp rfl .nil) rfl (.cons rfl rfl .nil) (OutL.clo rfl (cloM fun _ => rfl) (by intro h; exact h.elim id fun h => absurd h.1 (by simp)) (OutL.clo rfl (cloM fun _ => rfl) (by intro h; exact h.elim id fun h => absurd h.1 (by simp)) (OutL.flat rfl (flatM flat_vi) (by intro h; exact h.elim id fun h => absurd h.1 (by simp)) trivial))) (by decide) rfl
  ·
    obtain ⟨hS, hLn⟩ := fewB_get (by simpa using hb0)
    refine AWo.pure (PureOp.pickF rfl rfl) rfl rfl ?_
    refine AWo.pure (PureOp.move rfl) rfl rfl ?_
    refine AWo.pure (PureOp.move rfl) rfl rfl ?_
    refine AWo.callX (few22_ctr (Ls := Ks) (most := 8) hK (by decide)) bd28 [(1, 0)] [] rfl (.cons rfl (.cons rfl .nil)) rfl (.cons rfl rfl (.cons rfl rfl .nil)) (.clo rfl (cloM fun _ => rfl) (by intro h; first | exact h | rfl) .nil) rfl (.keep rfl .nil) frN (by decide) (.cons rfl rfl .nil) rfl rfl rfl rfl ?_
    first | refine AWo.pureB (PureOp.not rfl) rfl rfl (fun hb1 => ?_) (fun hb1 => ?_)
    ·
      refine AWo.pure (PureOp.pickF rfl rfl) rfl rfl ?_
      refine AWo.pure (PureOp.move rfl) rfl rfl ?_
      refine AWo.skipped rfl rfl ?_
      refine AWo.skipped rfl rfl ?_
      refine AWo.skipped rfl rfl ?_
      refine AWo.pure (PureOp.pickT rfl rfl) rfl rfl ?_
      refine AWo.nil trivial ?_
      refine AW.condT rfl ?_
      refine AW.seqR ?_
      refine AWo.callX (speaks22_ctr) bd23 [] [] rfl .nil rfl .nil .nil rfl .nil frN (by decide) (.cons rfl rfl .nil) rfl rfl rfl rfl ?_
      refine AWo.pure (PureOp.assign rfl) rfl rfl ?_
      refine AWo.nil trivial ?_
      refine AW.ret ?_
      refine thenA_ret ?_
      refine RetQ.gc [_] [] [.tmp 6] (.inl rfl) rfl (.tmp rfl .nil) rfl (.cons rfl rfl .nil) (OutL.clo rfl (cloM fun _ => rfl) (by intro h; exact h.elim id fun h => absurd h.1 (by simp)) (OutL.clo rfl (cloM fun _ => rfl) (by intro h; exact h.elim id fun h => absurd h.1 (by simp)) (OutL.flat rfl (flatM flat_vi) (by intro h; exact h.elim id fun h => absurd h.1 (by simp)) trivial))) (by decide) rfl
    ·
      obtain ⟨hS2, hKn⟩ := fewB_get (by simpa using hb1)
      refine AWo.pure (PureOp.pickF rfl rfl) rfl rfl ?_
      refine AWo.pure (PureOp.move rfl) rfl rfl ?_
      refine AWo.pure (PureOp.move rfl) rfl rfl ?_
      first | refine AWo.pure (PureOp.lenS tbok rfl rfl) rfl rfl ?_ | refine AWo.pure (PureOp.lenD tbok rfl rfl) rfl rfl ?_
      first | refine AWo.pureB (PureOp.gtN (b := 40) rfl rfl) rfl rfl (fun hb2 => ?_) (fun hb2 => ?_) | refine AWo.pureB (PureOp.bin rfl rfl rfl) rfl rfl (fun hb2 => ?_) (fun hb2 => ?_)
      ·
        refine AWo.pure (PureOp.pickF rfl rfl) rfl rfl ?_
        refine AWo.nil trivial ?_
        refine AW.condT rfl ?_
        refine AW.seqR ?_
        refine AWo.callX (speaks22_ctr) bd23 [] [] rfl .nil rfl .nil .nil rfl .nil frN (by decide) (.cons rfl rfl .nil) rfl rfl rfl rfl ?_
        refine AWo.pure (PureOp.assign rfl) rfl rfl ?_
        refine AWo.nil trivial ?_
        refine AW.ret ?_
        refine thenA_ret ?_
        refine RetQ.gc [_] [] [.tmp 6] (.inl rfl) rfl (.tmp rfl .nil) rfl (.cons rfl rfl .nil) (OutL.clo rfl (cloM fun _ => rfl) (by intro h; exact h.elim id fun h => absurd h.1 (by simp)) (OutL.clo rfl (cloM fun _ => rfl) (by intro h; exact h.elim id fun h => absurd h.1 (by simp)) (OutL.flat rfl (flatM flat_vi) (by intro h; exact h.elim id fun h => absurd h.1 (by simp)) trivial))) (by decide) rfl
      ·
        have hcl : c.length ≤ 40 := by simpa using hb2
        refine AWo.pure (PureOp.pickF rfl rfl) rfl rfl ?_
        refine AWo.nil trivial ?_
        refine AW.condF rfl ?_
        refine AW.skip ?_
        refine thenA_normal ?_
        refine AW.seqR ?_
        refine AWo.pure (PureOp.move rfl) rfl rfl ?_
        refine AWo.callX (of22_ctr (Ls := Ls) hB hS (by omega)) bd29 [(0, 0)] [39000, 39001] rfl (.cons rfl .nil) rfl (.cons rfl rfl .nil) (.clo rfl (cloM fun _ => rfl) (by intro h; first | exact h | rfl) .nil) rfl (.keep rfl (.new (flat_map_ren (flatM flat_vi)) (OkL.flat (flatM flat_vi)) (.new (clo_map_ren (cloM fun _ => rfl)) (OkL.clo (cloM fun _ => rfl)) .nil))) (frC rfl (frC rfl frN)) (by decide) (.cons rfl rfl (.cons rfl rfl .nil)) rfl rfl rfl rfl ?_
        refine AWo.pure (PureOp.move rfl) rfl rfl ?_
        refine AWo.pure (PureOp.extract rfl rfl) rfl rfl ?_
        refine AWo.pure (PureOp.extract rfl rfl) rfl rfl ?_
        refine AWo.pure (PureOp.assign rfl) rfl rfl ?_
        refine AWo.pure (PureOp.assign rfl) rfl rfl ?_
        refine AWo.nil trivial ?_
        have hxl : (Ls.map nb).length = Ls.length := List.length_map ..
        generalize Ls.map nb = xs at hxl ⊢
        refine AW.seqR ?_
        refine AWo.pure (PureOp.move rfl) rfl rfl ?_
        refine AWo.callX (of22_ctr (Ls := Ks) hB2 hS2 (by omega)) bd29 [(1, 0)] [44000, 44001] rfl (.cons rfl .nil) rfl (.cons rfl rfl .nil) (.clo rfl (cloM fun _ => rfl) (by intro h; first | exact h | rfl) .nil) rfl (.keep rfl (.new (flat_map_ren (flatM flat_vi)) (OkL.flat (flatM flat_vi)) (.new (clo_map_ren (cloM fun _ => rfl)) (OkL.clo (cloM fun _ => rfl)) .nil))) (frC rfl (frC rfl frN)) (by decide) (.cons rfl rfl (.cons rfl rfl .nil)) rfl rfl rfl rfl ?_
        refine AWo.pure (PureOp.move rfl) rfl rfl ?_
        refine AWo.pure (PureOp.extract rfl rfl) rfl rfl ?_
        refine AWo.pure (PureOp.extract rfl rfl) rfl rfl ?_
        refine AWo.pure (PureOp.assign rfl) rfl rfl ?_
        refine AWo.pure (PureOp.assign rfl) rfl rfl ?_
        refine AWo.nil trivial ?_
        have hyl : (Ks.map nb).length = Ks.length := List.length_map ..
        generalize Ks.map nb = ys at hyl ⊢
        refine AW.seqR ?_
        refine AWo.pure (PureOp.move rfl) rfl rfl ?_
        refine AWo.callX (fromwideF_ctr (b := c) hc (by omega)) bd30 [(2, 0)] [] rfl (.cons rfl .nil) rfl (.cons rfl rfl .nil) (.flat rfl (by first | exact flatM flat_vi | exact flatM flat_bool | (simp [flatV, flat_vi]; done)) (by intro h; first | exact h | rfl) .nil) rfl (.keep rfl .nil) frN (by decide) (.pure (by first | rfl | exact pure_aggM flat_vi | exact pure_aggM flat_bool) .nil) rfl rfl rfl rfl ?_
        refine AWo.alloc tbok 12000 1 _ rfl rfl rfl rfl rfl rfl ?_
        refine AWo.storeAllN tbok rfl rfl rfl rfl (by first | (simp [*]; done) | rfl) (by first | (simp [*]; done) | rfl) (by first | exact oneM (fun _ => rfl) _ | rfl | (simp; done)) rfl ?_
        refine AWo.nil trivial ?_
        refine AW.seq ?_
        have hla : (Po.tr (Po.pa xs ys)).length ≤ 8 := by rw [Po.tr_len]; have := Po.dg_le (Po.pa xs ys); rw [Po.pa_len] at this; exact Nat.le_trans this (Nat.max_le.2 ⟨by omega, by omega⟩)
        have hlm : (Po.tr (Po.pm xs ys)).length ≤ 16 := by rw [Po.tr_len]; have := Po.dg_le (Po.pm xs ys); have := Po.pm_len xs ys; omega
        have hll : (Po.tr xs).length ≤ 8 := by rw [Po.tr_len]; have := Po.dg_le xs; omega
        refine AW.seqD mixed ?_
        refine AWo.pure (PureOp.move rfl) rfl rfl ?_
        refine AWo.pure (PureOp.move rfl) rfl rfl ?_
        refine AWo.callX (addp_ctr (xs := xs) (ys := ys) (n := Ls.length) (k := Ks.length) hxl hyl (by omega) (by omega)) bd31 [(39000, 0), (44000, 0)] [51000] rfl (.cons rfl (.cons rfl .nil)) rfl (.cons rfl rfl (.cons rfl rfl .nil)) (.flat rfl (flatM flat_vi) (by intro h; first | exact h | rfl) (.flat rfl (flatM flat_vi) (by intro h; first | exact h | rfl) .nil)) rfl (.keep rfl (.keep rfl (.new (flat_map_ren (flatM flat_vi)) (OkL.flat (flatM flat_vi)) .nil))) (frC rfl frN) (by decide) (.cons rfl rfl .nil) rfl rfl rfl rfl ?_
        first | refine yLE ?_ | refine yLEi ?_
        refine AWo.callX (evalp_ctr (xs := (Po.tr (Po.pa xs ys))) (n := (Po.tr (Po.pa xs ys)).length) (x := (fp (num 256 c))) rfl (by omega)) bd32 [(51000, 0)] [] rfl (.cons rfl (.cons rfl .nil)) rfl (.cons rfl rfl (.pure (by first | rfl | exact pure_aggM flat_vi | exact pure_aggM flat_bool) .nil)) (.flat rfl (flatM flat_vi) (by intro h; first | exact h | rfl) .nil) rfl (.keep rfl .nil) frN (by decide) (.pure (by first | rfl | exact pure_aggM flat_vi | exact pure_aggM flat_bool) .nil) rfl rfl rfl rfl ?_
        refine AWo.pure (PureOp.move rfl) rfl rfl ?_
        first | refine yLE ?_ | refine yLEi ?_
        refine AWo.callX (evalp_ctr (xs := xs) (n := Ls.length) (x := (fp (num 256 c))) hxl (by omega)) bd32 [(39000, 0)] [] rfl (.cons rfl (.cons rfl .nil)) rfl (.cons rfl rfl (.pure (by first | rfl | exact pure_aggM flat_vi | exact pure_aggM flat_bool) .nil)) (.flat rfl (flatM flat_vi) (by intro h; first | exact h | rfl) .nil) rfl (.keep rfl .nil) frN (by decide) (.pure (by first | rfl | exact pure_aggM flat_vi | exact pure_aggM flat_bool) .nil) rfl rfl rfl rfl ?_
        refine AWo.pure (PureOp.move rfl) rfl rfl ?_
        first | refine yLE ?_ | refine yLEi ?_
        refine AWo.callX (evalp_ctr (xs := ys) (n := Ks.length) (x := (fp (num 256 c))) hyl (by omega)) bd32 [(44000, 0)] [] rfl (.cons rfl (.cons rfl .nil)) rfl (.cons rfl rfl (.pure (by first | rfl | exact pure_aggM flat_vi | exact pure_aggM flat_bool) .nil)) (.flat rfl (flatM flat_vi) (by intro h; first | exact h | rfl) .nil) rfl (.keep rfl .nil) frN (by decide) (.pure (by first | rfl | exact pure_aggM flat_vi | exact pure_aggM flat_bool) .nil) rfl rfl rfl rfl ?_
        refine AWo.callX (addF_ctr (x := Po.ev (fp (num 256 c)) xs) (y := Po.ev (fp (num 256 c)) ys)) bd33 [] [] rfl (.cons rfl (.cons rfl .nil)) rfl (.pure (by first | rfl | exact pure_aggM flat_vi | exact pure_aggM flat_bool) (.pure (by first | rfl | exact pure_aggM flat_vi | exact pure_aggM flat_bool) .nil)) .nil rfl .nil frN (by decide) (.pure (by first | rfl | exact pure_aggM flat_vi | exact pure_aggM flat_bool) .nil) rfl rfl rfl rfl ?_
        refine AWo.callX (v := .bool true) (equalF_ctr (x := Po.ev (fp (num 256 c)) (Po.tr (Po.pa xs ys))) (y := Po.ev (fp (num 256 c)) xs + Po.ev (fp (num 256 c)) ys)) bd19 [] [] rfl (.cons rfl (.cons rfl .nil)) rfl (.pure (by first | rfl | exact pure_aggM flat_vi | exact pure_aggM flat_bool) (.pure (by first | rfl | exact pure_aggM flat_vi | exact pure_aggM flat_bool) .nil)) .nil rfl .nil frN (by decide) (.cons rfl rfl .nil) (congrArg Value.bool (decide_eq_true (by rw [Po.ev_tr, Po.ev_pa]))) rfl rfl rfl ?_
        refine AWo.pure (PureOp.not rfl) rfl rfl ?_
        refine AWo.pure (PureOp.move rfl) rfl rfl ?_
        refine AWo.pure (PureOp.move rfl) rfl rfl ?_
        refine AWo.pure (PureOp.move rfl) rfl rfl ?_
        refine AWo.callX (mulp_ctr (xs := xs) (ys := ys) (n := Ls.length) (k := Ks.length) hxl hyl (by omega) (by omega)) bd34 [(39000, 0), (44000, 0)] [66000] rfl (.cons rfl (.cons rfl .nil)) rfl (.cons rfl rfl (.cons rfl rfl .nil)) (.flat rfl (flatM flat_vi) (by intro h; first | exact h | rfl) (.flat rfl (flatM flat_vi) (by intro h; first | exact h | rfl) .nil)) rfl (.keep rfl (.keep rfl (.new (flat_map_ren (flatM flat_vi)) (OkL.flat (flatM flat_vi)) .nil))) (frC rfl frN) (by decide) (.cons rfl rfl .nil) rfl rfl rfl rfl ?_
        first | refine yLE ?_ | refine yLEi ?_
        refine AWo.callX (evalp_ctr (xs := (Po.tr (Po.pm xs ys))) (n := (Po.tr (Po.pm xs ys)).length) (x := (fp (num 256 c))) rfl (by omega)) bd32 [(66000, 0)] [] rfl (.cons rfl (.cons rfl .nil)) rfl (.cons rfl rfl (.pure (by first | rfl | exact pure_aggM flat_vi | exact pure_aggM flat_bool) .nil)) (.flat rfl (flatM flat_vi) (by intro h; first | exact h | rfl) .nil) rfl (.keep rfl .nil) frN (by decide) (.pure (by first | rfl | exact pure_aggM flat_vi | exact pure_aggM flat_bool) .nil) rfl rfl rfl rfl ?_
        refine AWo.pure (PureOp.move rfl) rfl rfl ?_
        first | refine yLE ?_ | refine yLEi ?_
        refine AWo.callX (evalp_ctr (xs := xs) (n := Ls.length) (x := (fp (num 256 c))) hxl (by omega)) bd32 [(39000, 0)] [] rfl (.cons rfl (.cons rfl .nil)) rfl (.cons rfl rfl (.pure (by first | rfl | exact pure_aggM flat_vi | exact pure_aggM flat_bool) .nil)) (.flat rfl (flatM flat_vi) (by intro h; first | exact h | rfl) .nil) rfl (.keep rfl .nil) frN (by decide) (.pure (by first | rfl | exact pure_aggM flat_vi | exact pure_aggM flat_bool) .nil) rfl rfl rfl rfl ?_
        refine AWo.pure (PureOp.move rfl) rfl rfl ?_
        first | refine yLE ?_ | refine yLEi ?_
        refine AWo.callX (evalp_ctr (xs := ys) (n := Ks.length) (x := (fp (num 256 c))) hyl (by omega)) bd32 [(44000, 0)] [] rfl (.cons rfl (.cons rfl .nil)) rfl (.cons rfl rfl (.pure (by first | rfl | exact pure_aggM flat_vi | exact pure_aggM flat_bool) .nil)) (.flat rfl (flatM flat_vi) (by intro h; first | exact h | rfl) .nil) rfl (.keep rfl .nil) frN (by decide) (.pure (by first | rfl | exact pure_aggM flat_vi | exact pure_aggM flat_bool) .nil) rfl rfl rfl rfl ?_
        refine AWo.callX (mulF_ctr (x := Po.ev (fp (num 256 c)) xs) (y := Po.ev (fp (num 256 c)) ys)) bd35 [] [] rfl (.cons rfl (.cons rfl .nil)) rfl (.pure (by first | rfl | exact pure_aggM flat_vi | exact pure_aggM flat_bool) (.pure (by first | rfl | exact pure_aggM flat_vi | exact pure_aggM flat_bool) .nil)) .nil rfl .nil frN (by decide) (.pure (by first | rfl | exact pure_aggM flat_vi | exact pure_aggM flat_bool) .nil) rfl rfl rfl rfl ?_
        refine AWo.callX (v := .bool true) (equalF_ctr (x := Po.ev (fp (num 256 c)) (Po.tr (Po.pm xs ys))) (y := Po.ev (fp (num 256 c)) xs * Po.ev (fp (num 256 c)) ys)) bd19 [] [] rfl (.cons rfl (.cons rfl .nil)) rfl (.pure (by first | rfl | exact pure_aggM flat_vi | exact pure_aggM flat_bool) (.pure (by first | rfl | exact pure_aggM flat_vi | exact pure_aggM flat_bool) .nil)) .nil rfl .nil frN (by decide) (.cons rfl rfl .nil) (congrArg Value.bool (decide_eq_true (by rw [Po.ev_tr, Po.ev_pm]))) rfl rfl rfl ?_
        refine AWo.pure (PureOp.not rfl) rfl rfl ?_
        refine AWo.pure (PureOp.pickF rfl rfl) rfl rfl ?_
        refine AWo.nil (by kernel_rfl) ?_
        refine AW.condF rfl ?_
        refine AW.skip ?_
        refine thenA_normal ?_
        refine AW.seqR ?_
        refine AWo.pure (PureOp.assign rfl) rfl rfl ?_
        refine AWo.nil trivial ?_
        refine AW.seq ?_
        refine AW.seqR ?_
        refine AWo.pure (PureOp.move rfl) rfl rfl ?_
        refine AWo.callX (degreep_ctr (xs := xs) (n := Ls.length) hxl (by omega)) bd36 [(39000, 0)] [] rfl (.cons rfl .nil) rfl (.cons rfl rfl .nil) (.flat rfl (flatM flat_vi) (by intro h; first | exact h | rfl) .nil) rfl (.keep rfl .nil) frN (by decide) (.cons rfl rfl .nil) rfl rfl rfl rfl ?_
        refine yP (PureOp.geP (r := Po.dg xs) rfl rfl) ?_
        first | refine AWo.pureB (PureOp.move rfl) rfl rfl (fun hb3 => ?_) (fun hb3 => ?_)
        ·
          have hdx : 0 < Po.dg xs := of_decide_eq_true hb3
          refine AWo.pure (PureOp.move rfl) rfl rfl ?_
          refine AWo.callX (degreep_ctr (xs := ys) (n := Ks.length) hyl (by omega)) bd36 [(44000, 0)] [] rfl (.cons rfl .nil) rfl (.cons rfl rfl .nil) (.flat rfl (flatM flat_vi) (by intro h; first | exact h | rfl) .nil) rfl (.keep rfl .nil) frN (by decide) (.cons rfl rfl .nil) rfl rfl rfl rfl ?_
          refine yP (PureOp.geP (r := Po.dg ys) rfl rfl) ?_
          refine AWo.pure (PureOp.pickT rfl rfl) rfl rfl ?_
          refine AWo.nil trivial ?_
          refine AW.joinT (fun σ => ∃ dd, (dd = Po.dg (Po.pm xs ys)) ∧ σ = ⟨(upd (upd (upd emp 7 (.slice (some ⟨39000, 0, none⟩) Ls.length 0)) 9 (.slice (some ⟨44000, 0, none⟩) Ks.length 0)) 12 (vp dd)), (upd (upd (upd (upd (upd emp 0 ⟨Ls.map db, false, 1⟩) 1 ⟨Ks.map db, false, 1⟩) 2 ⟨c.map (vi .u8), false, 1⟩) 39000 ⟨((xs.map fe).flatten).map (vi .u64), true, 4⟩) 44000 ⟨((ys.map fe).flatten).map (vi .u64), true, 4⟩)⟩) ?_ ?_
          ·
            refine AW.cond rfl (fun hb4 => ?_) (fun hb4 => ?_)
            ·
              have hsum : Po.dg (Po.pm xs ys) + 1 = Po.dg xs + Po.dg ys := dg_sum hdx (of_decide_eq_true hb4)
              refine AW.region ?_
              refine AWo.pure (PureOp.move rfl) rfl rfl ?_
              refine AWo.callX (degreep_ctr (xs := xs) (n := Ls.length) hxl (by omega)) bd36 [(39000, 0)] [] rfl (.cons rfl .nil) rfl (.cons rfl rfl .nil) (.flat rfl (flatM flat_vi) (by intro h; first | exact h | rfl) .nil) rfl (.keep rfl .nil) frN (by decide) (.cons rfl rfl .nil) rfl rfl rfl rfl ?_
              refine AWo.pure (PureOp.move rfl) rfl rfl ?_
              refine AWo.callX (degreep_ctr (xs := ys) (n := Ks.length) hyl (by omega)) bd36 [(44000, 0)] [] rfl (.cons rfl .nil) rfl (.cons rfl rfl .nil) (.flat rfl (flatM flat_vi) (by intro h; first | exact h | rfl) .nil) rfl (.keep rfl .nil) frN (by decide) (.cons rfl rfl .nil) rfl rfl rfl rfl ?_
              refine yP (PureOp.vpAdd (a := Po.dg xs) (b := Po.dg ys) (d := Po.dg (Po.pm xs ys)) rfl rfl hsum (by have := Po.dg_le xs; have := Po.dg_le ys; omega)) ?_
              refine AWo.pure (PureOp.assign rfl) rfl rfl ?_
              refine AWo.nil trivial ?_
              refine thenA_normal ?_
              refine ⟨[], _, ?_, ⟨Po.dg (Po.pm xs ys), rfl, rfl⟩⟩
              refine Wk.of [0, 1, 2, 39000, 44000] ?_ ?_ ?_ (by decide) rfl
              ·
                refine WkE.upd rfl (by first | exact VR.flat _ rfl | exact VR.eqv (by rw [hz0]; rfl) rfl) ?_
                refine WkE.upd rfl (.slice (44000) 0 _ 0 ⟨_, rfl⟩ (by simp) (by simp)) ?_
                refine WkE.upd rfl (.slice (39000) 0 _ 0 ⟨_, rfl⟩ (by simp) (by simp)) ?_
                exact WkE.emp
              ·
                refine WkM.flat rfl (flatM flat_vi) (fun h => h) ?_
                refine WkM.flat rfl (flatM flat_vi) (fun h => h) ?_
                refine WkM.flat rfl (flatM flat_vi) (fun h => h) ?_
                refine WkM.cloM rfl rfl (fun _ => rfl) (fun h => h) ?_
                refine WkM.cloM rfl rfl (fun _ => rfl) (fun h => h) ?_
                exact WkM.emp
              ·
                repeat (refine dom_upd_mem (by decide) ?_)
                exact dom_emp
            ·
              have hz0 : Po.dg (Po.pm xs ys) = 0 := Nat.le_zero.1 (dg_bound fun i _ => Po.pm_zeroR xs (Po.dg_zero (by have := of_decide_eq_false hb4; omega)) i)
              refine AW.skip ?_
              refine thenA_normal ?_
              refine ⟨[], _, ?_, ⟨Po.dg (Po.pm xs ys), rfl, rfl⟩⟩
              refine Wk.of [0, 1, 2, 39000, 44000] ?_ ?_ ?_ (by decide) rfl
              ·
                refine WkE.upd rfl (by first | exact VR.flat _ rfl | exact VR.eqv (by rw [hz0]; rfl) rfl) ?_
                refine WkE.upd rfl (.slice (44000) 0 _ 0 ⟨_, rfl⟩ (by simp) (by simp)) ?_
                refine WkE.upd rfl (.slice (39000) 0 _ 0 ⟨_, rfl⟩ (by simp) (by simp)) ?_
                exact WkE.emp
              ·
                refine WkM.flat rfl (flatM flat_vi) (fun h => h) ?_
                refine WkM.flat rfl (flatM flat_vi) (fun h => h) ?_
                refine WkM.flat rfl (flatM flat_vi) (fun h => h) ?_
                refine WkM.cloM rfl rfl (fun _ => rfl) (fun h => h) ?_
                refine WkM.cloM rfl rfl (fun _ => rfl) (fun h => h) ?_
                exact WkM.emp
              ·
                repeat (refine dom_upd_mem (by decide) ?_)
                exact dom_emp
          ·
            rintro σ ⟨dd, hdd, rfl⟩
            subst hdd
            refine AW.seq ?_
            refine AW.seqR ?_
            refine AWo.pure (PureOp.move rfl) rfl rfl ?_
            refine AWo.pure (PureOp.move rfl) rfl rfl ?_
            refine AWo.callX (mulp_ctr (xs := xs) (ys := ys) (n := Ls.length) (k := Ks.length) hxl hyl (by omega) (by omega)) bd34 [(39000, 0), (44000, 0)] [94000] rfl (.cons rfl (.cons rfl .nil)) rfl (.cons rfl rfl (.cons rfl rfl .nil)) (.flat rfl (flatM flat_vi) (by intro h; first | exact h | rfl) (.flat rfl (flatM flat_vi) (by intro h; first | exact h | rfl) .nil)) rfl (.keep rfl (.keep rfl (.new (flat_map_ren (flatM flat_vi)) (OkL.flat (flatM flat_vi)) .nil))) (frC rfl frN) (by decide) (.cons rfl rfl .nil) rfl rfl rfl rfl ?_
            refine AWo.callX (v := vp (Po.dg (Po.pm xs ys))) (degreep_ctr (xs := (Po.tr (Po.pm xs ys))) (n := (Po.tr (Po.pm xs ys)).length) rfl (by omega)) bd36 [(94000, 0)] [] rfl (.cons rfl .nil) rfl (.cons rfl rfl .nil) (.flat rfl (flatM flat_vi) (by intro h; first | exact h | rfl) .nil) rfl (.keep rfl .nil) frN (by decide) (.cons rfl rfl .nil) (by rw [Po.dg_tr]; rfl) rfl rfl rfl ?_
            refine AWo.pure (PureOp.move rfl) rfl rfl ?_
            first | refine AWo.pure ((PureOp.neN rfl rfl).mono (v' := .bool false) (congrArg Value.bool (by simp))) rfl rfl ?_ | refine AWo.pure ((PureOp.bin rfl rfl rfl).mono (v' := .bool false) (congrArg Value.bool (by simp))) rfl rfl ?_
            refine AWo.nil trivial ?_
            refine AW.condF rfl ?_
            refine AW.skip ?_
            refine thenA_normal ?_
            refine AW.seqR ?_
            refine AWo.pure (PureOp.assign rfl) rfl rfl ?_
            refine AWo.nil trivial ?_
            refine AW.seq ?_
            refine AW.seqR ?_
            refine AWo.pure (PureOp.move rfl) rfl rfl ?_
            first | refine AWo.pure (PureOp.lenS tbok rfl rfl) rfl rfl ?_ | refine AWo.pure (PureOp.lenD tbok rfl rfl) rfl rfl ?_
            refine AWo.pure (PureOp.move rfl) rfl rfl ?_
            refine AWo.nil trivial ?_
            refine AW.block ?_
            refine AW.ghost 77000 4 rfl ?_
            refine AW.loopw (fun mm σ => ∃ i, (i ≤ Ls.length) ∧ mm = Ls.length - i ∧ σ = ⟨(upd (upd (upd (upd (upd emp 7 (.slice (some ⟨39000, 0, none⟩) Ls.length 0)) 13 (.slice (some ⟨77000, 0, none⟩) i 0)) 97 (.slice (some ⟨39000, 0, none⟩) Ls.length 0)) 98 (vi .i64 Ls.length)) 99 (vi .i64 i)), (upd (upd (upd (upd (upd emp 0 ⟨Ls.map db, false, 1⟩) 1 ⟨Ks.map db, false, 1⟩) 2 ⟨c.map (vi .u8), false, 1⟩) 39000 ⟨((xs.map fe).flatten).map (vi .u64), true, 4⟩) 77000 ⟨((((List.range i).map (fun k => Po.ev (fp k) xs)).map fe).flatten).map (vi .u64), true, 4⟩)⟩) (fm := []) ?_ ⟨0, Nat.zero_le _, rfl, rfl⟩ ?_
            ·
              refine Wk.of [0, 1, 2, 39000, 77000] ?_ ?_ ?_ (by decide) rfl
              ·
                refine WkE.upd rfl (by first | exact VR.flat _ rfl | exact VR.eqv (vp_succ _) rfl | exact VR.eqv (vp_succ _).symm rfl | exact VR.eqv (by first | rfl | (congr 1; omega) | (simp; done) | (simp; omega)) rfl) ?_
                refine WkE.upd rfl (by first | exact VR.flat _ rfl | exact VR.eqv (vp_succ _) rfl | exact VR.eqv (vp_succ _).symm rfl | exact VR.eqv (by first | rfl | (congr 1; omega) | (simp; done) | (simp; omega)) rfl) ?_
                refine WkE.upd rfl (.slice (39000) 0 _ 0 ⟨_, rfl⟩ (by simp) (by simp)) ?_
                refine WkE.upd rfl (by first | exact .nilS _ (by simp) | exact .slice (77000) 0 _ 0 ⟨_, rfl⟩ (by simp) (by simp)) ?_
                refine WkE.upd rfl (.slice (39000) 0 _ 0 ⟨_, rfl⟩ (by simp) (by simp)) ?_
                exact WkE.emp
              ·
                refine WkM.flat rfl (flatM flat_vi) (fun h => h) ?_
                refine WkM.flat rfl (flatM flat_vi) (fun h => h) ?_
                refine WkM.flat rfl (flatM flat_vi) (fun h => h) ?_
                refine WkM.cloM rfl rfl (fun _ => rfl) (fun h => h) ?_
                refine WkM.cloM rfl rfl (fun _ => rfl) (fun h => h) ?_
                exact WkM.emp
              ·
                repeat (refine dom_upd_mem (by decide) ?_)
                exact dom_emp
            ·
              rintro mm σ ⟨i, hinv, rfl, rfl⟩
              refine AW.seqR ?_
              first | refine AWo.pure (PureOp.ltN rfl rfl) rfl rfl ?_ | refine AWo.pure (PureOp.bin rfl rfl rfl) rfl rfl ?_
              refine AWo.nil trivial ?_
              refine AW.seq ?_
              refine AW.cond rfl (fun hb5 => ?_) (fun hb5 => ?_)
              ·
                have hi : i < Ls.length := by simpa using hb5
                refine AW.skip ?_
                refine thenA_normal ?_
                refine AW.seq ?_
                refine AW.block ?_
                refine AW.seqR ?_
                refine AWo.pure (PureOp.move rfl) rfl rfl ?_
                refine AWo.pure (PureOp.assign rfl) rfl rfl ?_
                refine AWo.nil trivial ?_
                refine AW.region ?_
                refine AWo.pure (PureOp.move rfl) rfl rfl ?_
                refine AWo.pure (PureOp.move rfl) rfl rfl ?_
                refine AWo.pure (PureOp.move rfl) rfl rfl ?_
                first | refine AWo.pure (PureOp.cvtN tbok 18446744073709551616 rfl rfl rfl (by decide) (by decide) (by first | decide | omega)) rfl rfl ?_ | refine AWo.pure (PureOp.cvtU tbok 18446744073709551616 rfl rfl rfl rfl rfl) rfl rfl ?_ | refine AWo.pure (PureOp.cvt tbok rfl rfl rfl) rfl rfl ?_
                refine AWo.callX (fromuF_ctr (v := i) (by omega)) bd37 [] [] rfl (.cons rfl .nil) rfl (.cons rfl rfl .nil) .nil rfl .nil frN (by decide) (.pure (by first | rfl | exact pure_aggM flat_vi | exact pure_aggM flat_bool) .nil) rfl rfl rfl rfl ?_
                refine AWo.callX (evalp_ctr (xs := xs) (n := Ls.length) (x := (fp i)) hxl (by omega)) bd32 [(39000, 0)] [] rfl (.cons rfl (.cons rfl .nil)) rfl (.cons rfl rfl (.pure (by first | rfl | exact pure_aggM flat_vi | exact pure_aggM flat_bool) .nil)) (.flat rfl (flatM flat_vi) (by intro h; first | exact h | rfl) .nil) rfl (.keep rfl .nil) frN (by decide) (.pure (by first | rfl | exact pure_aggM flat_vi | exact pure_aggM flat_bool) .nil) rfl rfl rfl rfl ?_
                refine AWo.buildSlice tbok 109000 [(0, .agg ((fe (Po.ev (fp i) xs)).map (vi .u64)).toArray)] (out := [fe (Po.ev (fp i) xs)].flatten.map (vi .u64)) rfl rfl (by decide) rfl rfl rfl (by decide) rfl (fillB1 (fe_len _)) rfl rfl rfl ?_
                refine AWo.append tbok (all := ((((List.range (i + 1)).map (fun k => Po.ev (fp k) xs)).map fe).flatten).map (vi .u64)) (news := [fe (Po.ev (fp i) xs)].flatten.map (vi .u64)) 110000 rfl rfl rfl rfl (by show (FF _).length = _; rw [FF_len, List.length_map, List.length_range]) (by show List.take _ (List.drop 0 _) = _; rw [List.drop_zero]; exact List.take_of_length_le (by simp)) (by simp; done) (by decide) rfl rfl rfl (by first | decide | exact Nat.one_ne_zero) rfl rfl rfl (by first | decide | omega) (by first | decide | omega) (by first | exact oneM (fun _ => rfl) _ | (simp; done)) (by show FF _ ++ FF [_] = FF _; rw [← FF_app, List.range_succ, List.map_append]; rfl) rfl rfl ?_
                refine AWo.pure (PureOp.assign rfl) rfl rfl ?_
                refine AWo.nil trivial ?_
                refine inBlockA_normal ?_
                refine thenA_normal ?_
                refine AW.region ?_
                first | refine AWo.pure (PureOp.addI (b := 1) rfl rfl (by first | decide | omega)) rfl rfl ?_ | refine AWo.pure (PureOp.bin rfl rfl rfl) rfl rfl ?_
                refine AWo.pure (PureOp.move rfl) rfl rfl ?_
                refine AWo.nil trivial ?_
                refine thenA_normal ?_
                refine ⟨Ls.length - (i + 1), [(77000, 110000)], _, by omega, ?_, i + 1, by omega, rfl, rfl⟩
                refine Wk.of [0, 1, 2, 39000, 77000] ?_ ?_ ?_ (by decide) rfl
                ·
                  refine WkE.upd rfl (by first | exact VR.flat _ rfl | exact VR.eqv (vp_succ _) rfl | exact VR.eqv (vp_succ _).symm rfl | exact VR.eqv (by first | rfl | (congr 1; omega) | (simp; done) | (simp; omega)) rfl) ?_
                  refine WkE.upd rfl (by first | exact VR.flat _ rfl | exact VR.eqv (vp_succ _) rfl | exact VR.eqv (vp_succ _).symm rfl | exact VR.eqv (by first | rfl | (congr 1; omega) | (simp; done) | (simp; omega)) rfl) ?_
                  refine WkE.upd rfl (.slice (39000) 0 _ 0 ⟨_, rfl⟩ (by simp) (by simp)) ?_
                  refine WkE.upd rfl (by first | exact .nilS _ (by simp) | exact .slice (77000) 0 _ 0 ⟨_, rfl⟩ (by simp) (by simp)) ?_
                  refine WkE.upd rfl (.slice (39000) 0 _ 0 ⟨_, rfl⟩ (by simp) (by simp)) ?_
                  exact WkE.emp
                ·
                  refine WkM.flat rfl (flatM flat_vi) (fun h => h) ?_
                  refine WkM.flat rfl (flatM flat_vi) (fun h => h) ?_
                  refine WkM.flat rfl (flatM flat_vi) (fun h => h) ?_
                  refine WkM.cloM rfl rfl (fun _ => rfl) (fun h => h) ?_
                  refine WkM.cloM rfl rfl (fun _ => rfl) (fun h => h) ?_
                  exact WkM.emp
                ·
                  repeat (refine dom_upd_mem (by decide) ?_)
                  exact dom_emp
              ·
                obtain rfl : i = Ls.length := by simp at hb5; omega
                refine AW.exit ?_
                refine thenA_exit ?_
                refine thenA_exit ?_
                refine inBlockA_hit ?_
                refine thenA_normal ?_
                refine AW.seqR ?_
                refine AWo.pure (PureOp.move rfl) rfl rfl ?_
                refine AWo.callX (thrp_ctr (vs := ((List.range Ls.length).map (fun k => Po.ev (fp k) xs))) (n := Ls.length) (by simp) (by omega)) bd38 [(77000, 0)] [113000] rfl (.cons rfl .nil) rfl (.cons rfl rfl .nil) (.flat rfl (flatM flat_vi) (by intro h; first | exact h | rfl) .nil) rfl (.keep rfl (.new (flat_map_ren (flatM flat_vi)) (OkL.flat (flatM flat_vi)) .nil)) (frC rfl frN) (by decide) (.cons rfl rfl .nil) rfl rfl rfl rfl ?_
                refine AWo.pure (PureOp.move rfl) rfl rfl ?_
                refine AWo.callX (trimp_ctr (xs := xs) (n := Ls.length) hxl (by omega)) bd39 [(39000, 0)] [115000] rfl (.cons rfl .nil) rfl (.cons rfl rfl .nil) (.flat rfl (flatM flat_vi) (by intro h; first | exact h | rfl) .nil) rfl (.keep rfl (.new (flat_map_ren (flatM flat_vi)) (OkL.flat (flatM flat_vi)) .nil)) (frC rfl frN) (by decide) (.cons rfl rfl .nil) rfl rfl rfl rfl ?_
                refine AWo.pure (PureOp.assign rfl) rfl rfl ?_
                refine AWo.pure (PureOp.assign rfl) rfl rfl ?_
                refine AWo.nil trivial ?_
                refine AW.seq ?_
                rw [thr_vals (n := Ls.length) hxl (by omega)]
                refine AW.seqR ?_
                refine AWo.pure (PureOp.move rfl) rfl rfl ?_
                first | refine AWo.pure (PureOp.lenS tbok rfl rfl) rfl rfl ?_ | refine AWo.pure (PureOp.lenD tbok rfl rfl) rfl rfl ?_
                refine AWo.pure (PureOp.move rfl) rfl rfl ?_
                first | refine AWo.pure (PureOp.lenS tbok rfl rfl) rfl rfl ?_ | refine AWo.pure (PureOp.lenD tbok rfl rfl) rfl rfl ?_
                first | refine AWo.pure ((PureOp.neN rfl rfl).mono (v' := .bool false) (congrArg Value.bool (by simp))) rfl rfl ?_ | refine AWo.pure ((PureOp.bin rfl rfl rfl).mono (v' := .bool false) (congrArg Value.bool (by simp))) rfl rfl ?_
                refine AWo.nil trivial ?_
                refine AW.condF rfl ?_
                refine AW.skip ?_
                refine thenA_normal ?_
                refine AW.seq ?_
                refine AW.seqR ?_
                refine AWo.pure (PureOp.move rfl) rfl rfl ?_
                first | refine AWo.pure (PureOp.lenS tbok rfl rfl) rfl rfl ?_ | refine AWo.pure (PureOp.lenD tbok rfl rfl) rfl rfl ?_
                refine AWo.pure (PureOp.move rfl) rfl rfl ?_
                refine AWo.nil trivial ?_
                refine AW.block ?_
                refine AW.loopw (fun mm σ => ∃ i, (i ≤ (Po.tr xs).length) ∧ mm = (Po.tr xs).length - i ∧ σ = ⟨(upd (upd (upd (upd emp 15 (.slice (some ⟨113000, 0, none⟩) (Po.tr xs).length 0)) 16 (.slice (some ⟨115000, 0, none⟩) (Po.tr xs).length 0)) 121 (vi .i64 (Po.tr xs).length)) 122 (vi .i64 i)), (upd (upd (upd (upd (upd (upd emp 0 ⟨Ls.map db, false, 1⟩) 1 ⟨Ks.map db, false, 1⟩) 2 ⟨c.map (vi .u8), false, 1⟩) 39000 ⟨((xs.map fe).flatten).map (vi .u64), true, 4⟩) 113000 ⟨(((Po.tr xs).map fe).flatten).map (vi .u64), true, 4⟩) 115000 ⟨(((Po.tr xs).map fe).flatten).map (vi .u64), true, 4⟩)⟩) (fm := []) ?_ ⟨0, Nat.zero_le _, rfl, rfl⟩ ?_
                ·
                  refine Wk.of [0, 1, 2, 39000, 113000, 115000] ?_ ?_ ?_ (by decide) rfl
                  ·
                    refine WkE.upd rfl (by first | exact VR.flat _ rfl | exact VR.eqv (vp_succ _) rfl | exact VR.eqv (vp_succ _).symm rfl | exact VR.eqv (by first | rfl | (congr 1; omega) | (simp; done) | (simp; omega)) rfl) ?_
                    refine WkE.upd rfl (by first | exact VR.flat _ rfl | exact VR.eqv (vp_succ _) rfl | exact VR.eqv (vp_succ _).symm rfl | exact VR.eqv (by first | rfl | (congr 1; omega) | (simp; done) | (simp; omega)) rfl) ?_
                    refine WkE.upd rfl (.slice (115000) 0 _ 0 ⟨_, rfl⟩ (by simp) (by simp)) ?_
                    refine WkE.upd rfl (.slice (113000) 0 _ 0 ⟨_, rfl⟩ (by simp) (by simp)) ?_
                    exact WkE.emp
                  ·
                    refine WkM.flat rfl (flatM flat_vi) (fun h => h) ?_
                    refine WkM.flat rfl (flatM flat_vi) (fun h => h) ?_
                    refine WkM.flat rfl (flatM flat_vi) (fun h => h) ?_
                    refine WkM.flat rfl (flatM flat_vi) (fun h => h) ?_
                    refine WkM.cloM rfl rfl (fun _ => rfl) (fun h => h) ?_
                    refine WkM.cloM rfl rfl (fun _ => rfl) (fun h => h) ?_
                    exact WkM.emp
                  ·
                    repeat (refine dom_upd_mem (by decide) ?_)
                    exact dom_emp
                ·
                  rintro mm σ ⟨i, hinv, rfl, rfl⟩
                  refine AW.seqR ?_
                  first | refine AWo.pure (PureOp.ltN rfl rfl) rfl rfl ?_ | refine AWo.pure (PureOp.bin rfl rfl rfl) rfl rfl ?_
                  refine AWo.nil trivial ?_
                  refine AW.seq ?_
                  refine AW.cond rfl (fun hb6 => ?_) (fun hb6 => ?_)
                  ·
                    have hi : i < (Po.tr xs).length := by simpa using hb6
                    refine AW.skip ?_
                    refine thenA_normal ?_
                    refine AW.seq ?_
                    refine AW.block ?_
                    refine AW.seqR ?_
                    refine AWo.pure (PureOp.move rfl) rfl rfl ?_
                    refine AWo.pure (PureOp.assign rfl) rfl rfl ?_
                    refine AWo.nil trivial ?_
                    refine AW.seqD mixed ?_
                    refine AWo.pure (PureOp.move rfl) rfl rfl ?_
                    refine AWo.pure (PureOp.move rfl) rfl rfl ?_
                    first | refine AWo.pure (PureOp.idx1 tbok rfl rfl rfl rfl (by first | decide | omega)) rfl rfl ?_ | refine AWo.pure (PureOp.idx tbok rfl rfl rfl rfl (by first | decide | omega)) rfl rfl ?_
                    refine yLJ (xs := Po.tr xs) i ?_
                    refine AWo.pure (PureOp.move rfl) rfl rfl ?_
                    refine AWo.pure (PureOp.move rfl) rfl rfl ?_
                    first | refine AWo.pure (PureOp.idx1 tbok rfl rfl rfl rfl (by first | decide | omega)) rfl rfl ?_ | refine AWo.pure (PureOp.idx tbok rfl rfl rfl rfl (by first | decide | omega)) rfl rfl ?_
                    refine yLJ (xs := Po.tr xs) i ?_
                    refine AWo.callX (v := .bool true) (equalF_ctr (x := (Po.tr xs).getD i 0) (y := (Po.tr xs).getD i 0)) bd19 [] [] rfl (.cons rfl (.cons rfl .nil)) rfl (.pure (by first | rfl | exact pure_aggM flat_vi | exact pure_aggM flat_bool) (.pure (by first | rfl | exact pure_aggM flat_vi | exact pure_aggM flat_bool) .nil)) .nil rfl .nil frN (by decide) (.cons rfl rfl .nil) (congrArg Value.bool (decide_eq_true (rfl))) rfl rfl rfl ?_
                    refine AWo.pure (PureOp.not rfl) rfl rfl ?_
                    refine AWo.nil (by kernel_rfl) ?_
                    refine AW.condF rfl ?_
                    refine AW.skip ?_
                    refine inBlockA_normal ?_
                    refine thenA_normal ?_
                    refine AW.region ?_
                    first | refine AWo.pure (PureOp.addI (b := 1) rfl rfl (by first | decide | omega)) rfl rfl ?_ | refine AWo.pure (PureOp.bin rfl rfl rfl) rfl rfl ?_
                    refine AWo.pure (PureOp.move rfl) rfl rfl ?_
                    refine AWo.nil trivial ?_
                    refine thenA_normal ?_
                    refine ⟨(Po.tr xs).length - (i + 1), [], _, by omega, ?_, i + 1, by omega, rfl, rfl⟩
                    refine Wk.of [0, 1, 2, 39000, 113000, 115000] ?_ ?_ ?_ (by decide) rfl
                    ·
                      refine WkE.upd rfl (by first | exact VR.flat _ rfl | exact VR.eqv (vp_succ _) rfl | exact VR.eqv (vp_succ _).symm rfl | exact VR.eqv (by first | rfl | (congr 1; omega) | (simp; done) | (simp; omega)) rfl) ?_
                      refine WkE.upd rfl (by first | exact VR.flat _ rfl | exact VR.eqv (vp_succ _) rfl | exact VR.eqv (vp_succ _).symm rfl | exact VR.eqv (by first | rfl | (congr 1; omega) | (simp; done) | (simp; omega)) rfl) ?_
                      refine WkE.upd rfl (.slice (115000) 0 _ 0 ⟨_, rfl⟩ (by simp) (by simp)) ?_
                      refine WkE.upd rfl (.slice (113000) 0 _ 0 ⟨_, rfl⟩ (by simp) (by simp)) ?_
                      exact WkE.emp
                    ·
                      refine WkM.flat rfl (flatM flat_vi) (fun h => h) ?_
                      refine WkM.flat rfl (flatM flat_vi) (fun h => h) ?_
                      refine WkM.flat rfl (flatM flat_vi) (fun h => h) ?_
                      refine WkM.flat rfl (flatM flat_vi) (fun h => h) ?_
                      refine WkM.cloM rfl rfl (fun _ => rfl) (fun h => h) ?_
                      refine WkM.cloM rfl rfl (fun _ => rfl) (fun h => h) ?_
                      exact WkM.emp
                    ·
                      repeat (refine dom_upd_mem (by decide) ?_)
                      exact dom_emp
                  ·
                    obtain rfl : i = (Po.tr xs).length := by simp at hb6; omega
                    refine AW.exit ?_
                    refine thenA_exit ?_
                    refine thenA_exit ?_
                    refine inBlockA_hit ?_
                    refine thenA_normal ?_
                    refine AW.seqR ?_
                    refine AWo.pure (PureOp.assign rfl) rfl rfl ?_
                    refine AWo.nil trivial ?_
                    refine AW.ret ?_
                    refine RetQ.gc [_] [] [.tmp 6] (.inl rfl) rfl (.tmp rfl .nil) rfl (.cons rfl rfl .nil) (OutL.clo rfl (cloM fun _ => rfl) (by intro h; exact h.elim id fun h => absurd h.1 (by simp)) (OutL.clo rfl (cloM fun _ => rfl) (by intro h; exact h.elim id fun h => absurd h.1 (by simp)) (OutL.flat rfl (flatM flat_vi) (by intro h; exact h.elim id fun h => absurd h.1 (by simp)) trivial))) (by decide) rfl
        ·
          have hz0 : Po.dg (Po.pm xs ys) = 0 := Nat.le_zero.1 (dg_bound fun i _ => Po.pm_zero ys (Po.dg_zero (by have := of_decide_eq_false hb3; omega)) i)
          refine AWo.skipped rfl rfl ?_
          refine AWo.skipped rfl rfl ?_
          refine AWo.skipped rfl rfl ?_
          refine AWo.pure (PureOp.pickF rfl rfl) rfl rfl ?_
          refine AWo.nil trivial ?_
          refine AW.joinT (fun σ => ∃ dd, (dd = Po.dg (Po.pm xs ys)) ∧ σ = ⟨(upd (upd (upd emp 7 (.slice (some ⟨39000, 0, none⟩) Ls.length 0)) 9 (.slice (some ⟨44000, 0, none⟩) Ks.length 0)) 12 (vp dd)), (upd (upd (upd (upd (upd emp 0 ⟨Ls.map db, false, 1⟩) 1 ⟨Ks.map db, false, 1⟩) 2 ⟨c.map (vi .u8), false, 1⟩) 39000 ⟨((xs.map fe).flatten).map (vi .u64), true, 4⟩) 44000 ⟨((ys.map fe).flatten).map (vi .u64), true, 4⟩)⟩) ?_ ?_
          ·
            refine AW.condF rfl ?_
            refine AW.skip ?_
            refine thenA_normal ?_
            refine ⟨[], _, ?_, ⟨Po.dg (Po.pm xs ys), rfl, rfl⟩⟩
            refine Wk.of [0, 1, 2, 39000, 44000] ?_ ?_ ?_ (by decide) rfl
            ·
              refine WkE.upd rfl (by first | exact VR.flat _ rfl | exact VR.eqv (by rw [hz0]; rfl) rfl) ?_
              refine WkE.upd rfl (.slice (44000) 0 _ 0 ⟨_, rfl⟩ (by simp) (by simp)) ?_
              refine WkE.upd rfl (.slice (39000) 0 _ 0 ⟨_, rfl⟩ (by simp) (by simp)) ?_
              exact WkE.emp
            ·
              refine WkM.flat rfl (flatM flat_vi) (fun h => h) ?_
              refine WkM.flat rfl (flatM flat_vi) (fun h => h) ?_
              refine WkM.flat rfl (flatM flat_vi) (fun h => h) ?_
              refine WkM.cloM rfl rfl (fun _ => rfl) (fun h => h) ?_
              refine WkM.cloM rfl rfl (fun _ => rfl) (fun h => h) ?_
              exact WkM.emp
            ·
              repeat (refine dom_upd_mem (by decide) ?_)
              exact dom_emp
          ·
            rintro σ ⟨dd, hdd, rfl⟩
            subst hdd
            refine AW.seq ?_
            refine AW.seqR ?_
            refine AWo.pure (PureOp.move rfl) rfl rfl ?_
            refine AWo.pure (PureOp.move rfl) rfl rfl ?_
            refine AWo.callX (mulp_ctr (xs := xs) (ys := ys) (n := Ls.length) (k := Ks.length) hxl hyl (by omega) (by omega)) bd34 [(39000, 0), (44000, 0)] [94000] rfl (.cons rfl (.cons rfl .nil)) rfl (.cons rfl rfl (.cons rfl rfl .nil)) (.flat rfl (flatM flat_vi) (by intro h; first | exact h | rfl) (.flat rfl (flatM flat_vi) (by intro h; first | exact h | rfl) .nil)) rfl (.keep rfl (.keep rfl (.new (flat_map_ren (flatM flat_vi)) (OkL.flat (flatM flat_vi)) .nil))) (frC rfl frN) (by decide) (.cons rfl rfl .nil) rfl rfl rfl rfl ?_
            refine AWo.callX (v := vp (Po.dg (Po.pm xs ys))) (degreep_ctr (xs := (Po.tr (Po.pm xs ys))) (n := (Po.tr (Po.pm xs ys)).length) rfl (by omega)) bd36 [(94000, 0)] [] rfl (.cons rfl .nil) rfl (.cons rfl rfl .nil) (.flat rfl (flatM flat_vi) (by intro h; first | exact h | rfl) .nil) rfl (.keep rfl .nil) frN (by decide) (.cons rfl rfl .nil) (by rw [Po.dg_tr]; rfl) rfl rfl rfl ?_
            refine AWo.pure (PureOp.move rfl) rfl rfl ?_
            first | refine AWo.pure ((PureOp.neN rfl rfl).mono (v' := .bool false) (congrArg Value.bool (by simp))) rfl rfl ?_ | refine AWo.pure ((PureOp.bin rfl rfl rfl).mono (v' := .bool false) (congrArg Value.bool (by simp))) rfl rfl ?_
            refine AWo.nil trivial ?_
            refine AW.condF rfl ?_
            refine AW.skip ?_
            refine thenA_normal ?_
            refine AW.seqR ?_
            refine AWo.pure (PureOp.assign rfl) rfl rfl ?_
            refine AWo.nil trivial ?_
            refine AW.seq ?_
            refine AW.seqR ?_
            refine AWo.pure (PureOp.move rfl) rfl rfl ?_
            first | refine AWo.pure (PureOp.lenS tbok rfl rfl) rfl rfl ?_ | refine AWo.pure (PureOp.lenD tbok rfl rfl) rfl rfl ?_
            refine AWo.pure (PureOp.move rfl) rfl rfl ?_
            refine AWo.nil trivial ?_
            refine AW.block ?_
            refine AW.ghost 77000 4 rfl ?_
            refine AW.loopw (fun mm σ => ∃ i, (i ≤ Ls.length) ∧ mm = Ls.length - i ∧ σ = ⟨(upd (upd (upd (upd (upd emp 7 (.slice (some ⟨39000, 0, none⟩) Ls.length 0)) 13 (.slice (some ⟨77000, 0, none⟩) i 0)) 97 (.slice (some ⟨39000, 0, none⟩) Ls.length 0)) 98 (vi .i64 Ls.length)) 99 (vi .i64 i)), (upd (upd (upd (upd (upd emp 0 ⟨Ls.map db, false, 1⟩) 1 ⟨Ks.map db, false, 1⟩) 2 ⟨c.map (vi .u8), false, 1⟩) 39000 ⟨((xs.map fe).flatten).map (vi .u64), true, 4⟩) 77000 ⟨((((List.range i).map (fun k => Po.ev (fp k) xs)).map fe).flatten).map (vi .u64), true, 4⟩)⟩) (fm := []) ?_ ⟨0, Nat.zero_le _, rfl, rfl⟩ ?_
            ·
              refine Wk.of [0, 1, 2, 39000, 77000] ?_ ?_ ?_ (by decide) rfl
              ·
                refine WkE.upd rfl (by first | exact VR.flat _ rfl | exact VR.eqv (vp_succ _) rfl | exact VR.eqv (vp_succ _).symm rfl | exact VR.eqv (by first | rfl | (congr 1; omega) | (simp; done) | (simp; omega)) rfl) ?_
                refine WkE.upd rfl (by first | exact VR.flat _ rfl | exact VR.eqv (vp_succ _) rfl | exact VR.eqv (vp_succ _).symm rfl | exact VR.eqv (by first | rfl | (congr 1; omega) | (simp; done) | (simp; omega)) rfl) ?_
                refine WkE.upd rfl (.slice (39000) 0 _ 0 ⟨_, rfl⟩ (by simp) (by simp)) ?_
                refine WkE.upd rfl (by first | exact .nilS _ (by simp) | exact .slice (77000) 0 _ 0 ⟨_, rfl⟩ (by simp) (by simp)) ?_
                refine WkE.upd rfl (.slice (39000) 0 _ 0 ⟨_, rfl⟩ (by simp) (by simp)) ?_
                exact WkE.emp
              ·
                refine WkM.flat rfl (flatM flat_vi) (fun h => h) ?_
                refine WkM.flat rfl (flatM flat_vi) (fun h => h) ?_
                refine WkM.flat rfl (flatM flat_vi) (fun h => h) ?_
                refine WkM.cloM rfl rfl (fun _ => rfl) (fun h => h) ?_
                refine WkM.cloM rfl rfl (fun _ => rfl) (fun h => h) ?_
                exact WkM.emp
              ·
                repeat (refine dom_upd_mem (by decide) ?_)
                exact dom_emp
            ·
              rintro mm σ ⟨i, hinv, rfl, rfl⟩
              refine AW.seqR ?_
              first | refine AWo.pure (PureOp.ltN rfl rfl) rfl rfl ?_ | refine AWo.pure (PureOp.bin rfl rfl rfl) rfl rfl ?_
              refine AWo.nil trivial ?_
              refine AW.seq ?_
              refine AW.cond rfl (fun hb7 => ?_) (fun hb7 => ?_)
              ·
                have hi : i < Ls.length := by simpa using hb7
                refine AW.skip ?_
                refine thenA_normal ?_
                refine AW.seq ?_
                refine AW.block ?_
                refine AW.seqR ?_
                refine AWo.pure (PureOp.move rfl) rfl rfl ?_
                refine AWo.pure (PureOp.assign rfl) rfl rfl ?_
                refine AWo.nil trivial ?_
                refine AW.region ?_
                refine AWo.pure (PureOp.move rfl) rfl rfl ?_
                refine AWo.pure (PureOp.move rfl) rfl rfl ?_
                refine AWo.pure (PureOp.move rfl) rfl rfl ?_
                first | refine AWo.pure (PureOp.cvtN tbok 18446744073709551616 rfl rfl rfl (by decide) (by decide) (by first | decide | omega)) rfl rfl ?_ | refine AWo.pure (PureOp.cvtU tbok 18446744073709551616 rfl rfl rfl rfl rfl) rfl rfl ?_ | refine AWo.pure (PureOp.cvt tbok rfl rfl rfl) rfl rfl ?_
                refine AWo.callX (fromuF_ctr (v := i) (by omega)) bd37 [] [] rfl (.cons rfl .nil) rfl (.cons rfl rfl .nil) .nil rfl .nil frN (by decide) (.pure (by first | rfl | exact pure_aggM flat_vi | exact pure_aggM flat_bool) .nil) rfl rfl rfl rfl ?_
                refine AWo.callX (evalp_ctr (xs := xs) (n := Ls.length) (x := (fp i)) hxl (by omega)) bd32 [(39000, 0)] [] rfl (.cons rfl (.cons rfl .nil)) rfl (.cons rfl rfl (.pure (by first | rfl | exact pure_aggM flat_vi | exact pure_aggM flat_bool) .nil)) (.flat rfl (flatM flat_vi) (by intro h; first | exact h | rfl) .nil) rfl (.keep rfl .nil) frN (by decide) (.pure (by first | rfl | exact pure_aggM flat_vi | exact pure_aggM flat_bool) .nil) rfl rfl rfl rfl ?_
                refine AWo.buildSlice tbok 109000 [(0, .agg ((fe (Po.ev (fp i) xs)).map (vi .u64)).toArray)] (out := [fe (Po.ev (fp i) xs)].flatten.map (vi .u64)) rfl rfl (by decide) rfl rfl rfl (by decide) rfl (fillB1 (fe_len _)) rfl rfl rfl ?_
                refine AWo.append tbok (all := ((((List.range (i + 1)).map (fun k => Po.ev (fp k) xs)).map fe).flatten).map (vi .u64)) (news := [fe (Po.ev (fp i) xs)].flatten.map (vi .u64)) 110000 rfl rfl rfl rfl (by show (FF _).length = _; rw [FF_len, List.length_map, List.length_range]) (by show List.take _ (List.drop 0 _) = _; rw [List.drop_zero]; exact List.take_of_length_le (by simp)) (by simp; done) (by decide) rfl rfl rfl (by first | decide | exact Nat.one_ne_zero) rfl rfl rfl (by first | decide | omega) (by first | decide | omega) (by first | exact oneM (fun _ => rfl) _ | (simp; done)) (by show FF _ ++ FF [_] = FF _; rw [← FF_app, List.range_succ, List.map_append]; rfl) rfl rfl ?_
                refine AWo.pure (PureOp.assign rfl) rfl rfl ?_
                refine AWo.nil trivial ?_
                refine inBlockA_normal ?_
                refine thenA_normal ?_
                refine AW.region ?_
                first | refine AWo.pure (PureOp.addI (b := 1) rfl rfl (by first | decide | omega)) rfl rfl ?_ | refine AWo.pure (PureOp.bin rfl rfl rfl) rfl rfl ?_
                refine AWo.pure (PureOp.move rfl) rfl rfl ?_
                refine AWo.nil trivial ?_
                refine thenA_normal ?_
                refine ⟨Ls.length - (i + 1), [(77000, 110000)], _, by omega, ?_, i + 1, by omega, rfl, rfl⟩
                refine Wk.of [0, 1, 2, 39000, 77000] ?_ ?_ ?_ (by decide) rfl
                ·
                  refine WkE.upd rfl (by first | exact VR.flat _ rfl | exact VR.eqv (vp_succ _) rfl | exact VR.eqv (vp_succ _).symm rfl | exact VR.eqv (by first | rfl | (congr 1; omega) | (simp; done) | (simp; omega)) rfl) ?_
                  refine WkE.upd rfl (by first | exact VR.flat _ rfl | exact VR.eqv (vp_succ _) rfl | exact VR.eqv (vp_succ _).symm rfl | exact VR.eqv (by first | rfl | (congr 1; omega) | (simp; done) | (simp; omega)) rfl) ?_
                  refine WkE.upd rfl (.slice (39000) 0 _ 0 ⟨_, rfl⟩ (by simp) (by simp)) ?_
                  refine WkE.upd rfl (by first | exact .nilS _ (by simp) | exact .slice (77000) 0 _ 0 ⟨_, rfl⟩ (by simp) (by simp)) ?_
                  refine WkE.upd rfl (.slice (39000) 0 _ 0 ⟨_, rfl⟩ (by simp) (by simp)) ?_
                  exact WkE.emp
                ·
                  refine WkM.flat rfl (flatM flat_vi) (fun h => h) ?_
                  refine WkM.flat rfl (flatM flat_vi) (fun h => h) ?_
                  refine WkM.flat rfl (flatM flat_vi) (fun h => h) ?_
                  refine WkM.cloM rfl rfl (fun _ => rfl) (fun h => h) ?_
                  refine WkM.cloM rfl rfl (fun _ => rfl) (fun h => h) ?_
                  exact WkM.emp
                ·
                  repeat (refine dom_upd_mem (by decide) ?_)
                  exact dom_emp
              ·
                obtain rfl : i = Ls.length := by simp at hb7; omega
                refine AW.exit ?_
                refine thenA_exit ?_
                refine thenA_exit ?_
                refine inBlockA_hit ?_
                refine thenA_normal ?_
                refine AW.seqR ?_
                refine AWo.pure (PureOp.move rfl) rfl rfl ?_
                refine AWo.callX (thrp_ctr (vs := ((List.range Ls.length).map (fun k => Po.ev (fp k) xs))) (n := Ls.length) (by simp) (by omega)) bd38 [(77000, 0)] [113000] rfl (.cons rfl .nil) rfl (.cons rfl rfl .nil) (.flat rfl (flatM flat_vi) (by intro h; first | exact h | rfl) .nil) rfl (.keep rfl (.new (flat_map_ren (flatM flat_vi)) (OkL.flat (flatM flat_vi)) .nil)) (frC rfl frN) (by decide) (.cons rfl rfl .nil) rfl rfl rfl rfl ?_
                refine AWo.pure (PureOp.move rfl) rfl rfl ?_
                refine AWo.callX (trimp_ctr (xs := xs) (n := Ls.length) hxl (by omega)) bd39 [(39000, 0)] [115000] rfl (.cons rfl .nil) rfl (.cons rfl rfl .nil) (.flat rfl (flatM flat_vi) (by intro h; first | exact h | rfl) .nil) rfl (.keep rfl (.new (flat_map_ren (flatM flat_vi)) (OkL.flat (flatM flat_vi)) .nil)) (frC rfl frN) (by decide) (.cons rfl rfl .nil) rfl rfl rfl rfl ?_
                refine AWo.pure (PureOp.assign rfl) rfl rfl ?_
                refine AWo.pure (PureOp.assign rfl) rfl rfl ?_
                refine AWo.nil trivial ?_
                refine AW.seq ?_
                rw [thr_vals (n := Ls.length) hxl (by omega)]
                refine AW.seqR ?_
                refine AWo.pure (PureOp.move rfl) rfl rfl ?_
                first | refine AWo.pure (PureOp.lenS tbok rfl rfl) rfl rfl ?_ | refine AWo.pure (PureOp.lenD tbok rfl rfl) rfl rfl ?_
                refine AWo.pure (PureOp.move rfl) rfl rfl ?_
                first | refine AWo.pure (PureOp.lenS tbok rfl rfl) rfl rfl ?_ | refine AWo.pure (PureOp.lenD tbok rfl rfl) rfl rfl ?_
                first | refine AWo.pure ((PureOp.neN rfl rfl).mono (v' := .bool false) (congrArg Value.bool (by simp))) rfl rfl ?_ | refine AWo.pure ((PureOp.bin rfl rfl rfl).mono (v' := .bool false) (congrArg Value.bool (by simp))) rfl rfl ?_
                refine AWo.nil trivial ?_
                refine AW.condF rfl ?_
                refine AW.skip ?_
                refine thenA_normal ?_
                refine AW.seq ?_
                refine AW.seqR ?_
                refine AWo.pure (PureOp.move rfl) rfl rfl ?_
                first | refine AWo.pure (PureOp.lenS tbok rfl rfl) rfl rfl ?_ | refine AWo.pure (PureOp.lenD tbok rfl rfl) rfl rfl ?_
                refine AWo.pure (PureOp.move rfl) rfl rfl ?_
                refine AWo.nil trivial ?_
                refine AW.block ?_
                refine AW.loopw (fun mm σ => ∃ i, (i ≤ (Po.tr xs).length) ∧ mm = (Po.tr xs).length - i ∧ σ = ⟨(upd (upd (upd (upd emp 15 (.slice (some ⟨113000, 0, none⟩) (Po.tr xs).length 0)) 16 (.slice (some ⟨115000, 0, none⟩) (Po.tr xs).length 0)) 121 (vi .i64 (Po.tr xs).length)) 122 (vi .i64 i)), (upd (upd (upd (upd (upd (upd emp 0 ⟨Ls.map db, false, 1⟩) 1 ⟨Ks.map db, false, 1⟩) 2 ⟨c.map (vi .u8), false, 1⟩) 39000 ⟨((xs.map fe).flatten).map (vi .u64), true, 4⟩) 113000 ⟨(((Po.tr xs).map fe).flatten).map (vi .u64), true, 4⟩) 115000 ⟨(((Po.tr xs).map fe).flatten).map (vi .u64), true, 4⟩)⟩) (fm := []) ?_ ⟨0, Nat.zero_le _, rfl, rfl⟩ ?_
                ·
                  refine Wk.of [0, 1, 2, 39000, 113000, 115000] ?_ ?_ ?_ (by decide) rfl
                  ·
                    refine WkE.upd rfl (by first | exact VR.flat _ rfl | exact VR.eqv (vp_succ _) rfl | exact VR.eqv (vp_succ _).symm rfl | exact VR.eqv (by first | rfl | (congr 1; omega) | (simp; done) | (simp; omega)) rfl) ?_
                    refine WkE.upd rfl (by first | exact VR.flat _ rfl | exact VR.eqv (vp_succ _) rfl | exact VR.eqv (vp_succ _).symm rfl | exact VR.eqv (by first | rfl | (congr 1; omega) | (simp; done) | (simp; omega)) rfl) ?_
                    refine WkE.upd rfl (.slice (115000) 0 _ 0 ⟨_, rfl⟩ (by simp) (by simp)) ?_
                    refine WkE.upd rfl (.slice (113000) 0 _ 0 ⟨_, rfl⟩ (by simp) (by simp)) ?_
                    exact WkE.emp
                  ·
                    refine WkM.flat rfl (flatM flat_vi) (fun h => h) ?_
                    refine WkM.flat rfl (flatM flat_vi) (fun h => h) ?_
                    refine WkM.flat rfl (flatM flat_vi) (fun h => h) ?_
                    refine WkM.flat rfl (flatM flat_vi) (fun h => h) ?_
                    refine WkM.cloM rfl rfl (fun _ => rfl) (fun h => h) ?_
                    refine WkM.cloM rfl rfl (fun _ => rfl) (fun h => h) ?_
                    exact WkM.emp
                  ·
                    repeat (refine dom_upd_mem (by decide) ?_)
                    exact dom_emp
                ·
                  rintro mm σ ⟨i, hinv, rfl, rfl⟩
                  refine AW.seqR ?_
                  first | refine AWo.pure (PureOp.ltN rfl rfl) rfl rfl ?_ | refine AWo.pure (PureOp.bin rfl rfl rfl) rfl rfl ?_
                  refine AWo.nil trivial ?_
                  refine AW.seq ?_
                  refine AW.cond rfl (fun hb8 => ?_) (fun hb8 => ?_)
                  ·
                    have hi : i < (Po.tr xs).length := by simpa using hb8
                    refine AW.skip ?_
                    refine thenA_normal ?_
                    refine AW.seq ?_
                    refine AW.block ?_
                    refine AW.seqR ?_
                    refine AWo.pure (PureOp.move rfl) rfl rfl ?_
                    refine AWo.pure (PureOp.assign rfl) rfl rfl ?_
                    refine AWo.nil trivial ?_
                    refine AW.seqD mixed ?_
                    refine AWo.pure (PureOp.move rfl) rfl rfl ?_
                    refine AWo.pure (PureOp.move rfl) rfl rfl ?_
                    first | refine AWo.pure (PureOp.idx1 tbok rfl rfl rfl rfl (by first | decide | omega)) rfl rfl ?_ | refine AWo.pure (PureOp.idx tbok rfl rfl rfl rfl (by first | decide | omega)) rfl rfl ?_
                    refine yLJ (xs := Po.tr xs) i ?_
                    refine AWo.pure (PureOp.move rfl) rfl rfl ?_
                    refine AWo.pure (PureOp.move rfl) rfl rfl ?_
                    first | refine AWo.pure (PureOp.idx1 tbok rfl rfl rfl rfl (by first | decide | omega)) rfl rfl ?_ | refine AWo.pure (PureOp.idx tbok rfl rfl rfl rfl (by first | decide | omega)) rfl rfl ?_
                    refine yLJ (xs := Po.tr xs) i ?_
                    refine AWo.callX (v := .bool true) (equalF_ctr (x := (Po.tr xs).getD i 0) (y := (Po.tr xs).getD i 0)) bd19 [] [] rfl (.cons rfl (.cons rfl .nil)) rfl (.pure (by first | rfl | exact pure_aggM flat_vi | exact pure_aggM flat_bool) (.pure (by first | rfl | exact pure_aggM flat_vi | exact pure_aggM flat_bool) .nil)) .nil rfl .nil frN (by decide) (.cons rfl rfl .nil) (congrArg Value.bool (decide_eq_true (rfl))) rfl rfl rfl ?_
                    refine AWo.pure (PureOp.not rfl) rfl rfl ?_
                    refine AWo.nil (by kernel_rfl) ?_
                    refine AW.condF rfl ?_
                    refine AW.skip ?_
                    refine inBlockA_normal ?_
                    refine thenA_normal ?_
                    refine AW.region ?_
                    first | refine AWo.pure (PureOp.addI (b := 1) rfl rfl (by first | decide | omega)) rfl rfl ?_ | refine AWo.pure (PureOp.bin rfl rfl rfl) rfl rfl ?_
                    refine AWo.pure (PureOp.move rfl) rfl rfl ?_
                    refine AWo.nil trivial ?_
                    refine thenA_normal ?_
                    refine ⟨(Po.tr xs).length - (i + 1), [], _, by omega, ?_, i + 1, by omega, rfl, rfl⟩
                    refine Wk.of [0, 1, 2, 39000, 113000, 115000] ?_ ?_ ?_ (by decide) rfl
                    ·
                      refine WkE.upd rfl (by first | exact VR.flat _ rfl | exact VR.eqv (vp_succ _) rfl | exact VR.eqv (vp_succ _).symm rfl | exact VR.eqv (by first | rfl | (congr 1; omega) | (simp; done) | (simp; omega)) rfl) ?_
                      refine WkE.upd rfl (by first | exact VR.flat _ rfl | exact VR.eqv (vp_succ _) rfl | exact VR.eqv (vp_succ _).symm rfl | exact VR.eqv (by first | rfl | (congr 1; omega) | (simp; done) | (simp; omega)) rfl) ?_
                      refine WkE.upd rfl (.slice (115000) 0 _ 0 ⟨_, rfl⟩ (by simp) (by simp)) ?_
                      refine WkE.upd rfl (.slice (113000) 0 _ 0 ⟨_, rfl⟩ (by simp) (by simp)) ?_
                      exact WkE.emp
                    ·
                      refine WkM.flat rfl (flatM flat_vi) (fun h => h) ?_
                      refine WkM.flat rfl (flatM flat_vi) (fun h => h) ?_
                      refine WkM.flat rfl (flatM flat_vi) (fun h => h) ?_
                      refine WkM.flat rfl (flatM flat_vi) (fun h => h) ?_
                      refine WkM.cloM rfl rfl (fun _ => rfl) (fun h => h) ?_
                      refine WkM.cloM rfl rfl (fun _ => rfl) (fun h => h) ?_
                      exact WkM.emp
                    ·
                      repeat (refine dom_upd_mem (by decide) ?_)
                      exact dom_emp
                  ·
                    obtain rfl : i = (Po.tr xs).length := by simp at hb8; omega
                    refine AW.exit ?_
                    refine thenA_exit ?_
                    refine thenA_exit ?_
                    refine inBlockA_hit ?_
                    refine thenA_normal ?_
                    refine AW.seqR ?_
                    refine AWo.pure (PureOp.assign rfl) rfl rfl ?_
                    refine AWo.nil trivial ?_
                    refine AW.ret ?_
                    refine RetQ.gc [_] [] [.tmp 6] (.inl rfl) rfl (.tmp rfl .nil) rfl (.cons rfl rfl .nil) (OutL.clo rfl (cloM fun _ => rfl) (by intro h; exact h.elim id fun h => absurd h.1 (by simp)) (OutL.clo rfl (cloM fun _ => rfl) (by intro h; exact h.elim id fun h => absurd h.1 (by simp)) (OutL.flat rfl (flatM flat_vi) (by intro h; exact h.elim id fun h => absurd h.1 (by simp)) trivial))) (by decide) rfl
end Go.Proofs.Yteeifahhejangaa
namespace Go.Proofs.Yteeifahhejangaa
open Go Sim
theorem dv_pos {x : Fp} (h : 0 < (D 4294967296 x.val).length) : ¬ x = 0 := fun e => by rw [e] at h; exact absurd h (by decide)
theorem dv_none {x : Fp} (h : ¬ 0 < (D 4294967296 x.val).length) : x = 0 := by
  rcases Nat.eq_zero_or_pos x.val with e | e
  · exact Fin.ext e
  · exfalso
    rw [D_pos (by decide) (by omega)] at h
    simp at h
theorem rdeg_ctr {xs : List Fp} {n : Nat} (hn : xs.length = n) (hx : n < 1000000) : GC Try.prog 66 [.slice (some ⟨0, 0, none⟩) n 0] [⟨xs.map (dv), false, 1⟩] [vp (Po.dg xs)] [⟨xs.map (dv), false, 1⟩] := by
  refine GC.intro Try.func66 rfl (by show 1 ≤ 19; decide) (by first | exact Nat.le_refl _ | decide | simp) ?_
  subst hn
  rw [← hiN_dg]
  refine AW.seqR ?_
  refine AWo.pure (PureOp.assign rfl) rfl rfl ?_
  refine AWo.nil trivial ?_
  refine AW.seqR ?_
  refine AWo.pure (PureOp.assign rfl) rfl rfl ?_
  refine AWo.nil trivial ?_
  refine AW.seq ?_
  refine AW.seqR ?_
  refine AWo.pure (PureOp.assign rfl) rfl rfl ?_
  refine AWo.nil trivial ?_
  refine AW.block ?_
  refine AW.loopw (fun mm σ => ∃ i, (i ≤ xs.length) ∧ mm = xs.length - i ∧ σ = ⟨(upd (upd (upd emp 0 (.slice (some ⟨0, 0, none⟩) xs.length 0)) 3 (vp (hiN xs i))) 4 (vi .i64 i)), (upd emp 0 ⟨xs.map dv, false, 1⟩)⟩) (fm := []) ?_ ⟨0, Nat.zero_le _, rfl, rfl⟩ ?_
  ·
    refine Wk.of [0] ?_ ?_ ?_ (by decide) rfl
    ·
      refine WkE.upd rfl (by first | exact VR.flat _ rfl | exact VR.eqv (vp_succ _) rfl | exact VR.eqv (vp_succ _).symm rfl | exact VR.eqv (by first | rfl | (congr 1; omega) | (simp; done) | (simp; omega)) rfl) ?_
      refine WkE.upd rfl (by first | exact VR.flat _ rfl | exact VR.eqv (by rw [hh]; exact vp_succ _) rfl | exact VR.eqv (by rw [hh]) rfl) ?_
      refine WkE.upd rfl (.slice (0) 0 _ 0 ⟨_, rfl⟩ (by simp) (by simp)) ?_
      exact WkE.emp
    ·
      refine WkM.cloM rfl rfl (fun _ => rfl) (fun h => h) ?_
      exact WkM.emp
    ·
      repeat (refine dom_upd_mem (by decide) ?_)
      exact dom_emp
  ·
    rintro mm σ ⟨i, hinv, rfl, rfl⟩
    refine AW.seq ?_
    refine AW.seqR ?_
    refine AWo.pure (PureOp.move rfl) rfl rfl ?_
    refine AWo.pure (PureOp.move rfl) rfl rfl ?_
    first | refine AWo.pure (PureOp.lenS tbok rfl rfl) rfl rfl ?_ | refine AWo.pure (PureOp.lenD tbok rfl rfl) rfl rfl ?_
    first | refine AWo.pure (PureOp.ltN rfl rfl) rfl rfl ?_ | refine AWo.pure (PureOp.bin rfl rfl rfl) rfl rfl ?_
    refine AWo.nil trivial ?_
    refine AW.cond rfl (fun hb0 => ?_) (fun hb0 => ?_)
    ·
      have hi : i < xs.length := by simpa using hb0
      refine AW.skip ?_
      refine thenA_normal ?_
      refine AW.seq ?_
      refine AW.block ?_
      refine AW.seqR ?_
      refine AWo.pure (PureOp.move rfl) rfl rfl ?_
      refine AWo.pure (PureOp.move rfl) rfl rfl ?_
      refine AWo.pure (PureOp.idx1 tbok (j := i) rfl rfl rfl rfl hi) rfl rfl ?_
      refine AWo.loadM tbok (f := dv) 0 rfl rfl rfl hi rfl rfl ?_
      first | refine AWo.pure (PureOp.lenS tbok rfl rfl) rfl rfl ?_ | refine AWo.pure (PureOp.lenD tbok rfl rfl) rfl rfl ?_
      first | refine AWo.pure (PureOp.gtN (b := 0) rfl rfl) rfl rfl ?_ | refine AWo.pure (PureOp.bin rfl rfl rfl) rfl rfl ?_
      refine AWo.nil trivial ?_
      refine AW.cond rfl (fun hb1 => ?_) (fun hb1 => ?_)
      ·
        have hh : hiN xs (i + 1) = i + 1 := by rw [hiN, if_neg (dv_pos (of_decide_eq_true hb1))]
        refine AW.region ?_
        refine AWo.pure (PureOp.move rfl) rfl rfl ?_
        refine AWo.pure (PureOp.assign rfl) rfl rfl ?_
        refine AWo.nil trivial ?_
        refine inBlockA_normal ?_
        refine thenA_normal ?_
        refine AW.region ?_
        refine AWo.pure (PureOp.move rfl) rfl rfl ?_
        first | refine AWo.pure (PureOp.addI (b := 1) rfl rfl (by first | decide | omega)) rfl rfl ?_ | refine AWo.pure (PureOp.bin rfl rfl rfl) rfl rfl ?_
        refine AWo.pure (PureOp.assign rfl) rfl rfl ?_
        refine AWo.nil trivial ?_
        refine thenA_normal ?_
        refine ⟨xs.length - (i + 1), [], _, by omega, ?_, i + 1, by omega, rfl, rfl⟩
        refine Wk.of [0] ?_ ?_ ?_ (by decide) rfl
        ·
          refine WkE.upd rfl (by first | exact VR.flat _ rfl | exact VR.eqv (vp_succ _) rfl | exact VR.eqv (vp_succ _).symm rfl | exact VR.eqv (by first | rfl | (congr 1; omega) | (simp; done) | (simp; omega)) rfl) ?_
          refine WkE.upd rfl (by first | exact VR.flat _ rfl | exact VR.eqv (by rw [hh]; exact vp_succ _) rfl | exact VR.eqv (by rw [hh]) rfl) ?_
          refine WkE.upd rfl (.slice (0) 0 _ 0 ⟨_, rfl⟩ (by simp) (by simp)) ?_
          exact WkE.emp
        ·
          refine WkM.cloM rfl rfl (fun _ => rfl) (fun h => h) ?_
          exact WkM.emp
        ·
          repeat (refine dom_upd_mem (by decide) ?_)
          exact dom_emp
      ·
        have hh : hiN xs (i + 1) = hiN xs i := by rw [hiN, if_pos (dv_none (of_decide_eq_false hb1))]
        refine AW.skip ?_
        refine inBlockA_normal ?_
        refine thenA_normal ?_
        refine AW.region ?_
        refine AWo.pure (PureOp.move rfl) rfl rfl ?_
        first | refine AWo.pure (PureOp.addI (b := 1) rfl rfl (by first | decide | omega)) rfl rfl ?_ | refine AWo.pure (PureOp.bin rfl rfl rfl) rfl rfl ?_
        refine AWo.pure (PureOp.assign rfl) rfl rfl ?_
        refine AWo.nil trivial ?_
        refine thenA_normal ?_
        refine ⟨xs.length - (i + 1), [], _, by omega, ?_, i + 1, by omega, rfl, rfl⟩
        refine Wk.of [0] ?_ ?_ ?_ (by decide) rfl
        ·
          refine WkE.upd rfl (by first | exact VR.flat _ rfl | exact VR.eqv (vp_succ _) rfl | exact VR.eqv (vp_succ _).symm rfl | exact VR.eqv (by first | rfl | (congr 1; omega) | (simp; done) | (simp; omega)) rfl) ?_
          refine WkE.upd rfl (by first | exact VR.flat _ rfl | exact VR.eqv (by rw [hh]; exact vp_succ _) rfl | exact VR.eqv (by rw [hh]) rfl) ?_
          refine WkE.upd rfl (.slice (0) 0 _ 0 ⟨_, rfl⟩ (by simp) (by simp)) ?_
          exact WkE.emp
        ·
          refine WkM.cloM rfl rfl (fun _ => rfl) (fun h => h) ?_
          exact WkM.emp
        ·
          repeat (refine dom_upd_mem (by decide) ?_)
          exact dom_emp
    ·
      obtain rfl : i = xs.length := by simp at hb0; omega
      refine AW.exit ?_
      refine thenA_exit ?_
      refine thenA_exit ?_
      refine inBlockA_hit ?_
      refine thenA_normal ?_
      refine AW.seqR ?_
      refine AWo.pure (PureOp.move rfl) rfl rfl ?_
      refine AWo.pure (PureOp.assign rfl) rfl rfl ?_
      refine AWo.nil trivial ?_
      refine AW.ret ?_
      refine RetQ.gc [_] [] [.tmp 2] (.inl rfl) rfl (.tmp rfl .nil) rfl (.cons rfl rfl .nil) (OutL.clo rfl (cloM fun _ => rfl) (by intro h; first | rfl | exact h.elim id fun h => absurd h.1 (by simp)) trivial) (by decide) rfl
theorem rget_ctr {xs : List Fp} {n i : Nat} (hn : xs.length = n) (hx : n < 1000000) : GC Try.prog 108 [.slice (some ⟨0, 0, none⟩) n 0, vi .i64 (i)] [⟨xs.map (dv), false, 1⟩] [dv (Po.co xs i)] [⟨xs.map (dv), false, 1⟩] := by
  refine GC.intro Try.func108 rfl (by show 2 ≤ 13; decide) (by first | exact Nat.le_refl _ | decide | simp) ?_
  subst hn
  refine AW.seqR ?_
  refine yP (PureOp.nilDeep 1) ?_
  refine AWo.nil trivial ?_
  refine AW.seq ?_
  refine AW.seqR ?_
  refine AWo.pure (PureOp.move rfl) rfl rfl ?_
  refine AWo.pure (PureOp.move rfl) rfl rfl ?_
  first | refine AWo.pure (PureOp.lenS tbok rfl rfl) rfl rfl ?_ | refine AWo.pure (PureOp.lenD tbok rfl rfl) rfl rfl ?_
  first | refine AWo.pure (PureOp.ltN rfl rfl) rfl rfl ?_ | refine AWo.pure (PureOp.bin rfl rfl rfl) rfl rfl ?_
  refine AWo.nil trivial ?_
  refine AW.cond rfl (fun hb0 => ?_) (fun hb0 => ?_)
  ·
    have hi : i < xs.length := by simpa using hb0
    refine AW.seqR ?_
    refine AWo.pure (PureOp.move rfl) rfl rfl ?_
    refine AWo.pure (PureOp.move rfl) rfl rfl ?_
    refine AWo.pure (PureOp.idx1 tbok (j := i) rfl rfl rfl rfl hi) rfl rfl ?_
    refine AWo.loadM tbok (f := dv) 0 rfl rfl rfl hi rfl rfl ?_
    refine yA ?_
    refine AWo.nil trivial ?_
    refine AW.ret ?_
    refine thenA_ret ?_
    refine RetQ.gc [_] [] [.tmp 4] (.inl rfl) rfl (.tmp rfl .nil) rfl (.cons rfl rfl .nil) (OutL.clo rfl (cloM fun _ => rfl) (by intro h; first | rfl | exact h.elim id fun h => absurd h.1 (by simp)) trivial) (by decide) rfl
  ·
    have hi : Po.co xs i = 0 := Po.co_len (by have := of_decide_eq_false hb0; omega)
    rw [hi]
    refine AW.skip ?_
    refine thenA_normal ?_
    refine AW.seqR ?_
    refine yP (PureOp.nilDeep 1) ?_
    refine AWo.nil trivial ?_
    refine AW.ret ?_
    refine RetQ.gc [_] [] [.tmp 4] (.inl rfl) rfl (.tmp rfl .nil) rfl (.cons rfl rfl .nil) (OutL.clo rfl (cloM fun _ => rfl) (by intro h; first | rfl | exact h.elim id fun h => absurd h.1 (by simp)) trivial) (by decide) rfl
end Go.Proofs.Yteeifahhejangaa
namespace Go.Proofs.Yteeifahhejangaa
open Go Sim
theorem rtrim_ctr {xs : List Fp} {n : Nat} (hn : xs.length = n) (hx : n < 1000000) : GC Try.prog 67 [.slice (some ⟨0, 0, none⟩) n 0] [⟨xs.map (dv), false, 1⟩] [.slice (some ⟨0, 0, none⟩) (Po.dg xs) 0] [⟨xs.map (dv), false, 1⟩] := by
  refine GC.intro Try.func67 rfl (by show 1 ≤ 8; decide) (by first | exact Nat.le_refl _ | decide | simp) ?_
  subst hn
  have hdl := Po.dg_le xs
  refine AW.seqR ?_
  refine AWo.pure (PureOp.assign rfl) rfl rfl ?_
  refine AWo.nil trivial ?_
  refine AW.seqR ?_
  refine AWo.pure (PureOp.move rfl) rfl rfl ?_
  refine AWo.pure (PureOp.move rfl) rfl rfl ?_
  refine AWo.callX (rdeg_ctr (xs := xs) (n := xs.length) rfl (by omega)) bd66 [(0, 0)] [] rfl (.cons rfl .nil) rfl (.cons rfl rfl .nil) (.clo rfl (cloM fun _ => rfl) (by intro h; first | exact h | rfl) .nil) rfl (.keep rfl .nil) frN (by decide) (.cons rfl rfl .nil) rfl rfl rfl rfl ?_
  refine yP (PureOp.vpSucc (r := Po.dg xs) rfl rfl (by omega)) ?_
  refine AWo.sliceS tbok rfl .none (.some rfl) rfl rfl rfl rfl (by first | decide | omega | (simp; done) | (simp; omega)) (by first | decide | omega | (simp; done) | (simp; omega)) (.inl rfl) rfl rfl rfl ?_
  refine AWo.pure (PureOp.assign rfl) rfl rfl ?_
  refine AWo.nil trivial ?_
  refine AW.ret ?_
  refine RetQ.gc [_] [] [.tmp 2] (.inl rfl) rfl (.tmp rfl .nil) rfl (.cons rfl rfl .nil) (OutL.clo rfl (cloM fun _ => rfl) (by intro h; first | rfl | exact h.elim id fun h => absurd h.1 (by simp)) trivial) (by decide) rfl
theorem radd22_ctr {xs ys : List Fp} {n k : Nat} (hn : xs.length = n) (hk : ys.length = k) (hx : n < 1000000) (hy : k < 1000000) : GC Try.prog 53 [.slice (some ⟨0, 0, none⟩) n 0, .slice (some ⟨1, 0, none⟩) k 0] [⟨xs.map (dv), false, 1⟩, ⟨ys.map (dv), false, 1⟩] [.slice (some ⟨2, 0, none⟩) (Po.dg (Po.pa xs ys)) 0] [⟨xs.map (dv), false, 1⟩, ⟨ys.map (dv), false, 1⟩, ⟨(Po.pa xs ys).map dv, true, 1⟩] := by
  refine GC.intro Try.func53 rfl (by show 2 ≤ 32; decide) (by first | exact Nat.le_refl _ | decide | simp) ?_
  subst hn
  subst hk
  have hpl : (Po.pa xs ys).length = (Nat.max xs.length ys.length) := Po.pa_len xs ys
  have hm1 := Nat.max_lt.2 ⟨hx, hy⟩
  have hm2 : (Nat.max xs.length ys.length) < 1000000 := hm1
  refine AW.seqR ?_
  refine AWo.pure (PureOp.assign rfl) rfl rfl ?_
  refine AWo.nil trivial ?_
  refine AW.seqR ?_
  refine AWo.buildSlice tbok 8000 [] (out := []) rfl rfl (by decide) rfl rfl rfl (by decide) rfl rfl rfl rfl rfl ?_
  refine AWo.pure (PureOp.assign rfl) rfl rfl ?_
  refine AWo.nil trivial ?_
  refine AW.seq ?_
  refine AW.seqR ?_
  refine AWo.pure (PureOp.assign rfl) rfl rfl ?_
  refine AWo.nil trivial ?_
  refine AW.block ?_
  refine AW.loopw (fun mm σ => ∃ i, (i ≤ (Nat.max xs.length ys.length)) ∧ mm = (Nat.max xs.length ys.length) - i ∧ σ = ⟨(upd (upd (upd (upd emp 0 (.slice (some ⟨0, 0, none⟩) xs.length 0)) 1 (.slice (some ⟨1, 0, none⟩) ys.length 0)) 5 (.slice (some ⟨77000, 0, none⟩) i 0)) 6 (vi .i64 i)), (upd (upd (upd emp 0 ⟨xs.map dv, false, 1⟩) 1 ⟨ys.map dv, false, 1⟩) 77000 ⟨((Po.pa xs ys).take i).map dv, true, 1⟩)⟩) (fm := [(77000, 8000)]) ?_ ⟨0, Nat.zero_le _, rfl, rfl⟩ ?_
  ·
    refine Wk.of [0, 1, 77000] ?_ ?_ ?_ (by decide) rfl
    ·
      refine WkE.upd rfl (by first | exact VR.flat _ rfl | exact VR.eqv (vp_succ _) rfl | exact VR.eqv (vp_succ _).symm rfl | exact VR.eqv (by first | rfl | (congr 1; omega) | (simp; done) | (simp; omega)) rfl) ?_
      refine WkE.upd rfl (by first | exact .nilS _ (by simp) | exact .slice (77000) 0 _ 0 ⟨_, rfl⟩ (by simp) (by simp)) ?_
      refine WkE.upd rfl (.slice (1) 0 _ 0 ⟨_, rfl⟩ (by simp) (by simp)) ?_
      refine WkE.upd rfl (.slice (0) 0 _ 0 ⟨_, rfl⟩ (by simp) (by simp)) ?_
      exact WkE.emp
    ·
      refine WkM.cloM rfl rfl (fun _ => rfl) (fun h => h) ?_
      refine WkM.cloM rfl rfl (fun _ => rfl) (fun h => h) ?_
      refine WkM.cloM rfl rfl (fun _ => rfl) (fun h => h) ?_
      exact WkM.emp
    ·
      repeat (refine dom_upd_mem (by decide) ?_)
      exact dom_emp
  ·
    rintro mm σ ⟨i, hinv, rfl, rfl⟩
    refine AW.seq ?_
    refine AW.seqR ?_
    refine AWo.pure (PureOp.move rfl) rfl rfl ?_
    refine AWo.pure (PureOp.move rfl) rfl rfl ?_
    first | refine AWo.pure (PureOp.lenS tbok rfl rfl) rfl rfl ?_ | refine AWo.pure (PureOp.lenD tbok rfl rfl) rfl rfl ?_
    first | refine AWo.pure (PureOp.ltN rfl rfl) rfl rfl ?_ | refine AWo.pure (PureOp.bin rfl rfl rfl) rfl rfl ?_
    first | refine AWo.pureB (PureOp.move rfl) rfl rfl (fun hb0 => ?_) (fun hb0 => ?_)
    ·
      have hi : i < (Nat.max xs.length ys.length) := Nat.lt_of_lt_of_le (of_decide_eq_true hb0) (Nat.le_max_left _ _)
      refine AWo.skipped rfl rfl ?_
      refine AWo.skipped rfl rfl ?_
      refine AWo.skipped rfl rfl ?_
      refine AWo.skipped rfl rfl ?_
      refine AWo.pure (PureOp.pickT rfl rfl) rfl rfl ?_
      refine AWo.nil trivial ?_
      refine AW.condT rfl ?_
      refine AW.skip ?_
      refine thenA_normal ?_
      refine AW.seq ?_
      refine AW.block ?_
      refine AW.region ?_
      refine AWo.pure (PureOp.move rfl) rfl rfl ?_
      refine AWo.pure (PureOp.move rfl) rfl rfl ?_
      refine AWo.pure (PureOp.move rfl) rfl rfl ?_
      refine AWo.callX (rget_ctr (xs := xs) (n := xs.length) (i := i) rfl (by omega)) bd108 [(0, 0)] [] rfl (.cons rfl (.cons rfl .nil)) rfl (.cons rfl rfl (.cons rfl rfl .nil)) (.clo rfl (cloM fun _ => rfl) (by intro h; first | exact h | rfl) .nil) rfl (.keep rfl .nil) frN (by decide) (.cons rfl rfl .nil) rfl rfl rfl rfl ?_
      refine AWo.pure (PureOp.move rfl) rfl rfl ?_
      refine AWo.pure (PureOp.move rfl) rfl rfl ?_
      refine AWo.callX (rget_ctr (xs := ys) (n := ys.length) (i := i) rfl (by omega)) bd108 [(1, 0)] [] rfl (.cons rfl (.cons rfl .nil)) rfl (.cons rfl rfl (.cons rfl rfl .nil)) (.clo rfl (cloM fun _ => rfl) (by intro h; first | exact h | rfl) .nil) rfl (.keep rfl .nil) frN (by decide) (.cons rfl rfl .nil) rfl rfl rfl rfl ?_
      refine AWo.callX (addRd (x := Po.co xs i) (y := Po.co ys i)) bd69 [] [] rfl (.cons rfl (.cons rfl .nil)) rfl (.cons rfl rfl (.cons rfl rfl .nil)) .nil rfl .nil frN (by decide) (.cons rfl rfl .nil) rfl rfl rfl rfl ?_
      refine AWo.buildSlice tbok 29000 [(0, dv (Po.co xs i + Po.co ys i))] (out := [dv (Po.co xs i + Po.co ys i)]) rfl rfl (by decide) rfl rfl rfl (by decide) rfl rfl rfl rfl rfl ?_
      refine AWo.append tbok (all := ((Po.pa xs ys).take (i + 1)).map dv) (news := [dv (Po.co xs i + Po.co ys i)]) 30000 rfl rfl rfl rfl (by simp; omega) (by show List.take _ (List.drop 0 _) = _; rw [List.drop_zero]; exact List.take_of_length_le (by simp)) (by first | decide | (simp; done) | (simp; omega)) (by decide) rfl rfl rfl (by first | decide | exact Nat.one_ne_zero) rfl rfl rfl (by first | decide | omega) (by first | decide | omega) (by rfl) (by rw [← pa_step (by omega), List.map_append]; rfl) rfl rfl ?_
      refine AWo.pure (PureOp.assign rfl) rfl rfl ?_
      refine AWo.nil trivial ?_
      refine inBlockA_normal ?_
      refine thenA_normal ?_
      refine AW.region ?_
      refine AWo.pure (PureOp.move rfl) rfl rfl ?_
      first | refine AWo.pure (PureOp.addI (b := 1) rfl rfl (by first | decide | omega)) rfl rfl ?_ | refine AWo.pure (PureOp.bin rfl rfl rfl) rfl rfl ?_
      refine AWo.pure (PureOp.assign rfl) rfl rfl ?_
      refine AWo.nil trivial ?_
      refine thenA_normal ?_
      refine ⟨(Nat.max xs.length ys.length) - (i + 1), [(77000, 30000)], _, by omega, ?_, i + 1, by omega, rfl, rfl⟩
      refine Wk.of [0, 1, 77000] ?_ ?_ ?_ (by decide) rfl
      ·
        refine WkE.upd rfl (by first | exact VR.flat _ rfl | exact VR.eqv (vp_succ _) rfl | exact VR.eqv (vp_succ _).symm rfl | exact VR.eqv (by first | rfl | (congr 1; omega) | (simp; done) | (simp; omega)) rfl) ?_
        refine WkE.upd rfl (by first | exact .nilS _ (by simp) | exact .slice (77000) 0 _ 0 ⟨_, rfl⟩ (by simp) (by simp)) ?_
        refine WkE.upd rfl (.slice (1) 0 _ 0 ⟨_, rfl⟩ (by simp) (by simp)) ?_
        refine WkE.upd rfl (.slice (0) 0 _ 0 ⟨_, rfl⟩ (by simp) (by simp)) ?_
        exact WkE.emp
      ·
        refine WkM.cloM rfl rfl (fun _ => rfl) (fun h => h) ?_
        refine WkM.cloM rfl rfl (fun _ => rfl) (fun h => h) ?_
        refine WkM.cloM rfl rfl (fun _ => rfl) (fun h => h) ?_
        exact WkM.emp
      ·
        repeat (refine dom_upd_mem (by decide) ?_)
        exact dom_emp
    ·
      have hnx := of_decide_eq_false hb0
      refine AWo.pure (PureOp.move rfl) rfl rfl ?_
      refine AWo.pure (PureOp.move rfl) rfl rfl ?_
      first | refine AWo.pure (PureOp.lenS tbok rfl rfl) rfl rfl ?_ | refine AWo.pure (PureOp.lenD tbok rfl rfl) rfl rfl ?_
      first | refine AWo.pure (PureOp.ltN rfl rfl) rfl rfl ?_ | refine AWo.pure (PureOp.bin rfl rfl rfl) rfl rfl ?_
      refine AWo.pure (PureOp.pickF rfl rfl) rfl rfl ?_
      refine AWo.nil trivial ?_
      refine AW.cond rfl (fun hb1 => ?_) (fun hb1 => ?_)
      ·
        have hi : i < (Nat.max xs.length ys.length) := Nat.lt_of_lt_of_le (of_decide_eq_true hb1) (Nat.le_max_right _ _)
        refine AW.skip ?_
        refine thenA_normal ?_
        refine AW.seq ?_
        refine AW.block ?_
        refine AW.region ?_
        refine AWo.pure (PureOp.move rfl) rfl rfl ?_
        refine AWo.pure (PureOp.move rfl) rfl rfl ?_
        refine AWo.pure (PureOp.move rfl) rfl rfl ?_
        refine AWo.callX (rget_ctr (xs := xs) (n := xs.length) (i := i) rfl (by omega)) bd108 [(0, 0)] [] rfl (.cons rfl (.cons rfl .nil)) rfl (.cons rfl rfl (.cons rfl rfl .nil)) (.clo rfl (cloM fun _ => rfl) (by intro h; first | exact h | rfl) .nil) rfl (.keep rfl .nil) frN (by decide) (.cons rfl rfl .nil) rfl rfl rfl rfl ?_
        refine AWo.pure (PureOp.move rfl) rfl rfl ?_
        refine AWo.pure (PureOp.move rfl) rfl rfl ?_
        refine AWo.callX (rget_ctr (xs := ys) (n := ys.length) (i := i) rfl (by omega)) bd108 [(1, 0)] [] rfl (.cons rfl (.cons rfl .nil)) rfl (.cons rfl rfl (.cons rfl rfl .nil)) (.clo rfl (cloM fun _ => rfl) (by intro h; first | exact h | rfl) .nil) rfl (.keep rfl .nil) frN (by decide) (.cons rfl rfl .nil) rfl rfl rfl rfl ?_
        refine AWo.callX (addRd (x := Po.co xs i) (y := Po.co ys i)) bd69 [] [] rfl (.cons rfl (.cons rfl .nil)) rfl (.cons rfl rfl (.cons rfl rfl .nil)) .nil rfl .nil frN (by decide) (.cons rfl rfl .nil) rfl rfl rfl rfl ?_
        refine AWo.buildSlice tbok 29000 [(0, dv (Po.co xs i + Po.co ys i))] (out := [dv (Po.co xs i + Po.co ys i)]) rfl rfl (by decide) rfl rfl rfl (by decide) rfl rfl rfl rfl rfl ?_
        refine AWo.append tbok (all := ((Po.pa xs ys).take (i + 1)).map dv) (news := [dv (Po.co xs i + Po.co ys i)]) 30000 rfl rfl rfl rfl (by simp; omega) (by show List.take _ (List.drop 0 _) = _; rw [List.drop_zero]; exact List.take_of_length_le (by simp)) (by first | decide | (simp; done) | (simp; omega)) (by decide) rfl rfl rfl (by first | decide | exact Nat.one_ne_zero) rfl rfl rfl (by first | decide | omega) (by first | decide | omega) (by rfl) (by rw [← pa_step (by omega), List.map_append]; rfl) rfl rfl ?_
        refine AWo.pure (PureOp.assign rfl) rfl rfl ?_
        refine AWo.nil trivial ?_
        refine inBlockA_normal ?_
        refine thenA_normal ?_
        refine AW.region ?_
        refine AWo.pure (PureOp.move rfl) rfl rfl ?_
        first | refine AWo.pure (PureOp.addI (b := 1) rfl rfl (by first | decide | omega)) rfl rfl ?_ | refine AWo.pure (PureOp.bin rfl rfl rfl) rfl rfl ?_
        refine AWo.pure (PureOp.assign rfl) rfl rfl ?_
        refine AWo.nil trivial ?_
        refine thenA_normal ?_
        refine ⟨(Nat.max xs.length ys.length) - (i + 1), [(77000, 30000)], _, by omega, ?_, i + 1, by omega, rfl, rfl⟩
        refine Wk.of [0, 1, 77000] ?_ ?_ ?_ (by decide) rfl
        ·
          refine WkE.upd rfl (by first | exact VR.flat _ rfl | exact VR.eqv (vp_succ _) rfl | exact VR.eqv (vp_succ _).symm rfl | exact VR.eqv (by first | rfl | (congr 1; omega) | (simp; done) | (simp; omega)) rfl) ?_
          refine WkE.upd rfl (by first | exact .nilS _ (by simp) | exact .slice (77000) 0 _ 0 ⟨_, rfl⟩ (by simp) (by simp)) ?_
          refine WkE.upd rfl (.slice (1) 0 _ 0 ⟨_, rfl⟩ (by simp) (by simp)) ?_
          refine WkE.upd rfl (.slice (0) 0 _ 0 ⟨_, rfl⟩ (by simp) (by simp)) ?_
          exact WkE.emp
        ·
          refine WkM.cloM rfl rfl (fun _ => rfl) (fun h => h) ?_
          refine WkM.cloM rfl rfl (fun _ => rfl) (fun h => h) ?_
          refine WkM.cloM rfl rfl (fun _ => rfl) (fun h => h) ?_
          exact WkM.emp
        ·
          repeat (refine dom_upd_mem (by decide) ?_)
          exact dom_emp
      ·
        have hny := of_decide_eq_false hb1
        have hle : (Nat.max xs.length ys.length) ≤ i := Nat.max_le.2 ⟨by omega, by omega⟩
        obtain rfl : i = (Nat.max xs.length ys.length) := by omega
        simp only [List.take_of_length_le (show (Po.pa xs ys).length ≤ (Nat.max xs.length ys.length) by omega)]
        refine AW.exit ?_
        refine thenA_exit ?_
        refine thenA_exit ?_
        refine inBlockA_hit ?_
        refine thenA_normal ?_
        refine AW.seqR ?_
        refine AWo.pure (PureOp.move rfl) rfl rfl ?_
        refine AWo.callX (rtrim_ctr (xs := Po.pa xs ys) (n := (Nat.max xs.length ys.length)) hpl (by omega)) bd67 [(77000, 0)] [] rfl (.cons rfl .nil) rfl (.cons rfl rfl .nil) (.clo rfl (cloM fun _ => rfl) (by intro h; first | exact h | rfl) .nil) rfl (.keep rfl .nil) frN (by decide) (.cons rfl rfl .nil) rfl rfl rfl rfl ?_
        refine AWo.pure (PureOp.assign rfl) rfl rfl ?_
        refine AWo.nil trivial ?_
        refine AW.ret ?_
        refine RetQ.gc [_] [77000] [.tmp 4] (.inl rfl) rfl (.tmp rfl .nil) rfl (.cons rfl rfl .nil) (OutL.clo rfl (cloM fun _ => rfl) (by intro h; first | rfl | exact h.elim id fun h => absurd h.1 (by simp)) (OutL.clo rfl (cloM fun _ => rfl) (by intro h; first | rfl | exact h.elim id fun h => absurd h.1 (by simp)) (OutL.clo rfl (cloM fun _ => rfl) (by intro h; first | rfl | exact h.elim id fun h => absurd h.1 (by simp)) trivial))) (by decide) rfl
end Go.Proofs.Yteeifahhejangaa
namespace Go.Proofs.Yteeifahhejangaa
open Go Sim
theorem are_get {xs zs : List Fp} {i : Nat} (hz : zs.take xs.length = xs) (hi : i < xs.length) : zs.getD i 0 = xs.getD i 0 := by
  have h := congrArg (fun l => l.getD i 0) hz
  simp only [List.getD_eq_getElem?_getD] at h ⊢
  rw [List.getElem?_take, if_pos hi] at h
  exact h
theorem are_ctr {xs zs : List Fp} {n m : Nat} (hn : xs.length = n) (hm : xs.length = m) (hz : zs.take xs.length = xs) (hx : n < 1000000) : GC Try.prog 26 [.slice (some ⟨0, 0, none⟩) n 0, .slice (some ⟨1, 0, none⟩) m 0] [⟨((xs.map fe).flatten).map (vi .u64), false, 4⟩, ⟨zs.map (dv), false, 1⟩] [.bool true] [⟨((xs.map fe).flatten).map (vi .u64), false, 4⟩, ⟨zs.map (dv), false, 1⟩] := by
  refine GC.intro Try.func26 rfl (by show 2 ≤ 27; decide) (by first | exact Nat.le_refl _ | decide | simp) ?_
  subst hn
  subst hm
  refine AW.seqR ?_
  refine AWo.pure (PureOp.assign rfl) rfl rfl ?_
  refine AWo.nil trivial ?_
  refine AW.seq ?_
  refine AW.seqR ?_
  refine AWo.pure (PureOp.move rfl) rfl rfl ?_
  first | refine AWo.pure (PureOp.lenS tbok rfl rfl) rfl rfl ?_ | refine AWo.pure (PureOp.lenD tbok rfl rfl) rfl rfl ?_
  refine AWo.pure (PureOp.move rfl) rfl rfl ?_
  first | refine AWo.pure (PureOp.lenS tbok rfl rfl) rfl rfl ?_ | refine AWo.pure (PureOp.lenD tbok rfl rfl) rfl rfl ?_
  first | refine AWo.pure ((PureOp.neN rfl rfl).mono (v' := .bool false) (congrArg Value.bool (by simp))) rfl rfl ?_ | refine AWo.pure ((PureOp.bin rfl rfl rfl).mono (v' := .bool false) (congrArg Value.bool (by simp))) rfl rfl ?_
  refine AWo.nil trivial ?_
  refine AW.condF rfl ?_
  refine AW.skip ?_
  refine thenA_normal ?_
  refine AW.seq ?_
  refine AW.seqR ?_
  refine AWo.pure (PureOp.move rfl) rfl rfl ?_
  first | refine AWo.pure (PureOp.lenS tbok rfl rfl) rfl rfl ?_ | refine AWo.pure (PureOp.lenD tbok rfl rfl) rfl rfl ?_
  refine AWo.pure (PureOp.move rfl) rfl rfl ?_
  refine AWo.nil trivial ?_
  refine AW.block ?_
  refine AW.loopw (fun mm σ => ∃ i, (i ≤ xs.length) ∧ mm = xs.length - i ∧ σ = ⟨(upd (upd (upd (upd emp 0 (.slice (some ⟨0, 0, none⟩) xs.length 0)) 1 (.slice (some ⟨1, 0, none⟩) xs.length 0)) 12 (vi .i64 xs.length)) 13 (vi .i64 i)), (upd (upd emp 0 ⟨((xs.map fe).flatten).map (vi .u64), false, 4⟩) 1 ⟨zs.map dv, false, 1⟩)⟩) (fm := []) ?_ ⟨0, Nat.zero_le _, rfl, rfl⟩ ?_
  ·
    refine Wk.of [0, 1] ?_ ?_ ?_ (by decide) rfl
    ·
      refine WkE.upd rfl (by first | exact VR.flat _ rfl | exact VR.eqv (vp_succ _) rfl | exact VR.eqv (vp_succ _).symm rfl | exact VR.eqv (by first | rfl | (congr 1; omega) | (simp; done) | (simp; omega)) rfl) ?_
      refine WkE.upd rfl (by first | exact VR.flat _ rfl | exact VR.eqv (vp_succ _) rfl | exact VR.eqv (vp_succ _).symm rfl | exact VR.eqv (by first | rfl | (congr 1; omega) | (simp; done) | (simp; omega)) rfl) ?_
      refine WkE.upd rfl (.slice (1) 0 _ 0 ⟨_, rfl⟩ (by simp) (by simp)) ?_
      refine WkE.upd rfl (.slice (0) 0 _ 0 ⟨_, rfl⟩ (by simp) (by simp)) ?_
      exact WkE.emp
    ·
      refine WkM.cloM rfl rfl (fun _ => rfl) (fun h => h) ?_
      refine WkM.flat rfl (flatM flat_vi) (fun h => h) ?_
      exact WkM.emp
    ·
      repeat (refine dom_upd_mem (by decide) ?_)
      exact dom_emp
  ·
    rintro mm σ ⟨i, hinv, rfl, rfl⟩
    refine AW.seqR ?_
    first | refine AWo.pure (PureOp.ltN rfl rfl) rfl rfl ?_ | refine AWo.pure (PureOp.bin rfl rfl rfl) rfl rfl ?_
    refine AWo.nil trivial ?_
    refine AW.seq ?_
    refine AW.cond rfl (fun hb0 => ?_) (fun hb0 => ?_)
    ·
      have hi : i < xs.length := by simpa using hb0
      refine AW.skip ?_
      refine thenA_normal ?_
      refine AW.seq ?_
      refine AW.block ?_
      refine AW.seqR ?_
      refine AWo.pure (PureOp.move rfl) rfl rfl ?_
      refine AWo.pure (PureOp.assign rfl) rfl rfl ?_
      refine AWo.nil trivial ?_
      refine AW.seqD mixed ?_
      refine AWo.pure (PureOp.move rfl) rfl rfl ?_
      refine AWo.pure (PureOp.move rfl) rfl rfl ?_
      first | refine AWo.pure (PureOp.idx1 tbok rfl rfl rfl rfl (by first | decide | omega)) rfl rfl ?_ | refine AWo.pure (PureOp.idx tbok rfl rfl rfl rfl (by first | decide | omega)) rfl rfl ?_
      refine yLJ (xs := xs) i ?_
      refine AWo.pure (PureOp.move rfl) rfl rfl ?_
      refine AWo.pure (PureOp.move rfl) rfl rfl ?_
      refine AWo.pure (PureOp.idx1 tbok (j := i) rfl rfl rfl rfl hi) rfl rfl ?_
      refine AWo.loadM tbok (f := dv) 0 rfl rfl rfl (by rw [← hz] at hi; rw [List.length_take] at hi; omega) rfl rfl ?_
      rw [show zs.getD i 0 = xs.getD i 0 from are_get hz hi]
      refine AWo.callX (isFd (x := xs.getD i 0)) bd22 [] [] rfl (.cons rfl (.cons rfl .nil)) rfl (.pure (by first | rfl | exact pure_aggM flat_vi | exact pure_aggM flat_bool) (.cons rfl rfl .nil)) .nil rfl .nil frN (by decide) (.cons rfl rfl .nil) rfl rfl rfl rfl ?_
      refine AWo.pure (PureOp.not rfl) rfl rfl ?_
      refine AWo.nil (by kernel_rfl) ?_
      refine AW.condF rfl ?_
      refine AW.skip ?_
      refine inBlockA_normal ?_
      refine thenA_normal ?_
      refine AW.region ?_
      first | refine AWo.pure (PureOp.addI (b := 1) rfl rfl (by first | decide | omega)) rfl rfl ?_ | refine AWo.pure (PureOp.bin rfl rfl rfl) rfl rfl ?_
      refine AWo.pure (PureOp.move rfl) rfl rfl ?_
      refine AWo.nil trivial ?_
      refine thenA_normal ?_
      refine ⟨xs.length - (i + 1), [], _, by omega, ?_, i + 1, by omega, rfl, rfl⟩
      refine Wk.of [0, 1] ?_ ?_ ?_ (by decide) rfl
      ·
        refine WkE.upd rfl (by first | exact VR.flat _ rfl | exact VR.eqv (vp_succ _) rfl | exact VR.eqv (vp_succ _).symm rfl | exact VR.eqv (by first | rfl | (congr 1; omega) | (simp; done) | (simp; omega)) rfl) ?_
        refine WkE.upd rfl (by first | exact VR.flat _ rfl | exact VR.eqv (vp_succ _) rfl | exact VR.eqv (vp_succ _).symm rfl | exact VR.eqv (by first | rfl | (congr 1; omega) | (simp; done) | (simp; omega)) rfl) ?_
        refine WkE.upd rfl (.slice (1) 0 _ 0 ⟨_, rfl⟩ (by simp) (by simp)) ?_
        refine WkE.upd rfl (.slice (0) 0 _ 0 ⟨_, rfl⟩ (by simp) (by simp)) ?_
        exact WkE.emp
      ·
        refine WkM.cloM rfl rfl (fun _ => rfl) (fun h => h) ?_
        refine WkM.flat rfl (flatM flat_vi) (fun h => h) ?_
        exact WkM.emp
      ·
        repeat (refine dom_upd_mem (by decide) ?_)
        exact dom_emp
    ·
      obtain rfl : i = xs.length := by simp at hb0; omega
      refine AW.exit ?_
      refine thenA_exit ?_
      refine thenA_exit ?_
      refine inBlockA_hit ?_
      refine thenA_normal ?_
      refine AW.seqR ?_
      refine AWo.pure (PureOp.assign rfl) rfl rfl ?_
      refine AWo.nil trivial ?_
      refine AW.ret ?_
      refine RetQ.gc [_] [] [.tmp 4] (.inl rfl) rfl (.tmp rfl .nil) rfl (.cons rfl rfl .nil) (OutL.flat rfl (flatM flat_vi) (by intro h; first | rfl | exact h.elim id fun h => absurd h.1 (by simp)) (OutL.clo rfl (cloM fun _ => rfl) (by intro h; first | rfl | exact h.elim id fun h => absurd h.1 (by simp)) trivial)) (by decide) rfl
end Go.Proofs.Yteeifahhejangaa
namespace Go.Proofs.Yteeifahhejangaa
open Go Sim
theorem sum0 {xs ys : List Fp} {k : Nat} : deep 0 1 ([] : List Value) = dv (Po.co (Po.pm (xs.take 0) ys) k) := by
  rw [List.take_zero, Po.pm, Po.co_nil]; rfl
theorem sum_step {xs ys : List Fp} {k i : Nat} (hi : i < xs.length) (hik : i ≤ k) : Po.co (Po.pm (xs.take (i + 1)) ys) k = Po.co (Po.pm (xs.take i) ys) k + xs.getD i 0 * Po.co ys (k - i) := by
  rw [List.take_succ_eq_append_getElem hi, co_snoc, List.length_take, Nat.min_eq_left (by omega), if_pos hik, List.getD_eq_getElem?_getD, List.getElem?_eq_getElem hi]; rfl
theorem sum_more {xs ys : List Fp} {k i : Nat} (h : k < i) : ∀ d, i + d ≤ xs.length → Po.co (Po.pm (xs.take (i + d)) ys) k = Po.co (Po.pm (xs.take i) ys) k
  | 0, _ => rfl
  | d + 1, hd => by
    rw [← Nat.add_assoc, List.take_succ_eq_append_getElem (show i + d < xs.length by omega), co_snoc, List.length_take, Nat.min_eq_left (by omega), if_neg (by omega), Rg.add_zero, sum_more h d (by omega)]
theorem sum_end {xs ys : List Fp} {k i : Nat} (h : (k < i) ∨ xs.length ≤ i) : Po.co (Po.pm (xs.take i) ys) k = Po.co (Po.pm xs ys) k := by
  by_cases h1 : xs.length ≤ i
  · rw [List.take_of_length_le h1]
  · have := sum_more (xs := xs) (ys := ys) (k := k) (i := i) (by omega) (xs.length - i) (by omega)
    rw [show i + (xs.length - i) = xs.length by omega, List.take_length] at this
    exact this.symm
theorem co_pad (xs ys : List Fp) (i : Nat) : Po.co ((List.range (xs.length + ys.length)).map (Po.co (Po.pm xs ys))) i = Po.co (Po.pm xs ys) i := by
  by_cases h : i < xs.length + ys.length
  · rw [Po.co_lt (by simpa using h)]; simp
  · rw [Po.co_len (by simp; omega), Po.co_len (Nat.le_trans (Po.pm_len xs ys) (by omega))]
theorem dg_pad (xs ys : List Fp) : Po.dg ((List.range (xs.length + ys.length)).map (Po.co (Po.pm xs ys))) = Po.dg (Po.pm xs ys) := Po.dg_congr (co_pad xs ys)
theorem rmul22_ctr {xs ys : List Fp} {n m : Nat} (hn : xs.length = n) (hk : ys.length = m) (hx : n < 100000) (hy : m < 100000) : GC Try.prog 54 [.slice (some ⟨0, 0, none⟩) n 0, .slice (some ⟨1, 0, none⟩) m 0] [⟨xs.map (dv), false, 1⟩, ⟨ys.map (dv), false, 1⟩] [.slice (some ⟨2, 0, none⟩) (Po.dg (Po.pm xs ys)) 0] [⟨xs.map (dv), false, 1⟩, ⟨ys.map (dv), false, 1⟩, ⟨((List.range (xs.length + ys.length)).map (Po.co (Po.pm xs ys))).map dv, true, 1⟩] := by
  refine GC.intro Try.func54 rfl (by show 2 ≤ 49; decide) (by first | exact Nat.le_refl _ | decide | simp) ?_
  subst hn
  subst hk
  refine AW.seqR ?_
  refine AWo.pure (PureOp.assign rfl) rfl rfl ?_
  refine AWo.nil trivial ?_
  refine AW.seqR ?_
  refine AWo.buildSlice tbok 10000 [] (out := []) rfl rfl (by decide) rfl rfl rfl (by decide) rfl rfl rfl rfl rfl ?_
  refine AWo.pure (PureOp.assign rfl) rfl rfl ?_
  refine AWo.nil trivial ?_
  refine AW.seq ?_
  refine AW.seqR ?_
  refine AWo.pure (PureOp.assign rfl) rfl rfl ?_
  refine AWo.nil trivial ?_
  refine AW.block ?_
  refine AW.loopw (fun mm σ => ∃ k, (k ≤ (xs.length + ys.length)) ∧ mm = (xs.length + ys.length) - k ∧ σ = ⟨(upd (upd (upd (upd emp 0 (.slice (some ⟨0, 0, none⟩) xs.length 0)) 1 (.slice (some ⟨1, 0, none⟩) ys.length 0)) 5 (.slice (some ⟨77000, 0, none⟩) k 0)) 6 (vi .i64 k)), (upd (upd (upd emp 0 ⟨xs.map dv, false, 1⟩) 1 ⟨ys.map dv, false, 1⟩) 77000 ⟨((List.range k).map (Po.co (Po.pm xs ys))).map dv, true, 1⟩)⟩) (fm := [(77000, 10000)]) ?_ ⟨0, Nat.zero_le _, rfl, rfl⟩ ?_
  ·
    refine Wk.of [0, 1, 77000] ?_ ?_ ?_ (by decide) rfl
    ·
      refine WkE.upd rfl (by first | exact VR.flat _ rfl | exact VR.eqv (vp_succ _) rfl | exact VR.eqv (vp_succ _).symm rfl | exact VR.eqv (by first | rfl | (congr 1; omega) | (simp; done) | (simp; omega)) rfl) ?_
      refine WkE.upd rfl (by first | exact .nilS _ (by simp) | exact .slice (77000) 0 _ 0 ⟨_, rfl⟩ (by simp) (by simp)) ?_
      refine WkE.upd rfl (.slice (1) 0 _ 0 ⟨_, rfl⟩ (by simp) (by simp)) ?_
      refine WkE.upd rfl (.slice (0) 0 _ 0 ⟨_, rfl⟩ (by simp) (by simp)) ?_
      exact WkE.emp
    ·
      refine WkM.cloM rfl rfl (fun _ => rfl) (fun h => h) ?_
      refine WkM.cloM rfl rfl (fun _ => rfl) (fun h => h) ?_
      refine WkM.cloM rfl rfl (fun _ => rfl) (fun h => h) ?_
      exact WkM.emp
    ·
      repeat (refine dom_upd_mem (by decide) ?_)
      exact dom_emp
  ·
    rintro mm σ ⟨k, hk0, rfl, rfl⟩
    refine AW.seq ?_
    refine AW.seqR ?_
    refine AWo.pure (PureOp.move rfl) rfl rfl ?_
    refine AWo.pure (PureOp.move rfl) rfl rfl ?_
    first | refine AWo.pure (PureOp.lenS tbok rfl rfl) rfl rfl ?_ | refine AWo.pure (PureOp.lenD tbok rfl rfl) rfl rfl ?_
    refine AWo.pure (PureOp.move rfl) rfl rfl ?_
    first | refine AWo.pure (PureOp.lenS tbok rfl rfl) rfl rfl ?_ | refine AWo.pure (PureOp.lenD tbok rfl rfl) rfl rfl ?_
    first | refine AWo.pure (PureOp.addI rfl rfl (by first | decide | omega)) rfl rfl ?_ | refine AWo.pure (PureOp.bin rfl rfl rfl) rfl rfl ?_
    first | refine AWo.pure (PureOp.ltN rfl rfl) rfl rfl ?_ | refine AWo.pure (PureOp.bin rfl rfl rfl) rfl rfl ?_
    refine AWo.nil trivial ?_
    refine AW.cond rfl (fun hb0 => ?_) (fun hb0 => ?_)
    ·
      have hk1 : k < (xs.length + ys.length) := by simpa using hb0
      refine AW.skip ?_
      refine thenA_normal ?_
      refine AW.seq ?_
      refine AW.block ?_
      refine AW.seqR ?_
      refine AWo.buildSlice tbok 20000 [] (out := []) rfl rfl (by decide) rfl rfl rfl (by decide) rfl rfl rfl rfl rfl ?_
      refine AWo.pure (PureOp.assign rfl) rfl rfl ?_
      refine AWo.nil trivial ?_
      refine AW.seq ?_
      refine AW.freeze 7 20000 ([] : List Value) ?_ rfl rfl (by simp) (by simp) rfl
      rw [sum0 (xs := xs) (ys := ys) (k := k)]
      refine AW.seqR ?_
      refine AWo.pure (PureOp.assign rfl) rfl rfl ?_
      refine AWo.nil trivial ?_
      refine AW.block ?_
      refine AW.loopw (fun mm σ => ∃ i, (i ≤ xs.length) ∧ mm = xs.length - i ∧ σ = ⟨(upd (upd (upd (upd (upd (upd emp 0 (.slice (some ⟨0, 0, none⟩) xs.length 0)) 1 (.slice (some ⟨1, 0, none⟩) ys.length 0)) 5 (.slice (some ⟨77000, 0, none⟩) k 0)) 6 (vi .i64 k)) 7 (dv (Po.co (Po.pm (xs.take i) ys) k))) 8 (vi .i64 i)), (upd (upd (upd emp 0 ⟨xs.map dv, false, 1⟩) 1 ⟨ys.map dv, false, 1⟩) 77000 ⟨((List.range k).map (Po.co (Po.pm xs ys))).map dv, true, 1⟩)⟩) (fm := []) ?_ ⟨0, Nat.zero_le _, rfl, rfl⟩ ?_
      ·
        refine Wk.of [0, 1, 77000] ?_ ?_ ?_ (by decide) rfl
        ·
          refine WkE.upd rfl (by first | exact VR.flat _ rfl | exact VR.eqv (vp_succ _) rfl | exact VR.eqv (vp_succ _).symm rfl | exact VR.eqv (by first | rfl | (congr 1; omega) | (simp; done) | (simp; omega)) rfl) ?_
          refine WkE.upd rfl (clo_refl (by simp) rfl) ?_
          refine WkE.upd rfl (by first | exact VR.flat _ rfl | exact VR.eqv (vp_succ _) rfl | exact VR.eqv (vp_succ _).symm rfl | exact VR.eqv (by first | rfl | (congr 1; omega) | (simp; done) | (simp; omega)) rfl) ?_
          refine WkE.upd rfl (by first | exact .nilS _ (by simp) | exact .slice (77000) 0 _ 0 ⟨_, rfl⟩ (by simp) (by simp)) ?_
          refine WkE.upd rfl (.slice (1) 0 _ 0 ⟨_, rfl⟩ (by simp) (by simp)) ?_
          refine WkE.upd rfl (.slice (0) 0 _ 0 ⟨_, rfl⟩ (by simp) (by simp)) ?_
          exact WkE.emp
        ·
          refine WkM.cloM rfl rfl (fun _ => rfl) (fun h => h) ?_
          refine WkM.cloM rfl rfl (fun _ => rfl) (fun h => h) ?_
          refine WkM.cloM rfl rfl (fun _ => rfl) (fun h => h) ?_
          exact WkM.emp
        ·
          repeat (refine dom_upd_mem (by decide) ?_)
          exact dom_emp
      ·
        rintro mm σ ⟨i, hinv, rfl, rfl⟩
        refine AW.seq ?_
        refine AW.seqR ?_
        refine AWo.pure (PureOp.move rfl) rfl rfl ?_
        refine AWo.pure (PureOp.move rfl) rfl rfl ?_
        refine yP (PureOp.leN (a := i) (b := k) rfl rfl) ?_
        first | refine AWo.pureB (PureOp.move rfl) rfl rfl (fun hb1 => ?_) (fun hb1 => ?_)
        ·
          have hik : i ≤ k := of_decide_eq_true hb1
          refine AWo.pure (PureOp.move rfl) rfl rfl ?_
          refine AWo.pure (PureOp.move rfl) rfl rfl ?_
          first | refine AWo.pure (PureOp.lenS tbok rfl rfl) rfl rfl ?_ | refine AWo.pure (PureOp.lenD tbok rfl rfl) rfl rfl ?_
          first | refine AWo.pure (PureOp.ltN rfl rfl) rfl rfl ?_ | refine AWo.pure (PureOp.bin rfl rfl rfl) rfl rfl ?_
          refine AWo.pure (PureOp.pickT rfl rfl) rfl rfl ?_
          refine AWo.nil trivial ?_
          refine AW.cond rfl (fun hb2 => ?_) (fun hb2 => ?_)
          ·
            have hi : i < xs.length := of_decide_eq_true hb2
            refine AW.skip ?_
            refine thenA_normal ?_
            refine AW.seq ?_
            refine AW.block ?_
            refine AW.draw mixed ?_
            refine AWo.pure (PureOp.move rfl) rfl rfl ?_
            refine AWo.pure (PureOp.move rfl) rfl rfl ?_
            refine AWo.pure (PureOp.move rfl) rfl rfl ?_
            refine AWo.pure (PureOp.idx1 tbok (j := i) rfl rfl rfl rfl hi) rfl rfl ?_
            refine AWo.loadM tbok (f := dv) 0 rfl rfl rfl hi rfl rfl ?_
            refine AWo.pure (PureOp.move rfl) rfl rfl ?_
            refine AWo.pure (PureOp.move rfl) rfl rfl ?_
            refine AWo.pure (PureOp.move rfl) rfl rfl ?_
            first | refine AWo.pure (PureOp.subI rfl rfl (by first | decide | omega) (by first | decide | omega)) rfl rfl ?_ | refine AWo.pure (PureOp.subP rfl rfl (by first | decide | omega)) rfl rfl ?_ | refine AWo.pure (PureOp.bin rfl rfl rfl) rfl rfl ?_
            refine AWo.callX (rget_ctr (xs := ys) (n := ys.length) (i := k - i) rfl (by omega)) bd108 [(1, 0)] [] rfl (.cons rfl (.cons rfl .nil)) rfl (.cons rfl rfl (.cons rfl rfl .nil)) (.clo rfl (cloM fun _ => rfl) (by intro h; first | exact h | rfl) .nil) rfl (.keep rfl .nil) frN (by decide) (.cons rfl rfl .nil) rfl rfl rfl rfl ?_
            refine AWo.callX (mulRd (x := xs.getD i 0) (y := Po.co ys (k - i))) bd109 [] [] rfl (.cons rfl (.cons rfl .nil)) rfl (.cons rfl rfl (.cons rfl rfl .nil)) .nil rfl .nil frN (by decide) (.cons rfl rfl .nil) rfl rfl rfl rfl ?_
            refine AWo.callX (v := dv (Po.co (Po.pm (xs.take (i + 1)) ys) k)) (addRd (x := Po.co (Po.pm (xs.take i) ys) k) (y := xs.getD i 0 * Po.co ys (k - i))) bd69 [] [] rfl (.cons rfl (.cons rfl .nil)) rfl (.cons rfl rfl (.cons rfl rfl .nil)) .nil rfl .nil frN (by decide) (.cons rfl rfl .nil) (by rw [sum_step hi hik]; rfl) rfl rfl rfl ?_
            refine AWo.pure (PureOp.assign rfl) rfl rfl ?_
            refine AWo.nil (by kernel_rfl) ?_
            refine inBlockA_normal ?_
            refine thenA_normal ?_
            refine AW.region ?_
            refine AWo.pure (PureOp.move rfl) rfl rfl ?_
            first | refine AWo.pure (PureOp.addI (b := 1) rfl rfl (by first | decide | omega)) rfl rfl ?_ | refine AWo.pure (PureOp.bin rfl rfl rfl) rfl rfl ?_
            refine AWo.pure (PureOp.assign rfl) rfl rfl ?_
            refine AWo.nil trivial ?_
            refine thenA_normal ?_
            refine ⟨xs.length - (i + 1), [], _, by omega, ?_, i + 1, by omega, rfl, rfl⟩
            refine Wk.of [0, 1, 77000] ?_ ?_ ?_ (by decide) rfl
            ·
              refine WkE.upd rfl (by first | exact VR.flat _ rfl | exact VR.eqv (vp_succ _) rfl | exact VR.eqv (vp_succ _).symm rfl | exact VR.eqv (by first | rfl | (congr 1; omega) | (simp; done) | (simp; omega)) rfl) ?_
              refine WkE.upd rfl (clo_refl (by simp) rfl) ?_
              refine WkE.upd rfl (by first | exact VR.flat _ rfl | exact VR.eqv (vp_succ _) rfl | exact VR.eqv (vp_succ _).symm rfl | exact VR.eqv (by first | rfl | (congr 1; omega) | (simp; done) | (simp; omega)) rfl) ?_
              refine WkE.upd rfl (by first | exact .nilS _ (by simp) | exact .slice (77000) 0 _ 0 ⟨_, rfl⟩ (by simp) (by simp)) ?_
              refine WkE.upd rfl (.slice (1) 0 _ 0 ⟨_, rfl⟩ (by simp) (by simp)) ?_
              refine WkE.upd rfl (.slice (0) 0 _ 0 ⟨_, rfl⟩ (by simp) (by simp)) ?_
              exact WkE.emp
            ·
              refine WkM.cloM rfl rfl (fun _ => rfl) (fun h => h) ?_
              refine WkM.cloM rfl rfl (fun _ => rfl) (fun h => h) ?_
              refine WkM.cloM rfl rfl (fun _ => rfl) (fun h => h) ?_
              exact WkM.emp
            ·
              repeat (refine dom_upd_mem (by decide) ?_)
              exact dom_emp
          ·
            have hi := of_decide_eq_false hb2
            rw [sum_end (xs := xs) (ys := ys) (k := k) (i := i) (.inr (by omega))]
            refine AW.exit ?_
            refine thenA_exit ?_
            refine thenA_exit ?_
            refine inBlockA_hit ?_
            refine thenA_normal ?_
            refine AW.region ?_
            refine AWo.pure (PureOp.move rfl) rfl rfl ?_
            refine AWo.pure (PureOp.move rfl) rfl rfl ?_
            refine AWo.buildSlice tbok 46000 [(0, dv (Po.co (Po.pm xs ys) k))] (out := [dv (Po.co (Po.pm xs ys) k)]) rfl rfl (by decide) rfl rfl rfl (by decide) rfl rfl rfl rfl rfl ?_
            refine AWo.append tbok (all := ((List.range (k + 1)).map (Po.co (Po.pm xs ys))).map dv) (news := [dv (Po.co (Po.pm xs ys) k)]) 47000 rfl rfl rfl rfl (by simp) (by show List.take _ (List.drop 0 _) = _; rw [List.drop_zero]; exact List.take_of_length_le (by simp)) (by first | decide | (simp; done) | (simp; omega)) (by decide) rfl rfl rfl (by first | decide | exact Nat.one_ne_zero) rfl rfl rfl (by first | decide | omega) (by first | decide | omega) (by rfl) (by rw [List.range_succ, List.map_append, List.map_append]; rfl) rfl rfl ?_
            refine AWo.pure (PureOp.assign rfl) rfl rfl ?_
            refine AWo.nil trivial ?_
            refine inBlockA_normal ?_
            refine thenA_normal ?_
            refine AW.region ?_
            refine AWo.pure (PureOp.move rfl) rfl rfl ?_
            first | refine AWo.pure (PureOp.addI (b := 1) rfl rfl (by first | decide | omega)) rfl rfl ?_ | refine AWo.pure (PureOp.bin rfl rfl rfl) rfl rfl ?_
            refine AWo.pure (PureOp.assign rfl) rfl rfl ?_
            refine AWo.nil trivial ?_
            refine thenA_normal ?_
            refine ⟨(xs.length + ys.length) - (k + 1), [(77000, 47000)], _, by omega, ?_, k + 1, by omega, rfl, rfl⟩
            refine Wk.of [0, 1, 77000] ?_ ?_ ?_ (by decide) rfl
            ·
              refine WkE.upd rfl (by first | exact VR.flat _ rfl | exact VR.eqv (vp_succ _) rfl | exact VR.eqv (vp_succ _).symm rfl | exact VR.eqv (by first | rfl | (congr 1; omega) | (simp; done) | (simp; omega)) rfl) ?_
              refine WkE.upd rfl (by first | exact .nilS _ (by simp) | exact .slice (77000) 0 _ 0 ⟨_, rfl⟩ (by simp) (by simp)) ?_
              refine WkE.upd rfl (.slice (1) 0 _ 0 ⟨_, rfl⟩ (by simp) (by simp)) ?_
              refine WkE.upd rfl (.slice (0) 0 _ 0 ⟨_, rfl⟩ (by simp) (by simp)) ?_
              exact WkE.emp
            ·
              refine WkM.cloM rfl rfl (fun _ => rfl) (fun h => h) ?_
              refine WkM.cloM rfl rfl (fun _ => rfl) (fun h => h) ?_
              refine WkM.cloM rfl rfl (fun _ => rfl) (fun h => h) ?_
              exact WkM.emp
            ·
              repeat (refine dom_upd_mem (by decide) ?_)
              exact dom_emp
        ·
          have hik := of_decide_eq_false hb1
          rw [sum_end (xs := xs) (ys := ys) (k := k) (i := i) (.inl (by omega))]
          refine AWo.skipped rfl rfl ?_
          refine AWo.skipped rfl rfl ?_
          refine AWo.skipped rfl rfl ?_
          refine AWo.skipped rfl rfl ?_
          refine AWo.pure (PureOp.pickF rfl rfl) rfl rfl ?_
          refine AWo.nil trivial ?_
          refine AW.condF rfl ?_
          refine AW.exit ?_
          refine thenA_exit ?_
          refine thenA_exit ?_
          refine inBlockA_hit ?_
          refine thenA_normal ?_
          refine AW.region ?_
          refine AWo.pure (PureOp.move rfl) rfl rfl ?_
          refine AWo.pure (PureOp.move rfl) rfl rfl ?_
          refine AWo.buildSlice tbok 46000 [(0, dv (Po.co (Po.pm xs ys) k))] (out := [dv (Po.co (Po.pm xs ys) k)]) rfl rfl (by decide) rfl rfl rfl (by decide) rfl rfl rfl rfl rfl ?_
          refine AWo.append tbok (all := ((List.range (k + 1)).map (Po.co (Po.pm xs ys))).map dv) (news := [dv (Po.co (Po.pm xs ys) k)]) 47000 rfl rfl rfl rfl (by simp) (by show List.take _ (List.drop 0 _) = _; rw [List.drop_zero]; exact List.take_of_length_le (by simp)) (by first | decide | (simp; done) | (simp; omega)) (by decide) rfl rfl rfl (by first | decide | exact Nat.one_ne_zero) rfl rfl rfl (by first | decide | omega) (by first | decide | omega) (by rfl) (by rw [List.range_succ, List.map_append, List.map_append]; rfl) rfl rfl ?_
          refine AWo.pure (PureOp.assign rfl) rfl rfl ?_
          refine AWo.nil trivial ?_
          refine inBlockA_normal ?_
          refine thenA_normal ?_
          refine AW.region ?_
          refine AWo.pure (PureOp.move rfl) rfl rfl ?_
          first | refine AWo.pure (PureOp.addI (b := 1) rfl rfl (by first | decide | omega)) rfl rfl ?_ | refine AWo.pure (PureOp.bin rfl rfl rfl) rfl rfl ?_
          refine AWo.pure (PureOp.assign rfl) rfl rfl ?_
          refine AWo.nil trivial ?_
          refine thenA_normal ?_
          refine ⟨(xs.length + ys.length) - (k + 1), [(77000, 47000)], _, by omega, ?_, k + 1, by omega, rfl, rfl⟩
          refine Wk.of [0, 1, 77000] ?_ ?_ ?_ (by decide) rfl
          ·
            refine WkE.upd rfl (by first | exact VR.flat _ rfl | exact VR.eqv (vp_succ _) rfl | exact VR.eqv (vp_succ _).symm rfl | exact VR.eqv (by first | rfl | (congr 1; omega) | (simp; done) | (simp; omega)) rfl) ?_
            refine WkE.upd rfl (by first | exact .nilS _ (by simp) | exact .slice (77000) 0 _ 0 ⟨_, rfl⟩ (by simp) (by simp)) ?_
            refine WkE.upd rfl (.slice (1) 0 _ 0 ⟨_, rfl⟩ (by simp) (by simp)) ?_
            refine WkE.upd rfl (.slice (0) 0 _ 0 ⟨_, rfl⟩ (by simp) (by simp)) ?_
            exact WkE.emp
          ·
            refine WkM.cloM rfl rfl (fun _ => rfl) (fun h => h) ?_
            refine WkM.cloM rfl rfl (fun _ => rfl) (fun h => h) ?_
            refine WkM.cloM rfl rfl (fun _ => rfl) (fun h => h) ?_
            exact WkM.emp
          ·
            repeat (refine dom_upd_mem (by decide) ?_)
            exact dom_emp
    ·
      obtain rfl : k = (xs.length + ys.length) := by simp at hb0; omega
      rw [← dg_pad xs ys]
      refine AW.exit ?_
      refine thenA_exit ?_
      refine thenA_exit ?_
      refine inBlockA_hit ?_
      refine thenA_normal ?_
      refine AW.seqR ?_
      refine AWo.pure (PureOp.move rfl) rfl rfl ?_
      refine AWo.callX (rtrim_ctr (xs := (List.range (xs.length + ys.length)).map (Po.co (Po.pm xs ys))) (n := (xs.length + ys.length)) (by simp) (by omega)) bd67 [(77000, 0)] [] rfl (.cons rfl .nil) rfl (.cons rfl rfl .nil) (.clo rfl (cloM fun _ => rfl) (by intro h; first | exact h | rfl) .nil) rfl (.keep rfl .nil) frN (by decide) (.cons rfl rfl .nil) rfl rfl rfl rfl ?_
      refine AWo.pure (PureOp.assign rfl) rfl rfl ?_
      refine AWo.nil trivial ?_
      refine AW.ret ?_
      refine RetQ.gc [_] [77000] [.tmp 4] (.inl rfl) rfl (.tmp rfl .nil) rfl (.cons rfl rfl .nil) (OutL.clo rfl (cloM fun _ => rfl) (by intro h; first | rfl | exact h.elim id fun h => absurd h.1 (by simp)) (OutL.clo rfl (cloM fun _ => rfl) (by intro h; first | rfl | exact h.elim id fun h => absurd h.1 (by simp)) (OutL.clo rfl (cloM fun _ => rfl) (by intro h; first | rfl | exact h.elim id fun h => absurd h.1 (by simp)) trivial))) (by decide) rfl
end Go.Proofs.Yteeifahhejangaa
namespace Go.Proofs.Yteeifahhejangaa
open Go Sim
theorem pad_tr (xs ys : List Fp) : ((List.range (xs.length + ys.length)).map (Po.co (Po.pm xs ys))).take (Po.dg (Po.pm xs ys)) = Po.tr (Po.pm xs ys) := by
  rw [← dg_pad]; exact Po.tr_congr (co_pad xs ys)
theorem co_one (c : Fp) : ∀ (xs : List Fp) (i : Nat), Po.co (Po.pm xs [c]) i = Po.co (Po.ps c xs) i
  | [], i => by rw [Po.pm, Po.ps, List.map_nil]
  | a :: xs, 0 => by rw [Po.co_pm_zero, Po.co_zero, Po.co_ps, Po.co_zero, Rg.add_zero]; exact Rg.mul_comm c a
  | a :: xs, i + 1 => by rw [Po.co_pm_succ, co_one c xs i, Po.co_succ, Po.co_nil, Rg.zero_mul, Rg.zero_add, Po.co_ps, Po.co_ps, Po.co_succ]
theorem dg_one {c : Fp} {xs : List Fp} : Po.dg (Po.pm xs [c]) = Po.dg (Po.ps c xs) := Po.dg_congr (co_one c xs)
theorem one_tr {c : Fp} {xs : List Fp} : Po.tr (Po.pm xs [c]) = Po.tr (Po.ps c xs) := Po.tr_congr (co_one c xs)
theorem preck_ctr {Ls Ks : List (List Nat)} {e : List Nat} (hB : ∀ b ∈ Ls, bd 256 b) (hL : Ls.length ≤ 9223372036854775807) (hB2 : ∀ b ∈ Ks, bd 256 b) (hK : Ks.length ≤ 9223372036854775807) (he : bd 256 e) : GC Try.prog 9 [.slice (some ⟨0, 0, none⟩) Ls.length 0, .slice (some ⟨1, 0, none⟩) Ks.length 0, .slice (some ⟨2, 0, none⟩) e.length 0] [⟨Ls.map (db), false, 1⟩, ⟨Ks.map (db), false, 1⟩, ⟨e.map (vi .u8), false, 1⟩] [.bool true] [⟨Ls.map (db), false, 1⟩, ⟨Ks.map (db), false, 1⟩, ⟨e.map (vi .u8), false, 1⟩] := by
  refine GC.intro Try.func9 rfl (by show 3 ≤ 70; decide) (by first | exact Nat.le_refl _ | decide | simp) ?_
  refine AW.seqR ?_
  refine AWo.pure (PureOp.assign rfl) rfl rfl ?_
  refine AWo.nil trivial ?_
  refine AW.seq ?_
  refine AW.seqR ?_
  refine AWo.callX (speaks22_ctr) bd23 [] [] rfl .nil rfl .nil .nil rfl .nil frN (by decide) (.cons rfl rfl .nil) rfl rfl rfl rfl ?_
  refine AWo.pure (PureOp.not rfl) rfl rfl ?_
  refine AWo.pure (PureOp.move rfl) rfl rfl ?_
  refine AWo.pure (PureOp.move rfl) rfl rfl ?_
  refine AWo.callX (few22_ctr (Ls := Ls) (most := 12) hL (by decide)) bd28 [(0, 0)] [] rfl (.cons rfl (.cons rfl .nil)) rfl (.cons rfl rfl (.cons rfl rfl .nil)) (.clo rfl (cloM fun _ => rfl) (by intro h; first | exact h | rfl) .nil) rfl (.keep rfl .nil) frN (by decide) (.cons rfl rfl .nil) rfl rfl rfl rfl ?_
  first | refine AWo.pureB (PureOp.not rfl) rfl rfl (fun hb0 => ?_) (fun hb0 => ?_)
  ·
    refine AWo.pure (PureOp.pickF rfl rfl) rfl rfl ?_
    refine AWo.pure (PureOp.move rfl) rfl rfl ?_
    refine AWo.skipped rfl rfl ?_
    refine AWo.skipped rfl rfl ?_
    refine AWo.skipped rfl rfl ?_
    refine AWo.pure (PureOp.pickT rfl rfl) rfl rfl ?_
    refine AWo.pure (PureOp.move rfl) rfl rfl ?_
    refine AWo.skipped rfl rfl ?_
    refine AWo.skipped rfl rfl ?_
    refine AWo.skipped rfl rfl ?_
    refine AWo.pure (PureOp.pickT rfl rfl) rfl rfl ?_
    refine AWo.nil trivial ?_
    refine AW.condT rfl ?_
    refine AW.seqR ?_
    refine AWo.callX (speaks22_ctr) bd23 [] [] rfl .nil rfl .nil .nil rfl .nil frN (by decide) (.cons rfl rfl .nil) rfl rfl rfl rfl ?_
    refine AWo.pure (PureOp.assign rfl) rfl rfl ?_
    refine AWo.nil trivial ?_
    refine AW.ret ?_
    refine thenA_ret ?_
    refine RetQ.gc [_] [] [.tmp 6] (.inl rfl) rfl (.tmp rfl .nil) rfl (.cons rfl rfl .nil) (OutL.clo rfl (cloM fun _ => rfl) (by intro h; exact h.elim id fun h => absurd h.1 (by simp)) (OutL.clo rfl (cloM fun _ => rfl) (by intro h; exact h.elim id fun h => absurd h.1 (by simp)) (OutL.flat rfl (flatM flat_vi) (by intro h; exact h.elim id fun h => absurd h.1 (by simp)) trivial))) (by decide) rfl
  ·
    obtain ⟨hS, hLn⟩ := fewB_get (by simpa using hb0)
    refine AWo.pure (PureOp.pickF rfl rfl) rfl rfl ?_
    refine AWo.pure (PureOp.move rfl) rfl rfl ?_
    refine AWo.pure (PureOp.move rfl) rfl rfl ?_
    refine AWo.callX (few22_ctr (Ls := Ks) (most := 12) hK (by decide)) bd28 [(1, 0)] [] rfl (.cons rfl (.cons rfl .nil)) rfl (.cons rfl rfl (.cons rfl rfl .nil)) (.clo rfl (cloM fun _ => rfl) (by intro h; first | exact h | rfl) .nil) rfl (.keep rfl .nil) frN (by decide) (.cons rfl rfl .nil) rfl rfl rfl rfl ?_
    first | refine AWo.pureB (PureOp.not rfl) rfl rfl (fun hb1 => ?_) (fun hb1 => ?_)
    ·
      refine AWo.pure (PureOp.pickF rfl rfl) rfl rfl ?_
      refine AWo.pure (PureOp.move rfl) rfl rfl ?_
      refine AWo.skipped rfl rfl ?_
      refine AWo.skipped rfl rfl ?_
      refine AWo.skipped rfl rfl ?_
      refine AWo.pure (PureOp.pickT rfl rfl) rfl rfl ?_
      refine AWo.nil trivial ?_
      refine AW.condT rfl ?_
      refine AW.seqR ?_
      refine AWo.callX (speaks22_ctr) bd23 [] [] rfl .nil rfl .nil .nil rfl .nil frN (by decide) (.cons rfl rfl .nil) rfl rfl rfl rfl ?_
      refine AWo.pure (PureOp.assign rfl) rfl rfl ?_
      refine AWo.nil trivial ?_
      refine AW.ret ?_
      refine thenA_ret ?_
      refine RetQ.gc [_] [] [.tmp 6] (.inl rfl) rfl (.tmp rfl .nil) rfl (.cons rfl rfl .nil) (OutL.clo rfl (cloM fun _ => rfl) (by intro h; exact h.elim id fun h => absurd h.1 (by simp)) (OutL.clo rfl (cloM fun _ => rfl) (by intro h; exact h.elim id fun h => absurd h.1 (by simp)) (OutL.flat rfl (flatM flat_vi) (by intro h; exact h.elim id fun h => absurd h.1 (by simp)) trivial))) (by decide) rfl
    ·
      obtain ⟨hS2, hKn⟩ := fewB_get (by simpa using hb1)
      refine AWo.pure (PureOp.pickF rfl rfl) rfl rfl ?_
      refine AWo.pure (PureOp.move rfl) rfl rfl ?_
      refine AWo.pure (PureOp.move rfl) rfl rfl ?_
      first | refine AWo.pure (PureOp.lenS tbok rfl rfl) rfl rfl ?_ | refine AWo.pure (PureOp.lenD tbok rfl rfl) rfl rfl ?_
      first | refine AWo.pureB (PureOp.gtN (b := 40) rfl rfl) rfl rfl (fun hb2 => ?_) (fun hb2 => ?_) | refine AWo.pureB (PureOp.bin rfl rfl rfl) rfl rfl (fun hb2 => ?_) (fun hb2 => ?_)
      ·
        refine AWo.pure (PureOp.pickF rfl rfl) rfl rfl ?_
        refine AWo.nil trivial ?_
        refine AW.condT rfl ?_
        refine AW.seqR ?_
        refine AWo.callX (speaks22_ctr) bd23 [] [] rfl .nil rfl .nil .nil rfl .nil frN (by decide) (.cons rfl rfl .nil) rfl rfl rfl rfl ?_
        refine AWo.pure (PureOp.assign rfl) rfl rfl ?_
        refine AWo.nil trivial ?_
        refine AW.ret ?_
        refine thenA_ret ?_
        refine RetQ.gc [_] [] [.tmp 6] (.inl rfl) rfl (.tmp rfl .nil) rfl (.cons rfl rfl .nil) (OutL.clo rfl (cloM fun _ => rfl) (by intro h; exact h.elim id fun h => absurd h.1 (by simp)) (OutL.clo rfl (cloM fun _ => rfl) (by intro h; exact h.elim id fun h => absurd h.1 (by simp)) (OutL.flat rfl (flatM flat_vi) (by intro h; exact h.elim id fun h => absurd h.1 (by simp)) trivial))) (by decide) rfl
      ·
        have hel : e.length ≤ 40 := by simpa using hb2
        refine AWo.pure (PureOp.pickF rfl rfl) rfl rfl ?_
        refine AWo.nil trivial ?_
        refine AW.condF rfl ?_
        refine AW.skip ?_
        refine thenA_normal ?_
        refine AW.seqR ?_
        refine AWo.pure (PureOp.move rfl) rfl rfl ?_
        refine AWo.callX (of22_ctr (Ls := Ls) hB hS (by omega)) bd29 [(0, 0)] [33000, 33001] rfl (.cons rfl .nil) rfl (.cons rfl rfl .nil) (.clo rfl (cloM fun _ => rfl) (by intro h; first | exact h | rfl) .nil) rfl (.keep rfl (.new (flat_map_ren (flatM flat_vi)) (OkL.flat (flatM flat_vi)) (.new (clo_map_ren (cloM fun _ => rfl)) (OkL.clo (cloM fun _ => rfl)) .nil))) (frC rfl (frC rfl frN)) (by decide) (.cons rfl rfl (.cons rfl rfl .nil)) rfl rfl rfl rfl ?_
        refine AWo.pure (PureOp.move rfl) rfl rfl ?_
        refine AWo.pure (PureOp.extract rfl rfl) rfl rfl ?_
        refine AWo.pure (PureOp.extract rfl rfl) rfl rfl ?_
        refine AWo.pure (PureOp.assign rfl) rfl rfl ?_
        refine AWo.pure (PureOp.assign rfl) rfl rfl ?_
        refine AWo.nil trivial ?_
        have hxl : (Ls.map nb).length = Ls.length := List.length_map ..
        generalize Ls.map nb = xs at hxl ⊢
        refine AW.seqR ?_
        refine AWo.pure (PureOp.move rfl) rfl rfl ?_
        refine AWo.callX (of22_ctr (Ls := Ks) hB2 hS2 (by omega)) bd29 [(1, 0)] [38000, 38001] rfl (.cons rfl .nil) rfl (.cons rfl rfl .nil) (.clo rfl (cloM fun _ => rfl) (by intro h; first | exact h | rfl) .nil) rfl (.keep rfl (.new (flat_map_ren (flatM flat_vi)) (OkL.flat (flatM flat_vi)) (.new (clo_map_ren (cloM fun _ => rfl)) (OkL.clo (cloM fun _ => rfl)) .nil))) (frC rfl (frC rfl frN)) (by decide) (.cons rfl rfl (.cons rfl rfl .nil)) rfl rfl rfl rfl ?_
        refine AWo.pure (PureOp.move rfl) rfl rfl ?_
        refine AWo.pure (PureOp.extract rfl rfl) rfl rfl ?_
        refine AWo.pure (PureOp.extract rfl rfl) rfl rfl ?_
        refine AWo.pure (PureOp.assign rfl) rfl rfl ?_
        refine AWo.pure (PureOp.assign rfl) rfl rfl ?_
        refine AWo.nil trivial ?_
        have hyl : (Ks.map nb).length = Ks.length := List.length_map ..
        generalize Ks.map nb = ys at hyl ⊢
        refine AW.seqR ?_
        refine AWo.pure (PureOp.move rfl) rfl rfl ?_
        refine AWo.callX (ofbN (a := e) he (by omega)) bd52 [(2, 0)] [] rfl (.cons rfl .nil) rfl (.cons rfl rfl .nil) (.flat rfl (by first | exact flatM flat_vi | exact flatM flat_bool | (simp [flatV, flat_vi]; done)) (by intro h; first | exact h | rfl) .nil) rfl (.keep rfl .nil) frN (by decide) (.cons rfl rfl .nil) rfl rfl rfl rfl ?_
        refine AWo.callX (modRd (v := num 256 e) (ofb_short he hel)) bd51 [] [] rfl (.cons rfl .nil) rfl (.cons rfl rfl .nil) .nil rfl .nil frN (by decide) (.cons rfl rfl .nil) rfl rfl rfl rfl ?_
        refine AWo.pure (PureOp.assign rfl) rfl rfl ?_
        refine AWo.nil trivial ?_
        have hpa : Po.dg (Po.pa xs ys) ≤ 12 := by have := Po.dg_le (Po.pa xs ys); rw [Po.pa_len] at this; exact Nat.le_trans this (Nat.max_le.2 ⟨by omega, by omega⟩)
        have hpm : Po.dg (Po.pm xs ys) ≤ 24 := by have := Po.dg_le (Po.pm xs ys); have := Po.pm_len xs ys; omega
        have hps : Po.dg (Po.ps (fp (num 256 e)) xs) ≤ 12 := by have := Po.dg_le (Po.ps (fp (num 256 e)) xs); rw [Po.ps, List.length_map] at this; rw [Po.ps]; omega
        refine AW.seqR ?_
        refine AWo.pure (PureOp.move rfl) rfl rfl ?_
        refine AWo.pure (PureOp.move rfl) rfl rfl ?_
        refine AWo.callX (addp_ctr (xs := xs) (ys := ys) (n := Ls.length) (k := Ks.length) hxl hyl (by omega) (by omega)) bd31 [(33000, 0), (38000, 0)] [46000] rfl (.cons rfl (.cons rfl .nil)) rfl (.cons rfl rfl (.cons rfl rfl .nil)) (.flat rfl (flatM flat_vi) (by intro h; first | exact h | rfl) (.flat rfl (flatM flat_vi) (by intro h; first | exact h | rfl) .nil)) rfl (.keep rfl (.keep rfl (.new (flat_map_ren (flatM flat_vi)) (OkL.flat (flatM flat_vi)) .nil))) (frC rfl frN) (by decide) (.cons rfl rfl .nil) rfl rfl rfl rfl ?_
        refine yM ?_
        refine AWo.pure (PureOp.move rfl) rfl rfl ?_
        refine AWo.callX (radd22_ctr (xs := xs) (ys := ys) (n := Ls.length) (k := Ks.length) hxl hyl (by omega) (by omega)) bd53 [(33001, 0), (38001, 0)] [49000] rfl (.cons rfl (.cons rfl .nil)) rfl (.cons rfl rfl (.cons rfl rfl .nil)) (.clo rfl (cloM fun _ => rfl) (by intro h; first | exact h | rfl) (.clo rfl (cloM fun _ => rfl) (by intro h; first | exact h | rfl) .nil)) rfl (.keep rfl (.keep rfl (.new (clo_map_ren (cloM fun _ => rfl)) (OkL.clo (cloM fun _ => rfl)) .nil))) (frC rfl frN) (by decide) (.cons rfl rfl .nil) rfl rfl rfl rfl ?_
        refine AWo.callX (are_ctr (xs := Po.tr (Po.pa xs ys)) (zs := Po.pa xs ys) (n := (Po.tr (Po.pa xs ys)).length) (m := Po.dg (Po.pa xs ys)) rfl (Po.tr_len _) (by rw [Po.tr_len]; rfl) (by rw [Po.tr_len]; omega)) bd26 [(46000, 0), (49000, 0)] [] rfl (.cons rfl (.cons rfl .nil)) rfl (.cons rfl rfl (.cons rfl rfl .nil)) (.flat rfl (flatM flat_vi) (by intro h; first | exact h | rfl) (.clo rfl (cloM fun _ => rfl) (by intro h; first | exact h | rfl) .nil)) rfl (.keep rfl (.keep rfl .nil)) frN (by decide) (.cons rfl rfl .nil) rfl rfl rfl rfl ?_
        refine AWo.pure (PureOp.move rfl) rfl rfl ?_
        refine AWo.pure (PureOp.move rfl) rfl rfl ?_
        refine AWo.pure (PureOp.move rfl) rfl rfl ?_
        refine AWo.callX (mulp_ctr (xs := xs) (ys := ys) (n := Ls.length) (k := Ks.length) hxl hyl (by omega) (by omega)) bd34 [(33000, 0), (38000, 0)] [54000] rfl (.cons rfl (.cons rfl .nil)) rfl (.cons rfl rfl (.cons rfl rfl .nil)) (.flat rfl (flatM flat_vi) (by intro h; first | exact h | rfl) (.flat rfl (flatM flat_vi) (by intro h; first | exact h | rfl) .nil)) rfl (.keep rfl (.keep rfl (.new (flat_map_ren (flatM flat_vi)) (OkL.flat (flatM flat_vi)) .nil))) (frC rfl frN) (by decide) (.cons rfl rfl .nil) rfl rfl rfl rfl ?_
        refine AWo.pure (PureOp.move rfl) rfl rfl ?_
        refine AWo.pure (PureOp.move rfl) rfl rfl ?_
        refine AWo.callX (rmul22_ctr (xs := xs) (ys := ys) (n := Ls.length) (m := Ks.length) hxl hyl (by omega) (by omega)) bd54 [(33001, 0), (38001, 0)] [57000] rfl (.cons rfl (.cons rfl .nil)) rfl (.cons rfl rfl (.cons rfl rfl .nil)) (.clo rfl (cloM fun _ => rfl) (by intro h; first | exact h | rfl) (.clo rfl (cloM fun _ => rfl) (by intro h; first | exact h | rfl) .nil)) rfl (.keep rfl (.keep rfl (.new (clo_map_ren (cloM fun _ => rfl)) (OkL.clo (cloM fun _ => rfl)) .nil))) (frC rfl frN) (by decide) (.cons rfl rfl .nil) rfl rfl rfl rfl ?_
        refine AWo.callX (are_ctr (xs := Po.tr (Po.pm xs ys)) (zs := (List.range (xs.length + ys.length)).map (Po.co (Po.pm xs ys))) (n := (Po.tr (Po.pm xs ys)).length) (m := Po.dg (Po.pm xs ys)) rfl (Po.tr_len _) (by rw [Po.tr_len]; exact pad_tr xs ys) (by rw [Po.tr_len]; omega)) bd26 [(54000, 0), (57000, 0)] [] rfl (.cons rfl (.cons rfl .nil)) rfl (.cons rfl rfl (.cons rfl rfl .nil)) (.flat rfl (flatM flat_vi) (by intro h; first | exact h | rfl) (.clo rfl (cloM fun _ => rfl) (by intro h; first | exact h | rfl) .nil)) rfl (.keep rfl (.keep rfl .nil)) frN (by decide) (.cons rfl rfl .nil) rfl rfl rfl rfl ?_
        refine AWo.pure (PureOp.pickT rfl rfl) rfl rfl ?_
        refine AWo.pure (PureOp.move rfl) rfl rfl ?_
        refine AWo.pure (PureOp.move rfl) rfl rfl ?_
        refine AWo.pure (PureOp.move rfl) rfl rfl ?_
        refine AWo.callX (fromwideF_ctr (b := e) he (by omega)) bd30 [(2, 0)] [] rfl (.cons rfl .nil) rfl (.cons rfl rfl .nil) (.flat rfl (by first | exact flatM flat_vi | exact flatM flat_bool | (simp [flatV, flat_vi]; done)) (by intro h; first | exact h | rfl) .nil) rfl (.keep rfl .nil) frN (by decide) (.pure (by first | rfl | exact pure_aggM flat_vi | exact pure_aggM flat_bool) .nil) rfl rfl rfl rfl ?_
        refine AWo.callX (scalep_ctr (xs := xs) (n := Ls.length) (c := (fp (num 256 e))) hxl (by omega)) bd55 [(33000, 0)] [64000] rfl (.cons rfl (.cons rfl .nil)) rfl (.cons rfl rfl (.pure (by first | rfl | exact pure_aggM flat_vi | exact pure_aggM flat_bool) .nil)) (.flat rfl (flatM flat_vi) (by intro h; first | exact h | rfl) .nil) rfl (.keep rfl (.new (flat_map_ren (flatM flat_vi)) (OkL.flat (flatM flat_vi)) .nil)) (frC rfl frN) (by decide) (.cons rfl rfl .nil) rfl rfl rfl rfl ?_
        refine AWo.pure (PureOp.move rfl) rfl rfl ?_
        refine AWo.pure (PureOp.move rfl) rfl rfl ?_
        refine AWo.buildSlice tbok 67000 [(0, dv (fp (num 256 e)))] (out := [dv (fp (num 256 e))]) rfl rfl (by decide) rfl rfl rfl (by decide) rfl rfl rfl rfl rfl ?_
        refine AWo.callX (rmul22_ctr (xs := xs) (ys := [(fp (num 256 e))]) (n := Ls.length) (m := 1) hxl rfl (by omega) (by decide)) bd54 [(33001, 0), (67000, 0)] [68000] rfl (.cons rfl (.cons rfl .nil)) rfl (.cons rfl rfl (.cons rfl rfl .nil)) (.clo rfl (cloM fun _ => rfl) (by intro h; first | exact h | rfl) (.clo rfl (cloM fun _ => rfl) (by intro h; first | exact h | rfl) .nil)) rfl (.keep rfl (.keep rfl (.new (clo_map_ren (cloM fun _ => rfl)) (OkL.clo (cloM fun _ => rfl)) .nil))) (frC rfl frN) (by decide) (.cons rfl rfl .nil) rfl rfl rfl rfl ?_
        refine AWo.callX (are_ctr (xs := Po.tr (Po.ps (fp (num 256 e)) xs)) (zs := (List.range (xs.length + [(fp (num 256 e))].length)).map (Po.co (Po.pm xs [(fp (num 256 e))]))) (n := (Po.tr (Po.ps (fp (num 256 e)) xs)).length) (m := Po.dg (Po.pm xs [(fp (num 256 e))])) rfl (by rw [Po.tr_len, dg_one]) (by rw [Po.tr_len, ← dg_one, pad_tr, one_tr]) (by rw [Po.tr_len]; omega)) bd26 [(64000, 0), (68000, 0)] [] rfl (.cons rfl (.cons rfl .nil)) rfl (.cons rfl rfl (.cons rfl rfl .nil)) (.flat rfl (flatM flat_vi) (by intro h; first | exact h | rfl) (.clo rfl (cloM fun _ => rfl) (by intro h; first | exact h | rfl) .nil)) rfl (.keep rfl (.keep rfl .nil)) frN (by decide) (.cons rfl rfl .nil) rfl rfl rfl rfl ?_
        refine AWo.pure (PureOp.pickT rfl rfl) rfl rfl ?_
        refine AWo.pure (PureOp.assign rfl) rfl rfl ?_
        refine AWo.nil trivial ?_
        refine AW.ret ?_
        refine RetQ.gc [_] [] [.tmp 6] (.inl rfl) rfl (.tmp rfl .nil) rfl (.cons rfl rfl .nil) (OutL.clo rfl (cloM fun _ => rfl) (by intro h; exact h.elim id fun h => absurd h.1 (by simp)) (OutL.clo rfl (cloM fun _ => rfl) (by intro h; exact h.elim id fun h => absurd h.1 (by simp)) (OutL.flat rfl (flatM flat_vi) (by intro h; exact h.elim id fun h => absurd h.1 (by simp)) trivial))) (by decide) rfl
end Go.Proofs.Yteeifahhejangaa
