/- What the proof stands on, part 4: the walk of each function, and plain laws of numbers. -/
import Derived.Test.YteeifahhejangaaK3
import Derived.Test.YteeifahhejangaaRows
import Derived.ProofKit
namespace Go.Proofs.Yteeifahhejangaa.Po
variable {n : Nat} [NeZero n]
def co (p : List (Fin n)) (i : Nat) : Fin n := p.getD i 0
def ev (x : Fin n) : List (Fin n) → Fin n
  | [] => 0
  | a :: p => ev x p * x + a
theorem co_nil (i : Nat) : co ([] : List (Fin n)) i = 0 := by simp [co]
theorem co_zero (a : Fin n) (p : List (Fin n)) : co (a :: p) 0 = a := rfl
theorem co_succ (a : Fin n) (p : List (Fin n)) (i : Nat) : co (a :: p) (i + 1) = co p i := by simp [co]
theorem co_lt {p : List (Fin n)} {i : Nat} (h : i < p.length) : co p i = p[i] := by simp [co, List.getD_eq_getElem?_getD, h]
theorem co_len {p : List (Fin n)} {i : Nat} (h : p.length ≤ i) : co p i = 0 := by simp [co, List.getD_eq_getElem?_getD, h]
def dg : List (Fin n) → Nat
  | [] => 0
  | a :: p => if dg p = 0 then (if a = 0 then 0 else 1) else dg p + 1
theorem dg_le : ∀ p : List (Fin n), dg p ≤ p.length
  | [] => Nat.le_refl _
  | a :: p => by
    have := dg_le p
    simp only [dg, List.length_cons]
    split
    · split <;> omega
    · omega
theorem co_ge : ∀ (p : List (Fin n)) (i : Nat), dg p ≤ i → co p i = 0
  | [], i, _ => co_nil i
  | a :: p, 0, h => by
    simp only [dg] at h
    split at h
    · split at h
      · assumption
      · omega
    · omega
  | a :: p, i + 1, h => by
    rw [co_succ]
    apply co_ge
    simp only [dg] at h
    split at h <;> omega
theorem co_top : ∀ (p : List (Fin n)) (m : Nat), dg p = m + 1 → co p m ≠ 0
  | [], m, h => by simp [dg] at h
  | a :: p, m, h => by
    simp only [dg] at h
    split at h
    · split at h
      · omega
      · obtain rfl : m = 0 := by omega
        assumption
    · obtain ⟨k, rfl⟩ : ∃ k, m = k + 1 := ⟨m - 1, by omega⟩
      rw [co_succ]
      exact co_top p k (by omega)
theorem dg_eq {p : List (Fin n)} {d : Nat} (hz : ∀ i, d ≤ i → co p i = 0) (hn : ∀ m, d = m + 1 → co p m ≠ 0) : dg p = d := by
  rcases Nat.lt_trichotomy (dg p) d with h | h | h
  · obtain ⟨m, rfl⟩ : ∃ m, d = m + 1 := ⟨d - 1, by omega⟩
    exact absurd (co_ge p m (by omega)) (hn m rfl)
  · exact h
  · exact absurd (hz (dg p - 1) (by omega)) (co_top p _ (by omega))
theorem dg_congr {p q : List (Fin n)} (h : ∀ i, co p i = co q i) : dg p = dg q :=
  dg_eq (fun i hi => (h i).trans (co_ge q i hi)) fun m hm => by rw [h]; exact co_top q m hm
def tr (p : List (Fin n)) : List (Fin n) := p.take (dg p)
theorem tr_len (p : List (Fin n)) : (tr p).length = dg p := by rw [tr, List.length_take, Nat.min_eq_left (dg_le p)]
theorem co_tr (p : List (Fin n)) (i : Nat) : co (tr p) i = co p i := by
  by_cases h : i < dg p
  · have := dg_le p
    rw [co_lt (by rw [tr_len]; exact h), co_lt (by omega)]
    simp [tr]
  · rw [co_len (by rw [tr_len]; omega), co_ge p i (by omega)]
theorem ext {p q : List (Fin n)} (hl : p.length = q.length) (h : ∀ i, co p i = co q i) : p = q :=
  List.ext_getElem hl fun i h1 h2 => by rw [← co_lt h1, ← co_lt h2, h]
theorem tr_congr {p q : List (Fin n)} (h : ∀ i, co p i = co q i) : tr p = tr q :=
  ext (by rw [tr_len, tr_len, dg_congr h]) fun i => by rw [co_tr, co_tr, h]
def pa : List (Fin n) → List (Fin n) → List (Fin n)
  | [], q => q
  | a :: p, [] => a :: p
  | a :: p, b :: q => (a + b) :: pa p q
theorem ring1 (x : Fin n) : x = 0 + x := by grind
theorem ring2 (x : Fin n) : x = x + 0 := by grind
theorem co_pa : ∀ (p q : List (Fin n)) (i : Nat), co (pa p q) i = co p i + co q i
  | [], q, i => by rw [pa, co_nil]; exact ring1 _
  | a :: p, [], i => by rw [pa, co_nil]; exact ring2 _
  | a :: p, b :: q, 0 => rfl
  | a :: p, b :: q, i + 1 => by rw [pa, co_succ, co_succ, co_succ, co_pa p q i]
omit [NeZero n] in
theorem pa_len : ∀ p q : List (Fin n), (pa p q).length = max p.length q.length
  | [], q => by simp [pa]
  | a :: p, [] => by simp [pa]
  | a :: p, b :: q => by simp [pa, pa_len p q, Nat.add_max_add_right]
def ps (c : Fin n) (p : List (Fin n)) : List (Fin n) := p.map (· * c)
theorem ring4 (c : Fin n) : 0 * c = 0 := by grind
theorem co_ps (c : Fin n) (p : List (Fin n)) (i : Nat) : co (ps c p) i = co p i * c := by
  by_cases h : i < p.length
  · rw [co_lt (by simpa [ps] using h), co_lt h]; simp [ps]
  · rw [co_len (by simp [ps]; omega), co_len (by omega), ring4]
def pm : List (Fin n) → List (Fin n) → List (Fin n)
  | [], _ => []
  | a :: p, q => pa (ps a q) (0 :: pm p q)
theorem pm_len : ∀ p q : List (Fin n), (pm p q).length ≤ p.length + q.length
  | [], q => by simp [pm]
  | a :: p, q => by
    have := pm_len p q
    rw [pm, pa_len]
    simp only [ps, List.length_map, List.length_cons]
    omega
theorem co_pm_zero (a : Fin n) (p q : List (Fin n)) : co (pm (a :: p) q) 0 = co q 0 * a + 0 := by rw [pm, co_pa, co_ps, co_zero]
theorem co_pm_succ (a : Fin n) (p q : List (Fin n)) (i : Nat) : co (pm (a :: p) q) (i + 1) = co q (i + 1) * a + co (pm p q) i := by rw [pm, co_pa, co_ps, co_succ]
end Go.Proofs.Yteeifahhejangaa.Po
namespace Go.Proofs.Yteeifahhejangaa
open Go Sim
theorem hiN_le (xs : List Fp) : ∀ n, hiN xs n ≤ n
  | 0 => Nat.le_refl _
  | n + 1 => by
    have := hiN_le xs n
    simp only [hiN]; split <;> omega
theorem hiN_zero (xs : List Fp) : ∀ (n i : Nat), hiN xs n ≤ i → i < n → xs.getD i 0 = 0
  | 0, i, _, h => by omega
  | n + 1, i, h1, h2 => by
    simp only [hiN] at h1
    split at h1
    · rename_i h0
      by_cases e : i = n
      · rw [e]; exact h0
      · exact hiN_zero xs n i h1 (by omega)
    · omega
theorem hiN_top (xs : List Fp) : ∀ (n m : Nat), hiN xs n = m + 1 → xs.getD m 0 ≠ 0
  | 0, m, h => by simp [hiN] at h
  | n + 1, m, h => by
    simp only [hiN] at h
    split at h
    · exact hiN_top xs n m h
    · rename_i h0
      obtain rfl : n = m := by omega
      exact h0
theorem hiN_dg (xs : List Fp) : hiN xs xs.length = Po.dg xs := by
  refine (Po.dg_eq (fun i hi => ?_) (fun m hm => hiN_top xs _ m hm)).symm
  by_cases h : i < xs.length
  · exact hiN_zero xs _ i hi h
  · exact Po.co_len (by omega)
theorem PureOp.vpSucc {P : Program} {E : Env} {t t' : TypeId} {x y : Operand} {r : Nat} (h1 : aev E x = some (vp r)) (h2 : aev E y = some (.int .i64 1)) (h : r < 9223372036854775808) : PureOp P (.binOp .add t x y t') E (vi .i64 r) :=
  PureOp.bin h1 h2 (by simp only [evalBin, vi]; rw [IntWalk.i64_in _ (by omega)]; congr 2; omega)
theorem trimp_ctr {xs : List Fp} {n : Nat} (hn : xs.length = n) (hx : n < 1000000) : GC Try.prog 39 [.slice (some ⟨0, 0, none⟩) n 0] [⟨((xs.map fe).flatten).map (vi .u64), false, 4⟩] [.slice (some ⟨1, 0, none⟩) (Po.tr xs).length 0]
    [⟨((xs.map fe).flatten).map (vi .u64), false, 4⟩, ⟨(((Po.tr xs).map fe).flatten).map (vi .u64), true, 4⟩] := by
  subst hn
  have hle := hiN_le xs xs.length
  rw [Po.tr_len, Po.tr, ← hiN_dg]
  refine GC.intro Try.func39 rfl (by show 1 ≤ 9; decide) (Nat.le_succ _) ?_
  refine zS ?_
  refine yA ?_
  refine zN (zS ?_)
  refine yM ?_
  refine yM ?_
  refine yC (degree_ctr (xs := xs) (n := xs.length) (Nat.le_refl _) (by omega)) bd36 [(0, 0)] [] ?_
  refine yP (PureOp.vpSucc (r := hiN xs xs.length) rfl rfl (by omega)) ?_
  refine AWo.sliceS tbok rfl .none (.some rfl) rfl rfl rfl rfl (by omega) (by omega) (.inl rfl) rfl rfl rfl ?_
  refine yC (clonep_ctr (xs := xs) (n := hiN xs xs.length) hle (by omega)) bd98 [(0, 0)] [9000] ?_
  refine yA ?_
  refine zN (zE ?_)
  exact rq [9000] [.tmp 2]
end Go.Proofs.Yteeifahhejangaa
namespace Go.Proofs.Yteeifahhejangaa
open Go Sim
theorem atp_ctr {xs : List Fp} {n i : Nat} (hn : xs.length = n) (hx : n < 1000000) : GC Try.prog 89 [.slice (some ⟨0, 0, none⟩) n 0, vi .i64 (i)] [⟨((xs.map fe).flatten).map (vi .u64), false, 4⟩] [.agg ((fe (Po.co xs i)).map (vi .u64)).toArray] [⟨((xs.map fe).flatten).map (vi .u64), false, 4⟩] := by
  subst hn
  refine GC.intro Try.func89 rfl (by show 2 ≤ 14; decide) (Nat.le_refl _) ?_
  refine zS ?_
  refine yN 5000 1 ((fe 0).map (vi .u64)) ?_ (hc := by rw [fe_zero]; rfl)
  refine zN (zQ (zS ?_))
  refine yM ?_
  refine yM ?_
  refine yP (pL (k := xs.length)) ?_
  refine yP (pLt (a := i) (b := xs.length)) ?_
  refine zN (zA (fun h => ?_) (fun h => ?_))
  · have hi : i < xs.length := by simpa using h
    refine zS ?_
    refine yM ?_
    refine yM ?_
    refine yP (pI (j := i) (n := xs.length)) ?_
    refine yLJ (xs := xs) i ?_
    refine ySA ?_
    refine zN (zE ?_)
    exact rq [] [.cell 4 33]
  · have hi : Po.co xs i = 0 := Po.co_len (by have := of_decide_eq_false h; omega)
    rw [hi, fe_zero]
    refine zK (zT (zS ?_))
    refine AWo.pure (PureOp.buildStruct [] pl33.choose_spec.1 zr33 (by decide) pl33.choose_spec.2 rfl rfl) rfl rfl ?_
    refine ySA ?_
    refine zN (zE ?_)
    exact rq [] [.cell 4 33]
end Go.Proofs.Yteeifahhejangaa
namespace Go.Proofs.Yteeifahhejangaa
open Go Sim
theorem pa_step {xs ys : List Fp} {i : Nat} (h : i < (Po.pa xs ys).length) : (Po.pa xs ys).take i ++ [Po.co xs i + Po.co ys i] = (Po.pa xs ys).take (i + 1) := by
  rw [List.take_succ_eq_append_getElem h, ← Po.co_pa, Po.co_lt h]
theorem addp_ctr {xs ys : List Fp} {n k : Nat} (hn : xs.length = n) (hk : ys.length = k) (hx : n < 1000000) (hy : k < 1000000) : GC Try.prog 31 [.slice (some ⟨0, 0, none⟩) n 0, .slice (some ⟨1, 0, none⟩) k 0] [⟨((xs.map fe).flatten).map (vi .u64), false, 4⟩, ⟨((ys.map fe).flatten).map (vi .u64), false, 4⟩] [.slice (some ⟨2, 0, none⟩) (Po.tr (Po.pa xs ys)).length 0] [⟨((xs.map fe).flatten).map (vi .u64), false, 4⟩, ⟨((ys.map fe).flatten).map (vi .u64), false, 4⟩, ⟨(((Po.tr (Po.pa xs ys)).map fe).flatten).map (vi .u64), true, 4⟩] := by
  refine GC.intro Try.func31 rfl (by show 2 ≤ 28; decide) (by first | exact Nat.le_refl _ | decide | simp) ?_
  subst hn
  subst hk
  have hpl : (Po.pa xs ys).length = (Nat.max xs.length ys.length) := Po.pa_len xs ys
  refine AW.seqR ?_
  refine AWo.pure (PureOp.assign rfl) rfl rfl ?_
  refine AWo.nil trivial ?_
  refine AW.seqR ?_
  refine AWo.pure (PureOp.assign rfl) rfl rfl ?_
  refine AWo.nil trivial ?_
  refine AW.seq ?_
  refine AW.seqR ?_
  refine AWo.pure (PureOp.move rfl) rfl rfl ?_
  first | refine AWo.pure (PureOp.lenS tbok rfl rfl) rfl rfl ?_ | refine AWo.pure (PureOp.lenD tbok rfl rfl) rfl rfl ?_
  refine AWo.pure (PureOp.move rfl) rfl rfl ?_
  first | refine AWo.pure (PureOp.lenS tbok rfl rfl) rfl rfl ?_ | refine AWo.pure (PureOp.lenD tbok rfl rfl) rfl rfl ?_
  first | refine AWo.pure (PureOp.maxN rfl rfl) rfl rfl ?_ | refine AWo.pure (PureOp.max rfl rfl) rfl rfl ?_
  refine AWo.pure (PureOp.move rfl) rfl rfl ?_
  refine AWo.nil trivial ?_
  refine AW.block ?_
  refine AW.ghost 77000 4 rfl ?_
  refine AW.loopw (fun mm σ => ∃ i, (i ≤ (Nat.max xs.length ys.length)) ∧ mm = (Nat.max xs.length ys.length) - i ∧ σ = ⟨(upd (upd (upd (upd (upd emp 0 (.slice (some ⟨0, 0, none⟩) xs.length 0)) 1 (.slice (some ⟨1, 0, none⟩) ys.length 0)) 5 (.slice (some ⟨77000, 0, none⟩) i 0)) 11 (vi .i64 (Nat.max xs.length ys.length))) 12 (vi .i64 i)), (upd (upd (upd emp 0 ⟨((xs.map fe).flatten).map (vi .u64), false, 4⟩) 1 ⟨((ys.map fe).flatten).map (vi .u64), false, 4⟩) 77000 ⟨((((Po.pa xs ys).take i).map fe).flatten).map (vi .u64), true, 4⟩)⟩) (fm := []) ?_ ⟨0, Nat.zero_le _, rfl, rfl⟩ ?_
  ·
    refine Wk.of [0, 1, 77000] ?_ ?_ ?_ (by decide) rfl
    ·
      refine WkE.upd rfl (by first | exact VR.flat _ rfl | exact VR.eqv (vp_succ _) rfl | exact VR.eqv (vp_succ _).symm rfl | exact VR.eqv (by first | rfl | (congr 1; omega) | (simp; done) | (simp; omega)) rfl) ?_
      refine WkE.upd rfl (by first | exact VR.flat _ rfl | exact VR.eqv (vp_succ _) rfl | exact VR.eqv (vp_succ _).symm rfl | exact VR.eqv (by first | rfl | (congr 1; omega) | (simp; done) | (simp; omega)) rfl) ?_
      refine WkE.upd rfl (by first | exact .nilS _ (by simp) | exact .slice (77000) 0 _ 0 ⟨_, rfl⟩ (by simp) (by simp)) ?_
      refine WkE.upd rfl (.slice (1) 0 _ 0 ⟨_, rfl⟩ (by simp) (by simp)) ?_
      refine WkE.upd rfl (.slice (0) 0 _ 0 ⟨_, rfl⟩ (by simp) (by simp)) ?_
      exact WkE.emp
    ·
      refine WkM.flat rfl (flatM flat_vi) (fun h => h) ?_
      refine WkM.flat rfl (flatM flat_vi) (fun h => h) ?_
      refine WkM.flat rfl (flatM flat_vi) (fun h => h) ?_
      exact WkM.emp
    ·
      repeat (refine dom_upd_mem (by decide) ?_)
      exact dom_emp
  ·
    rintro mm σ ⟨i, hinv, rfl, rfl⟩
    refine AW.seqR ?_
    first | refine AWo.pure (PureOp.ltN rfl rfl) rfl rfl ?_ | refine AWo.pure (PureOp.bin rfl rfl rfl) rfl rfl ?_
    refine AWo.nil trivial ?_
    refine AW.seq ?_
    refine AW.cond rfl (fun hb0 => ?_) (fun hb0 => ?_)
    ·
      have hi : i < (Nat.max xs.length ys.length) := by simpa using hb0
      have hm1 := Nat.max_lt.2 ⟨hx, hy⟩
      have hm2 : (Nat.max xs.length ys.length) < 1000000 := hm1
      refine AW.skip ?_
      refine thenA_normal ?_
      refine AW.seq ?_
      refine AW.block ?_
      refine AW.seqR ?_
      refine AWo.pure (PureOp.move rfl) rfl rfl ?_
      refine AWo.pure (PureOp.assign rfl) rfl rfl ?_
      refine AWo.nil trivial ?_
      refine AW.region ?_
      refine AWo.pure (PureOp.move rfl) rfl rfl ?_
      refine AWo.pure (PureOp.move rfl) rfl rfl ?_
      refine AWo.pure (PureOp.move rfl) rfl rfl ?_
      refine AWo.callX (atp_ctr (xs := xs) (n := xs.length) (i := i) rfl hx) bd89 [(0, 0)] [] rfl (.cons rfl (.cons rfl .nil)) rfl (.cons rfl rfl (.cons rfl rfl .nil)) (.flat rfl (flatM flat_vi) (by intro h; first | exact h | rfl) .nil) rfl (.keep rfl .nil) frN (by decide) (.pure (by first | rfl | exact pure_aggM flat_vi | exact pure_aggM flat_bool) .nil) rfl rfl rfl rfl ?_
      refine AWo.pure (PureOp.move rfl) rfl rfl ?_
      refine AWo.pure (PureOp.move rfl) rfl rfl ?_
      refine AWo.callX (atp_ctr (xs := ys) (n := ys.length) (i := i) rfl hy) bd89 [(1, 0)] [] rfl (.cons rfl (.cons rfl .nil)) rfl (.cons rfl rfl (.cons rfl rfl .nil)) (.flat rfl (flatM flat_vi) (by intro h; first | exact h | rfl) .nil) rfl (.keep rfl .nil) frN (by decide) (.pure (by first | rfl | exact pure_aggM flat_vi | exact pure_aggM flat_bool) .nil) rfl rfl rfl rfl ?_
      refine AWo.callX (addF_ctr (x := Po.co xs i) (y := Po.co ys i)) bd33 [] [] rfl (.cons rfl (.cons rfl .nil)) rfl (.pure (by first | rfl | exact pure_aggM flat_vi | exact pure_aggM flat_bool) (.pure (by first | rfl | exact pure_aggM flat_vi | exact pure_aggM flat_bool) .nil)) .nil rfl .nil frN (by decide) (.pure (by first | rfl | exact pure_aggM flat_vi | exact pure_aggM flat_bool) .nil) rfl rfl rfl rfl ?_
      refine AWo.buildSlice tbok 24000 [(0, .agg ((fe (Po.co xs i + Po.co ys i)).map (vi .u64)).toArray)] (out := [fe (Po.co xs i + Po.co ys i)].flatten.map (vi .u64)) rfl rfl (by decide) rfl rfl rfl (by decide) rfl (fillB1 (fe_len _)) rfl rfl rfl ?_
      refine AWo.append tbok (all := ((((Po.pa xs ys).take (i + 1)).map fe).flatten).map (vi .u64)) (news := [fe (Po.co xs i + Po.co ys i)].flatten.map (vi .u64)) 25000 rfl rfl rfl rfl (by show (FF _).length = _; rw [FF_len, List.length_take, Nat.min_eq_left (by omega)]) (by show List.take _ (List.drop 0 _) = _; rw [List.drop_zero]; exact List.take_of_length_le (by simp)) (by simp; done) (by decide) rfl rfl rfl (by first | decide | exact Nat.one_ne_zero) rfl rfl rfl (by first | decide | omega) (by first | decide | omega) (by first | exact oneM (fun _ => rfl) _ | (simp; done)) (by show FF _ ++ FF [_] = FF _; rw [← FF_app, pa_step (by omega)]) rfl rfl ?_
      refine AWo.pure (PureOp.assign rfl) rfl rfl ?_
      refine AWo.nil trivial ?_
      refine inBlockA_normal ?_
      refine thenA_normal ?_
      refine AW.region ?_
      first | refine AWo.pure (PureOp.addI (b := 1) rfl rfl (by first | decide | omega)) rfl rfl ?_ | refine AWo.pure (PureOp.bin rfl rfl rfl) rfl rfl ?_
      refine AWo.pure (PureOp.move rfl) rfl rfl ?_
      refine AWo.nil trivial ?_
      refine thenA_normal ?_
      refine ⟨(Nat.max xs.length ys.length) - (i + 1), [(77000, 25000)], _, by omega, ?_, i + 1, by omega, rfl, rfl⟩
      refine Wk.of [0, 1, 77000] ?_ ?_ ?_ (by decide) rfl
      ·
        refine WkE.upd rfl (by first | exact VR.flat _ rfl | exact VR.eqv (vp_succ _) rfl | exact VR.eqv (vp_succ _).symm rfl | exact VR.eqv (by first | rfl | (congr 1; omega) | (simp; done) | (simp; omega)) rfl) ?_
        refine WkE.upd rfl (by first | exact VR.flat _ rfl | exact VR.eqv (vp_succ _) rfl | exact VR.eqv (vp_succ _).symm rfl | exact VR.eqv (by first | rfl | (congr 1; omega) | (simp; done) | (simp; omega)) rfl) ?_
        refine WkE.upd rfl (by first | exact .nilS _ (by simp) | exact .slice (77000) 0 _ 0 ⟨_, rfl⟩ (by simp) (by simp)) ?_
        refine WkE.upd rfl (.slice (1) 0 _ 0 ⟨_, rfl⟩ (by simp) (by simp)) ?_
        refine WkE.upd rfl (.slice (0) 0 _ 0 ⟨_, rfl⟩ (by simp) (by simp)) ?_
        exact WkE.emp
      ·
        refine WkM.flat rfl (flatM flat_vi) (fun h => h) ?_
        refine WkM.flat rfl (flatM flat_vi) (fun h => h) ?_
        refine WkM.flat rfl (flatM flat_vi) (fun h => h) ?_
        exact WkM.emp
      ·
        repeat (refine dom_upd_mem (by decide) ?_)
        exact dom_emp
    ·
      obtain rfl : i = (Nat.max xs.length ys.length) := by have := of_decide_eq_false hb0; omega
      rw [List.take_of_length_le (by omega)]
      refine AW.exit ?_
      refine thenA_exit ?_
      refine thenA_exit ?_
      refine inBlockA_hit ?_
      refine thenA_normal ?_
      refine AW.seqR ?_
      refine AWo.pure (PureOp.move rfl) rfl rfl ?_
      refine AWo.callX (trimp_ctr (xs := Po.pa xs ys) (n := (Nat.max xs.length ys.length)) hpl (by have := Nat.max_le.2 ⟨Nat.le_of_lt hx, Nat.le_of_lt hy⟩; have := Nat.max_lt.2 ⟨hx, hy⟩; exact this)) bd39 [(77000, 0)] [28000] rfl (.cons rfl .nil) rfl (.cons rfl rfl .nil) (.flat rfl (flatM flat_vi) (by intro h; first | exact h | rfl) .nil) rfl (.keep rfl (.new (flat_map_ren (flatM flat_vi)) (OkL.flat (flatM flat_vi)) .nil)) (frC rfl frN) (by decide) (.cons rfl rfl .nil) rfl rfl rfl rfl ?_
      refine AWo.pure (PureOp.assign rfl) rfl rfl ?_
      refine AWo.nil trivial ?_
      refine AW.ret ?_
      refine RetQ.gc [_] [28000] [.tmp 4] (.inl rfl) rfl (.tmp rfl .nil) rfl (.cons rfl rfl .nil) (OutL.flat rfl (flatM flat_vi) (by intro h; first | rfl | exact h.elim id fun h => absurd h.1 (by simp)) (OutL.flat rfl (flatM flat_vi) (by intro h; first | rfl | exact h.elim id fun h => absurd h.1 (by simp)) (OutL.flat rfl (flatM flat_vi) (by intro h; first | rfl | exact h.elim id fun h => absurd h.1 (by simp)) trivial))) (by decide) rfl
end Go.Proofs.Yteeifahhejangaa
namespace Go.Proofs.Yteeifahhejangaa
open Go Sim
def rowA (l : List Fp) (i : Nat) (a : Fp) (ys : List Fp) : Nat → List Fp
  | 0 => l
  | j + 1 => (rowA l i a ys j).set (i + j) ((rowA l i a ys j).getD (i + j) 0 + a * ys.getD j 0)
def mulA (xs ys : List Fp) : Nat → List Fp
  | 0 => List.replicate (xs.length + ys.length) 0
  | i + 1 => rowA (mulA xs ys i) i (xs.getD i 0) ys ys.length
theorem rowA_len (l : List Fp) (i : Nat) (a : Fp) (ys : List Fp) : ∀ j, (rowA l i a ys j).length = l.length
  | 0 => rfl
  | j + 1 => by rw [rowA, List.length_set, rowA_len l i a ys j]
theorem mulA_len (xs ys : List Fp) : ∀ i, (mulA xs ys i).length = xs.length + ys.length
  | 0 => by rw [mulA, List.length_replicate]
  | i + 1 => by rw [mulA, rowA_len, mulA_len xs ys i]
theorem co_set {l : List Fp} {p : Nat} {v : Fp} (h : p < l.length) (k : Nat) : Po.co (l.set p v) k = if k = p then v else Po.co l k := by
  unfold Po.co
  rw [List.getD_eq_getElem?_getD, List.getD_eq_getElem?_getD, List.getElem?_set]
  by_cases e : p = k
  · subst e; simp [h]
  · rw [if_neg e, if_neg (fun h => e h.symm)]
theorem co_rowA {l : List Fp} {i : Nat} {a : Fp} {ys : List Fp} (k : Nat) : ∀ j, i + j ≤ l.length → Po.co (rowA l i a ys j) k = Po.co l k + (if i ≤ k ∧ k < i + j then a * Po.co ys (k - i) else 0)
  | 0, _ => by rw [if_neg (by omega), rowA, Rg.add_zero]
  | j + 1, h => by
    rw [rowA, co_set (by rw [rowA_len]; omega)]
    by_cases e : k = i + j
    · subst e
      rw [if_pos rfl, if_pos ⟨by omega, by omega⟩, Nat.add_sub_cancel_left]
      have := co_rowA (l := l) (i := i) (a := a) (ys := ys) (i + j) j (by omega)
      rw [if_neg (by omega), Rg.add_zero] at this
      unfold Po.co at this ⊢
      rw [this]
    · rw [if_neg e, co_rowA k j (by omega)]
      by_cases h2 : i ≤ k ∧ k < i + j
      · rw [if_pos h2, if_pos ⟨h2.1, by omega⟩]
      · rw [if_neg h2, if_neg (by omega)]
theorem ringB (b s : Fp) : s * b + 0 = 0 + b * s := by rw [Rg.add_zero, Rg.zero_add, Rg.mul_comm]
theorem ringC (u s t : Fp) : u + (s + t) = u + s + t := by rw [Rg.add_assoc]
theorem co_snoc (q : List Fp) (a : Fp) : ∀ (p : List Fp) (k : Nat), Po.co (Po.pm (p ++ [a]) q) k = Po.co (Po.pm p q) k + (if p.length ≤ k then a * Po.co q (k - p.length) else 0)
  | [], k => by
    rw [List.nil_append, List.length_nil, if_pos (Nat.zero_le _), Nat.sub_zero]
    cases k with
    | zero => rw [Po.co_pm_zero, Po.pm, Po.co_nil]; exact ringB ..
    | succ k => rw [Po.co_pm_succ, Po.pm, Po.co_nil, Po.co_nil]; exact ringB ..
  | b :: p, 0 => by
    rw [List.cons_append, Po.co_pm_zero, Po.co_pm_zero, if_neg (by simp), Rg.add_zero, Rg.add_zero]
  | b :: p, k + 1 => by
    rw [List.cons_append, Po.co_pm_succ, Po.co_pm_succ, co_snoc q a p k, ringC]
    congr 1
    simp only [List.length_cons, Nat.add_le_add_iff_right, Nat.add_sub_add_right]
theorem co_mulA (xs ys : List Fp) (k : Nat) : ∀ i, i ≤ xs.length → Po.co (mulA xs ys i) k = Po.co (Po.pm (xs.take i) ys) k
  | 0, _ => by
    rw [mulA, List.take_zero, Po.pm, Po.co_nil]
    unfold Po.co
    rw [List.getD_eq_getElem?_getD]
    by_cases h : k < xs.length + ys.length
    · rw [List.getElem?_replicate_of_lt h]; rfl
    · rw [List.getElem?_eq_none (by simp; omega)]; rfl
  | i + 1, h => by
    rw [mulA, co_rowA k ys.length (by rw [mulA_len]; omega), co_mulA xs ys k i (by omega), List.take_succ_eq_append_getElem (show i < xs.length by omega), co_snoc]
    congr 1
    rw [List.length_take, Nat.min_eq_left (by omega), List.getD_eq_getElem?_getD, List.getElem?_eq_getElem (show i < xs.length by omega), Option.getD_some]
    by_cases h1 : i ≤ k
    · by_cases h2 : k < i + ys.length
      · rw [if_pos ⟨h1, h2⟩, if_pos h1]
      · rw [if_neg (by omega), if_pos h1, Po.co_len (by omega), Rg.mul_zero]
    · rw [if_neg (by omega), if_neg h1]
theorem mulA_tr (xs ys : List Fp) : Po.tr (mulA xs ys xs.length) = Po.tr (Po.pm xs ys) := Po.tr_congr fun k => by
  rw [co_mulA xs ys k _ (Nat.le_refl _), List.take_length]
theorem mulp_ctr {xs ys : List Fp} {n k : Nat} (hn : xs.length = n) (hk : ys.length = k) (hx : n < 100000) (hy : k < 100000) : GC Try.prog 34 [.slice (some ⟨0, 0, none⟩) n 0, .slice (some ⟨1, 0, none⟩) k 0] [⟨((xs.map fe).flatten).map (vi .u64), false, 4⟩, ⟨((ys.map fe).flatten).map (vi .u64), false, 4⟩] [.slice (some ⟨2, 0, none⟩) (Po.tr (Po.pm xs ys)).length 0] [⟨((xs.map fe).flatten).map (vi .u64), false, 4⟩, ⟨((ys.map fe).flatten).map (vi .u64), false, 4⟩, ⟨(((Po.tr (Po.pm xs ys)).map fe).flatten).map (vi .u64), true, 4⟩] := by
  refine GC.intro Try.func34 rfl (by show 2 ≤ 49; decide) (by first | exact Nat.le_refl _ | decide | simp) ?_
  subst hn
  subst hk
  refine AW.seqR ?_
  refine AWo.pure (PureOp.assign rfl) rfl rfl ?_
  refine AWo.nil trivial ?_
  refine AW.seqR ?_
  refine AWo.pure (PureOp.move rfl) rfl rfl ?_
  first | refine AWo.pure (PureOp.lenS tbok rfl rfl) rfl rfl ?_ | refine AWo.pure (PureOp.lenD tbok rfl rfl) rfl rfl ?_
  refine AWo.pure (PureOp.move rfl) rfl rfl ?_
  first | refine AWo.pure (PureOp.lenS tbok rfl rfl) rfl rfl ?_ | refine AWo.pure (PureOp.lenD tbok rfl rfl) rfl rfl ?_
  first | refine AWo.pure (PureOp.addI rfl rfl (by first | decide | omega)) rfl rfl ?_ | refine AWo.pure (PureOp.bin rfl rfl rfl) rfl rfl ?_
  refine AWo.makeSliceC tbok 16000 ((((List.replicate (xs.length + ys.length) (0 : Fp)).map fe).flatten).map (vi .u64)) rfl rfl (Nat.le_refl _) rfl rfl (by decide) rfl rfl rfl rfl (by omega) (by omega) (zeroFF _).symm rfl rfl rfl ?_
  refine AWo.pure (PureOp.assign rfl) rfl rfl ?_
  refine AWo.nil trivial ?_
  refine AW.seq ?_
  refine AW.seqR ?_
  refine AWo.pure (PureOp.move rfl) rfl rfl ?_
  first | refine AWo.pure (PureOp.lenS tbok rfl rfl) rfl rfl ?_ | refine AWo.pure (PureOp.lenD tbok rfl rfl) rfl rfl ?_
  refine AWo.pure (PureOp.move rfl) rfl rfl ?_
  refine AWo.nil trivial ?_
  refine AW.block ?_
  refine AW.loopw (fun mm σ => ∃ i, (i ≤ xs.length) ∧ mm = xs.length - i ∧ σ = ⟨(upd (upd (upd (upd (upd emp 1 (.slice (some ⟨1, 0, none⟩) ys.length 0)) 5 (.slice (some ⟨16000, 0, none⟩) (xs.length + ys.length) 0)) 16 (.slice (some ⟨0, 0, none⟩) xs.length 0)) 17 (vi .i64 xs.length)) 18 (vi .i64 i)), (upd (upd (upd emp 0 ⟨((xs.map fe).flatten).map (vi .u64), false, 4⟩) 1 ⟨((ys.map fe).flatten).map (vi .u64), false, 4⟩) 16000 ⟨(((mulA xs ys i).map fe).flatten).map (vi .u64), true, 4⟩)⟩) (fm := []) ?_ ⟨0, Nat.zero_le _, rfl, rfl⟩ ?_
  ·
    refine Wk.of [0, 1, 16000] ?_ ?_ ?_ (by decide) rfl
    ·
      refine WkE.upd rfl (by first | exact VR.flat _ rfl | exact VR.eqv (vp_succ _) rfl | exact VR.eqv (vp_succ _).symm rfl | exact VR.eqv (by first | rfl | (congr 1; omega) | (simp; done) | (simp; omega)) rfl) ?_
      refine WkE.upd rfl (by first | exact VR.flat _ rfl | exact VR.eqv (vp_succ _) rfl | exact VR.eqv (vp_succ _).symm rfl | exact VR.eqv (by first | rfl | (congr 1; omega) | (simp; done) | (simp; omega)) rfl) ?_
      refine WkE.upd rfl (.slice (0) 0 _ 0 ⟨_, rfl⟩ (by simp) (by simp)) ?_
      refine WkE.upd rfl (.slice (16000) 0 _ 0 ⟨_, rfl⟩ (by simp) (by simp)) ?_
      refine WkE.upd rfl (.slice (1) 0 _ 0 ⟨_, rfl⟩ (by simp) (by simp)) ?_
      exact WkE.emp
    ·
      refine WkM.flat rfl (flatM flat_vi) (fun h => h) ?_
      refine WkM.flat rfl (flatM flat_vi) (fun h => h) ?_
      refine WkM.flat rfl (flatM flat_vi) (fun h => h) ?_
      exact WkM.emp
    ·
      repeat (refine dom_upd_mem (by decide) ?_)
      exact dom_emp
  ·
    rintro mm σ ⟨i, hinv, rfl, rfl⟩
    refine AW.seqR ?_
    first | refine AWo.pure (PureOp.ltN rfl rfl) rfl rfl ?_ | refine AWo.pure (PureOp.bin rfl rfl rfl) rfl rfl ?_
    refine AWo.nil trivial ?_
    refine AW.seq ?_
    refine AW.cond rfl (fun hb0 => ?_) (fun hb0 => ?_)
    ·
      have hi : i < xs.length := by simpa using hb0
      refine AW.skip ?_
      refine thenA_normal ?_
      refine AW.seq ?_
      refine AW.block ?_
      refine AW.seqR ?_
      refine AWo.pure (PureOp.move rfl) rfl rfl ?_
      first | refine AWo.pure (PureOp.idx1 tbok rfl rfl rfl rfl (by first | decide | omega)) rfl rfl ?_ | refine AWo.pure (PureOp.idx tbok rfl rfl rfl rfl (by first | decide | omega)) rfl rfl ?_
      refine yLJ (xs := xs) (i) ?_
      refine AWo.alloc tbok 8000 1 _ rfl rfl rfl rfl rfl rfl ?_
      refine AWo.pure (PureOp.assign rfl) rfl rfl ?_
      refine AWo.storeAllN tbok rfl rfl rfl rfl (by first | (simp [*]; done) | rfl) (by first | (simp [*]; done) | rfl) (by first | exact oneM (fun _ => rfl) _ | rfl | (simp; done)) rfl ?_
      refine AWo.nil trivial ?_
      refine AW.seqR ?_
      refine AWo.pure (PureOp.move rfl) rfl rfl ?_
      first | refine AWo.pure (PureOp.lenS tbok rfl rfl) rfl rfl ?_ | refine AWo.pure (PureOp.lenD tbok rfl rfl) rfl rfl ?_
      refine AWo.pure (PureOp.move rfl) rfl rfl ?_
      refine AWo.nil trivial ?_
      refine AW.block ?_
      refine AW.loopw (fun mm σ => ∃ j, (j ≤ ys.length) ∧ mm = ys.length - j ∧ σ = ⟨(upd (upd (upd (upd (upd (upd (upd (upd (upd (upd emp 1 (.slice (some ⟨1, 0, none⟩) ys.length 0)) 5 (.slice (some ⟨16000, 0, none⟩) (xs.length + ys.length) 0)) 16 (.slice (some ⟨0, 0, none⟩) xs.length 0)) 17 (vi .i64 xs.length)) 18 (vi .i64 i)) 6 (vi .i64 i)) 7 (.pointer (some ⟨8000, 0, none⟩))) 23 (.slice (some ⟨1, 0, none⟩) ys.length 0)) 24 (vi .i64 ys.length)) 25 (vi .i64 j)), (upd (upd (upd (upd emp 0 ⟨((xs.map fe).flatten).map (vi .u64), false, 4⟩) 1 ⟨((ys.map fe).flatten).map (vi .u64), false, 4⟩) 16000 ⟨(((rowA (mulA xs ys i) i (xs.getD i 0) ys j).map fe).flatten).map (vi .u64), true, 4⟩) 8000 ⟨(fe (xs.getD i 0)).map (vi .u64), true, 1⟩)⟩) (fm := []) ?_ ⟨0, Nat.zero_le _, rfl, rfl⟩ ?_
      ·
        refine Wk.of [0, 1, 16000, 8000] ?_ ?_ ?_ (by decide) rfl
        ·
          refine WkE.upd rfl (by first | exact VR.flat _ rfl | exact VR.eqv (vp_succ _) rfl | exact VR.eqv (vp_succ _).symm rfl | exact VR.eqv (by first | rfl | (congr 1; omega) | (simp; done) | (simp; omega)) rfl) ?_
          refine WkE.upd rfl (by first | exact VR.flat _ rfl | exact VR.eqv (vp_succ _) rfl | exact VR.eqv (vp_succ _).symm rfl | exact VR.eqv (by first | rfl | (congr 1; omega) | (simp; done) | (simp; omega)) rfl) ?_
          refine WkE.upd rfl (.slice (1) 0 _ 0 ⟨_, rfl⟩ (by simp) (by simp)) ?_
          refine WkE.upd rfl (.ptr (8000) 0 ⟨_, rfl⟩) ?_
          refine WkE.upd rfl (by first | exact VR.flat _ rfl | exact VR.eqv (vp_succ _) rfl | exact VR.eqv (vp_succ _).symm rfl | exact VR.eqv (by first | rfl | (congr 1; omega) | (simp; done) | (simp; omega)) rfl) ?_
          refine WkE.upd rfl (by first | exact VR.flat _ rfl | exact VR.eqv (vp_succ _) rfl | exact VR.eqv (vp_succ _).symm rfl | exact VR.eqv (by first | rfl | (congr 1; omega) | (simp; done) | (simp; omega)) rfl) ?_
          refine WkE.upd rfl (by first | exact VR.flat _ rfl | exact VR.eqv (vp_succ _) rfl | exact VR.eqv (vp_succ _).symm rfl | exact VR.eqv (by first | rfl | (congr 1; omega) | (simp; done) | (simp; omega)) rfl) ?_
          refine WkE.upd rfl (.slice (0) 0 _ 0 ⟨_, rfl⟩ (by simp) (by simp)) ?_
          refine WkE.upd rfl (.slice (16000) 0 _ 0 ⟨_, rfl⟩ (by simp) (by simp)) ?_
          refine WkE.upd rfl (.slice (1) 0 _ 0 ⟨_, rfl⟩ (by simp) (by simp)) ?_
          exact WkE.emp
        ·
          refine WkM.flat rfl (flatM flat_vi) (fun h => h) ?_
          refine WkM.flat rfl (flatM flat_vi) (fun h => h) ?_
          refine WkM.flat rfl (flatM flat_vi) (fun h => h) ?_
          refine WkM.flat rfl (flatM flat_vi) (fun h => h) ?_
          exact WkM.emp
        ·
          repeat (refine dom_upd_mem (by decide) ?_)
          exact dom_emp
      ·
        rintro mm σ ⟨j, hj0, rfl, rfl⟩
        refine AW.seqR ?_
        first | refine AWo.pure (PureOp.ltN rfl rfl) rfl rfl ?_ | refine AWo.pure (PureOp.bin rfl rfl rfl) rfl rfl ?_
        refine AWo.nil trivial ?_
        refine AW.seq ?_
        refine AW.cond rfl (fun hb1 => ?_) (fun hb1 => ?_)
        ·
          have hj : j < ys.length := by simpa using hb1
          have hrl : (rowA (mulA xs ys i) i (xs.getD i 0) ys j).length = xs.length + ys.length := by rw [rowA_len, mulA_len]
          refine AW.skip ?_
          refine thenA_normal ?_
          refine AW.seq ?_
          refine AW.block ?_
          refine AW.seqR ?_
          refine AWo.pure (PureOp.move rfl) rfl rfl ?_
          first | refine AWo.pure (PureOp.idx1 tbok rfl rfl rfl rfl (by first | decide | omega)) rfl rfl ?_ | refine AWo.pure (PureOp.idx tbok rfl rfl rfl rfl (by first | decide | omega)) rfl rfl ?_
          refine yLJ (xs := ys) (j) ?_
          refine AWo.alloc tbok 10000 1 _ rfl rfl rfl rfl rfl rfl ?_
          refine AWo.pure (PureOp.assign rfl) rfl rfl ?_
          refine AWo.storeAllN tbok rfl rfl rfl rfl (by first | (simp [*]; done) | rfl) (by first | (simp [*]; done) | rfl) (by first | exact oneM (fun _ => rfl) _ | rfl | (simp; done)) rfl ?_
          refine AWo.nil trivial ?_
          refine AW.draw mixed ?_
          refine AWo.pure (PureOp.move rfl) rfl rfl ?_
          refine AWo.pure (PureOp.move rfl) rfl rfl ?_
          refine AWo.pure (PureOp.move rfl) rfl rfl ?_
          first | refine AWo.pure (PureOp.addI rfl rfl (by first | decide | omega)) rfl rfl ?_ | refine AWo.pure (PureOp.bin rfl rfl rfl) rfl rfl ?_
          refine AWo.pure (PureOp.move rfl) rfl rfl ?_
          refine AWo.pure (PureOp.move rfl) rfl rfl ?_
          refine AWo.pure (PureOp.move rfl) rfl rfl ?_
          first | refine AWo.pure (PureOp.addI rfl rfl (by first | decide | omega)) rfl rfl ?_ | refine AWo.pure (PureOp.bin rfl rfl rfl) rfl rfl ?_
          first | refine AWo.pure (PureOp.idx1 tbok rfl rfl rfl rfl (by first | decide | omega)) rfl rfl ?_ | refine AWo.pure (PureOp.idx tbok rfl rfl rfl rfl (by first | decide | omega)) rfl rfl ?_
          refine yLJ (xs := rowA (mulA xs ys i) i (xs.getD i 0) ys j) (i + j) ?_
          first | refine yLE ?_ | refine yLEi ?_
          first | refine yLE ?_ | refine yLEi ?_
          refine AWo.callX (mulF_ctr (x := xs.getD i 0) (y := ys.getD j 0)) bd35 [] [] rfl (.cons rfl (.cons rfl .nil)) rfl (.pure (by first | rfl | exact pure_aggM flat_vi | exact pure_aggM flat_bool) (.pure (by first | rfl | exact pure_aggM flat_vi | exact pure_aggM flat_bool) .nil)) .nil rfl .nil frN (by decide) (.pure (by first | rfl | exact pure_aggM flat_vi | exact pure_aggM flat_bool) .nil) rfl rfl rfl rfl ?_
          refine AWo.callX (addF_ctr (x := (rowA (mulA xs ys i) i (xs.getD i 0) ys j).getD (i + j) 0) (y := xs.getD i 0 * ys.getD j 0)) bd33 [] [] rfl (.cons rfl (.cons rfl .nil)) rfl (.pure (by first | rfl | exact pure_aggM flat_vi | exact pure_aggM flat_bool) (.pure (by first | rfl | exact pure_aggM flat_vi | exact pure_aggM flat_bool) .nil)) .nil rfl .nil frN (by decide) (.pure (by first | rfl | exact pure_aggM flat_vi | exact pure_aggM flat_bool) .nil) rfl rfl rfl rfl ?_
          first | refine AWo.pure (PureOp.idx1 tbok rfl rfl rfl rfl (by first | decide | omega)) rfl rfl ?_ | refine AWo.pure (PureOp.idx tbok rfl rfl rfl rfl (by first | decide | omega)) rfl rfl ?_
          refine ySJ (xs := rowA (mulA xs ys i) i (xs.getD i 0) ys j) (y := (rowA (mulA xs ys i) i (xs.getD i 0) ys j).getD (i + j) 0 + xs.getD i 0 * ys.getD j 0) (i + j) ?_
          refine AWo.nil (by kernel_rfl) ?_
          refine inBlockA_normal ?_
          refine thenA_normal ?_
          refine AW.region ?_
          first | refine AWo.pure (PureOp.addI (b := 1) rfl rfl (by first | decide | omega)) rfl rfl ?_ | refine AWo.pure (PureOp.bin rfl rfl rfl) rfl rfl ?_
          refine AWo.pure (PureOp.move rfl) rfl rfl ?_
          refine AWo.nil trivial ?_
          refine thenA_normal ?_
          refine ⟨ys.length - (j + 1), [], _, by omega, ?_, j + 1, by omega, rfl, rfl⟩
          refine Wk.of [0, 1, 16000, 8000] ?_ ?_ ?_ (by decide) rfl
          ·
            refine WkE.upd rfl (by first | exact VR.flat _ rfl | exact VR.eqv (vp_succ _) rfl | exact VR.eqv (vp_succ _).symm rfl | exact VR.eqv (by first | rfl | (congr 1; omega) | (simp; done) | (simp; omega)) rfl) ?_
            refine WkE.upd rfl (by first | exact VR.flat _ rfl | exact VR.eqv (vp_succ _) rfl | exact VR.eqv (vp_succ _).symm rfl | exact VR.eqv (by first | rfl | (congr 1; omega) | (simp; done) | (simp; omega)) rfl) ?_
            refine WkE.upd rfl (.slice (1) 0 _ 0 ⟨_, rfl⟩ (by simp) (by simp)) ?_
            refine WkE.upd rfl (.ptr (8000) 0 ⟨_, rfl⟩) ?_
            refine WkE.upd rfl (by first | exact VR.flat _ rfl | exact VR.eqv (vp_succ _) rfl | exact VR.eqv (vp_succ _).symm rfl | exact VR.eqv (by first | rfl | (congr 1; omega) | (simp; done) | (simp; omega)) rfl) ?_
            refine WkE.upd rfl (by first | exact VR.flat _ rfl | exact VR.eqv (vp_succ _) rfl | exact VR.eqv (vp_succ _).symm rfl | exact VR.eqv (by first | rfl | (congr 1; omega) | (simp; done) | (simp; omega)) rfl) ?_
            refine WkE.upd rfl (by first | exact VR.flat _ rfl | exact VR.eqv (vp_succ _) rfl | exact VR.eqv (vp_succ _).symm rfl | exact VR.eqv (by first | rfl | (congr 1; omega) | (simp; done) | (simp; omega)) rfl) ?_
            refine WkE.upd rfl (.slice (0) 0 _ 0 ⟨_, rfl⟩ (by simp) (by simp)) ?_
            refine WkE.upd rfl (.slice (16000) 0 _ 0 ⟨_, rfl⟩ (by simp) (by simp)) ?_
            refine WkE.upd rfl (.slice (1) 0 _ 0 ⟨_, rfl⟩ (by simp) (by simp)) ?_
            exact WkE.emp
          ·
            refine WkM.flat rfl (flatM flat_vi) (fun h => h) ?_
            refine WkM.flat rfl (flatM flat_vi) (fun h => h) ?_
            refine WkM.flat rfl (flatM flat_vi) (fun h => h) ?_
            refine WkM.flat rfl (flatM flat_vi) (fun h => h) ?_
            exact WkM.emp
          ·
            repeat (refine dom_upd_mem (by decide) ?_)
            exact dom_emp
        ·
          obtain rfl : j = ys.length := by simp at hb1; omega
          refine AW.exit ?_
          refine thenA_exit ?_
          refine thenA_exit ?_
          refine inBlockA_hit ?_
          refine inBlockA_normal ?_
          refine thenA_normal ?_
          refine AW.region ?_
          first | refine AWo.pure (PureOp.addI (b := 1) rfl rfl (by first | decide | omega)) rfl rfl ?_ | refine AWo.pure (PureOp.bin rfl rfl rfl) rfl rfl ?_
          refine AWo.pure (PureOp.move rfl) rfl rfl ?_
          refine AWo.nil trivial ?_
          refine thenA_normal ?_
          refine ⟨xs.length - (i + 1), [], _, by omega, ?_, i + 1, by omega, rfl, rfl⟩
          refine Wk.of [0, 1, 16000] ?_ ?_ ?_ (by decide) rfl
          ·
            refine WkE.upd rfl (by first | exact VR.flat _ rfl | exact VR.eqv (vp_succ _) rfl | exact VR.eqv (vp_succ _).symm rfl | exact VR.eqv (by first | rfl | (congr 1; omega) | (simp; done) | (simp; omega)) rfl) ?_
            refine WkE.upd rfl (by first | exact VR.flat _ rfl | exact VR.eqv (vp_succ _) rfl | exact VR.eqv (vp_succ _).symm rfl | exact VR.eqv (by first | rfl | (congr 1; omega) | (simp; done) | (simp; omega)) rfl) ?_
            refine WkE.upd rfl (.slice (0) 0 _ 0 ⟨_, rfl⟩ (by simp) (by simp)) ?_
            refine WkE.upd rfl (.slice (16000) 0 _ 0 ⟨_, rfl⟩ (by simp) (by simp)) ?_
            refine WkE.upd rfl (.slice (1) 0 _ 0 ⟨_, rfl⟩ (by simp) (by simp)) ?_
            exact WkE.emp
          ·
            refine WkM.flat rfl (flatM flat_vi) (fun h => h) ?_
            refine WkM.flat rfl (flatM flat_vi) (fun h => h) ?_
            refine WkM.flat rfl (flatM flat_vi) (fun h => h) ?_
            exact WkM.emp
          ·
            repeat (refine dom_upd_mem (by decide) ?_)
            exact dom_emp
    ·
      obtain rfl : i = xs.length := by simp at hb0; omega
      rw [← mulA_tr]
      refine AW.exit ?_
      refine thenA_exit ?_
      refine thenA_exit ?_
      refine inBlockA_hit ?_
      refine thenA_normal ?_
      refine AW.seqR ?_
      refine AWo.pure (PureOp.move rfl) rfl rfl ?_
      refine AWo.callX (trimp_ctr (xs := mulA xs ys xs.length) (n := xs.length + ys.length) (mulA_len _ _ _) (by omega)) bd39 [(16000, 0)] [49000] rfl (.cons rfl .nil) rfl (.cons rfl rfl .nil) (.flat rfl (flatM flat_vi) (by intro h; first | exact h | rfl) .nil) rfl (.keep rfl (.new (flat_map_ren (flatM flat_vi)) (OkL.flat (flatM flat_vi)) .nil)) (frC rfl frN) (by decide) (.cons rfl rfl .nil) rfl rfl rfl rfl ?_
      refine AWo.pure (PureOp.assign rfl) rfl rfl ?_
      refine AWo.nil trivial ?_
      refine AW.ret ?_
      refine RetQ.gc [_] [49000] [.tmp 4] (.inl rfl) rfl (.tmp rfl .nil) rfl (.cons rfl rfl .nil) (OutL.flat rfl (flatM flat_vi) (by intro h; first | rfl | exact h.elim id fun h => absurd h.1 (by simp)) (OutL.flat rfl (flatM flat_vi) (by intro h; first | rfl | exact h.elim id fun h => absurd h.1 (by simp)) (OutL.flat rfl (flatM flat_vi) (by intro h; first | rfl | exact h.elim id fun h => absurd h.1 (by simp)) trivial))) (by decide) rfl
end Go.Proofs.Yteeifahhejangaa
namespace Go.Proofs.Yteeifahhejangaa
open Go Sim
theorem clonee_ctr {xs : List Fp} {n : Nat} (hn : n ≤ xs.length) (hx : n < 1000000) : GC Try.prog 94 [.slice (some ⟨0, 0, none⟩) n 0] [⟨((xs.map fe).flatten).map (vi .u64), false, 4⟩] [.slice (some ⟨1, 0, none⟩) n 0]
    [⟨((xs.map fe).flatten).map (vi .u64), false, 4⟩, ⟨(((xs.take n).map fe).flatten).map (vi .u64), true, 4⟩] := by
  refine GC.intro Try.func94 rfl (by show 1 ≤ 8; decide) (Nat.le_succ _) ?_
  by_cases h0 : n = 0
  · subst h0
    refine AW.nilCase (t := 0) rfl ?_ ?_
    · refine AW.ghost 9000 4 rfl ?_
      refine zS ?_
      refine yA ?_
      refine zN (zQ (zS ?_))
      refine yM ?_
      refine yP (PureOp.nilEqNilS Try.underlying47 rfl) ?_
      refine zN (zC (zS ?_))
      refine yA ?_
      refine zN (zE ?_)
      exact rq [9000] [.tmp 2]
    · refine zS ?_
      refine yA ?_
      refine zN (zQ (zS ?_))
      refine yM ?_
      refine yP (PureOp.slEqDead Try.underlying47 rfl) ?_
      refine zN (zF (zK (zT (zS ?_))))
      refine AWo.buildSlice tbok 6000 [] (out := []) rfl rfl (by decide) rfl rfl rfl (by decide) rfl rfl rfl rfl rfl ?_
      refine yM ?_
      refine yP (PureOp.append0 Try.underlying47 (tbok.sz _ _ rfl) rfl rfl) ?_
      refine yA ?_
      refine zN (zE ?_)
      exact rq [6000] [.tmp 2]
  · refine zS ?_
    refine yA ?_
    refine zN (zQ (zS ?_))
    refine yM ?_
    refine yP (PureOp.slEqNil Try.underlying47 rfl h0) ?_
    refine zN (zF (zK (zT (zS ?_))))
    refine AWo.buildSlice tbok 6000 [] (out := []) rfl rfl (by decide) rfl rfl rfl (by decide) rfl rfl rfl rfl rfl ?_
    refine yM ?_
    refine AWo.append tbok (all := FF (xs.take n)) (news := FF (xs.take n)) 8000 rfl rfl rfl rfl rfl FF_cut (by rw [Nat.zero_add]; show n * 4 ≤ (FF xs).length; rw [FF_len]; omega) (by decide) rfl rfl rfl (by decide) rfl rfl rfl (by omega) (by omega) (oneM (fun _ => rfl) _) rfl rfl rfl ?_
    refine yA ?_
    refine zN (zE ?_)
    exact rq [8000] [.tmp 2] (hres := (.cons rfl (by simp [ren, ren1, hmap]) .nil))
def inn (l : List Fp) (far : Fp) (n : Nat) : Nat → List Fp
  | 0 => l
  | m + 1 => (inn l far n m).set (n - 1 - m) (((inn l far n m).getD (n - 1 - m) 0 - (inn l far n m).getD (n - 1 - m - 1) 0) * far)
def difN (vs : List Fp) : Nat → List Fp
  | 0 => vs
  | c + 1 => inn (difN vs c) (finv (fp (c + 1))) vs.length (vs.length - 1 - c)
theorem inn_len (l : List Fp) (far : Fp) (n : Nat) : ∀ m, (inn l far n m).length = l.length
  | 0 => rfl
  | m + 1 => by rw [inn, List.length_set, inn_len l far n m]
theorem difN_len (vs : List Fp) : ∀ c, (difN vs c).length = vs.length
  | 0 => rfl
  | c + 1 => by rw [difN, inn_len, difN_len vs c]
def nwL (ds : List Fp) (n : Nat) : Nat → List Fp
  | 0 => []
  | j + 1 => Po.tr (Po.pa (Po.tr (Po.pm (nwL ds n j) [-(fp (n - 1 - j)), fp 1])) [ds.getD (n - 1 - j) 0])
def thr (vs : List Fp) : List Fp := Po.tr (nwL (difN vs (vs.length - 1)) vs.length vs.length)
theorem nwL_len (ds : List Fp) (n : Nat) : ∀ j, (nwL ds n j).length ≤ 2 * j
  | 0 => Nat.le_refl _
  | j + 1 => by
    have h := nwL_len ds n j
    rw [nwL, Po.tr_len]
    have h1 := Po.dg_le (Po.pa (Po.tr (Po.pm (nwL ds n j) [-(fp (n - 1 - j)), fp 1])) [ds.getD (n - 1 - j) 0])
    rw [Po.pa_len, Po.tr_len] at h1
    have h2 := Po.dg_le (Po.pm (nwL ds n j) [-(fp (n - 1 - j)), fp 1])
    have h3 := Po.pm_len (nwL ds n j) [-(fp (n - 1 - j)), fp 1]
    simp only [List.length_cons, List.length_nil] at h1 h3
    have h4 : max (Po.dg (Po.pm (nwL ds n j) [-(fp (n - 1 - j)), fp 1])) (0 + 1) ≤ 2 * (j + 1) := Nat.max_le.2 ⟨by omega, by omega⟩
    omega
def thM (vs ds p : List Fp) : Mem := Sim.upd (Sim.upd (Sim.upd (Sim.upd (Sim.upd (fun _ => none) 0 ⟨((vs.map fe).flatten).map (vi .u64), false, 4⟩) 1 ⟨((ds.map fe).flatten).map (vi .u64), true, 4⟩) 2 ⟨[.slice (some ⟨77000, 0, none⟩) p.length 0], true, 1⟩)
  3 ⟨[.slice (some ⟨1, 0, none⟩) vs.length 0], true, 1⟩) 77000 ⟨((p.map fe).flatten).map (vi .u64), true, 4⟩
theorem WkI.nil1 {Dm : Nat → Prop} {fm : List (Nat × Nat)} {M N : Mem} {i : Nat} {p : Addr} {rw rw' : Bool} {es : Nat} {ids : List Nat} (h1 : M ((fm.lookup i).getD i) = some ⟨[.slice none 0 0], rw', es⟩)
    (h3 : rw = true → rw' = true) (h : WkI ids Dm fm M N) : WkI ids Dm fm M (Sim.upd N i ⟨[.slice (some p) 0 0], rw, es⟩) :=
  WkM.upd h1 (fun c x hx => by
    match c, hx with
    | 0, hx => cases hx; exact ⟨_, rfl, .nilS _ (by simp)⟩
    | c + 1, hx => simp at hx) h3 rfl (Nat.le_refl _) h
theorem fillB2 {c : Value} {x y : Fp} : fillL (fun i => some (i * 4, 4)) (List.replicate (2 * 4) c) [(0, .agg ((fe x).map (vi .u64)).toArray), (1, .agg ((fe y).map (vi .u64)).toArray)] = some (FF [x, y]) := by
  have hl : ∀ x : Fp, ((fe x).map (vi .u64)).length = 4 := fun x => by rw [List.length_map, fe_len]
  refine fill4 (A := []) (k := 4) rfl rfl (fill4 (k := 0) (by simp [hl]) rfl ?_)
  simp [fillL]
theorem AWd.ghost {P : Program} {n m : Nat} {c : Code} {E : Env} {M : Mem} {Q : Exit → ASt → Prop} {z : Bool} {id es : Nat} (hid : M id = none) (h : AWd z P n m c ⟨E, Sim.upd M id ⟨[], true, es⟩⟩ Q) : AWd z P n m c ⟨E, M⟩ Q :=
  fun C hn hm ds _ a w hz hst hR => let ⟨ρ', hR'⟩ := hR.2.ghost es hid; h C hn hm ds ρ' a w hz hst ⟨hR.1, hR'⟩
theorem thrp_ctr {vs : List Fp} {n : Nat} (hn : vs.length = n) (hx : n < 10000) : GC Try.prog 38 [.slice (some ⟨0, 0, none⟩) n 0] [⟨((vs.map fe).flatten).map (vi .u64), false, 4⟩] [.slice (some ⟨1, 0, none⟩) (thr vs).length 0] [⟨((vs.map fe).flatten).map (vi .u64), false, 4⟩, ⟨(((thr vs).map fe).flatten).map (vi .u64), true, 4⟩] := by
  refine GC.introD Try.func38 rfl (by show 1 ≤ 62; decide) (by first | exact Nat.le_refl _ | decide | simp) ?_
  subst hn
  refine AWd.firstR ?_
  refine AWo.pure (PureOp.assign rfl) rfl rfl ?_
  refine AWo.nil trivial ?_
  refine AWd.firstR ?_
  refine AWo.pure (PureOp.move rfl) rfl rfl ?_
  refine AWo.callX (clonee_ctr (xs := vs) (n := vs.length) (Nat.le_refl _) (by omega)) bd94 [(0, 0)] [1] rfl (.cons rfl .nil) rfl (.cons rfl rfl .nil) (.flat rfl (flatM flat_vi) (by intro h; first | exact h | rfl) .nil) rfl (.keep rfl (.new (flat_map_ren (flatM flat_vi)) (OkL.flat (flatM flat_vi)) .nil)) (frC rfl frN) (by decide) (.cons rfl rfl .nil) rfl rfl rfl rfl ?_
  refine AWo.pure (PureOp.assign rfl) rfl rfl ?_
  refine AWo.nil trivial ?_
  refine AWd.first ?_
  refine AW.seqR ?_
  refine AWo.pure (PureOp.assign rfl) rfl rfl ?_
  refine AWo.nil trivial ?_
  refine AW.block ?_
  refine AW.loopw (fun mm σ => ∃ c, (c + 1 ≤ vs.length ∨ c = 0) ∧ mm = vs.length - c ∧ σ = ⟨(upd (upd emp 3 (.slice (some ⟨1, 0, none⟩) vs.length 0)) 4 (vi .i64 (c + 1))), (upd (upd emp 0 ⟨((vs.map fe).flatten).map (vi .u64), false, 4⟩) 1 ⟨(((difN vs c).map fe).flatten).map (vi .u64), true, 4⟩)⟩) (fm := []) ?_ ⟨0, .inr rfl, rfl, rfl⟩ ?_
  ·
    refine Wk.of [0, 1] ?_ ?_ ?_ (by decide) rfl
    ·
      refine WkE.upd rfl (by first | exact VR.flat _ rfl | exact VR.eqv (vp_succ _) rfl | exact VR.eqv (vp_succ _).symm rfl | exact VR.eqv (by first | rfl | (congr 1; omega) | (simp; done) | (simp; omega)) rfl) ?_
      refine WkE.upd rfl (.slice (1) 0 _ 0 ⟨_, rfl⟩ (by simp) (by simp)) ?_
      exact WkE.emp
    ·
      refine WkM.flat (by first | rfl | (rw [List.take_length]; rfl)) (flatM flat_vi) (fun h => h) ?_
      refine WkM.flat rfl (flatM flat_vi) (fun h => h) ?_
      exact WkM.emp
    ·
      repeat (refine dom_upd_mem (by decide) ?_)
      exact dom_emp
  ·
    rintro mm σ ⟨c, hinv, rfl, rfl⟩
    refine AW.seq ?_
    refine AW.seqR ?_
    refine AWo.pure (PureOp.move rfl) rfl rfl ?_
    refine AWo.pure (PureOp.move rfl) rfl rfl ?_
    first | refine AWo.pure (PureOp.lenS tbok rfl rfl) rfl rfl ?_ | refine AWo.pure (PureOp.lenD tbok rfl rfl) rfl rfl ?_
    first | refine AWo.pure (PureOp.ltN rfl rfl) rfl rfl ?_ | refine AWo.pure (PureOp.bin rfl rfl rfl) rfl rfl ?_
    refine AWo.nil trivial ?_
    refine AW.cond rfl (fun hb0 => ?_) (fun hb0 => ?_)
    ·
      have hi : c + 1 < vs.length := by simpa using hb0
      refine AW.skip ?_
      refine thenA_normal ?_
      refine AW.seq ?_
      refine AW.block ?_
      refine AW.seqR ?_
      refine AWo.pure (PureOp.move rfl) rfl rfl ?_
      first | refine AWo.pure (PureOp.cvtN tbok 18446744073709551616 rfl rfl rfl (by decide) (by decide) (by first | decide | omega)) rfl rfl ?_ | refine AWo.pure (PureOp.cvtU tbok 18446744073709551616 rfl rfl rfl rfl rfl) rfl rfl ?_ | refine AWo.pure (PureOp.cvt tbok rfl rfl rfl) rfl rfl ?_
      refine AWo.callX (fromuF_ctr (v := c + 1) (by omega)) bd37 [] [] rfl (.cons rfl .nil) rfl (.cons rfl rfl .nil) .nil rfl .nil frN (by decide) (.pure (by first | rfl | exact pure_aggM flat_vi | exact pure_aggM flat_bool) .nil) rfl rfl rfl rfl ?_
      refine AWo.callX (invF_ctr (x := fp (c + 1))) bd95 [] [] rfl (.cons rfl .nil) rfl (.pure (by first | rfl | exact pure_aggM flat_vi | exact pure_aggM flat_bool) .nil) .nil rfl .nil frN (by decide) (.pure (by first | rfl | exact pure_aggM flat_vi | exact pure_aggM flat_bool) .nil) rfl rfl rfl rfl ?_
      refine AWo.alloc tbok 6000 1 _ rfl rfl rfl rfl rfl rfl ?_
      refine AWo.storeAllN tbok rfl rfl rfl rfl (by first | (simp [*]; done) | rfl) (by first | (simp [*]; done) | rfl) (by first | exact oneM (fun _ => rfl) _ | rfl | (simp; done)) rfl ?_
      refine AWo.nil trivial ?_
      refine AW.seqR ?_
      refine AWo.pure (PureOp.move rfl) rfl rfl ?_
      first | refine AWo.pure (PureOp.lenS tbok rfl rfl) rfl rfl ?_ | refine AWo.pure (PureOp.lenD tbok rfl rfl) rfl rfl ?_
      first | refine AWo.pure (PureOp.subI (b := 1) rfl rfl (by first | decide | omega) (by first | decide | omega)) rfl rfl ?_ | refine AWo.pure (PureOp.subP rfl rfl (by first | decide | omega)) rfl rfl ?_ | refine AWo.pure (PureOp.bin rfl rfl rfl) rfl rfl ?_
      refine AWo.pure (PureOp.assign rfl) rfl rfl ?_
      refine AWo.nil trivial ?_
      refine AW.block ?_
      refine AW.loopw (fun mm σ => ∃ m, (m + c + 1 ≤ vs.length) ∧ mm = vs.length - m ∧ σ = ⟨(upd (upd (upd (upd emp 3 (.slice (some ⟨1, 0, none⟩) vs.length 0)) 4 (vi .i64 (c + 1))) 5 (.pointer (some ⟨6000, 0, none⟩))) 6 (vi .i64 (vs.length - 1 - m))), (upd (upd (upd emp 0 ⟨((vs.map fe).flatten).map (vi .u64), false, 4⟩) 1 ⟨(((inn (difN vs c) (finv (fp (c + 1))) vs.length m).map fe).flatten).map (vi .u64), true, 4⟩) 6000 ⟨(fe (finv (fp (c + 1)))).map (vi .u64), true, 1⟩)⟩) (fm := []) ?_ ⟨0, by omega, rfl, rfl⟩ ?_
      ·
        refine Wk.of [0, 1, 6000] ?_ ?_ ?_ (by decide) rfl
        ·
          refine WkE.upd rfl (by first | exact VR.flat _ rfl | exact VR.eqv (vp_succ _) rfl | exact VR.eqv (vp_succ _).symm rfl | exact VR.eqv (by first | rfl | (congr 1; omega) | (simp; done) | (simp; omega)) rfl) ?_
          refine WkE.upd rfl (.ptr (6000) 0 ⟨_, rfl⟩) ?_
          refine WkE.upd rfl (by first | exact VR.flat _ rfl | exact VR.eqv (vp_succ _) rfl | exact VR.eqv (vp_succ _).symm rfl | exact VR.eqv (by first | rfl | (congr 1; omega) | (simp; done) | (simp; omega)) rfl) ?_
          refine WkE.upd rfl (.slice (1) 0 _ 0 ⟨_, rfl⟩ (by simp) (by simp)) ?_
          exact WkE.emp
        ·
          refine WkM.flat rfl (flatM flat_vi) (fun h => h) ?_
          refine WkM.flat rfl (flatM flat_vi) (fun h => h) ?_
          refine WkM.flat rfl (flatM flat_vi) (fun h => h) ?_
          exact WkM.emp
        ·
          repeat (refine dom_upd_mem (by decide) ?_)
          exact dom_emp
      ·
        rintro mm σ ⟨m, hm0, rfl, rfl⟩
        refine AW.seq ?_
        refine AW.seqR ?_
        refine AWo.pure (PureOp.move rfl) rfl rfl ?_
        refine AWo.pure (PureOp.move rfl) rfl rfl ?_
        first | refine AWo.pure (PureOp.geP rfl rfl) rfl rfl ?_ | refine AWo.pure (PureOp.geN rfl rfl) rfl rfl ?_ | refine AWo.pure (PureOp.bin rfl rfl rfl) rfl rfl ?_
        refine AWo.nil trivial ?_
        refine AW.cond rfl (fun hb1 => ?_) (fun hb1 => ?_)
        ·
          have hj : c + 1 ≤ vs.length - 1 - m := by simpa using hb1
          have hrl : (inn (difN vs c) (finv (fp (c + 1))) vs.length m).length = vs.length := by rw [inn_len, difN_len]
          refine AW.skip ?_
          refine thenA_normal ?_
          refine AW.seq ?_
          refine AW.block ?_
          refine AW.draw mixed ?_
          refine AWo.pure (PureOp.move rfl) rfl rfl ?_
          refine AWo.pure (PureOp.move rfl) rfl rfl ?_
          refine AWo.pure (PureOp.move rfl) rfl rfl ?_
          refine AWo.pure (PureOp.move rfl) rfl rfl ?_
          first | refine AWo.pure (PureOp.idx1 tbok rfl rfl rfl rfl (by first | decide | omega)) rfl rfl ?_ | refine AWo.pure (PureOp.idx tbok rfl rfl rfl rfl (by first | decide | omega)) rfl rfl ?_
          refine yLJ (xs := (inn (difN vs c) (finv (fp (c + 1))) vs.length m)) (vs.length - 1 - m) ?_
          refine AWo.pure (PureOp.move rfl) rfl rfl ?_
          refine AWo.pure (PureOp.move rfl) rfl rfl ?_
          first | refine AWo.pure (PureOp.subI (b := 1) rfl rfl (by first | decide | omega) (by first | decide | omega)) rfl rfl ?_ | refine AWo.pure (PureOp.subP rfl rfl (by first | decide | omega)) rfl rfl ?_ | refine AWo.pure (PureOp.bin rfl rfl rfl) rfl rfl ?_
          first | refine AWo.pure (PureOp.idx1 tbok rfl rfl rfl rfl (by first | decide | omega)) rfl rfl ?_ | refine AWo.pure (PureOp.idx tbok rfl rfl rfl rfl (by first | decide | omega)) rfl rfl ?_
          refine yLJ (xs := (inn (difN vs c) (finv (fp (c + 1))) vs.length m)) (vs.length - 1 - m - 1) ?_
          refine AWo.callX (subF_ctr (x := (inn (difN vs c) (finv (fp (c + 1))) vs.length m).getD (vs.length - 1 - m) 0) (y := (inn (difN vs c) (finv (fp (c + 1))) vs.length m).getD (vs.length - 1 - m - 1) 0)) bd96 [] [] rfl (.cons rfl (.cons rfl .nil)) rfl (.pure (by first | rfl | exact pure_aggM flat_vi | exact pure_aggM flat_bool) (.pure (by first | rfl | exact pure_aggM flat_vi | exact pure_aggM flat_bool) .nil)) .nil rfl .nil frN (by decide) (.pure (by first | rfl | exact pure_aggM flat_vi | exact pure_aggM flat_bool) .nil) rfl rfl rfl rfl ?_
          first | refine yLE ?_ | refine yLEi ?_
          refine AWo.callX (mulF_ctr (x := (inn (difN vs c) (finv (fp (c + 1))) vs.length m).getD (vs.length - 1 - m) 0 - (inn (difN vs c) (finv (fp (c + 1))) vs.length m).getD (vs.length - 1 - m - 1) 0) (y := finv (fp (c + 1)))) bd35 [] [] rfl (.cons rfl (.cons rfl .nil)) rfl (.pure (by first | rfl | exact pure_aggM flat_vi | exact pure_aggM flat_bool) (.pure (by first | rfl | exact pure_aggM flat_vi | exact pure_aggM flat_bool) .nil)) .nil rfl .nil frN (by decide) (.pure (by first | rfl | exact pure_aggM flat_vi | exact pure_aggM flat_bool) .nil) rfl rfl rfl rfl ?_
          first | refine AWo.pure (PureOp.idx1 tbok rfl rfl rfl rfl (by first | decide | omega)) rfl rfl ?_ | refine AWo.pure (PureOp.idx tbok rfl rfl rfl rfl (by first | decide | omega)) rfl rfl ?_
          refine ySJ (xs := (inn (difN vs c) (finv (fp (c + 1))) vs.length m)) (y := ((inn (difN vs c) (finv (fp (c + 1))) vs.length m).getD (vs.length - 1 - m) 0 - (inn (difN vs c) (finv (fp (c + 1))) vs.length m).getD (vs.length - 1 - m - 1) 0) * finv (fp (c + 1))) (vs.length - 1 - m) ?_
          refine AWo.nil (by kernel_rfl) ?_
          refine inBlockA_normal ?_
          refine thenA_normal ?_
          refine AW.region ?_
          refine AWo.pure (PureOp.move rfl) rfl rfl ?_
          first | refine AWo.pure (PureOp.subI (b := 1) rfl rfl (by first | decide | omega) (by first | decide | omega)) rfl rfl ?_ | refine AWo.pure (PureOp.subP rfl rfl (by first | decide | omega)) rfl rfl ?_ | refine AWo.pure (PureOp.bin rfl rfl rfl) rfl rfl ?_
          refine AWo.pure (PureOp.assign rfl) rfl rfl ?_
          refine AWo.nil trivial ?_
          refine thenA_normal ?_
          refine ⟨vs.length - (m + 1), [], _, by omega, ?_, m + 1, by omega, rfl, rfl⟩
          refine Wk.of [0, 1, 6000] ?_ ?_ ?_ (by decide) rfl
          ·
            refine WkE.upd rfl (by first | exact VR.flat _ rfl | exact VR.eqv (vp_succ _) rfl | exact VR.eqv (vp_succ _).symm rfl | exact VR.eqv (by first | rfl | (congr 1; omega) | (simp; done) | (simp; omega)) rfl) ?_
            refine WkE.upd rfl (.ptr (6000) 0 ⟨_, rfl⟩) ?_
            refine WkE.upd rfl (by first | exact VR.flat _ rfl | exact VR.eqv (vp_succ _) rfl | exact VR.eqv (vp_succ _).symm rfl | exact VR.eqv (by first | rfl | (congr 1; omega) | (simp; done) | (simp; omega)) rfl) ?_
            refine WkE.upd rfl (.slice (1) 0 _ 0 ⟨_, rfl⟩ (by simp) (by simp)) ?_
            exact WkE.emp
          ·
            refine WkM.flat rfl (flatM flat_vi) (fun h => h) ?_
            refine WkM.flat rfl (flatM flat_vi) (fun h => h) ?_
            refine WkM.flat rfl (flatM flat_vi) (fun h => h) ?_
            exact WkM.emp
          ·
            repeat (refine dom_upd_mem (by decide) ?_)
            exact dom_emp
        ·
          obtain rfl : m = vs.length - 1 - c := by have := of_decide_eq_false hb1; omega
          refine AW.exit ?_
          refine thenA_exit ?_
          refine thenA_exit ?_
          refine inBlockA_hit ?_
          refine inBlockA_normal ?_
          refine thenA_normal ?_
          refine AW.region ?_
          refine AWo.pure (PureOp.move rfl) rfl rfl ?_
          first | refine AWo.pure (PureOp.addI (b := 1) rfl rfl (by first | decide | omega)) rfl rfl ?_ | refine AWo.pure (PureOp.bin rfl rfl rfl) rfl rfl ?_
          refine AWo.pure (PureOp.assign rfl) rfl rfl ?_
          refine AWo.nil trivial ?_
          refine thenA_normal ?_
          refine ⟨vs.length - (c + 1), [], _, by omega, ?_, c + 1, by omega, rfl, rfl⟩
          refine Wk.of [0, 1] ?_ ?_ ?_ (by decide) rfl
          ·
            refine WkE.upd rfl (by first | exact VR.flat _ rfl | exact VR.eqv (vp_succ _) rfl | exact VR.eqv (vp_succ _).symm rfl | exact VR.eqv (by first | rfl | (congr 1; omega) | (simp; done) | (simp; omega)) rfl) ?_
            refine WkE.upd rfl (.slice (1) 0 _ 0 ⟨_, rfl⟩ (by simp) (by simp)) ?_
            exact WkE.emp
          ·
            refine WkM.flat (by first | rfl | (rw [List.take_length]; rfl)) (flatM flat_vi) (fun h => h) ?_
            refine WkM.flat rfl (flatM flat_vi) (fun h => h) ?_
            exact WkM.emp
          ·
            repeat (refine dom_upd_mem (by decide) ?_)
            exact dom_emp
    ·
      obtain rfl : c = vs.length - 1 := by have := of_decide_eq_false hb0; omega
      refine AW.exit ?_
      refine thenA_exit ?_
      refine thenA_exit ?_
      refine inBlockA_hit ?_
      refine thenA_normal ?_
      refine AWd.firstR ?_
      refine AWo.alloc tbok 2 1 _ rfl rfl rfl rfl rfl rfl ?_
      refine AWo.nil trivial ?_
      have hdl : (difN vs (vs.length - 1)).length = vs.length := difN_len _ _
      generalize hds : difN vs (vs.length - 1) = ds at hdl
      refine AWd.seq ?_
      refine AWd.firstR ?_
      refine yM ?_
      refine yC (backwe_ctr (xs := ds) (n := vs.length)) bd97 [(1, 0)] [3] ?_
      refine zN ?_
      refine AWd.block (AWd.ghost (id := 77000) (es := 4) rfl (AWd.weaken (fm := []) (τ := ⟨Sim.upd (Sim.upd (fun _ => none) 7 (.pointer (some ⟨2, 0, none⟩))) 46 (.func (.func 133) #[] #[.pointer (some ⟨3, 0, none⟩)]), thM vs ds []⟩)
        (wk [0, 1, 2, 3, 77000] (hE := WkE.upd rfl (okVI_rel (ids := [3]) (by simp) rfl (dom_all rfl) rfl) (WkE.upd rfl (.ptr _ _ ⟨_, rfl⟩) WkE.emp))
          (hM := WkI.flatM (l := (([] : List Fp).map fe).flatten) (l' := []) rfl rfl flat_vi (fun h => h) (WkI.ren rfl rfl rfl (dom_all rfl) (fun h => h) (WkI.nil1 rfl (fun h => h) (WkI.flatM rfl rfl flat_vi (fun h => h) (WkI.flatM rfl rfl flat_vi (fun h => h) WkM.emp)))))) ?_))
      refine AWd.range (back_e (xs := ds) (bx := 3) (id := 1) (n := vs.length) (m := 4) (by omega) (by omega) (by omega)) (Sim.upd (fun _ => none) 7 (.pointer (some ⟨2, 0, none⟩)))
        (fun k M => M = thM vs ds (nwL ds vs.length k)) (fun _ => False)
        (by show 1 ≤ 4; decide) rfl ?_ ?_ (fun args w => run_callFunc bd133 args w) ?_ (fun _ => rfl) (by decide) rfl ?_ ?_ ?_ (fun M h => h.elim)
      · intro v hv
        simp only [List.mem_cons, List.not_mem_nil, or_false] at hv
        subst hv; exact Low.ptr (by decide)
      · intro i hi
        match i, hi with
        | 0, _ => exact ⟨_, rfl⟩
        | 1, _ => exact ⟨_, rfl⟩
        | 2, _ => exact ⟨_, rfl⟩
        | 3, _ => exact ⟨_, rfl⟩
      · intro t v ht
        simp only [Sim.upd] at ht
        split at ht
        · rename_i e; subst e; cases ht
          exact ⟨rfl, Low.ptr (by decide)⟩
        · cases ht
      · rintro k M rfl
        exact ⟨⟨_, _, rfl⟩, ⟨_, _, rfl⟩⟩
      · rintro k M hk rfl
        have he : backE ds vs.length k = [vi .i64 (vs.length - 1 - k : Nat), .agg ((fe (ds.getD (vs.length - 1 - k) 0)).map (vi .u64)).toArray] := rfl
        have hpl := nwL_len ds vs.length k
        rw [he, encE2]
        refine AWX.seqR ?_
        refine yA ?_
        refine zN ?_
        refine AWX.region ?_
        refine yN 10000 1 _ ?_
        refine ySA ?_
        refine zN ?_
        refine AWX.block (AWX.draw (by kernel_rfl) ?_)
        refine yL1 ?_
        refine yM ?_
        refine yP (PureOp.cvtN tbok 18446744073709551616 rfl rfl rfl (by decide) (by decide) (by omega)) ?_
        refine yC (fromuF_ctr (v := vs.length - 1 - k) (by omega)) bd37 [] [] ?_
        refine yC (negF_ctr (x := fp (vs.length - 1 - k))) bd45 [] [] ?_
        refine yC (fromuF_ctr (v := 1) (by decide)) bd37 [] [] ?_
        refine AWo.buildSlice tbok 56000 [(0, .agg ((fe (-(fp (vs.length - 1 - k)))).map (vi .u64)).toArray), (1, .agg ((fe (fp 1)).map (vi .u64)).toArray)] (out := FF [-(fp (vs.length - 1 - k)), fp 1]) rfl rfl (by decide) rfl rfl rfl (by decide) rfl fillB2 rfl rfl rfl ?_
        have hm1 := Po.pm_len (nwL ds vs.length k) [-(fp (vs.length - 1 - k)), fp 1]
        have hm2 := Po.dg_le (Po.pm (nwL ds vs.length k) [-(fp (vs.length - 1 - k)), fp 1])
        simp only [List.length_cons, List.length_nil] at hm1
        refine yC (mulp_ctr (xs := nwL ds vs.length k) (ys := [-(fp (vs.length - 1 - k)), fp 1]) rfl rfl (by omega) (by show 2 < 100000; decide)) bd34 [(77000, 0), (56000, 0)] [57000] ?_
        refine yLE ?_
        refine AWo.buildSlice tbok 59000 [(0, .agg ((fe (ds.getD (vs.length - 1 - k) 0)).map (vi .u64)).toArray)] (out := FF [ds.getD (vs.length - 1 - k) 0]) rfl rfl (by decide) rfl rfl rfl (by decide) rfl (fillB1 (fe_len _)) rfl rfl rfl ?_
        refine yC (addp_ctr (xs := Po.tr (Po.pm (nwL ds vs.length k) [-(fp (vs.length - 1 - k)), fp 1])) (ys := [ds.getD (vs.length - 1 - k) 0]) rfl rfl (by rw [Po.tr_len]; omega) (by show 1 < 1000000; decide)) bd31 [(57000, 0), (59000, 0)] [60000] ?_
        refine AWo.store1 tbok rfl rfl rfl rfl rfl (by simp) rfl rfl ?_
        refine zD ?_
        exact ⟨[(77000, 60000)], ⟨fun _ => none, thM vs ds (nwL ds vs.length (k + 1))⟩, wk [0, 1, 2, 3, 77000], .inl ⟨rfl, rfl⟩⟩
      · rintro M rfl
        have hpl := nwL_len ds vs.length vs.length
        refine AWd.ofX (AWX.seqR ?_)
        refine yL1 ?_
        refine yC (trimp_ctr (xs := nwL ds vs.length vs.length) rfl (by omega)) bd39 [(77000, 0)] [90000] ?_
        refine yA ?_
        refine zN ?_
        refine AWX.ret ?_
        rw [thr, hds]
        exact rq [90000] [.tmp 2]
end Go.Proofs.Yteeifahhejangaa
namespace Go.Proofs.Yteeifahhejangaa
open Go Sim
theorem finv_one : finv (fp 1) = fp 1 := by
  have h := mul_finv (x := fp 1) (by decide)
  have e : fp 1 * finv (fp 1) = finv (fp 1) := Rg.one_mul _
  rw [e] at h; exact h
theorem thr13 : thr [fp 1, fp 3] = [fp 1, fp 2] := by
  unfold thr
  have e : difN [fp 1, fp 3] ([fp 1, fp 3].length - 1) = inn [fp 1, fp 3] (fp 1) 2 1 := by
    show inn [fp 1, fp 3] (finv (fp (0 + 1))) 2 1 = _
    rw [finv_one]
  rw [e]
  decide +kernel
theorem speaks22_ctr : GC Try.prog 23 [] [] [.bool true] [] := by
  refine GC.intro Try.func23 rfl (by show 0 ≤ 30; decide) (by first | exact Nat.le_refl _ | decide | simp) ?_
  refine AW.seqR ?_
  refine AWo.pure (PureOp.assign rfl) rfl rfl ?_
  refine AWo.nil trivial ?_
  refine AW.seqR ?_
  refine AWo.callX (fromuF_ctr (v := 1) (by decide)) bd37 [] [] rfl (.cons rfl .nil) rfl (.cons rfl rfl .nil) .nil rfl .nil frN (by decide) (.pure (by first | rfl | exact pure_aggM flat_vi | exact pure_aggM flat_bool) .nil) rfl rfl rfl rfl ?_
  refine AWo.callX (fromuF_ctr (v := 3) (by decide)) bd37 [] [] rfl (.cons rfl .nil) rfl (.cons rfl rfl .nil) .nil rfl .nil frN (by decide) (.pure (by first | rfl | exact pure_aggM flat_vi | exact pure_aggM flat_bool) .nil) rfl rfl rfl rfl ?_
  refine AWo.buildSlice tbok 5000 [(0, .agg ((fe (fp 1)).map (vi .u64)).toArray), (1, .agg ((fe (fp 3)).map (vi .u64)).toArray)] (out := FF [fp 1, fp 3]) rfl rfl (by decide) rfl rfl rfl (by decide) rfl fillB2 rfl rfl rfl ?_
  refine AWo.callX (thrp_ctr (vs := [fp 1, fp 3]) (n := 2) rfl (by decide)) bd38 [(5000, 0)] [6000] rfl (.cons rfl .nil) rfl (.cons rfl rfl .nil) (.flat rfl (flatM flat_vi) (by intro h; first | exact h | rfl) .nil) rfl (.keep rfl (.new (flat_map_ren (flatM flat_vi)) (OkL.flat (flatM flat_vi)) .nil)) (frC rfl frN) (by decide) (.cons rfl rfl .nil) rfl rfl rfl rfl ?_
  refine AWo.pure (PureOp.assign rfl) rfl rfl ?_
  refine AWo.nil trivial ?_
  rw [thr13]
  refine AW.seqD mixed ?_
  refine AWo.pure (PureOp.move rfl) rfl rfl ?_
  first | refine AWo.pure (PureOp.lenS tbok rfl rfl) rfl rfl ?_ | refine AWo.pure (PureOp.lenD tbok rfl rfl) rfl rfl ?_
  first | refine AWo.pure (PureOp.eqN (b := 2) rfl rfl) rfl rfl ?_ | refine AWo.pure (PureOp.bin rfl rfl rfl) rfl rfl ?_
  refine AWo.pure (PureOp.move rfl) rfl rfl ?_
  refine AWo.pure (PureOp.move rfl) rfl rfl ?_
  first | refine AWo.pure (PureOp.idx1 (j := 0) tbok rfl rfl rfl rfl (by first | decide | omega)) rfl rfl ?_ | refine AWo.pure (PureOp.idx (j := 0) tbok rfl rfl rfl rfl (by first | decide | omega)) rfl rfl ?_
  refine yLJ (xs := [fp 1, fp 2]) 0 ?_ (ho := by exact rfl)
  refine AWo.callX (fromuF_ctr (v := 1) (by decide)) bd37 [] [] rfl (.cons rfl .nil) rfl (.cons rfl rfl .nil) .nil rfl .nil frN (by decide) (.pure (by first | rfl | exact pure_aggM flat_vi | exact pure_aggM flat_bool) .nil) rfl rfl rfl rfl ?_
  refine AWo.callX (v := .bool true) (equalF_ctr (x := fp 1) (y := fp 1)) bd19 [] [] rfl (.cons rfl (.cons rfl .nil)) rfl (.pure (by first | rfl | exact pure_aggM flat_vi | exact pure_aggM flat_bool) (.pure (by first | rfl | exact pure_aggM flat_vi | exact pure_aggM flat_bool) .nil)) .nil rfl .nil frN (by decide) (.cons rfl rfl .nil) (congrArg Value.bool (decide_eq_true (rfl))) rfl rfl rfl ?_
  refine AWo.pure (PureOp.pickT rfl rfl) rfl rfl ?_
  refine AWo.pure (PureOp.move rfl) rfl rfl ?_
  refine AWo.pure (PureOp.move rfl) rfl rfl ?_
  first | refine AWo.pure (PureOp.idx1 (j := 1) tbok rfl rfl rfl rfl (by first | decide | omega)) rfl rfl ?_ | refine AWo.pure (PureOp.idx (j := 1) tbok rfl rfl rfl rfl (by first | decide | omega)) rfl rfl ?_
  refine yLJ (xs := [fp 1, fp 2]) 1 ?_ (ho := by exact rfl)
  refine AWo.callX (fromuF_ctr (v := 2) (by decide)) bd37 [] [] rfl (.cons rfl .nil) rfl (.cons rfl rfl .nil) .nil rfl .nil frN (by decide) (.pure (by first | rfl | exact pure_aggM flat_vi | exact pure_aggM flat_bool) .nil) rfl rfl rfl rfl ?_
  refine AWo.callX (v := .bool true) (equalF_ctr (x := fp 2) (y := fp 2)) bd19 [] [] rfl (.cons rfl (.cons rfl .nil)) rfl (.pure (by first | rfl | exact pure_aggM flat_vi | exact pure_aggM flat_bool) (.pure (by first | rfl | exact pure_aggM flat_vi | exact pure_aggM flat_bool) .nil)) .nil rfl .nil frN (by decide) (.cons rfl rfl .nil) (congrArg Value.bool (decide_eq_true (rfl))) rfl rfl rfl ?_
  refine AWo.pure (PureOp.pickT rfl rfl) rfl rfl ?_
  refine AWo.pure (PureOp.move rfl) rfl rfl ?_
  refine AWo.pure (PureOp.move rfl) rfl rfl ?_
  first | refine AWo.pure (PureOp.idx1 (j := 1) tbok rfl rfl rfl rfl (by first | decide | omega)) rfl rfl ?_ | refine AWo.pure (PureOp.idx (j := 1) tbok rfl rfl rfl rfl (by first | decide | omega)) rfl rfl ?_
  refine yLJ (xs := [fp 1, fp 2]) 1 ?_ (ho := by exact rfl)
  refine AWo.callX (v := .bool false) (iszeroF_ctr (x := fp 2)) bd46 [] [] rfl (.cons rfl .nil) rfl (.pure (by first | rfl | exact pure_aggM flat_vi | exact pure_aggM flat_bool) .nil) .nil rfl .nil frN (by decide) (.cons rfl rfl .nil) (congrArg Value.bool (by decide)) rfl rfl rfl ?_
  refine AWo.pure (PureOp.not rfl) rfl rfl ?_
  refine AWo.pure (PureOp.pickT rfl rfl) rfl rfl ?_
  refine AWo.pure (PureOp.assign rfl) rfl rfl ?_
  refine AWo.nil (by kernel_rfl) ?_
  refine AW.ret ?_
  refine RetQ.gc [_] [] [.tmp 0] (.inl rfl) rfl (.tmp rfl .nil) rfl (.cons rfl rfl .nil) trivial (by decide) rfl
end Go.Proofs.Yteeifahhejangaa
namespace Go.Proofs.Yteeifahhejangaa
open Go Sim
theorem are_get {xs zs : List Fp} {i : Nat} (hz : zs.take xs.length = xs) (hi : i < xs.length) : zs.getD i 0 = xs.getD i 0 := by
  have h := congrArg (fun l => l.getD i 0) hz
  simp only [List.getD_eq_getElem?_getD] at h ⊢
  rw [List.getElem?_take, if_pos hi] at h
  exact h
theorem are_ctr {xs zs : List Fp} {n m : Nat} (hn : xs.length = n) (hm : xs.length = m) (hz : zs.take xs.length = xs) (hx : n < 1000000) : GC Try.prog 26 [.slice (some ⟨0, 0, none⟩) n 0, .slice (some ⟨1, 0, none⟩) m 0] [⟨((xs.map fe).flatten).map (vi .u64), false, 4⟩, ⟨zs.map (dv), false, 1⟩] [.bool true] [⟨((xs.map fe).flatten).map (vi .u64), false, 4⟩, ⟨zs.map (dv), false, 1⟩] := by
  refine GC.intro Try.func26 rfl (by show 2 ≤ 27; decide) (by first | exact Nat.le_refl _ | decide | simp) ?_
  subst hn
  subst hm
  refine AW.seqR ?_
  refine AWo.pure (PureOp.assign rfl) rfl rfl ?_
  refine AWo.nil trivial ?_
  refine AW.seq ?_
  refine AW.seqR ?_
  refine AWo.pure (PureOp.move rfl) rfl rfl ?_
  first | refine AWo.pure (PureOp.lenS tbok rfl rfl) rfl rfl ?_ | refine AWo.pure (PureOp.lenD tbok rfl rfl) rfl rfl ?_
  refine AWo.pure (PureOp.move rfl) rfl rfl ?_
  first | refine AWo.pure (PureOp.lenS tbok rfl rfl) rfl rfl ?_ | refine AWo.pure (PureOp.lenD tbok rfl rfl) rfl rfl ?_
  first | refine AWo.pure ((PureOp.neN rfl rfl).mono (v' := .bool false) (congrArg Value.bool (by simp))) rfl rfl ?_ | refine AWo.pure ((PureOp.bin rfl rfl rfl).mono (v' := .bool false) (congrArg Value.bool (by simp))) rfl rfl ?_
  refine AWo.nil trivial ?_
  refine AW.condF rfl ?_
  refine AW.skip ?_
  refine thenA_normal ?_
  refine AW.seq ?_
  refine AW.seqR ?_
  refine AWo.pure (PureOp.move rfl) rfl rfl ?_
  first | refine AWo.pure (PureOp.lenS tbok rfl rfl) rfl rfl ?_ | refine AWo.pure (PureOp.lenD tbok rfl rfl) rfl rfl ?_
  refine AWo.pure (PureOp.move rfl) rfl rfl ?_
  refine AWo.nil trivial ?_
  refine AW.block ?_
  refine AW.loopw (fun mm σ => ∃ i, (i ≤ xs.length) ∧ mm = xs.length - i ∧ σ = ⟨(upd (upd (upd (upd emp 0 (.slice (some ⟨0, 0, none⟩) xs.length 0)) 1 (.slice (some ⟨1, 0, none⟩) xs.length 0)) 12 (vi .i64 xs.length)) 13 (vi .i64 i)), (upd (upd emp 0 ⟨((xs.map fe).flatten).map (vi .u64), false, 4⟩) 1 ⟨zs.map dv, false, 1⟩)⟩) (fm := []) ?_ ⟨0, Nat.zero_le _, rfl, rfl⟩ ?_
  ·
    refine Wk.of [0, 1] ?_ ?_ ?_ (by decide) rfl
    ·
      refine WkE.upd rfl (by first | exact VR.flat _ rfl | exact VR.eqv (vp_succ _) rfl | exact VR.eqv (vp_succ _).symm rfl | exact VR.eqv (by first | rfl | (congr 1; omega) | (simp; done) | (simp; omega)) rfl) ?_
      refine WkE.upd rfl (by first | exact VR.flat _ rfl | exact VR.eqv (vp_succ _) rfl | exact VR.eqv (vp_succ _).symm rfl | exact VR.eqv (by first | rfl | (congr 1; omega) | (simp; done) | (simp; omega)) rfl) ?_
      refine WkE.upd rfl (.slice (1) 0 _ 0 ⟨_, rfl⟩ (by simp) (by simp)) ?_
      refine WkE.upd rfl (.slice (0) 0 _ 0 ⟨_, rfl⟩ (by simp) (by simp)) ?_
      exact WkE.emp
    ·
      refine WkM.cloM rfl rfl (fun _ => rfl) (fun h => h) ?_
      refine WkM.flat rfl (flatM flat_vi) (fun h => h) ?_
      exact WkM.emp
    ·
      repeat (refine dom_upd_mem (by decide) ?_)
      exact dom_emp
  ·
    rintro mm σ ⟨i, hinv, rfl, rfl⟩
    refine AW.seqR ?_
    first | refine AWo.pure (PureOp.ltN rfl rfl) rfl rfl ?_ | refine AWo.pure (PureOp.bin rfl rfl rfl) rfl rfl ?_
    refine AWo.nil trivial ?_
    refine AW.seq ?_
    refine AW.cond rfl (fun hb0 => ?_) (fun hb0 => ?_)
    ·
      have hi : i < xs.length := by simpa using hb0
      refine AW.skip ?_
      refine thenA_normal ?_
      refine AW.seq ?_
      refine AW.block ?_
      refine AW.seqR ?_
      refine AWo.pure (PureOp.move rfl) rfl rfl ?_
      refine AWo.pure (PureOp.assign rfl) rfl rfl ?_
      refine AWo.nil trivial ?_
      refine AW.seqD mixed ?_
      refine AWo.pure (PureOp.move rfl) rfl rfl ?_
      refine AWo.pure (PureOp.move rfl) rfl rfl ?_
      first | refine AWo.pure (PureOp.idx1 tbok rfl rfl rfl rfl (by first | decide | omega)) rfl rfl ?_ | refine AWo.pure (PureOp.idx tbok rfl rfl rfl rfl (by first | decide | omega)) rfl rfl ?_
      refine yLJ (xs := xs) i ?_
      refine AWo.pure (PureOp.move rfl) rfl rfl ?_
      refine AWo.pure (PureOp.move rfl) rfl rfl ?_
      refine AWo.pure (PureOp.idx1 tbok (j := i) rfl rfl rfl rfl hi) rfl rfl ?_
      refine AWo.loadM tbok (f := dv) 0 rfl rfl rfl (by rw [← hz] at hi; rw [List.length_take] at hi; omega) rfl rfl ?_
      rw [show zs.getD i 0 = xs.getD i 0 from are_get hz hi]
      refine AWo.callX (isFd (x := xs.getD i 0)) bd22 [] [] rfl (.cons rfl (.cons rfl .nil)) rfl (.pure (by first | rfl | exact pure_aggM flat_vi | exact pure_aggM flat_bool) (.cons rfl rfl .nil)) .nil rfl .nil frN (by decide) (.cons rfl rfl .nil) rfl rfl rfl rfl ?_
      refine AWo.pure (PureOp.not rfl) rfl rfl ?_
      refine AWo.nil (by kernel_rfl) ?_
      refine AW.condF rfl ?_
      refine AW.skip ?_
      refine inBlockA_normal ?_
      refine thenA_normal ?_
      refine AW.region ?_
      first | refine AWo.pure (PureOp.addI (b := 1) rfl rfl (by first | decide | omega)) rfl rfl ?_ | refine AWo.pure (PureOp.bin rfl rfl rfl) rfl rfl ?_
      refine AWo.pure (PureOp.move rfl) rfl rfl ?_
      refine AWo.nil trivial ?_
      refine thenA_normal ?_
      refine ⟨xs.length - (i + 1), [], _, by omega, ?_, i + 1, by omega, rfl, rfl⟩
      refine Wk.of [0, 1] ?_ ?_ ?_ (by decide) rfl
      ·
        refine WkE.upd rfl (by first | exact VR.flat _ rfl | exact VR.eqv (vp_succ _) rfl | exact VR.eqv (vp_succ _).symm rfl | exact VR.eqv (by first | rfl | (congr 1; omega) | (simp; done) | (simp; omega)) rfl) ?_
        refine WkE.upd rfl (by first | exact VR.flat _ rfl | exact VR.eqv (vp_succ _) rfl | exact VR.eqv (vp_succ _).symm rfl | exact VR.eqv (by first | rfl | (congr 1; omega) | (simp; done) | (simp; omega)) rfl) ?_
        refine WkE.upd rfl (.slice (1) 0 _ 0 ⟨_, rfl⟩ (by simp) (by simp)) ?_
        refine WkE.upd rfl (.slice (0) 0 _ 0 ⟨_, rfl⟩ (by simp) (by simp)) ?_
        exact WkE.emp
      ·
        refine WkM.cloM rfl rfl (fun _ => rfl) (fun h => h) ?_
        refine WkM.flat rfl (flatM flat_vi) (fun h => h) ?_
        exact WkM.emp
      ·
        repeat (refine dom_upd_mem (by decide) ?_)
        exact dom_emp
    ·
      obtain rfl : i = xs.length := by simp at hb0; omega
      refine AW.exit ?_
      refine thenA_exit ?_
      refine thenA_exit ?_
      refine inBlockA_hit ?_
      refine thenA_normal ?_
      refine AW.seqR ?_
      refine AWo.pure (PureOp.assign rfl) rfl rfl ?_
      refine AWo.nil trivial ?_
      refine AW.ret ?_
      refine RetQ.gc [_] [] [.tmp 4] (.inl rfl) rfl (.tmp rfl .nil) rfl (.cons rfl rfl .nil) (OutL.flat rfl (flatM flat_vi) (by intro h; first | rfl | exact h.elim id fun h => absurd h.1 (by simp)) (OutL.clo rfl (cloM fun _ => rfl) (by intro h; first | rfl | exact h.elim id fun h => absurd h.1 (by simp)) trivial)) (by decide) rfl
end Go.Proofs.Yteeifahhejangaa
namespace Go.Proofs.Yteeifahhejangaa
open Go Sim
def bsL (xs : List Fp) : List Nat := xs.flatMap fun x => digs 256 32 x.val
theorem bsL_len : ∀ xs : List Fp, (bsL xs).length = 32 * xs.length
  | [] => rfl
  | x :: xs => by
    have := bsL_len xs
    simp only [bsL, List.flatMap_cons, List.length_append, digs_len, List.length_cons] at *
    omega
theorem bsL_step {xs : List Fp} {i : Nat} (hi : i < xs.length) : bsL (xs.take i) ++ digs 256 32 (xs.getD i 0).val = bsL (xs.take (i + 1)) := by
  rw [List.take_succ_eq_append_getElem hi, bsL, bsL, List.flatMap_append, List.getD_eq_getElem?_getD, List.getElem?_eq_getElem hi]
  simp
theorem bsL_next {xs : List Fp} {i : Nat} (hi : i < xs.length) : (bsL (xs.take i)).length + 32 = (bsL (xs.take (i + 1))).length := by
  rw [bsL_len, bsL_len, List.length_take, List.length_take]; omega
theorem pby_ctr {xs : List Fp} {n : Nat} (hn : xs.length = n) (hx : n < 1000000) : GC Try.prog 27 [.slice (some ⟨0, 0, none⟩) n 0] [⟨((xs.map fe).flatten).map (vi .u64), false, 4⟩] [.slice (some ⟨1, 0, none⟩) (bsL xs).length 0] [⟨((xs.map fe).flatten).map (vi .u64), false, 4⟩, ⟨(bsL xs).map (vi .u8), true, 1⟩] := by
  refine GC.intro Try.func27 rfl (by show 1 ≤ 20; decide) (by first | exact Nat.le_refl _ | decide | simp) ?_
  subst hn
  have hbl := bsL_len xs
  refine AW.seqR ?_
  refine AWo.pure (PureOp.assign rfl) rfl rfl ?_
  refine AWo.nil trivial ?_
  refine AW.seqR ?_
  refine AWo.pure (PureOp.assign rfl) rfl rfl ?_
  refine AWo.nil trivial ?_
  refine AW.seq ?_
  refine AW.seqR ?_
  refine AWo.pure (PureOp.move rfl) rfl rfl ?_
  first | refine AWo.pure (PureOp.lenS tbok rfl rfl) rfl rfl ?_ | refine AWo.pure (PureOp.lenD tbok rfl rfl) rfl rfl ?_
  refine AWo.pure (PureOp.move rfl) rfl rfl ?_
  refine AWo.nil trivial ?_
  refine AW.block ?_
  refine AW.ghost 77000 1 rfl ?_
  refine AW.loopw (fun mm σ => ∃ i, (i ≤ xs.length) ∧ mm = xs.length - i ∧ σ = ⟨(upd (upd (upd (upd (upd emp 0 (.slice (some ⟨0, 0, none⟩) xs.length 0)) 3 (.slice (some ⟨77000, 0, none⟩) (bsL (xs.take i)).length 0)) 7 (.slice (some ⟨0, 0, none⟩) xs.length 0)) 8 (vi .i64 xs.length)) 9 (vi .i64 i)), (upd (upd emp 0 ⟨((xs.map fe).flatten).map (vi .u64), false, 4⟩) 77000 ⟨(bsL (xs.take i)).map (vi .u8), true, 1⟩)⟩) (fm := []) ?_ ⟨0, Nat.zero_le _, rfl, rfl⟩ ?_
  ·
    refine Wk.of [0, 77000] ?_ ?_ ?_ (by decide) rfl
    ·
      refine WkE.upd rfl (by first | exact VR.flat _ rfl | exact VR.eqv (vp_succ _) rfl | exact VR.eqv (vp_succ _).symm rfl | exact VR.eqv (by first | rfl | (congr 1; omega) | (simp; done) | (simp; omega)) rfl) ?_
      refine WkE.upd rfl (by first | exact VR.flat _ rfl | exact VR.eqv (vp_succ _) rfl | exact VR.eqv (vp_succ _).symm rfl | exact VR.eqv (by first | rfl | (congr 1; omega) | (simp; done) | (simp; omega)) rfl) ?_
      refine WkE.upd rfl (.slice (0) 0 _ 0 ⟨_, rfl⟩ (by simp) (by simp)) ?_
      refine WkE.upd rfl (by first | exact .nilS _ (by simp) | exact .slice (77000) 0 _ 0 ⟨_, rfl⟩ (by simp) (by simp)) ?_
      refine WkE.upd rfl (.slice (0) 0 _ 0 ⟨_, rfl⟩ (by simp) (by simp)) ?_
      exact WkE.emp
    ·
      refine WkM.flat rfl (flatM flat_vi) (fun h => h) ?_
      refine WkM.flat rfl (flatM flat_vi) (fun h => h) ?_
      exact WkM.emp
    ·
      repeat (refine dom_upd_mem (by decide) ?_)
      exact dom_emp
  ·
    rintro mm σ ⟨i, hinv, rfl, rfl⟩
    have hbi := bsL_len (xs.take i)
    rw [List.length_take] at hbi
    refine AW.seqR ?_
    first | refine AWo.pure (PureOp.ltN rfl rfl) rfl rfl ?_ | refine AWo.pure (PureOp.bin rfl rfl rfl) rfl rfl ?_
    refine AWo.nil trivial ?_
    refine AW.seq ?_
    refine AW.cond rfl (fun hb0 => ?_) (fun hb0 => ?_)
    ·
      have hi : i < xs.length := by simpa using hb0
      refine AW.skip ?_
      refine thenA_normal ?_
      refine AW.seq ?_
      refine AW.block ?_
      refine AW.seqR ?_
      first | refine AWo.pure (PureOp.idx1 tbok rfl rfl rfl rfl (by first | decide | omega)) rfl rfl ?_ | refine AWo.pure (PureOp.idx tbok rfl rfl rfl rfl (by first | decide | omega)) rfl rfl ?_
      refine yLJ (xs := xs) i ?_
      refine AWo.alloc tbok 6000 1 _ rfl rfl rfl rfl rfl rfl ?_
      refine AWo.storeAllN tbok rfl rfl rfl rfl (by first | (simp [*]; done) | rfl) (by first | (simp [*]; done) | rfl) (by first | exact oneM (fun _ => rfl) _ | rfl | (simp; done)) rfl ?_
      refine AWo.nil trivial ?_
      refine AW.seqR ?_
      first | refine yLE ?_ | refine yLEi ?_
      refine AWo.callX (bytesF_ctr (x := xs.getD i 0)) bd81 [] [] rfl (.cons rfl .nil) rfl (.pure (by first | rfl | exact pure_aggM flat_vi | exact pure_aggM flat_bool) .nil) .nil rfl .nil frN (by decide) (.pure (by first | rfl | exact pure_aggM flat_vi | exact pure_aggM flat_bool) .nil) rfl rfl rfl rfl ?_
      refine AWo.alloc tbok 7000 1 ((List.replicate 32 0).map (vi .u8)) rfl rfl rfl rfl rfl rfl ?_
      refine AWo.storeAllN tbok rfl rfl rfl rfl (by rw [List.length_map, digs_len]) (by first | rfl | (simp [digs_len]; done)) (oneM (fun _ => rfl) _) rfl ?_
      refine AWo.nil trivial ?_
      refine AW.region ?_
      refine AWo.pure (PureOp.move rfl) rfl rfl ?_
      refine AWo.sliceA tbok (h := 32) rfl .none .none rfl rfl rfl rfl (by decide) (by decide) (.inl rfl) (by simp [digs_len]) rfl rfl rfl ?_
      refine AWo.append tbok (all := (bsL (xs.take (i + 1))).map (vi .u8)) (news := (digs 256 32 (xs.getD i 0).val).map (vi .u8)) 18000 rfl rfl rfl rfl (by simp) (by show List.take _ (List.drop 0 _) = _; rw [List.drop_zero]; exact List.take_of_length_le (by simp [digs_len])) (by show 0 + 32 * 1 ≤ _; simp [digs_len]) (by decide) rfl rfl rfl (by first | decide | exact Nat.one_ne_zero) rfl rfl rfl (by first | decide | omega) (by first | decide | omega) (oneM (fun _ => rfl) _) (by rw [← List.map_append, bsL_step hi]) rfl rfl ?_
      refine AWo.pure (PureOp.assign rfl) rfl rfl ?_
      refine AWo.nil trivial ?_
      refine inBlockA_normal ?_
      refine thenA_normal ?_
      refine AW.region ?_
      first | refine AWo.pure (PureOp.addI (b := 1) rfl rfl (by first | decide | omega)) rfl rfl ?_ | refine AWo.pure (PureOp.bin rfl rfl rfl) rfl rfl ?_
      refine AWo.pure (PureOp.move rfl) rfl rfl ?_
      refine AWo.nil trivial ?_
      refine thenA_normal ?_
      rw [show (bsL (xs.take i)).length + 32 = (bsL (xs.take (i + 1))).length from bsL_next hi]
      refine ⟨xs.length - (i + 1), [(77000, 18000)], _, by omega, ?_, i + 1, by omega, rfl, rfl⟩
      refine Wk.of [0, 77000] ?_ ?_ ?_ (by decide) rfl
      ·
        refine WkE.upd rfl (by first | exact VR.flat _ rfl | exact VR.eqv (vp_succ _) rfl | exact VR.eqv (vp_succ _).symm rfl | exact VR.eqv (by first | rfl | (congr 1; omega) | (simp; done) | (simp; omega)) rfl) ?_
        refine WkE.upd rfl (by first | exact VR.flat _ rfl | exact VR.eqv (vp_succ _) rfl | exact VR.eqv (vp_succ _).symm rfl | exact VR.eqv (by first | rfl | (congr 1; omega) | (simp; done) | (simp; omega)) rfl) ?_
        refine WkE.upd rfl (.slice (0) 0 _ 0 ⟨_, rfl⟩ (by simp) (by simp)) ?_
        refine WkE.upd rfl (by first | exact .nilS _ (by simp) | exact .slice (77000) 0 _ 0 ⟨_, rfl⟩ (by simp) (by simp)) ?_
        refine WkE.upd rfl (.slice (0) 0 _ 0 ⟨_, rfl⟩ (by simp) (by simp)) ?_
        exact WkE.emp
      ·
        refine WkM.flat rfl (flatM flat_vi) (fun h => h) ?_
        refine WkM.flat rfl (flatM flat_vi) (fun h => h) ?_
        exact WkM.emp
      ·
        repeat (refine dom_upd_mem (by decide) ?_)
        exact dom_emp
    ·
      obtain rfl : i = xs.length := by simp at hb0; omega
      rw [List.take_length]
      refine AW.exit ?_
      refine thenA_exit ?_
      refine thenA_exit ?_
      refine inBlockA_hit ?_
      refine thenA_normal ?_
      refine AW.seqR ?_
      refine AWo.pure (PureOp.move rfl) rfl rfl ?_
      refine AWo.pure (PureOp.assign rfl) rfl rfl ?_
      refine AWo.nil trivial ?_
      refine AW.ret ?_
      refine RetQ.gc [_] [77000] [.tmp 2] (.inl rfl) rfl (.tmp rfl .nil) rfl (.cons rfl rfl .nil) (OutL.flat rfl (flatM flat_vi) (by intro h; first | rfl | exact h.elim id fun h => absurd h.1 (by simp)) (OutL.flat rfl (by first | exact flatM flat_vi | exact flatM flat_bool | (simp [flatV, flat_vi]; done)) (by intro h; first | rfl | exact h.elim id fun h => absurd h.1 (by simp)) trivial)) (by decide) rfl
end Go.Proofs.Yteeifahhejangaa
namespace Go.Proofs.Yteeifahhejangaa
open Go Sim Go.RowKit
def chunkQ (bx cx id c : Nat) (b : List Nat) (M : Mem) : Prop :=
  (∃ rw es, M bx = some ⟨[.slice (some ⟨id, 0, none⟩) b.length 0], rw, es⟩) ∧ (∃ rw es, M cx = some ⟨[vi .i64 c], rw, es⟩) ∧ ∃ rw, M id = some ⟨b.map (vi .u8), rw, 1⟩
def chunkE (id c n k : Nat) : List Value := [.slice (some ⟨id, c * k, none⟩) (Nat.min c (n - c * k)) 0]
def chunkN (c n : Nat) : Nat := (n + c - 1) / c
theorem chunk_lt {c n k : Nat} (hc : 1 ≤ c) : c * k < n ↔ k < chunkN c n := by
  unfold chunkN
  rw [show k < (n + c - 1) / c ↔ k + 1 ≤ (n + c - 1) / c from Iff.rfl, Nat.le_div_iff_mul_le (by omega), Nat.succ_mul, Nat.mul_comm k c]
  omega
theorem subs3 {E : Env} {i j k : Nat} {x y z : Value} (h1 : E i = some x) (h2 : E j = some y) (h3 : E k = some z) :
    ∀ t v, Sim.upd (Sim.upd (Sim.upd (fun _ => none) i x) j y) k z t = some v → E t = some v := by
  intro t v ht
  simp only [Sim.upd] at ht
  split at ht
  · rename_i e; subst e; rw [h3]; exact ht
  · split at ht
    · rename_i e; subst e; rw [h2]; exact ht
    · split at ht
      · rename_i e; subst e; rw [h1]; exact ht
      · cases ht
set_option maxRecDepth 100000 in
theorem chunk_it {b : List Nat} {bx cx id c m : Nat} (hb : bx < m) (hcx : cx < m) (hc : 1 ≤ c) (hc2 : c < 1000000) (hx : b.length < 4611686018427387904) : IterA Try.prog 124 [.pointer (some ⟨bx, 0, none⟩), .pointer (some ⟨cx, 0, none⟩)] m (chunkQ bx cx id c b) (chunkN c b.length) (chunkE id c b.length) := by
  intro C hm l Inv Ext Jx hq hExt hY ρ M w rcaps hM h0 hw hcap
  obtain ⟨u, u', rfl⟩ : ∃ u u', rcaps = [u, u'] := by
    have := hcap.1
    match rcaps, this with
    | [u, u'], _ => exact ⟨u, u', rfl⟩
  have hu : VR .real (fun i => i < C.m) C.ρ0 (.pointer (some ⟨bx, 0, none⟩)) u := by rw [hm]; exact hcap.2 0 _ _ rfl rfl
  have hu' : VR .real (fun i => i < C.m) C.ρ0 (.pointer (some ⟨cx, 0, none⟩)) u' := by rw [hm]; exact hcap.2 1 _ _ rfl rfl
  refine callsIn_of_wp (F := GF none) Try.func124 rfl trivial ?_ rfl
  obtain ⟨ax, hM⟩ := hM
  have hR := hM.reframe (C := { C with n := ax.tmps.size }) (n := 31) (E := Sim.upd (Sim.upd (fun _ => none) 1 (.pointer (some ⟨bx, 0, none⟩))) 2 (.pointer (some ⟨cx, 0, none⟩))) (a := { tmps := (#[.func (.yield l) #[] #[]] ++ [u, u'].toArray) ++ Array.replicate 28 undef, defers := [] }) (by simp) rfl (fun t v ht => by
    simp only [Sim.upd] at ht
    split at ht
    · rename_i e; subst e; cases ht
      exact ⟨u', by simp, VR.up (C := { C with n := ax.tmps.size }) hM hu'⟩
    · split at ht
      · rename_i e; subst e; cases ht
        exact ⟨u, by simp, VR.up (C := { C with n := ax.tmps.size }) hM hu⟩
      · cases ht)
  have hT : TS [(0, .func (.yield l) #[] #[]), (1, u), (2, u')] { tmps := (#[.func (.yield l) #[] #[]] ++ [u, u'].toArray) ++ Array.replicate 28 undef, defers := [] } := by
    intro p hp
    simp only [List.mem_cons, List.not_mem_nil, or_false] at hp
    rcases hp with rfl | rfl | rfl <;> simp
  refine wpIn_seq (wpIn_regionX hR rfl hT (K := fun σ => σ.mem = M ∧ σ.env 1 = some (.pointer (some ⟨bx, 0, none⟩)) ∧ σ.env 2 = some (.pointer (some ⟨cx, 0, none⟩)) ∧ σ.env 4 = some (vi .i64 0)) ?_ rfl rfl ?_)
  · refine yA ?_
    exact AWo.nil trivial ⟨rfl, rfl, rfl, rfl⟩
  intro ρ1 E1 M1 a1 w1 hR1 hK1 hT1
  obtain ⟨hm1, he1, he2, he4⟩ := hK1
  have hm1 : M1 = M := hm1
  subst hm1
  have hE1 := hExt _ _ hw (hR.others hR1)
  obtain ⟨N, hN⟩ : ∃ N, N = chunkN c b.length := ⟨_, rfl⟩
  rw [← hN] at hY ⊢
  refine wpIn_block (wpIn_loopK (I := fun r a w => ∃ k ρ M, k + r = N ∧ Rep { C with n := 31 } ρ ⟨(Sim.upd (Sim.upd (Sim.upd (fun _ => none) 1 (.pointer (some ⟨bx, 0, none⟩))) 2 (.pointer (some ⟨cx, 0, none⟩))) 4 (vi .i64 (c * k))), M⟩ a w ∧ Inv k M ∧ Ext w ∧ TS [(0, .func (.yield l) #[] #[]), (1, u), (2, u')] a) ?_
    (k := N) ⟨0, ρ1, M1, Nat.zero_add _, ((hR.unbase (Nat.le_refl _) hR1).sub (subs3 he1 he2 (by rw [Nat.mul_zero]; exact he4))), h0, hE1, hT1⟩)
  rintro r a w ⟨k, ρ, M, hkr, hR, hi, hw, hT⟩
  obtain ⟨⟨rw0, es0, hbx⟩, ⟨rw1, es1, hcc⟩, ⟨rw2, hid⟩⟩ := hq _ _ hi
  refine wpIn_seq (wpIn_seq (wpIn_regionX hR rfl hT (K := fun σ => σ.mem = M ∧ σ.env 1 = some (.pointer (some ⟨bx, 0, none⟩)) ∧ σ.env 2 = some (.pointer (some ⟨cx, 0, none⟩)) ∧ σ.env 4 = some (vi .i64 (c * k)) ∧ σ.env 9 = some (.bool (decide (c * k < b.length)))) ?_ rfl rfl ?_))
  · refine yM ?_
    refine yL1 ?_ rfl hbx
    refine yP (PureOp.lenS tbok rfl rfl) ?_
    refine yP (PureOp.ltN rfl rfl) ?_
    exact AWo.nil trivial ⟨rfl, rfl, rfl, rfl, rfl⟩
  rintro ρ1 E1 M1 a1 w1 hR1 ⟨hm1, he1, he2, he4, he9⟩ hT1
  have hm1 : M1 = M := hm1
  subst hm1
  have hE1 := hExt _ _ hw (hR.others hR1)
  have hRc := hR.unbase (Nat.le_refl _) hR1
  refine wpIn_cond_split (t := decide (c * k < b.length)) (flat_inv (hRc.eval (x := .tmp 9) he9) rfl) (fun h0r => ?_) (fun h0r => ?_)
  · have hlt : c * k < b.length := of_decide_eq_true h0r
    have hkN : k < N := by rw [hN]; exact (chunk_lt hc).1 hlt
    have hce : c * (k + 1) = c * k + c := Nat.mul_succ c k
    refine wpIn_skip ?_
    have hRs := hRc.sub (subs3 he1 he2 he4)
    refine wpIn_seq (wpIn_block (wpIn_seq (wpIn_drawX mixed hRs rfl hT1 (K := fun σ => σ.mem = M1 ∧ σ.env 1 = some (.pointer (some ⟨bx, 0, none⟩)) ∧ σ.env 2 = some (.pointer (some ⟨cx, 0, none⟩)) ∧ σ.env 4 = some (vi .i64 (c * k)) ∧ σ.env 5 = some (vi .i64 (Nat.min c (b.length - c * k)))) ?_ rfl rfl ?_)))
    · refine yL1 ?_ rfl hcc
      refine yL1 ?_ rfl hbx
      refine yM ?_
      refine AWo.sliceS2 tbok (l := c * k) (h := b.length) (sz := 1) rfl (.some rfl) .none hid rfl rfl rfl (by omega) (Nat.le_refl _) rfl rfl rfl ?_
      refine yP (PureOp.lenS tbok rfl rfl) ?_
      refine yP (PureOp.minN (a := c) (b := b.length - c * k) rfl rfl) ?_
      refine yA ?_
      exact AWo.nil (by kernel_rfl) ⟨rfl, rfl, rfl, rfl, rfl⟩
    rintro ρ2 E2 M2 a2 w2 hR2 ⟨hm2, hf1, hf2, hf4, hf5⟩ hT2
    have hm2 : M2 = M1 := hm2
    subst hm2
    have hE2 := hExt _ _ hE1 (hRs.others hR2)
    have hRt := hRs.unbase (Nat.le_refl _) hR2
    have hmn : Nat.min c (b.length - c * k) ≤ b.length - c * k := Nat.min_le_right _ _
    have hmc : Nat.min c (b.length - c * k) ≤ c := Nat.min_le_left _ _
    have hsub4 : ∀ t v, Sim.upd ((Sim.upd (Sim.upd (Sim.upd (fun _ => none) 1 (.pointer (some ⟨bx, 0, none⟩))) 2 (.pointer (some ⟨cx, 0, none⟩))) 4 (vi .i64 (c * k)))) 5 (vi .i64 (Nat.min c (b.length - c * k))) t = some v → E2 t = some v := by
      intro t v ht
      simp only [Sim.upd] at ht
      split at ht
      · rename_i e; subst e; exact (show E2 5 = _ from hf5).trans ht
      · exact subs3 hf1 hf2 hf4 t v (by simp only [Sim.upd]; exact ht)
    refine wpIn_seq (wpIn_yield (os := [_, _, _, _, _, _, _, _, _]) (n := 31) (d0 := 19) (dc := 29) (dn := 30) (l := l) (Ext := Ext) (Jx := Jx) (Nx := Inv (k + 1)) (vs := chunkE id c b.length k) (E2 := (Sim.upd (Sim.upd (Sim.upd (fun _ => none) 1 (.pointer (some ⟨bx, 0, none⟩))) 2 (.pointer (some ⟨cx, 0, none⟩))) 4 (vi .i64 (c * k))))
      (hRt.sub hsub4) rfl hT2 hE2 hExt rfl (by decide) rfl (by simp) (by decide) ?_ rfl rfl (fun ρ' w' rv h1 h2 h3 => hY k ρ' M2 w' rv hkN h1 hi h2 h3) ?_ ?_)
    · refine yL1 ?_ rfl hbx
      refine yM ?_
      refine yM ?_
      refine yM ?_
      refine yP (PureOp.addI (a := c * k) (b := Nat.min c (b.length - c * k)) rfl rfl (by omega)) ?_
      refine yM ?_
      refine yM ?_
      refine yP (PureOp.addI (a := c * k) (b := Nat.min c (b.length - c * k)) rfl rfl (by omega)) ?_
      refine AWo.slice3 tbok (l := c * k) (h := c * k + Nat.min c (b.length - c * k)) (sz := 1) (n := b.length) rfl (.some rfl) rfl rfl hid rfl rfl rfl (by omega) (by omega) rfl rfl rfl ?_
      refine AWo.nil trivial ⟨rfl, ?_, fun t v ht => ?_⟩
      · show [some (Value.slice (some ⟨id, 0 + c * k * 1, none⟩) (c * k + Nat.min c (b.length - c * k) - c * k) 0)] = _
        rw [Nat.zero_add, Nat.mul_one, Nat.add_sub_cancel_left]; rfl
      simp only [Sim.upd] at ht
      split at ht
      · rename_i e; subst e; cases ht
        exact ⟨by decide, by decide, .inl ⟨rfl, rfl⟩⟩
      · split at ht
        · rename_i e; subst e; cases ht
          exact ⟨by decide, by decide, .inr ⟨u', by simp, hu'⟩⟩
        · split at ht
          · rename_i e; subst e; cases ht
            exact ⟨by decide, by decide, .inr ⟨u, by simp, hu⟩⟩
          · cases ht
    · intro ρ3 M3 a3 w3 hnx hE3 hR3 hT3
      obtain ⟨_, ⟨rw4, es4, hcc3⟩, _⟩ := hq _ _ hnx
      refine wpIn_cond_false (flat_inv (hR3.eval (x := .tmp 30) rfl) rfl) (wpIn_skip ?_)
      refine wpIn_regionX hR3 rfl hT3 (K := fun σ => σ.mem = M3 ∧ σ.env 1 = some (.pointer (some ⟨bx, 0, none⟩)) ∧ σ.env 2 = some (.pointer (some ⟨cx, 0, none⟩)) ∧ σ.env 4 = some (vi .i64 (c * (k + 1)))) ?_ rfl rfl ?_
      · refine yM ?_
        refine yL1 ?_ rfl hcc3
        refine yP (PureOp.addI (a := c * k) (b := c) rfl rfl (by omega)) ?_
        refine yA ?_
        exact AWo.nil trivial ⟨rfl, rfl, rfl, by rw [hce]; rfl⟩
      rintro ρ4 E4 M4 a4 w4 hR4 ⟨hm4, hg1, hg2, hg4⟩ hT4
      have hm4 : M4 = M3 := hm4
      subst hm4
      exact ⟨r - 1, by omega, k + 1, ρ4, M4, by omega, (hR3.unbase (Nat.le_refl _) hR4).sub (subs3 hg1 hg2 hg4), hnx, hExt _ _ hE3 (hR3.others hR4), hT4⟩
    · intro a3 w3 hj h30 hd
      refine wpIn_cond_true (eval_of h30) (wpIn_ret ?_)
      exact ⟨hd, _, results_none rfl _ _ _, ⟨_, rfl⟩, .inr hj⟩
  · have hge : ¬ c * k < b.length := of_decide_eq_false h0r
    have hkN : k = N := by
      have : ¬ k < N := fun h => hge ((chunk_lt hc).2 (hN ▸ h))
      omega
    subst hkN
    refine wpIn_exit ?_
    exact ⟨hRc.defers, _, results_none rfl _ _ _, ⟨_, rfl⟩, .inl ⟨ρ1, M1, hRc.toM, hi, hE1⟩⟩
theorem chunkw_ctr {b : List Nat} {n c : Nat} (hn : b.length = n) (hc : 1 ≤ c) : GC Try.prog 82 [.slice (some ⟨0, 0, none⟩) n 0, vi .i64 c] [⟨b.map (vi .u8), false, 1⟩] [.func (.func 124) #[] #[.pointer (some ⟨1, 0, none⟩), .pointer (some ⟨2, 0, none⟩)]]
    [⟨b.map (vi .u8), false, 1⟩, ⟨[.slice (some ⟨0, 0, none⟩) n 0], true, 1⟩, ⟨[vi .i64 c], true, 1⟩] := by
  refine GC.intro Try.func82 rfl (by show 2 ≤ 9; decide) (Nat.le_add_right 1 2) ?_
  refine AW.seqR ?_
  refine yO 3000 1 _ ?_
  refine yO 4000 1 _ ?_
  refine yA ?_
  refine zN ?_
  refine AW.seq (AW.seqR ?_)
  refine yL1 ?_
  refine AWo.pure ((PureOp.ltN (a := c) (b := 1) rfl rfl).mono (v' := .bool false) (congrArg Value.bool (decide_eq_false (by omega)))) rfl rfl ?_
  refine zN ?_
  refine zF (zK ?_)
  refine zT ?_
  refine AW.seqR ?_
  refine yP (PureOp.makeFunc (xs := #[]) (ys := #[.pointer (some ⟨3000, 0, none⟩), .pointer (some ⟨4000, 0, none⟩)]) rfl (by simp) (by simp [aev, Sim.upd]) ) ?_
  refine yA ?_
  refine zN ?_
  refine AW.ret ?_
  exact rq [3000, 4000] [.tmp 4] (hres := .cons rfl rfl .nil) (hb := OutL.flat rfl (flatM flat_vi) (by intro h; first | exact h | rfl | exact h.elim id fun h => absurd h.1 (by simp)) (OutL.whole rfl rfl (OkL.all rfl) (fun _ => rfl) (OutL.whole rfl rfl (OkL.all rfl) (fun _ => rfl) trivial)))
end Go.Proofs.Yteeifahhejangaa
namespace Go.Proofs.Yteeifahhejangaa
open Go Sim
def cks (b : List Nat) (k : Nat) : List Nat := (b.drop (32 * k)).take 32
def okB (b : List Nat) (k : Nat) : Bool := (List.range k).all fun j => decide (rdC (cks b j) = 0)
def pv (b : List Nat) (k : Nat) : List Fp := (List.range k).map fun j => fp (rdV (cks b j))
def prB (b : List Nat) : Bool := decide (b.length % 32 = 0) && okB b (b.length / 32)
def prX (b : List Nat) : List Fp := if prB b then pv b (b.length / 32) else []
def prC (b : List Nat) : Int := if b.length % 32 = 0 then (if okB b (b.length / 32) then 0 else 4) else 3
theorem okB_succ {b : List Nat} {k : Nat} : okB b (k + 1) = (okB b k && decide (rdC (cks b k) = 0)) := by
  rw [okB, List.range_succ, List.all_append]; simp [okB]
theorem okB_lt {b : List Nat} {k j : Nat} (h : okB b k = false) (hkj : k ≤ j) : okB b j = false := by
  rw [okB, List.all_eq_false] at *
  obtain ⟨x, hx, h1⟩ := h
  exact ⟨x, List.mem_range.2 (Nat.lt_of_lt_of_le (List.mem_range.1 hx) hkj), h1⟩
theorem pv_len (b : List Nat) (k : Nat) : (pv b k).length = k := by simp [pv]
theorem pv_succ (b : List Nat) (k : Nat) : pv b (k + 1) = pv b k ++ [fp (rdV (cks b k))] := by rw [pv, List.range_succ, List.map_append]; rfl
theorem cks_len {b : List Nat} {k : Nat} (h0 : b.length % 32 = 0) (hk : k < b.length / 32) : (cks b k).length = 32 := by
  rw [cks, List.length_take, List.length_drop]; omega
theorem cks_bd {b : List Nat} (hb : bd 256 b) (k : Nat) : bd 256 (cks b k) := fun x hx => hb x (List.mem_of_mem_drop (List.mem_of_mem_take hx))
theorem chunkN32 {n : Nat} (h : n % 32 = 0) : chunkN 32 n = n / 32 := by unfold chunkN; omega
theorem rdC_4 {l : List Nat} (hl : l.length = 32) (h : ¬ rdC l = 0) : rdC l = 4 := by
  rw [rdC, if_pos hl] at *
  split at h
  · exact absurd rfl h
  · rename_i h1; rw [if_neg h1]
theorem fel_fe (l : List Nat) : fel (rdV l) = fe (fp (rdV l)) := by
  show fel (rdV l) = fel (rdV l % 21888242871839275222246405745257275088548364400416034343698204186575808495617)
  rw [Nat.mod_eq_of_lt (rdV_lt l)]
theorem fbp_ctr {l : List Nat} (hb : bd 256 l) (hl : l.length = 32) : GC Try.prog 73 [.slice (some ⟨0, 0, none⟩) 32 0] [⟨l.map (vi .u8), false, 1⟩] [.agg ((fe (fp (rdV l))).map (vi .u64)).toArray, .int .i64 (rdC l)] [⟨l.map (vi .u8), false, 1⟩] := by
  have h := fbX_ctr hb
  rw [hl, fel_fe] at h
  exact h
theorem cks_part {b : List Nat} {k : Nat} (h : (cks b k).length = 32) : ((b.map (vi .u8)).drop (32 * k)).take ((cks b k).map (vi .u8)).length = (cks b k).map (vi .u8) := by
  rw [List.length_map, h, ← List.map_drop, ← List.map_take]; rfl
def rdM (b : List Nat) (L : List Fp) (s e : Value) : Mem := Sim.upd (Sim.upd (Sim.upd (Sim.upd (Sim.upd (Sim.upd (Sim.upd (fun _ => none) 0 ⟨b.map (vi .u8), false, 1⟩) 1 ⟨[s], true, 1⟩) 2 ⟨[e], true, 1⟩)
  3 ⟨[.slice (some ⟨77000, 0, none⟩) L.length 0], true, 1⟩) 4 ⟨[.slice (some ⟨0, 0, none⟩) b.length 0], true, 1⟩) 5 ⟨[vi .i64 32], true, 1⟩) 77000 ⟨((L.map fe).flatten).map (vi .u64), true, 4⟩
def rdE : Env := Sim.upd (Sim.upd (Sim.upd (fun _ => none) 2 (.pointer (some ⟨1, 0, none⟩))) 3 (.pointer (some ⟨2, 0, none⟩))) 4 (.pointer (some ⟨3, 0, none⟩))
theorem WkI.nil2 {Dm : Nat → Prop} {fm : List (Nat × Nat)} {M N : Mem} {i : Nat} {rw rw' : Bool} {es : Nat} {ids : List Nat} (h1 : M ((fm.lookup i).getD i) = some ⟨[.slice none 0 0], rw', es⟩)
    (h3 : rw = true → rw' = true) (h : WkI ids Dm fm M N) : WkI ids Dm fm M (Sim.upd N i ⟨[.slice none 0 0], rw, es⟩) :=
  WkM.flat h1 (fun v hv => by simp at hv; subst hv; rfl) h3 h
theorem sub3' {E : Env} {m i j k : Nat} {x y z : Value} (h1 : E i = some x) (h2 : E j = some y) (h3 : E k = some z) (l1 : Low m x) (l2 : Low m y) (l3 : Low m z) :
    ∀ t v, Sim.upd (Sim.upd (Sim.upd (fun _ => none) i x) j y) k z t = some v → E t = some v ∧ Low m v := by
  intro t v ht
  simp only [Sim.upd] at ht
  split at ht
  · rename_i e; subst e; cases ht; exact ⟨h3, l3⟩
  · split at ht
    · rename_i e; subst e; cases ht; exact ⟨h2, l2⟩
    · split at ht
      · rename_i e; subst e; cases ht; exact ⟨h1, l1⟩
      · cases ht
set_option maxRecDepth 10000 in
theorem pread_ctr {b : List Nat} (hb : bd 256 b) (hx : b.length < 1000000) : GC Try.prog 24 [.slice (some ⟨0, 0, none⟩) b.length 0] [⟨b.map (vi .u8), false, 1⟩] [.slice (some ⟨1, 0, none⟩) (prX b).length 0, .int .i64 (prC b)]
    [⟨b.map (vi .u8), false, 1⟩, ⟨(((prX b).map fe).flatten).map (vi .u64), true, 4⟩] := by
  refine GC.introD Try.func24 rfl (by show 1 ≤ 28; decide) (Nat.le_succ _) ?_
  refine AWd.firstR ?_
  refine yN 1 1 _ ?_
  refine yN 2 1 _ ?_
  refine zN ?_
  refine AWd.first (AW.seqR ?_)
  refine yM ?_
  refine yP (PureOp.lenS tbok rfl rfl) ?_
  refine yP (PureOp.remN (a := b.length) (b := 32) rfl rfl (by decide)) ?_
  refine yP (PureOp.neN (a := b.length % 32) (b := 0) rfl rfl) ?_
  refine zN ?_
  refine AW.cond rfl (fun h0 => ?_) (fun h0 => ?_)
  · have h0 : ¬ b.length % 32 = 0 := by simpa using h0
    refine AW.ghost 77000 4 rfl ?_
    refine AW.seqR ?_
    refine AWo.store1 tbok rfl rfl rfl rfl rfl (by decide) rfl rfl ?_
    refine AWo.store1 tbok rfl rfl rfl rfl rfl (by decide) rfl rfl ?_
    refine zN ?_
    refine AW.ret ?_
    have e1 : prX b = [] := if_neg (by simp [prB, h0])
    have e2 : prC b = 3 := if_neg h0
    rw [e1, e2]
    exact rq [77000] [.cell 2 48, .cell 3 26]
  have h0 : b.length % 32 = 0 := by simpa using h0
  refine AW.skip ?_
  refine thenA_normal ?_
  refine AWd.firstR ?_
  refine yN 3 1 _ ?_
  refine zN ?_
  refine AWd.seq ?_
  refine AWd.firstR ?_
  refine yM ?_
  refine yC (chunkw_ctr (b := b) (c := 32) rfl (by decide)) bd82 [(0, 0)] [4, 5] ?_
  refine zN ?_
  refine AWd.block (AWd.ghost (id := 77000) (es := 4) rfl (AWd.weaken (fm := []) (τ := ⟨Sim.upd rdE 13 (.func (.func 124) #[] #[.pointer (some ⟨4, 0, none⟩), .pointer (some ⟨5, 0, none⟩)]), rdM b [] (.slice none 0 0) (.int .i64 0)⟩)
    (wk [0, 1, 2, 3, 4, 5, 77000] (hE := WkE.upd rfl (okVI_rel (ids := [4, 5]) (by simp) rfl (dom_all rfl) rfl) (WkE.upd rfl (.ptr _ _ ⟨_, rfl⟩) (WkE.upd rfl (.ptr _ _ ⟨_, rfl⟩) (WkE.upd rfl (.ptr _ _ ⟨_, rfl⟩) WkE.emp))))
      (hM := WkI.flatM (l := (([] : List Fp).map fe).flatten) (l' := []) rfl rfl flat_vi (fun h => h) (WkI.flat (cells := [vi .i64 32]) rfl (by simp [flatV, vi]) (fun h => h) (WkI.ren rfl rfl rfl (dom_all rfl) (fun h => h) (WkI.nil1 rfl (fun h => h) (WkI.flat (cells := [.int .i64 0]) rfl (by simp [flatV]) (fun h => h) (WkI.nil2 rfl (fun h => h) (WkI.flatM rfl rfl flat_vi (fun h => h) WkM.emp)))))))) ?_))
  refine AWd.range (chunk_it (b := b) (bx := 4) (cx := 5) (id := 0) (c := 32) (m := 6) (by decide) (by decide) (by decide) (by decide) (by omega)) rdE
    (fun k M => M = rdM b (pv b k) (.slice none 0 0) (.int .i64 0) ∧ okB b k = true) (fun M => ∃ k, M = rdM b (pv b k) (.slice none 0 0) (.int .i64 4) ∧ okB b (b.length / 32) = false)
    (by show 1 ≤ 6; decide) rfl ?_ ?_ (fun args w => run_callFunc bd124 args w) (sub3' rfl rfl rfl (Low.ptr (by decide)) (Low.ptr (by decide)) (Low.ptr (by decide))) (fun _ => rfl) (by decide) ⟨rfl, rfl⟩ ?_ ?_ ?_ ?_
  · intro v hv
    simp only [List.mem_cons, List.not_mem_nil, or_false] at hv
    rcases hv with rfl | rfl <;> exact Low.ptr (by decide)
  · intro i hi
    match i, hi with
    | 0, _ => exact ⟨_, rfl⟩
    | 1, _ => exact ⟨_, rfl⟩
    | 2, _ => exact ⟨_, rfl⟩
    | 3, _ => exact ⟨_, rfl⟩
    | 4, _ => exact ⟨_, rfl⟩
    | 5, _ => exact ⟨_, rfl⟩
  · rintro k M ⟨rfl, _⟩
    exact ⟨⟨_, _, rfl⟩, ⟨_, _, rfl⟩, ⟨_, rfl⟩⟩
  · rintro k M hk ⟨rfl, hok⟩
    rw [chunkN32 h0] at hk
    have hcl := cks_len h0 hk
    have hcb := cks_bd hb k
    have he : chunkE 0 32 b.length k = [.slice (some ⟨0, 32 * k, none⟩) 32 0] := by
      rw [chunkE, show Nat.min 32 (b.length - 32 * k) = 32 from Nat.min_eq_left (by omega)]
    rw [he]
    show AWX _ _ _ _ ⟨Sim.upd rdE 14 (.slice (some ⟨0, 32 * k, none⟩) 32 0), _⟩ _
    refine AWX.region ?_
    refine yA ?_
    refine zN ?_
    refine AWX.block (AWX.seqR ?_)
    refine yM ?_
    refine yC (fbp_ctr (l := cks b k) hcb hcl) bd73 [(0, 32 * k)] [] ?_ (hfit := .part rfl (cks_part hcl) (flatM flat_vi) (by simp [hcl]; omega) .nil)
    refine yM ?_
    refine yP (PureOp.extract rfl rfl) ?_
    refine yP (PureOp.extract rfl rfl) ?_
    refine yN 7000 1 _ ?_
    refine ySA ?_
    refine yA ?_
    refine zN ?_
    refine AWX.seq (AWX.seqR ?_)
    refine yM ?_
    refine AWo.pure (PureOp.bin rfl rfl rfl) rfl rfl ?_
    refine zN ?_
    refine AWX.cond rfl (fun h => ?_) (fun h => ?_)
    · have hz : ¬ rdC (cks b k) = 0 := by simpa using h
      refine AWX.seqR ?_
      refine yM ?_
      refine AWo.store1 tbok rfl rfl rfl rfl rfl (by simp) rfl rfl ?_
      refine AWo.store1 tbok rfl rfl rfl rfl rfl (by simp) rfl rfl ?_
      refine zN ?_
      refine AWX.ret ?_
      refine ⟨[], ⟨fun _ => none, rdM b (pv b k) (.slice none 0 0) (.int .i64 4)⟩, ?_, .inr ⟨rfl, k, rfl, okB_lt (k := k + 1) (by rw [okB_succ, decide_eq_false hz, Bool.and_false]) hk⟩⟩
      rw [rdC_4 hcl hz]
      exact wk [0, 1, 2, 3, 4, 5, 77000]
    · have hz : rdC (cks b k) = 0 := by simpa using h
      refine AWX.skip ?_
      refine thenA_normal ?_
      refine AWX.region ?_
      refine yL1 ?_
      refine yLE ?_
      refine AWo.buildSlice tbok 26000 [(0, .agg ((fe (fp (rdV (cks b k)))).map (vi .u64)).toArray)] (out := [fe (fp (rdV (cks b k)))].flatten.map (vi .u64)) rfl rfl (by decide) rfl rfl rfl (by decide) rfl (fillB1 (fe_len _)) rfl rfl rfl ?_
      refine AWo.append tbok (all := FF (pv b (k + 1))) (news := [fe (fp (rdV (cks b k)))].flatten.map (vi .u64)) 27000 rfl rfl rfl rfl (by show (FF _).length = _; rw [FF_len]) (by show List.take _ (List.drop 0 _) = _; rw [List.drop_zero]; exact List.take_of_length_le (by simp)) (by simp) (by decide) rfl rfl rfl (by decide) rfl rfl rfl (by rw [pv_len]; omega) (by rw [pv_len]; omega) (oneM (fun _ => rfl) _) (by show FF _ ++ FF [_] = FF _; rw [← FF_app, pv_succ]) rfl rfl ?_
      refine AWo.store1 tbok rfl rfl rfl rfl rfl (by simp) rfl rfl ?_
      refine zN ?_
      refine ⟨[(77000, 27000)], ⟨fun _ => none, rdM b (pv b (k + 1)) (.slice none 0 0) (.int .i64 0)⟩, ?_, .inl ⟨rfl, rfl, by rw [okB_succ, hok, hz]; rfl⟩⟩
      rw [show (pv b k).length + 1 = (pv b (k + 1)).length by rw [pv_len, pv_len]]
      exact wk [0, 1, 2, 3, 4, 5, 77000]
  · rintro M ⟨rfl, hok⟩
    rw [chunkN32 h0] at hok ⊢
    have e1 : prX b = pv b (b.length / 32) := if_pos (by simp [prB, h0, hok])
    have e2 : prC b = 0 := by rw [prC, if_pos h0, if_pos hok]
    rw [e1, e2]
    refine AWd.ofX (AWX.seqR ?_)
    refine yL1 ?_
    refine AWo.store1 tbok rfl rfl rfl rfl rfl (by simp) rfl rfl ?_
    refine AWo.store1 tbok rfl rfl rfl rfl rfl (by simp) rfl rfl ?_
    refine zN ?_
    refine AWX.ret ?_
    exact rq [77000] [.cell 2 48, .cell 3 26]
  · rintro M ⟨k, rfl, hok⟩
    have e1 : prX b = [] := if_neg (by simp [prB, hok])
    have e2 : prC b = 4 := by rw [prC, if_pos h0, if_neg (by rw [hok]; decide)]
    rw [e1, e2]
    exact rq [77000] [.cell 2 48, .cell 3 26] (hb := OutL.flat rfl (flatM flat_vi) (by intro h; first | rfl | exact h.elim id fun h => absurd h.1 (by simp)) (OutL.part rfl (by rfl) (fun x hx => by simp at hx) (fun _ => rfl) (Nat.zero_le _) trivial))
end Go.Proofs.Yteeifahhejangaa
namespace Go.Proofs.Yteeifahhejangaa
open Go Sim
theorem OutL.cloPart0 {m : Nat} {nids : List Nat} {M : Mem} {n k : Nat} {c' : List Value} {rw' : Bool} {es : Nat} {r : List Blk} (hM : M (hmap m nids k).blk = some ⟨c', rw', es⟩)
    (hr : OutL m nids M n (k + 1) r) (hw : rw' = true := by rfl) : OutL m nids M n k (⟨[], true, es⟩ :: r) :=
  ⟨⟨_, hM, by simp, OkL.flat (by simp), fun _ => hw, rfl, Nat.zero_le _⟩, hr⟩
theorem read32_ctr {l : List Nat} (hb : bd 256 l) (hl : l.length = 32) : GC Try.prog 83 [.slice (some ⟨0, 0, none⟩) 32 0] [⟨l.map (vi .u8), false, 1⟩] [.slice (some ⟨1, 0, none⟩) (D 4294967296 (rdV l)).length 0, .int .i64 (rdC l)] [⟨l.map (vi .u8), false, 1⟩, ⟨(D 4294967296 (rdV l)).map (vi .u64), true, 1⟩] := by
  have h := read02_ctr hb
  rw [hl] at h
  exact h
theorem deep_rd {l : List Nat} : deep (D 4294967296 (rdV l)).length 1 ((D 4294967296 (rdV l)).map (vi .u64)) = dv (fp (rdV l)) := by
  show dd (rdV l) = dd (fp (rdV l)).val
  rw [fp_val, Nat.mod_eq_of_lt (rdV_lt l)]
theorem prX_len (b : List Nat) : (prX b).length ≤ b.length / 32 := by
  unfold prX; split
  · rw [pv_len]; exact Nat.le_refl _
  · exact Nat.zero_le _
theorem cks_dig {b : List Nat} {k : Nat} (hb : bd 256 b) (hl : (cks b k).length = 32) (hz : rdC (cks b k) = 0) : digs 256 32 (fp (rdV (cks b k))).val = cks b k := by
  have h1 : num 256 (cks b k) < 21888242871839275222246405745257275088548364400416034343698204186575808495617 := by
    rw [rdC, if_pos hl] at hz
    split at hz
    · assumption
    · cases hz
  rw [(rd_ok hl h1).1, fp_val, Nat.mod_eq_of_lt h1]
  have := digs_num (cks_bd hb k)
  rw [hl] at this
  exact this
theorem bsL_pv {b : List Nat} (hb : bd 256 b) (h0 : b.length % 32 = 0) : ∀ k, k ≤ b.length / 32 → okB b k = true → bsL (pv b k) = b.take (32 * k)
  | 0, _, _ => by simp [pv, bsL]
  | k + 1, hk, ho => by
    rw [okB_succ, Bool.and_eq_true] at ho
    have ih := bsL_pv hb h0 k (by omega) ho.1
    have hl := cks_len h0 (show k < b.length / 32 by omega)
    rw [pv_succ, bsL, List.flatMap_append]
    rw [bsL] at ih
    rw [ih, List.flatMap_cons, List.flatMap_nil, List.append_nil, cks_dig hb hl (of_decide_eq_true ho.2), cks, show 32 * (k + 1) = 32 * k + 32 by omega, List.take_add]
theorem bsL_rd {b : List Nat} (hb : bd 256 b) (hc : prC b = 0) : bsL (prX b) = b := by
  unfold prC at hc
  split at hc
  · rename_i h0
    split at hc
    · rename_i ho
      rw [prX, if_pos (by simp [prB, h0, ho]), bsL_pv hb h0 _ (Nat.le_refl _) ho, List.take_of_length_le (by omega)]
    · cases hc
  · cases hc
theorem rread22_ctr {b : List Nat} (hb : bd 256 b) (hx : b.length < 1000000) : GC Try.prog 25 [.slice (some ⟨0, 0, none⟩) b.length 0] [⟨b.map (vi .u8), false, 1⟩] [.slice (some ⟨1, 0, none⟩) (prX b).length 0, .int .i64 (prC b)] [⟨b.map (vi .u8), false, 1⟩, ⟨(prX b).map dv, true, 1⟩] := by
  refine GC.intro Try.func25 rfl (by show 1 ≤ 36; decide) (by first | exact Nat.le_refl _ | decide | simp) ?_
  refine AW.seqR ?_
  refine AWo.pure (PureOp.assign rfl) rfl rfl ?_
  refine AWo.pure (PureOp.assign rfl) rfl rfl ?_
  refine AWo.nil trivial ?_
  refine AW.seq ?_
  refine AW.seqR ?_
  refine AWo.pure (PureOp.move rfl) rfl rfl ?_
  first | refine AWo.pure (PureOp.lenS tbok rfl rfl) rfl rfl ?_ | refine AWo.pure (PureOp.lenD tbok rfl rfl) rfl rfl ?_
  refine yP (PureOp.remN (a := b.length) (b := 32) rfl rfl (by decide)) ?_
  first | refine AWo.pure (PureOp.neN (b := 0) rfl rfl) rfl rfl ?_ | refine AWo.pure (PureOp.bin rfl rfl rfl) rfl rfl ?_
  refine AWo.nil trivial ?_
  refine AW.cond rfl (fun hb0 => ?_) (fun hb0 => ?_)
  ·
    have h0 : ¬ b.length % 32 = 0 := by simpa using hb0
    refine AW.ghost 77000 1 rfl ?_
    refine AW.seqR ?_
    refine AWo.pure (PureOp.assign rfl) rfl rfl ?_
    refine AWo.pure (PureOp.assign rfl) rfl rfl ?_
    refine AWo.nil trivial ?_
    refine AW.ret ?_
    refine thenA_ret ?_
    have e1 : prX b = [] := if_neg (by simp [prB, h0])
    have e2 : prC b = 3 := if_neg h0
    rw [e1, e2]
    refine RetQ.gc [_, _] [77000] [.tmp 2, .tmp 3] (.inl rfl) rfl (.tmp rfl (.tmp rfl .nil)) rfl (.nilS (.pure rfl .nil)) (OutL.flat rfl (flatM flat_vi) (by intro h; exact h.elim id fun h => absurd h.1 (by simp)) (OutL.clo rfl (cloM fun _ => rfl) (fun _ => rfl) trivial)) (by decide) rfl
  ·
    have h0 : b.length % 32 = 0 := by simpa using hb0
    refine AW.skip ?_
    refine thenA_normal ?_
    refine AW.seqR ?_
    refine AWo.buildSlice tbok 13000 [] (out := []) rfl rfl (by decide) rfl rfl rfl (by decide) rfl rfl rfl rfl rfl ?_
    refine AWo.pure (PureOp.assign rfl) rfl rfl ?_
    refine AWo.nil trivial ?_
    refine AW.seq ?_
    refine AW.seqR ?_
    refine AWo.pure (PureOp.assign rfl) rfl rfl ?_
    refine AWo.nil trivial ?_
    refine AW.block ?_
    refine AW.loopw (fun mm σ => ∃ k, (k ≤ b.length / 32 ∧ okB b k = true) ∧ mm = b.length / 32 - k ∧ σ = ⟨(upd (upd (upd emp 0 (.slice (some ⟨0, 0, none⟩) b.length 0)) 4 (.slice (some ⟨77000, 0, none⟩) k 0)) 5 (vi .i64 (32 * k))), (upd (upd emp 0 ⟨b.map (vi .u8), false, 1⟩) 77000 ⟨(pv b k).map dv, true, 1⟩)⟩) (fm := [(77000, 13000)]) ?_ ⟨0, ⟨Nat.zero_le _, rfl⟩, rfl, rfl⟩ ?_
    ·
      refine Wk.of [0, 77000] ?_ ?_ ?_ (by decide) rfl
      ·
        refine WkE.upd rfl (by first | exact VR.flat _ rfl | exact VR.eqv (congrArg (vi .i64) (by omega)) rfl) ?_
        refine WkE.upd rfl (by first | exact .nilS _ (by simp) | exact .slice (77000) 0 _ 0 ⟨_, rfl⟩ (by simp) (by simp)) ?_
        refine WkE.upd rfl (.slice (0) 0 _ 0 ⟨_, rfl⟩ (by simp) (by simp)) ?_
        exact WkE.emp
      ·
        refine WkM.cloM rfl rfl (fun _ => rfl) (fun h => h) ?_
        refine WkM.flat rfl (flatM flat_vi) (fun h => h) ?_
        exact WkM.emp
      ·
        repeat (refine dom_upd_mem (by decide) ?_)
        exact dom_emp
    ·
      rintro mm σ ⟨k, ⟨hk0, hok⟩, rfl, rfl⟩
      refine AW.seq ?_
      refine AW.seqR ?_
      refine AWo.pure (PureOp.move rfl) rfl rfl ?_
      refine AWo.pure (PureOp.move rfl) rfl rfl ?_
      first | refine AWo.pure (PureOp.lenS tbok rfl rfl) rfl rfl ?_ | refine AWo.pure (PureOp.lenD tbok rfl rfl) rfl rfl ?_
      first | refine AWo.pure (PureOp.ltN rfl rfl) rfl rfl ?_ | refine AWo.pure (PureOp.bin rfl rfl rfl) rfl rfl ?_
      refine AWo.nil trivial ?_
      refine AW.cond rfl (fun hb1 => ?_) (fun hb1 => ?_)
      ·
        have hk : k < b.length / 32 := by have := of_decide_eq_true hb1; omega
        have hcl := cks_len h0 hk
        have hcb := cks_bd hb k
        refine AW.skip ?_
        refine thenA_normal ?_
        refine AW.seq ?_
        refine AW.block ?_
        refine AW.seqR ?_
        refine AWo.pure (PureOp.move rfl) rfl rfl ?_
        refine AWo.pure (PureOp.move rfl) rfl rfl ?_
        refine AWo.pure (PureOp.move rfl) rfl rfl ?_
        first | refine AWo.pure (PureOp.addI (b := 32) rfl rfl (by first | decide | omega)) rfl rfl ?_ | refine AWo.pure (PureOp.bin rfl rfl rfl) rfl rfl ?_
        refine AWo.sliceS2 tbok (l := 32 * k) (h := 32 * k + 32) (v := .slice (some ⟨0, 32 * k, none⟩) 32 0) rfl (.some rfl) (.some rfl) rfl rfl rfl rfl (by omega) (by omega) (by rw [Nat.add_sub_cancel_left, Nat.zero_add, Nat.mul_one]) rfl rfl ?_
        refine AWo.callX (read32_ctr (l := cks b k) hcb hcl) bd83 [(0, 32 * k)] [26000] rfl (.cons rfl .nil) rfl (.cons rfl rfl .nil) (.part rfl (cks_part hcl) (flatM flat_vi) (by simp [hcl]; omega) .nil) rfl (.keep rfl (.new (flat_map_ren (by first | exact flatM flat_vi | exact flatM flat_bool | (simp [flatV, flat_vi]; done))) (OkL.flat (by first | exact flatM flat_vi | exact flatM flat_bool | (simp [flatV, flat_vi]; done))) .nil)) (frC rfl frN) (by decide) (.cons rfl rfl (.cons rfl rfl .nil)) rfl rfl rfl rfl ?_
        refine AWo.pure (PureOp.move rfl) rfl rfl ?_
        refine AWo.pure (PureOp.extract rfl rfl) rfl rfl ?_
        refine AWo.pure (PureOp.extract rfl rfl) rfl rfl ?_
        refine AWo.pure (PureOp.assign rfl) rfl rfl ?_
        refine AWo.pure (PureOp.assign rfl) rfl rfl ?_
        refine AWo.nil trivial ?_
        refine AW.seq ?_
        refine AW.freeze (o := 0) (es := 1) 6 26000 ((D 4294967296 (rdV (cks b k))).map (vi .u64)) ?_ rfl rfl (cloM fun _ => rfl) (by simp) (by rw [List.drop_zero]; exact List.take_of_length_le (by simp))
        rw [deep_rd]
        refine AW.seqR ?_
        refine AWo.pure (PureOp.move rfl) rfl rfl ?_
        first | refine AWo.pure (PureOp.neN (b := 0) rfl rfl) rfl rfl ?_ | refine AWo.pure (PureOp.bin rfl rfl rfl) rfl rfl ?_
        refine AWo.nil trivial ?_
        refine AW.cond rfl (fun hb2 => ?_) (fun hb2 => ?_)
        ·
          have hz : ¬ rdC (cks b k) = 0 := by simpa using hb2
          refine AW.seqR ?_
          refine AWo.pure (PureOp.move rfl) rfl rfl ?_
          refine AWo.pure (PureOp.assign rfl) rfl rfl ?_
          refine AWo.pure (PureOp.assign rfl) rfl rfl ?_
          refine AWo.nil trivial ?_
          refine AW.ret ?_
          refine thenA_ret ?_
          refine inBlockA_ret ?_
          refine thenA_ret ?_
          refine thenA_ret ?_
          refine inBlockA_ret ?_
          refine thenA_ret ?_
          have hoN : okB b (b.length / 32) = false := okB_lt (k := k + 1) (by rw [okB_succ, decide_eq_false hz, Bool.and_false]) hk
          have e1 : prX b = [] := if_neg (by simp [prB, hoN])
          have e2 : prC b = 4 := by rw [prC, if_pos h0, if_neg (by rw [hoN]; decide)]
          rw [e1, e2, rdC_4 hcl hz]
          refine RetQ.gc [_, _] [77000] [.tmp 2, .tmp 3] (.inl rfl) rfl (.tmp rfl (.tmp rfl .nil)) rfl (.nilS (.pure rfl .nil)) (OutL.flat rfl (flatM flat_vi) (by intro h; exact h.elim id fun h => absurd h.1 (by simp)) (OutL.cloPart0 rfl trivial)) (by decide) rfl
        ·
          have hz : rdC (cks b k) = 0 := by simpa using hb2
          refine AW.skip ?_
          refine thenA_normal ?_
          refine AW.region ?_
          refine AWo.pure (PureOp.move rfl) rfl rfl ?_
          refine AWo.pure (PureOp.move rfl) rfl rfl ?_
          refine AWo.buildSlice tbok 34000 [(0, dv (fp (rdV (cks b k))))] (out := [dv (fp (rdV (cks b k)))]) rfl rfl (by decide) rfl rfl rfl (by decide) rfl rfl rfl rfl rfl ?_
          refine AWo.append tbok (all := (pv b (k + 1)).map dv) (news := [dv (fp (rdV (cks b k)))]) 35000 rfl rfl rfl rfl (by simp [pv_len]) (by show List.take _ (List.drop 0 _) = _; rw [List.drop_zero]; exact List.take_of_length_le (by simp)) (by first | decide | (simp; done) | (simp; omega)) (by decide) rfl rfl rfl (by first | decide | exact Nat.one_ne_zero) rfl rfl rfl (by first | decide | omega) (by first | decide | omega) (by rfl) (by rw [pv_succ, List.map_append]; rfl) rfl rfl ?_
          refine AWo.pure (PureOp.assign rfl) rfl rfl ?_
          refine AWo.nil trivial ?_
          refine inBlockA_normal ?_
          refine thenA_normal ?_
          refine AW.region ?_
          refine AWo.pure (PureOp.move rfl) rfl rfl ?_
          first | refine AWo.pure (PureOp.addI (b := 32) rfl rfl (by first | decide | omega)) rfl rfl ?_ | refine AWo.pure (PureOp.bin rfl rfl rfl) rfl rfl ?_
          refine AWo.pure (PureOp.assign rfl) rfl rfl ?_
          refine AWo.nil trivial ?_
          refine thenA_normal ?_
          refine ⟨b.length / 32 - (k + 1), [(77000, 35000)], _, by omega, ?_, k + 1, ⟨by omega, by rw [okB_succ, hok, hz]; rfl⟩, rfl, rfl⟩
          refine Wk.of [0, 77000] ?_ ?_ ?_ (by decide) rfl
          ·
            refine WkE.upd rfl (by first | exact VR.flat _ rfl | exact VR.eqv (congrArg (vi .i64) (by omega)) rfl) ?_
            refine WkE.upd rfl (by first | exact .nilS _ (by simp) | exact .slice (77000) 0 _ 0 ⟨_, rfl⟩ (by simp) (by simp)) ?_
            refine WkE.upd rfl (.slice (0) 0 _ 0 ⟨_, rfl⟩ (by simp) (by simp)) ?_
            exact WkE.emp
          ·
            refine WkM.cloM rfl rfl (fun _ => rfl) (fun h => h) ?_
            refine WkM.flat rfl (flatM flat_vi) (fun h => h) ?_
            exact WkM.emp
          ·
            repeat (refine dom_upd_mem (by decide) ?_)
            exact dom_emp
      ·
        obtain rfl : k = b.length / 32 := by have := of_decide_eq_false hb1; omega
        refine AW.exit ?_
        refine thenA_exit ?_
        refine thenA_exit ?_
        refine inBlockA_hit ?_
        refine thenA_normal ?_
        refine AW.seqR ?_
        refine AWo.pure (PureOp.move rfl) rfl rfl ?_
        refine AWo.pure (PureOp.assign rfl) rfl rfl ?_
        refine AWo.pure (PureOp.assign rfl) rfl rfl ?_
        refine AWo.nil trivial ?_
        refine AW.ret ?_
        have e1 : prX b = pv b (b.length / 32) := if_pos (by simp [prB, h0, hok])
        have e2 : prC b = 0 := by rw [prC, if_pos h0, if_pos hok]
        rw [e1, e2, pv_len]
        refine RetQ.gc [_, _] [77000] [.tmp 2, .tmp 3] (.inl rfl) rfl (.tmp rfl (.tmp rfl .nil)) rfl (.cons rfl rfl (.pure rfl .nil)) (OutL.flat rfl (flatM flat_vi) (by intro h; exact h.elim id fun h => absurd h.1 (by simp)) (OutL.clo rfl (cloM fun _ => rfl) (fun _ => rfl) trivial)) (by decide) rfl
theorem preads_ctr {b : List Nat} (hb : bd 256 b) : GC Try.prog 5 [.slice (some ⟨0, 0, none⟩) b.length 0] [⟨b.map (vi .u8), false, 1⟩] [.bool true] [⟨b.map (vi .u8), false, 1⟩] := by
  refine GC.intro Try.func5 rfl (by show 1 ≤ 45; decide) (by first | exact Nat.le_refl _ | decide | simp) ?_
  refine AW.seqR ?_
  refine AWo.pure (PureOp.assign rfl) rfl rfl ?_
  refine AWo.nil trivial ?_
  refine AW.seq ?_
  refine AW.seqR ?_
  refine AWo.callX (speaks22_ctr) bd23 [] [] rfl .nil rfl .nil .nil rfl .nil frN (by decide) (.cons rfl rfl .nil) rfl rfl rfl rfl ?_
  refine AWo.pure (PureOp.not rfl) rfl rfl ?_
  refine AWo.pure (PureOp.move rfl) rfl rfl ?_
  refine AWo.pure (PureOp.move rfl) rfl rfl ?_
  first | refine AWo.pure (PureOp.lenS tbok rfl rfl) rfl rfl ?_ | refine AWo.pure (PureOp.lenD tbok rfl rfl) rfl rfl ?_
  first | refine AWo.pure (PureOp.gtN (b := 700) rfl rfl) rfl rfl ?_ | refine AWo.pure (PureOp.bin rfl rfl rfl) rfl rfl ?_
  refine AWo.pure (PureOp.pickF rfl rfl) rfl rfl ?_
  refine AWo.nil trivial ?_
  refine AW.cond rfl (fun hb0 => ?_) (fun hb0 => ?_)
  ·
    refine AW.seqR ?_
    refine AWo.callX (speaks22_ctr) bd23 [] [] rfl .nil rfl .nil .nil rfl .nil frN (by decide) (.cons rfl rfl .nil) rfl rfl rfl rfl ?_
    refine AWo.pure (PureOp.assign rfl) rfl rfl ?_
    refine AWo.nil trivial ?_
    refine AW.ret ?_
    refine thenA_ret ?_
    refine RetQ.gc [_] [] [.tmp 2] (.inl rfl) rfl (.tmp rfl .nil) rfl (.cons rfl rfl .nil) (OutL.flat rfl (by first | exact flatM flat_vi | exact flatM flat_bool | (simp [flatV, flat_vi]; done)) (by intro h; first | rfl | exact h.elim id fun h => absurd h.1 (by simp)) trivial) (by decide) rfl
  ·
    have hbl : b.length ≤ 700 := by simpa using hb0
    refine AW.skip ?_
    refine thenA_normal ?_
    refine AW.seqR ?_
    refine AWo.pure (PureOp.move rfl) rfl rfl ?_
    refine AWo.callX (pread_ctr hb (by omega)) bd24 [(0, 0)] [18000] rfl (.cons rfl .nil) rfl (.cons rfl rfl .nil) (.flat rfl (by first | exact flatM flat_vi | exact flatM flat_bool | (simp [flatV, flat_vi]; done)) (by intro h; first | exact h | rfl) .nil) rfl (.keep rfl (.new (flat_map_ren (flatM flat_vi)) (OkL.flat (flatM flat_vi)) .nil)) (frC rfl frN) (by decide) (.cons rfl rfl (.cons rfl rfl .nil)) rfl rfl rfl rfl ?_
    refine AWo.pure (PureOp.move rfl) rfl rfl ?_
    refine AWo.pure (PureOp.extract rfl rfl) rfl rfl ?_
    refine AWo.pure (PureOp.extract rfl rfl) rfl rfl ?_
    refine AWo.pure (PureOp.assign rfl) rfl rfl ?_
    refine AWo.pure (PureOp.assign rfl) rfl rfl ?_
    refine AWo.nil trivial ?_
    refine AW.seqR ?_
    refine AWo.pure (PureOp.move rfl) rfl rfl ?_
    refine AWo.callX (rread22_ctr hb (by omega)) bd25 [(0, 0)] [23000] rfl (.cons rfl .nil) rfl (.cons rfl rfl .nil) (.flat rfl (by first | exact flatM flat_vi | exact flatM flat_bool | (simp [flatV, flat_vi]; done)) (by intro h; first | exact h | rfl) .nil) rfl (.keep rfl (.new (clo_map_ren (cloM fun _ => rfl)) (OkL.clo (cloM fun _ => rfl)) .nil)) (frC rfl frN) (by decide) (.cons rfl rfl (.cons rfl rfl .nil)) rfl rfl rfl rfl ?_
    refine AWo.pure (PureOp.move rfl) rfl rfl ?_
    refine AWo.pure (PureOp.extract rfl rfl) rfl rfl ?_
    refine AWo.pure (PureOp.extract rfl rfl) rfl rfl ?_
    refine AWo.pure (PureOp.assign rfl) rfl rfl ?_
    refine AWo.pure (PureOp.assign rfl) rfl rfl ?_
    refine AWo.nil trivial ?_
    refine AW.seqD mixed ?_
    refine AWo.pure (PureOp.move rfl) rfl rfl ?_
    refine AWo.pure (PureOp.move rfl) rfl rfl ?_
    first | refine AWo.pure ((PureOp.eqN rfl rfl).mono (v' := .bool true) (congrArg Value.bool (beq_self_eq_true (prC b)))) rfl rfl ?_ | refine AWo.pure ((PureOp.bin rfl rfl rfl).mono (v' := .bool true) (congrArg Value.bool (beq_self_eq_true (prC b)))) rfl rfl ?_
    refine AWo.pure (PureOp.move rfl) rfl rfl ?_
    refine AWo.pure (PureOp.move rfl) rfl rfl ?_
    refine AWo.pure (PureOp.move rfl) rfl rfl ?_
    refine AWo.callX (are_ctr (xs := prX b) (zs := prX b) (n := (prX b).length) (m := (prX b).length) rfl rfl List.take_length (by have := prX_len b; omega)) bd26 [(18000, 0), (23000, 0)] [] rfl (.cons rfl (.cons rfl .nil)) rfl (.cons rfl rfl (.cons rfl rfl .nil)) (.flat rfl (flatM flat_vi) (by intro h; first | exact h | rfl) (.clo rfl (cloM fun _ => rfl) (by intro h; first | exact h | rfl) .nil)) rfl (.keep rfl (.keep rfl .nil)) frN (by decide) (.cons rfl rfl .nil) rfl rfl rfl rfl ?_
    refine AWo.pure (PureOp.pickT rfl rfl) rfl rfl ?_
    refine AWo.pure (PureOp.move rfl) rfl rfl ?_
    refine AWo.pure (PureOp.move rfl) rfl rfl ?_
    first | refine AWo.pureB (PureOp.neN (b := 0) rfl rfl) rfl rfl (fun hb1 => ?_) (fun hb1 => ?_) | refine AWo.pureB (PureOp.bin rfl rfl rfl) rfl rfl (fun hb1 => ?_) (fun hb1 => ?_)
    ·
      refine AWo.pure (PureOp.move rfl) rfl rfl ?_
      refine AWo.skipped rfl rfl ?_
      refine AWo.skipped rfl rfl ?_
      refine AWo.skipped rfl rfl ?_
      refine AWo.skipped rfl rfl ?_
      refine AWo.skipped rfl rfl ?_
      refine AWo.skipped rfl rfl ?_
      refine AWo.pure (PureOp.pickT rfl rfl) rfl rfl ?_
      refine AWo.pure (PureOp.pickT rfl rfl) rfl rfl ?_
      refine AWo.pure (PureOp.assign rfl) rfl rfl ?_
      refine AWo.nil (by kernel_rfl) ?_
      refine AW.ret ?_
      refine RetQ.gc [_] [] [.tmp 2] (.inl rfl) rfl (.tmp rfl .nil) rfl (.cons rfl rfl .nil) (OutL.flat rfl (by first | exact flatM flat_vi | exact flatM flat_bool | (simp [flatV, flat_vi]; done)) (by intro h; first | rfl | exact h.elim id fun h => absurd h.1 (by simp)) trivial) (by decide) rfl
    ·
      have hc0 : prC b = 0 := by simpa using hb1
      refine AWo.pure (PureOp.move rfl) rfl rfl ?_
      refine AWo.pure (PureOp.move rfl) rfl rfl ?_
      refine AWo.callX (pby_ctr (xs := prX b) (n := (prX b).length) rfl (by have := prX_len b; omega)) bd27 [(18000, 0)] [39000] rfl (.cons rfl .nil) rfl (.cons rfl rfl .nil) (.flat rfl (flatM flat_vi) (by intro h; first | exact h | rfl) .nil) rfl (.keep rfl (.new (flat_map_ren (by first | exact flatM flat_vi | exact flatM flat_bool | (simp [flatV, flat_vi]; done))) (OkL.flat (by first | exact flatM flat_vi | exact flatM flat_bool | (simp [flatV, flat_vi]; done))) .nil)) (frC rfl frN) (by decide) (.cons rfl rfl .nil) rfl rfl rfl rfl ?_
      refine AWo.bytesStr tbok (bsL (prX b)) rfl rfl (by rw [List.take_of_length_le (by simp)]) (rfl) rfl Try.underlying5 Try.underlying9 rfl rfl ?_
      refine AWo.pure (PureOp.move rfl) rfl rfl ?_
      refine AWo.bytesStr tbok (b) rfl rfl (by rw [List.take_of_length_le (by simp)]) (rfl) rfl Try.underlying5 Try.underlying9 rfl rfl ?_
      rw [show Sim.bstr b = Sim.bstr (bsL (prX b)) from by rw [bsL_rd hb hc0]]
      refine yP (PureOp.sameStr rfl rfl) ?_
      refine AWo.pure (PureOp.pickF rfl rfl) rfl rfl ?_
      refine AWo.pure (PureOp.pickT rfl rfl) rfl rfl ?_
      refine AWo.pure (PureOp.assign rfl) rfl rfl ?_
      refine AWo.nil (by kernel_rfl) ?_
      refine AW.ret ?_
      refine RetQ.gc [_] [] [.tmp 2] (.inl rfl) rfl (.tmp rfl .nil) rfl (.cons rfl rfl .nil) (OutL.flat rfl (by first | exact flatM flat_vi | exact flatM flat_bool | (simp [flatV, flat_vi]; done)) (by intro h; first | rfl | exact h.elim id fun h => absurd h.1 (by simp)) trivial) (by decide) rfl
end Go.Proofs.Yteeifahhejangaa
namespace Go.Proofs.Yteeifahhejangaa
open Go
namespace Head
set_option maxRecDepth 100000 in
theorem words : ∃ l, Try.prog.initOrder = String.ofList l ∧ (behindMainWord (wordsSigns l)).head? = some "cut".toList := ⟨_, rfl, by kernel_rfl⟩
theorem head_of {P : Program} (h : ∃ l, P.initOrder = String.ofList l ∧ (behindMainWord (wordsSigns l)).head? = some "cut".toList) :
    ∃ rest, behindMainWord (wordsSigns P.initOrder.toList) = "cut".toList :: rest := by
  obtain ⟨l, h, hh⟩ := h
  rw [h, String.toList_ofList]
  cases hb : behindMainWord (wordsSigns l) with
  | nil => rw [hb] at hh; cases hh
  | cons c r => rw [hb] at hh; simp only [List.head?_cons, Option.some.injEq] at hh; exact ⟨r, by rw [hh]⟩
theorem cut_words : (liftWords.all fun s => !("cut".toList == s.toList)) = true := by decide +kernel
theorem strip_cut (rest : List (List Char)) : stripLifts liftWords ("cut".toList :: rest) = ([], "cut".toList :: rest) := by
  have key : ∀ o : List String, (o.all fun s => !("cut".toList == s.toList)) = true → stripLifts o ("cut".toList :: rest) = ([], "cut".toList :: rest) := by
    intro o
    induction o with
    | nil => intro _; rfl
    | cons s o ih =>
      intro h
      simp only [List.all_cons, Bool.and_eq_true, Bool.not_eq_true'] at h
      rw [stripLifts, if_neg (by rw [h.1]; exact Bool.false_ne_true)]
      exact ih h.2
  exact key liftWords cut_words
theorem mayEnter_of {P : Program} {rest : List (List Char)} (hr : behindMainWord (wordsSigns P.initOrder.toList) = "cut".toList :: rest) (e1 : P.laysLater = false) (e2 : P.bearsReflect = false) (e3 : P.doorFits [] = true) : P.mayEnter = true := by
  unfold Program.mayEnter
  rw [hr]
  simp only [strip_cut, e1, e2, e3]
  simp
theorem headLifts_of {P : Program} {rest : List (List Char)} (hr : behindMainWord (wordsSigns P.initOrder.toList) = "cut".toList :: rest) : P.headLifts = [] := by
  unfold Program.headLifts
  rw [hr, strip_cut]
  simp
theorem cut_ne : ("cut".toList == "carried".toList) = false ∧ ("cut".toList == "gc".toList) = false ∧ ("cut".toList == "spec".toList) = false := by decide +kernel
theorem liftsFinal_of {P : Program} {rest : List (List Char)} (hr : behindMainWord (wordsSigns P.initOrder.toList) = "cut".toList :: rest) : P.liftsFinal = false := by
  unfold Program.liftsFinal
  rw [hr, headLifts_of hr]
  simp
theorem make_of {P : Program} {rest : List (List Char)} (hr : behindMainWord (wordsSigns P.initOrder.toList) = "cut".toList :: rest) : P.make = some .cut := by
  unfold Program.make
  rw [hr]
  simp only [cut_ne.2.1, cut_ne.2.2, beq_self_eq_true]
  simp
theorem laysLater : Try.prog.laysLater = false := by kernel_rfl
theorem bearsReflect : Try.prog.bearsReflect = false := by kernel_rfl
theorem doorFits : Try.prog.doorFits [] = true := by kernel_rfl
theorem mayEnter : Try.prog.mayEnter = true := let ⟨_, hr⟩ := head_of words; mayEnter_of hr laysLater bearsReflect doorFits
theorem liftsFinal : Try.prog.liftsFinal = false := let ⟨_, hr⟩ := head_of words; liftsFinal_of hr
theorem make_cut : Try.prog.make = some .cut := let ⟨_, hr⟩ := head_of words; make_of hr
theorem band {a b : Bool} (ha : a = true) (hb : b = true) : (a && b) = true := by rw [ha, hb]; rfl
end Head
end Go.Proofs.Yteeifahhejangaa
