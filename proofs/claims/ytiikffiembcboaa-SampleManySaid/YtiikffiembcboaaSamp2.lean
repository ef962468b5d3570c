/- SampleMasks: what it reckons. -/
import Derived.Test.YtiikffiembcboaaSamp1
namespace Go.Proofs.Ytiikffiembcboaa
open Go Sim

theorem setL_eq : ∀ (vs cells : List Value) (o : Nat), o + vs.length ≤ cells.length → setL cells o vs = cells.take o ++ vs ++ cells.drop (o + vs.length) := by
  intro vs
  induction vs with
  | nil => intro cells o _; simp [setL]
  | cons v vs ih =>
    intro cells o h
    simp only [List.length_cons] at h
    simp only [setL]
    rw [ih (cells.set o v) (o + 1) (by simp; omega), List.drop_set_of_lt (by omega)]
    have h1 : (cells.set o v).take (o + 1) = cells.take o ++ [v] := by
      rw [List.take_add_one, List.take_set_of_le (by omega), List.getElem?_set_self (by omega)]
      rfl
    rw [h1]
    simp [Nat.add_assoc, Nat.add_comm 1]

theorem fillB1 {b : List Nat} {c : Value} {k : IntKind} {n : Nat} (h : b.length = n) : fillL (fun i => some (i * n, n)) (List.replicate (1 * n) c) [(0, .agg (b.map (vi k)).toArray)] = some ([b].flatten.map (vi k)) := by
  simp only [fillL]
  rw [if_neg (by simp [Value.cells, h])]
  simp only [Value.cells]
  rw [setL_eq _ _ _ (by simp [h])]
  simp [h]

theorem bytesEq {E : Env} {x y : Operand} {a b : List Nat} {s' : TypeId} (h1 : aev E x = some (.agg (a.map (vi .u8)).toArray)) (h2 : aev E y = some (.agg (b.map (vi .u8)).toArray)) (ha : a.length = 32) (hb : b.length = 32) :
    PureOp Try.prog (.binOp .eql 40 x y s') E (.bool (decide (a = b))) :=
  PureOp.eqArr h1 h2 Try.eqGuardType40 Try.underlying40 Try.underlying5 sz5 (by kernel_rfl) ha hb

theorem maskL_low {b : List Nat} {i : Nat} (h : i < 31) : (maskL b).getD i 0 = b.getD i 0 := getD_set (by omega)

theorem mask_dlen {b : List Nat} (hb : bd 256 b) (hl : b.length = 32) : (D 4294967296 (num 256 (maskL b))).length < 1000000000 := by
  have h := num_lt (maskL_bd hb)
  rw [maskL_len, hl] at h
  have := (D_len_le (B := 4294967296) (by decide) (num 256 (maskL b)) 8).2 (Nat.lt_of_lt_of_le h (by decide))
  omega

theorem sval_one (b : List Nat) (c : Nat) : sval [b] c = num 256 (maskL b) := by
  simp only [sval, blk, List.length_singleton, Nat.mod_one]
  rfl

theorem sE_len (L : List (List Nat)) (c : Nat) : (sE L c).length = 4 := by
  simp only [sE]
  split
  · exact fbE_len _
  · rfl

theorem cmpI_ge {a b : Nat} (h : 0 ≤ cmpI a b) : b ≤ a := by
  simp only [cmpI] at h
  split at h
  · omega
  · omega

theorem cmpI_lt {a b : Nat} (h : cmpI a b < 0) : a < b := by
  simp only [cmpI] at h
  split at h
  · assumption
  · split at h <;> omega

set_option maxRecDepth 10000 in
theorem rounds_ctr {L : List (List Nat)} {c : Nat} : GC Try.prog 38 [.slice (some ⟨0, 0, none⟩) L.length 0, .pointer (some ⟨1, 0, none⟩)] [⟨L.flatten.map (vi .u8), false, 32⟩, ⟨[vi .i64 c], false, 1⟩] [.func (.func 116) #[] #[.pointer (some ⟨2, 0, none⟩), .pointer (some ⟨3, 0, none⟩)]]
    [⟨L.flatten.map (vi .u8), false, 32⟩, ⟨[vi .i64 c], false, 1⟩, ⟨[.pointer (some ⟨1, 0, none⟩)], true, 1⟩, ⟨[.slice (some ⟨0, 0, none⟩) L.length 0], true, 1⟩] := by
  refine GC.intro Try.func38 rfl (by show 2 ≤ 6; decide) (by first | exact Nat.le_refl _ | decide | simp) ?_
  refine AW.seqR ?_
  refine AWo.box 3000 1 _ rfl rfl rfl rfl rfl ?_
  refine AWo.box 4000 1 _ rfl rfl rfl rfl rfl ?_
  refine AWo.pure (PureOp.assign rfl) rfl rfl ?_
  refine AWo.nil trivial ?_
  refine AW.seqR ?_
  refine AWo.pure (PureOp.fn (.cons rfl (.cons rfl .nil))) rfl rfl ?_
  refine AWo.pure (PureOp.assign rfl) rfl rfl ?_
  refine AWo.nil trivial ?_
  refine AW.ret ?_
  refine RetQ.gc [_] [4000, 3000] [.tmp 4] (.inl rfl) rfl (.tmp rfl .nil) rfl (.cons rfl rfl .nil) (OutL.flat rfl (flatM flat_vi) (by intro h; exact h.elim id fun h => absurd h.1 (by simp)) (OutL.flat rfl (flat1 rfl) (by intro h; exact h.elim id fun h => absurd h.1 (by simp)) (OutL.whole rfl rfl (OkL.all rfl) (fun _ => rfl) (OutL.whole rfl rfl (OkL.all rfl) (fun _ => rfl) trivial)))) (by decide) rfl

set_option maxRecDepth 10000 in
theorem masks_ctr {b : List Nat} (hb : bd 256 b) (hlb : b.length = 32) : GC Try.prog 7 [.agg (b.map (vi .u8)).toArray] [] [.bool true] [] := by
  refine GC.intro Try.func7 rfl (by show 1 ≤ 76; decide) (by first | exact Nat.le_refl _ | decide | simp) ?_
  have hlm : (maskL b).length = 32 := by simp [maskL, hlb]
  have hL : okL [b] := fun x hx => by simp at hx; subst hx; exact ⟨hlb, hb⟩
  have hm31 : (maskL b).getD 31 0 = b.getD 31 0 % 64 := getD_set_self (by omega)
  have hfE := fbE_len
  have hsl : (sE [b] 0).length = 4 := sE_len _ _
  refine AW.seqR ?_
  refine AWo.box 2000 1 (b.map (vi .u8)) rfl rfl rfl rfl rfl ?_
  refine AWo.pure (PureOp.assign rfl) rfl rfl ?_
  refine AWo.nil trivial ?_
  refine AW.seq ?_
  refine AW.seqR ?_
  refine AWo.callX (sspeaks_ctr) bd33 [] [] rfl .nil rfl .nil .nil rfl .nil frN (by decide) (.cons rfl rfl .nil) rfl rfl rfl rfl ?_
  first | refine AWo.pure ((PureOp.not rfl).mono (v' := .bool false) rfl) rfl rfl ?_
  refine AWo.nil trivial ?_
  refine AW.condF rfl ?_
  refine AW.skip ?_
  refine thenA_normal ?_
  refine AW.seqR ?_
  first | refine AWo.loadAll tbok rfl rfl rfl rfl (by first | (simp [*]; done) | rfl) rfl rfl ?_ | refine AWo.loadAgg tbok rfl rfl rfl rfl (by first | decide | omega) rfl rfl rfl ?_
  refine AWo.callX (mask_ctr hb hlb) bd42 [] [] rfl (.cons rfl .nil) rfl (.pure (by first | rfl | exact pure_aggM flat_vi | exact pure_aggM flat_bool) .nil) .nil rfl .nil frN (by decide) (.pure (by first | rfl | exact pure_aggM flat_vi | exact pure_aggM flat_bool) .nil) rfl rfl rfl rfl ?_
  refine AWo.alloc tbok 4000 1 ((List.replicate 32 0).map (vi .u8)) rfl rfl rfl rfl rfl rfl ?_
  refine AWo.storeAllN tbok rfl rfl rfl rfl (by first | (simp [*]; done) | rfl) (by first | (simp [*]; done) | rfl) (by first | exact oneM (fun _ => rfl) _ | rfl | (simp; done)) rfl ?_
  refine AWo.nil trivial ?_
  refine AW.seq ?_
  refine AW.seqR ?_
  refine AWo.pure (PureOp.move rfl) rfl rfl ?_
  refine AWo.nil trivial ?_
  refine AW.block ?_
  refine AW.loopw (fun mm σ => ∃ i, (i ≤ 31) ∧ mm = 31 - i ∧ σ = ⟨(upd (upd (upd emp 1 (.pointer (some ⟨2000, 0, none⟩))) 3 (.pointer (some ⟨4000, 0, none⟩))) 14 (vi .i64 i)), (upd (upd emp 2000 ⟨b.map (vi .u8), true, 1⟩) 4000 ⟨(maskL b).map (vi .u8), true, 1⟩)⟩) (fm := []) ?_ ⟨0, by decide, rfl, rfl⟩ ?_
  ·
    refine Wk.of [2000, 4000] ?_ ?_ ?_ (by decide) rfl
    ·
      refine WkE.upd rfl (by first | exact VR.flat _ rfl | exact VR.eqv (vp_succ _) rfl | exact VR.eqv (vp_succ _).symm rfl | exact VR.eqv (by first | rfl | (congr 1; omega) | (simp; done) | (simp; omega)) rfl) ?_
      refine WkE.upd rfl (.ptr (4000) 0 ⟨_, rfl⟩) ?_
      refine WkE.upd rfl (.ptr (2000) 0 ⟨_, rfl⟩) ?_
      exact WkE.emp
    ·
      refine WkM.flatM rfl (by first | rfl | assumption | simp) (fun _ => rfl) (fun h => h) ?_
      refine WkM.flatM rfl (by first | rfl | assumption | simp) (fun _ => rfl) (fun h => h) ?_
      exact WkM.emp
    ·
      repeat (refine dom_upd_mem (by decide) ?_)
      exact dom_emp
  ·
    rintro mm σ ⟨i, hinv, rfl, rfl⟩
    refine AW.seqR ?_
    first | refine AWo.pure (PureOp.ltN (b := 31) rfl rfl) rfl rfl ?_ | refine AWo.pure (PureOp.bin rfl rfl rfl) rfl rfl ?_
    refine AWo.nil trivial ?_
    refine AW.seq ?_
    refine AW.cond rfl (fun hb0 => ?_) (fun hb0 => ?_)
    ·
      have hi : i < 31 := by simpa using hb0
      refine AW.skip ?_
      refine thenA_normal ?_
      refine AW.seq ?_
      refine AW.block ?_
      refine AW.seqR ?_
      refine AWo.pure (PureOp.move rfl) rfl rfl ?_
      refine AWo.pure (PureOp.assign rfl) rfl rfl ?_
      refine AWo.nil trivial ?_
      refine AW.seqD mixed ?_
      refine AWo.pure (PureOp.move rfl) rfl rfl ?_
      first | refine AWo.pure (PureOp.arr1 tbok rfl rfl rfl rfl (by first | decide | omega)) rfl rfl ?_ | refine AWo.pure (PureOp.arr tbok rfl rfl rfl rfl (by first | decide | omega)) rfl rfl ?_
      refine AWo.loadM tbok 0 rfl rfl rfl (by omega) rfl rfl ?_
      refine AWo.pure (PureOp.move rfl) rfl rfl ?_
      first | refine AWo.pure (PureOp.arr1 tbok rfl rfl rfl rfl (by first | decide | omega)) rfl rfl ?_ | refine AWo.pure (PureOp.arr tbok rfl rfl rfl rfl (by first | decide | omega)) rfl rfl ?_
      refine AWo.loadM tbok 0 rfl rfl rfl (by omega) rfl rfl ?_
      first | refine AWo.pure ((PureOp.neN rfl rfl).mono (v' := .bool false) (by rw [maskL_low hi]; simp)) rfl rfl ?_ | refine AWo.pure ((PureOp.bin rfl rfl rfl).mono (v' := .bool false) (by rw [maskL_low hi]; simp)) rfl rfl ?_
      refine AWo.nil (by kernel_rfl) ?_
      refine AW.condF rfl ?_
      refine AW.skip ?_
      refine inBlockA_normal ?_
      refine thenA_normal ?_
      refine AW.region ?_
      first | refine AWo.pure (PureOp.addI (b := 1) rfl rfl (by first | decide | omega)) rfl rfl ?_ | refine AWo.pure (PureOp.bin rfl rfl rfl) rfl rfl ?_
      refine AWo.pure (PureOp.move rfl) rfl rfl ?_
      refine AWo.nil trivial ?_
      refine thenA_normal ?_
      refine ⟨31 - (i + 1), [], _, by omega, ?_, i + 1, by omega, rfl, rfl⟩
      refine Wk.of [2000, 4000] ?_ ?_ ?_ (by decide) rfl
      ·
        refine WkE.upd rfl (by first | exact VR.flat _ rfl | exact VR.eqv (vp_succ _) rfl | exact VR.eqv (vp_succ _).symm rfl | exact VR.eqv (by first | rfl | (congr 1; omega) | (simp; done) | (simp; omega)) rfl) ?_
        refine WkE.upd rfl (.ptr (4000) 0 ⟨_, rfl⟩) ?_
        refine WkE.upd rfl (.ptr (2000) 0 ⟨_, rfl⟩) ?_
        exact WkE.emp
      ·
        refine WkM.flatM rfl (by first | rfl | assumption | simp) (fun _ => rfl) (fun h => h) ?_
        refine WkM.flatM rfl (by first | rfl | assumption | simp) (fun _ => rfl) (fun h => h) ?_
        exact WkM.emp
      ·
        repeat (refine dom_upd_mem (by decide) ?_)
        exact dom_emp
    ·
      refine AW.exit ?_
      refine thenA_exit ?_
      refine thenA_exit ?_
      refine inBlockA_hit ?_
      refine thenA_normal ?_
      refine AW.seq ?_
      refine AW.seqR ?_
      first | refine AWo.pure (PureOp.arr1 (j := 31) tbok rfl rfl rfl rfl (by first | decide | omega)) rfl rfl ?_ | refine AWo.pure (PureOp.arr (j := 31) tbok rfl rfl rfl rfl (by first | decide | omega)) rfl rfl ?_
      refine AWo.loadM tbok 0 rfl rfl rfl (by omega) rfl rfl ?_
      first | refine AWo.pure ((PureOp.geN (b := 64) rfl rfl).mono (v' := .bool false) (by rw [hm31]; congr 1; simp; omega)) rfl rfl ?_ | refine AWo.pure ((PureOp.bin rfl rfl rfl).mono (v' := .bool false) (by rw [hm31]; congr 1; simp; omega)) rfl rfl ?_
      refine AWo.pure (PureOp.move rfl) rfl rfl ?_
      first | refine AWo.pure (PureOp.arr1 (j := 31) tbok rfl rfl rfl rfl (by first | decide | omega)) rfl rfl ?_ | refine AWo.pure (PureOp.arr (j := 31) tbok rfl rfl rfl rfl (by first | decide | omega)) rfl rfl ?_
      refine AWo.loadM tbok 0 rfl rfl rfl (by omega) rfl rfl ?_
      first | refine AWo.pure (PureOp.arr1 (j := 31) tbok rfl rfl rfl rfl (by first | decide | omega)) rfl rfl ?_ | refine AWo.pure (PureOp.arr (j := 31) tbok rfl rfl rfl rfl (by first | decide | omega)) rfl rfl ?_
      refine AWo.loadM tbok 0 rfl rfl rfl (by omega) rfl rfl ?_
      first | refine AWo.pure (PureOp.remN (b := 64) rfl rfl (by first | decide | omega)) rfl rfl ?_ | refine AWo.pure (PureOp.rem rfl rfl (by first | decide | omega)) rfl rfl ?_
      first | refine AWo.pure ((PureOp.neN rfl rfl).mono (v' := .bool false) (by rw [hm31]; simp)) rfl rfl ?_ | refine AWo.pure ((PureOp.bin rfl rfl rfl).mono (v' := .bool false) (by rw [hm31]; simp)) rfl rfl ?_
      refine AWo.pure (PureOp.pickF rfl rfl) rfl rfl ?_
      refine AWo.nil trivial ?_
      refine AW.condF rfl ?_
      refine AW.skip ?_
      refine thenA_normal ?_
      refine AW.seqR ?_
      refine AWo.alloc tbok 6000 1 _ rfl rfl rfl rfl rfl rfl ?_
      refine AWo.store1 tbok rfl rfl rfl rfl rfl Nat.zero_lt_one rfl rfl ?_
      refine AWo.nil trivial ?_
      refine AW.seqR ?_
      first | refine AWo.loadAll tbok rfl rfl rfl rfl (by first | (simp [*]; done) | rfl) rfl rfl ?_ | refine AWo.loadAgg tbok rfl rfl rfl rfl (by first | decide | omega) rfl rfl rfl ?_
      refine AWo.buildSlice tbok 39000 [(0, .agg (b.map (vi .u8)).toArray)] (out := [b].flatten.map (vi .u8)) rfl rfl (by decide) rfl rfl rfl (by decide) rfl (fillB1 hlb) rfl rfl rfl ?_
      refine AWo.callX (rounds_ctr (L := [b]) (c := 0)) bd38 [(39000, 0), (6000, 0)] [40000, 40001] rfl (.cons rfl (.cons rfl .nil)) rfl (.cons rfl rfl (.cons rfl rfl .nil)) (.flat rfl (flatM flat_vi) (by intro h; first | exact h | rfl) (.flat rfl (flat1 rfl) (by intro h; first | exact h | rfl) .nil)) rfl (.keep rfl (.keep rfl (.new rfl (OkL.all rfl) (.new rfl (OkL.all rfl) .nil)))) (frC rfl (frC rfl frN)) (by decide) (.cons rfl rfl .nil) rfl rfl rfl rfl ?_
      refine AWo.callX (field_ctr (L := [b]) (c := 0) hL (by simp) (by decide)) bd37 [(40000, 0), (40001, 0), (6000, 0), (39000, 0)] [] rfl (.cons rfl .nil) rfl (.cons rfl rfl .nil) (.whole rfl rfl (OkL.all rfl) (by intro h; first | exact h | rfl) (.whole rfl rfl (OkL.all rfl) (by intro h; first | exact h | rfl) (.flat rfl (flat1 rfl) (fun h => h) (.flat rfl (flatM flat_vi) (by intro h; first | exact h | rfl) .nil)))) rfl (.keep rfl (.keep rfl (.chg rfl rfl (flat_map_ren (flat1 rfl)) (OkL.flat (flat1 rfl)) (.keep rfl .nil)))) frN (by decide) (.pure (pure_aggM flat_vi) (.cons rfl rfl (.cons rfl rfl .nil))) rfl rfl rfl rfl ?_
      refine AWo.pure (PureOp.move rfl) rfl rfl ?_
      refine AWo.pure (PureOp.extract rfl rfl) rfl rfl ?_
      refine AWo.pure (PureOp.extract rfl rfl) rfl rfl ?_
      refine AWo.pure (PureOp.extract rfl rfl) rfl rfl ?_
      refine AWo.alloc tbok 7000 1 _ rfl rfl rfl rfl rfl rfl ?_
      refine AWo.storeAllN tbok rfl rfl rfl rfl (by first | (simp [*]; done) | rfl) (by first | (simp [*]; done) | rfl) (by first | exact oneM (fun _ => rfl) _ | rfl | (simp; done)) rfl ?_
      refine AWo.pure (PureOp.assign rfl) rfl rfl ?_
      refine AWo.pure (PureOp.assign rfl) rfl rfl ?_
      refine AWo.nil trivial ?_
      refine AW.seq ?_
      refine AW.seqR ?_
      refine AWo.sliceA tbok (h := 32) rfl .none .none rfl rfl rfl rfl (by decide) (by decide) (.inl rfl) (by simp [hlb]) rfl rfl rfl ?_
      refine AWo.callX (number16_ctr hb hlb) bd35 [(2000, 0)] [46000] rfl (.cons rfl .nil) rfl (.cons rfl rfl .nil) (.flat rfl (by first | exact flatM flat_vi | exact flatM flat_bool | (simp [flatV, flat_vi]; done)) (by intro h; first | exact h | rfl) .nil) rfl (.keep rfl (.new (flat_map_ren (by first | exact flatM flat_vi | exact flatM flat_bool | (simp [flatV, flat_vi]; done))) (OkL.flat (by first | exact flatM flat_vi | exact flatM flat_bool | (simp [flatV, flat_vi]; done))) .nil)) (frC rfl frN) (by decide) (.cons rfl rfl .nil) rfl rfl rfl rfl ?_
      refine AWo.callX (p02_ctr) bd36 [] [47000] rfl .nil rfl .nil .nil rfl (.new (flat_map_ren (by first | exact flatM flat_vi | exact flatM flat_bool | (simp [flatV, flat_vi]; done))) (OkL.flat (by first | exact flatM flat_vi | exact flatM flat_bool | (simp [flatV, flat_vi]; done))) .nil) (frC rfl frN) (by decide) (.cons rfl rfl .nil) rfl rfl rfl rfl ?_
      refine AWo.callX (rcmp_ctr (b := pdig) (bd_D (by decide) _) pdig_bd (mask_dlen hb hlb) (by decide)) bd34 [(46000, 0), (47000, 0)] [] rfl (.cons rfl (.cons rfl .nil)) rfl (.cons rfl rfl (.cons rfl rfl .nil)) (.flat rfl (by first | exact flatM flat_vi | exact flatM flat_bool | (simp [flatV, flat_vi]; done)) (by intro h; first | exact h | rfl) (.flat rfl (by first | exact flatM flat_vi | exact flatM flat_bool | (simp [flatV, flat_vi]; done)) (by intro h; first | exact h | rfl) .nil)) rfl (.keep rfl (.keep rfl .nil)) frN (by decide) (.cons rfl rfl .nil) rfl rfl rfl rfl ?_
      first | refine AWo.pure (PureOp.geP rfl rfl) rfl rfl ?_ | refine AWo.pure (PureOp.geN (b := 0) rfl rfl) rfl rfl ?_ | refine AWo.pure (PureOp.bin rfl rfl rfl) rfl rfl ?_
      refine AWo.nil trivial ?_
      refine AW.cond rfl (fun hb1 => ?_) (fun hb1 => ?_)
      ·
        have hge := cmpI_ge (by simpa [num_D, pdig_num] using hb1)
        obtain ⟨e1, e2, e3⟩ := s_miss (L := [b]) (c := 0) (fun j _ => by rw [sval_one]; exact hge)
        rw [e1, e2, e3]
        refine AW.seqR ?_
        refine AWo.pure (PureOp.move rfl) rfl rfl ?_
        first | refine AWo.pure ((PureOp.eqN (b := 11) rfl rfl).mono (v' := .bool true) (by first | rfl | (simp; done) | (simp; omega))) rfl rfl ?_ | refine AWo.pure ((PureOp.bin rfl rfl rfl).mono (v' := .bool true) (by first | rfl | (simp; done) | (simp; omega))) rfl rfl ?_
        refine AWo.pure (PureOp.move rfl) rfl rfl ?_
        refine AWo.pure (PureOp.move rfl) rfl rfl ?_
        first | refine AWo.pure ((PureOp.eqN (b := 64) rfl rfl).mono (v' := .bool true) (by first | rfl | (simp; done) | (simp; omega))) rfl rfl ?_ | refine AWo.pure ((PureOp.bin rfl rfl rfl).mono (v' := .bool true) (by first | rfl | (simp; done) | (simp; omega))) rfl rfl ?_
        refine AWo.pure (PureOp.pickT rfl rfl) rfl rfl ?_
        refine AWo.pure (PureOp.move rfl) rfl rfl ?_
        first | refine AWo.loadM tbok 0 rfl rfl rfl (by first | decide | omega) rfl rfl ?_ | refine AWo.load tbok rfl rfl rfl rfl rfl rfl ?_
        first | refine AWo.pure ((PureOp.eqN (b := 64) rfl rfl).mono (v' := .bool true) (by first | rfl | (simp; done) | (simp; omega))) rfl rfl ?_ | refine AWo.pure ((PureOp.bin rfl rfl rfl).mono (v' := .bool true) (by first | rfl | (simp; done) | (simp; omega))) rfl rfl ?_
        refine AWo.pure (PureOp.pickT rfl rfl) rfl rfl ?_
        refine AWo.pure (PureOp.assign rfl) rfl rfl ?_
        refine AWo.nil trivial ?_
        refine AW.ret ?_
        refine thenA_ret ?_
        refine RetQ.gc [_] [] [.tmp 2] (.inl rfl) rfl (.tmp rfl .nil) rfl (.cons rfl (by first | rfl | (simp [ren, ren1]; done)) .nil) trivial (by decide) rfl
      ·
        have hlt := cmpI_lt (by simpa [num_D, pdig_num] using hb1)
        obtain ⟨e1, e2, e3⟩ := s_hit (L := [b]) (c := 0) (i := 0) (by decide) (fun j hj => absurd hj (Nat.not_lt_zero j)) (by rw [sval_one]; exact hlt)
        rw [sval_one, fbE, if_pos hlt] at e1
        have hfl := fel_len (num 256 (maskL b))
        rw [e1, e2, e3]
        have hd32 : digs 256 32 (num 256 (maskL b)) = maskL b := by rw [← hlm, digs_num (maskL_bd hb)]
        refine AW.skip ?_
        refine thenA_normal ?_
        refine AW.seqR ?_
        first | refine AWo.loadAll tbok rfl rfl rfl rfl (by first | (simp [*]; done) | rfl) rfl rfl ?_ | refine AWo.loadAgg tbok rfl rfl rfl rfl (by first | decide | omega) rfl rfl rfl ?_
        refine AWo.callX (ebytes_ctr hlt) bd43 [] [] rfl (.cons rfl .nil) rfl (.pure (by first | rfl | exact pure_aggM flat_vi | exact pure_aggM flat_bool) .nil) .nil rfl .nil frN (by decide) (.pure (by first | rfl | exact pure_aggM flat_vi | exact pure_aggM flat_bool) .nil) rfl rfl rfl rfl ?_
        refine AWo.alloc tbok 10000 1 ((List.replicate 32 0).map (vi .u8)) rfl rfl rfl rfl rfl rfl ?_
        refine AWo.storeAllN tbok rfl rfl rfl rfl (by first | (simp [*]; done) | rfl) (by first | (simp [*]; done) | rfl) (by first | exact oneM (fun _ => rfl) _ | rfl | (simp; done)) rfl ?_
        refine AWo.nil trivial ?_
        refine AW.seqR ?_
        refine AWo.pure (PureOp.move rfl) rfl rfl ?_
        first | refine AWo.pure ((PureOp.eqN (b := 0) rfl rfl).mono (v' := .bool true) (by first | rfl | (simp; done) | (simp; omega))) rfl rfl ?_ | refine AWo.pure ((PureOp.bin rfl rfl rfl).mono (v' := .bool true) (by first | rfl | (simp; done) | (simp; omega))) rfl rfl ?_
        refine AWo.pure (PureOp.move rfl) rfl rfl ?_
        refine AWo.pure (PureOp.move rfl) rfl rfl ?_
        first | refine AWo.pure ((PureOp.eqN (b := 1) rfl rfl).mono (v' := .bool true) (by first | rfl | (simp; done) | (simp; omega))) rfl rfl ?_ | refine AWo.pure ((PureOp.bin rfl rfl rfl).mono (v' := .bool true) (by first | rfl | (simp; done) | (simp; omega))) rfl rfl ?_
        refine AWo.pure (PureOp.pickT rfl rfl) rfl rfl ?_
        refine AWo.pure (PureOp.move rfl) rfl rfl ?_
        first | refine AWo.loadM tbok 0 rfl rfl rfl (by first | decide | omega) rfl rfl ?_ | refine AWo.load tbok rfl rfl rfl rfl rfl rfl ?_
        first | refine AWo.pure ((PureOp.eqN (b := 1) rfl rfl).mono (v' := .bool true) (by first | rfl | (simp; done) | (simp; omega))) rfl rfl ?_ | refine AWo.pure ((PureOp.bin rfl rfl rfl).mono (v' := .bool true) (by first | rfl | (simp; done) | (simp; omega))) rfl rfl ?_
        refine AWo.pure (PureOp.pickT rfl rfl) rfl rfl ?_
        refine AWo.pure (PureOp.move rfl) rfl rfl ?_
        first | refine AWo.loadAll tbok rfl rfl rfl rfl (by first | (simp [*]; done) | rfl) rfl rfl ?_ | refine AWo.loadAgg tbok rfl rfl rfl rfl (by first | decide | omega) rfl rfl rfl ?_
        first | refine AWo.loadAll tbok rfl rfl rfl rfl (by first | (simp [*]; done) | rfl) rfl rfl ?_ | refine AWo.loadAgg tbok rfl rfl rfl rfl (by first | decide | omega) rfl rfl rfl ?_
        refine AWo.pure ((bytesEq rfl rfl (digs_len _ _) hlm).mono (v' := .bool true) (congrArg Value.bool (decide_eq_true hd32))) rfl rfl ?_
        refine AWo.pure (PureOp.pickT rfl rfl) rfl rfl ?_
        refine AWo.pure (PureOp.assign rfl) rfl rfl ?_
        refine AWo.nil trivial ?_
        refine AW.ret ?_
        refine RetQ.gc [_] [] [.tmp 2] (.inl rfl) rfl (.tmp rfl .nil) rfl (.cons rfl (by first | rfl | (simp [ren, ren1]; done)) .nil) trivial (by decide) rfl
end Go.Proofs.Ytiikffiembcboaa
