/- SampleFirst: what it reckons. -/
import Derived.Test.YtiikffiembcboaaSamp2
namespace Go.Proofs.Ytiikffiembcboaa
open Go Sim

theorem fillB2 {a b : List Nat} {c : Value} {k : IntKind} {n : Nat} (ha : a.length = n) (hb : b.length = n) : fillL (fun i => some (i * n, n)) (List.replicate (2 * n) c) [(0, .agg (a.map (vi k)).toArray), (1, .agg (b.map (vi k)).toArray)] = some ([a, b].flatten.map (vi k)) := by
  simp only [fillL]
  rw [if_neg (by simp [Value.cells, ha]; omega), if_neg (by simp [Value.cells, hb, setL_length]; omega)]
  simp only [Value.cells]
  rw [setL_eq (a.map (vi k)) _ _ (by simp [ha]; omega), setL_eq (b.map (vi k)) _ _ (by simp [ha, hb]; omega)]
  simp [ha, hb]
  omega

theorem fill_next {i : Nat} (hi : i < 32) : List.replicate (i + 1) 255 ++ List.replicate (32 - (i + 1)) 0 = (List.replicate i 255 ++ List.replicate (32 - i) 0).set i 255 := by
  rw [List.set_append_right _ _ (by simp)]
  obtain ⟨q, hq⟩ : ∃ q, 32 - i = q + 1 := ⟨32 - i - 1, by omega⟩
  have e : (List.replicate (32 - i) 0).set (i - (List.replicate i 255).length) 255 = 255 :: List.replicate (32 - (i + 1)) 0 := by
    rw [hq, List.replicate_succ, List.length_replicate, Nat.sub_self, List.set_cons_zero, show 32 - (i + 1) = q by omega]
  rw [e, List.replicate_succ']
  simp

theorem rep_snoc (i : Nat) : (List.replicate i (List.replicate 32 255)).flatten.map (vi .u8) ++ [List.replicate 32 255].flatten.map (vi .u8) = (List.replicate (i + 1) (List.replicate 32 255)).flatten.map (vi .u8) := by
  rw [← List.map_append, ← List.flatten_append, ← List.replicate_succ']

theorem ll_ok {b h : List Nat} (hb : bd 256 b) (hlb : b.length = 32) (hh : bd 256 h) (hlh : h.length = 32) (n : Nat) : okL (List.replicate n (List.replicate 32 255) ++ [b, h]) := by
  intro x hx
  rcases List.mem_append.1 hx with hx | hx
  · rw [List.eq_of_mem_replicate hx]
    exact ⟨by simp, fun y hy => by rw [List.eq_of_mem_replicate hy]; decide⟩
  · simp only [List.mem_cons, List.not_mem_nil, or_false] at hx
    rcases hx with rfl | rfl
    · exact ⟨hlb, hb⟩
    · exact ⟨hlh, hh⟩

theorem great_val : 21888242871839275222246405745257275088548364400416034343698204186575808495617 ≤ num 256 (maskL (List.replicate 32 255)) := by
  have h : num 256 (maskL (List.replicate 32 255)) = 28948022309329048855892746252171976963317496166410141009864396001978282409983 := by kernel_rfl
  rw [h]; decide

theorem first_bad {b h : List Nat} {n j : Nat} (hj : j < n) : 21888242871839275222246405745257275088548364400416034343698204186575808495617 ≤ sval (List.replicate n (List.replicate 32 255) ++ [b, h]) (0 + j) := by
  have e : blk (List.replicate n (List.replicate 32 255) ++ [b, h]) (0 + j) = List.replicate 32 255 := by
    rw [blk, Nat.zero_add, Nat.mod_eq_of_lt (by simp; omega), List.getD_eq_getElem?_getD, List.getElem?_append_left (by simpa using hj), List.getElem?_replicate, if_pos hj]
    rfl
  rw [sval, e]
  exact great_val

theorem first_hit {b h : List Nat} {n : Nat} : sval (List.replicate n (List.replicate 32 255) ++ [b, h]) (0 + n) = num 256 (maskL b) := by
  have e : blk (List.replicate n (List.replicate 32 255) ++ [b, h]) (0 + n) = b := by
    rw [blk, Nat.zero_add, Nat.mod_eq_of_lt (by simp), List.getD_eq_getElem?_getD, List.getElem?_append_right (by simp)]
    simp
  rw [sval, e]

set_option maxRecDepth 10000 in
theorem first_ctr {b h : List Nat} {m : Nat} (hb : bd 256 b) (hlb : b.length = 32) (hh : bd 256 h) (hlh : h.length = 32) (hm : m < 256) :
    GC Try.prog 5 [.agg (b.map (vi .u8)).toArray, vi .u8 m, .agg (h.map (vi .u8)).toArray] [] [.bool true] [] := by
  refine GC.intro Try.func5 rfl (by show 3 ≤ 98; decide) (by first | exact Nat.le_refl _ | decide | simp) ?_
  have hL1 : okL [b] := fun x hx => by simp at hx; subst hx; exact ⟨hlb, hb⟩
  have hfE := fbE_len
  have hSE := sE_len
  refine AW.seqR ?_
  refine AWo.box 4000 1 (b.map (vi .u8)) rfl rfl rfl rfl rfl ?_
  refine AWo.box 6000 1 (h.map (vi .u8)) rfl rfl rfl rfl rfl ?_
  refine AWo.pure (PureOp.assign rfl) rfl rfl ?_
  refine AWo.nil trivial ?_
  refine AW.seq ?_
  refine AW.seqR ?_
  refine AWo.callX (sspeaks_ctr) bd33 [] [] rfl .nil rfl .nil .nil rfl .nil frN (by decide) (.cons rfl rfl .nil) rfl rfl rfl rfl ?_
  first | refine AWo.pure ((PureOp.not rfl).mono (v' := .bool false) rfl) rfl rfl ?_
  refine AWo.nil trivial ?_
  refine AW.condF rfl ?_
  refine AW.skip ?_
  refine thenA_normal ?_
  refine AW.seq ?_
  refine AW.seqR ?_
  refine AWo.sliceA tbok (h := 32) rfl .none .none rfl rfl rfl rfl (by decide) (by decide) (.inl rfl) (by simp [hlb]) rfl rfl rfl ?_
  refine AWo.callX (number16_ctr hb hlb) bd35 [(4000, 0)] [23000] rfl (.cons rfl .nil) rfl (.cons rfl rfl .nil) (.flat rfl (by first | exact flatM flat_vi | exact flatM flat_bool | (simp [flatV, flat_vi]; done)) (by intro h; first | exact h | rfl) .nil) rfl (.keep rfl (.new (flat_map_ren (by first | exact flatM flat_vi | exact flatM flat_bool | (simp [flatV, flat_vi]; done))) (OkL.flat (by first | exact flatM flat_vi | exact flatM flat_bool | (simp [flatV, flat_vi]; done))) .nil)) (frC rfl frN) (by decide) (.cons rfl rfl .nil) rfl rfl rfl rfl ?_
  refine AWo.callX (p02_ctr) bd36 [] [24000] rfl .nil rfl .nil .nil rfl (.new (flat_map_ren (by first | exact flatM flat_vi | exact flatM flat_bool | (simp [flatV, flat_vi]; done))) (OkL.flat (by first | exact flatM flat_vi | exact flatM flat_bool | (simp [flatV, flat_vi]; done))) .nil) (frC rfl frN) (by decide) (.cons rfl rfl .nil) rfl rfl rfl rfl ?_
  refine AWo.callX (rcmp_ctr (b := pdig) (bd_D (by decide) _) pdig_bd (mask_dlen hb hlb) (by decide)) bd34 [(23000, 0), (24000, 0)] [] rfl (.cons rfl (.cons rfl .nil)) rfl (.cons rfl rfl (.cons rfl rfl .nil)) (.flat rfl (by first | exact flatM flat_vi | exact flatM flat_bool | (simp [flatV, flat_vi]; done)) (by intro h; first | exact h | rfl) (.flat rfl (by first | exact flatM flat_vi | exact flatM flat_bool | (simp [flatV, flat_vi]; done)) (by intro h; first | exact h | rfl) .nil)) rfl (.keep rfl (.keep rfl .nil)) frN (by decide) (.cons rfl rfl .nil) rfl rfl rfl rfl ?_
  first | refine AWo.pure (PureOp.geP rfl rfl) rfl rfl ?_ | refine AWo.pure (PureOp.geN (b := 0) rfl rfl) rfl rfl ?_ | refine AWo.pure (PureOp.bin rfl rfl rfl) rfl rfl ?_
  refine AWo.nil trivial ?_
  refine AW.cond rfl (fun hb0 => ?_) (fun hb0 => ?_)
  ·
    refine AW.seqR ?_
    refine AWo.pure (PureOp.assign rfl) rfl rfl ?_
    refine AWo.nil trivial ?_
    refine AW.ret ?_
    refine thenA_ret ?_
    refine RetQ.gc [_] [] [.tmp 6] (.inl rfl) rfl (.tmp rfl .nil) rfl (.cons rfl (by first | rfl | (simp [ren, ren1]; done)) .nil) trivial (by decide) rfl
  ·
    have hlt := cmpI_lt (by simpa [num_D, pdig_num] using hb0)
    refine AW.skip ?_
    refine thenA_normal ?_
    refine AW.seqR ?_
    refine AWo.pure ((PureOp.buildArr tbok [] rfl rfl rfl (by decide) rfl rfl).mono (v' := .agg ((List.replicate 32 0).map (vi .u8)).toArray) rfl) rfl rfl ?_
    refine AWo.alloc tbok 8000 1 ((List.replicate 32 0).map (vi .u8)) rfl rfl rfl rfl rfl rfl ?_
    refine AWo.storeAllN tbok rfl rfl rfl rfl (by first | (simp [*]; done) | rfl) (by first | (simp [*]; done) | rfl) (by first | exact oneM (fun _ => rfl) _ | rfl | (simp; done)) rfl ?_
    refine AWo.nil trivial ?_
    refine AW.seq ?_
    refine AW.seqR ?_
    refine AWo.pure (PureOp.move rfl) rfl rfl ?_
    refine AWo.nil trivial ?_
    refine AW.block ?_
    refine AW.loopw (fun mm σ => ∃ i, (i ≤ 32) ∧ mm = 32 - i ∧ σ = ⟨(upd (upd (upd (upd (upd emp 3 (.pointer (some ⟨4000, 0, none⟩))) 5 (.pointer (some ⟨6000, 0, none⟩))) 1 (vi .u8 m)) 7 (.pointer (some ⟨8000, 0, none⟩))) 27 (vi .i64 i)), (upd (upd (upd emp 4000 ⟨b.map (vi .u8), true, 1⟩) 6000 ⟨h.map (vi .u8), true, 1⟩) 8000 ⟨(List.replicate i 255 ++ List.replicate (32 - i) 0).map (vi .u8), true, 1⟩)⟩) (fm := []) ?_ ⟨0, by decide, rfl, rfl⟩ ?_
    ·
      refine Wk.of [4000, 6000, 8000] ?_ ?_ ?_ (by decide) rfl
      ·
        refine WkE.upd rfl (by first | exact VR.flat _ rfl | exact VR.eqv (vp_succ _) rfl | exact VR.eqv (vp_succ _).symm rfl | exact VR.eqv (by first | rfl | (congr 1; omega) | (simp; done) | (simp; omega)) rfl) ?_
        refine WkE.upd rfl (.ptr (8000) 0 ⟨_, rfl⟩) ?_
        refine WkE.upd rfl (by first | exact VR.flat _ rfl | exact VR.eqv (vp_succ _) rfl | exact VR.eqv (vp_succ _).symm rfl | exact VR.eqv (by first | rfl | (congr 1; omega) | (simp; done) | (simp; omega)) rfl) ?_
        refine WkE.upd rfl (.ptr (6000) 0 ⟨_, rfl⟩) ?_
        refine WkE.upd rfl (.ptr (4000) 0 ⟨_, rfl⟩) ?_
        exact WkE.emp
      ·
        refine WkM.flatM rfl (by first | rfl | exact fill_next hi) flat_vi (fun h => h) ?_
        refine WkM.flatM rfl (by first | rfl | assumption | simp) (fun _ => rfl) (fun h => h) ?_
        refine WkM.flatM rfl (by first | rfl | assumption | simp) (fun _ => rfl) (fun h => h) ?_
        exact WkM.emp
      ·
        repeat (refine dom_upd_mem (by decide) ?_)
        exact dom_emp
    ·
      rintro mm σ ⟨i, hinv, rfl, rfl⟩
      refine AW.seqR ?_
      first | refine AWo.pure (PureOp.ltN (b := 32) rfl rfl) rfl rfl ?_ | refine AWo.pure (PureOp.bin rfl rfl rfl) rfl rfl ?_
      refine AWo.nil trivial ?_
      refine AW.seq ?_
      refine AW.cond rfl (fun hb1 => ?_) (fun hb1 => ?_)
      ·
        have hi : i < 32 := by simpa using hb1
        refine AW.skip ?_
        refine thenA_normal ?_
        refine AW.seq ?_
        refine AW.block ?_
        refine AW.seqR ?_
        refine AWo.pure (PureOp.move rfl) rfl rfl ?_
        refine AWo.pure (PureOp.assign rfl) rfl rfl ?_
        refine AWo.nil trivial ?_
        refine AW.region ?_
        refine AWo.pure (PureOp.move rfl) rfl rfl ?_
        refine AWo.pure (PureOp.arr1 tbok rfl rfl rfl rfl hi) rfl rfl ?_
        refine AWo.storeM (f := (vi .u8)) (y := 255) tbok rfl rfl rfl rfl (by simp; omega) rfl rfl ?_
        refine AWo.nil trivial ?_
        refine inBlockA_normal ?_
        refine thenA_normal ?_
        refine AW.region ?_
        first | refine AWo.pure (PureOp.addI (b := 1) rfl rfl (by first | decide | omega)) rfl rfl ?_ | refine AWo.pure (PureOp.bin rfl rfl rfl) rfl rfl ?_
        refine AWo.pure (PureOp.move rfl) rfl rfl ?_
        refine AWo.nil trivial ?_
        refine thenA_normal ?_
        refine ⟨32 - (i + 1), [], _, by omega, ?_, i + 1, by omega, rfl, rfl⟩
        refine Wk.of [4000, 6000, 8000] ?_ ?_ ?_ (by decide) rfl
        ·
          refine WkE.upd rfl (by first | exact VR.flat _ rfl | exact VR.eqv (vp_succ _) rfl | exact VR.eqv (vp_succ _).symm rfl | exact VR.eqv (by first | rfl | (congr 1; omega) | (simp; done) | (simp; omega)) rfl) ?_
          refine WkE.upd rfl (.ptr (8000) 0 ⟨_, rfl⟩) ?_
          refine WkE.upd rfl (by first | exact VR.flat _ rfl | exact VR.eqv (vp_succ _) rfl | exact VR.eqv (vp_succ _).symm rfl | exact VR.eqv (by first | rfl | (congr 1; omega) | (simp; done) | (simp; omega)) rfl) ?_
          refine WkE.upd rfl (.ptr (6000) 0 ⟨_, rfl⟩) ?_
          refine WkE.upd rfl (.ptr (4000) 0 ⟨_, rfl⟩) ?_
          exact WkE.emp
        ·
          refine WkM.flatM rfl (by first | rfl | exact fill_next hi) flat_vi (fun h => h) ?_
          refine WkM.flatM rfl (by first | rfl | assumption | simp) (fun _ => rfl) (fun h => h) ?_
          refine WkM.flatM rfl (by first | rfl | assumption | simp) (fun _ => rfl) (fun h => h) ?_
          exact WkM.emp
        ·
          repeat (refine dom_upd_mem (by decide) ?_)
          exact dom_emp
      ·
        obtain rfl : i = 32 := by simp at hb1; omega
        obtain ⟨n, hn⟩ : ∃ n, m % 70 = n := ⟨_, rfl⟩
        have hn70 : n < 70 := by omega
        refine AW.exit ?_
        refine thenA_exit ?_
        refine thenA_exit ?_
        refine inBlockA_hit ?_
        refine thenA_normal ?_
        refine AW.seqR ?_
        refine AWo.pure (PureOp.move rfl) rfl rfl ?_
        refine AWo.pure (PureOp.cvtN tbok 9223372036854775808 rfl rfl rfl (by decide) (by decide) (by omega)) rfl rfl ?_
        first | refine AWo.pure ((PureOp.remN (b := 70) rfl rfl (by first | decide | omega)).mono (v' := vi .i64 n) (congrArg (vi .i64) hn)) rfl rfl ?_ | refine AWo.pure ((PureOp.rem rfl rfl (by first | decide | omega)).mono (v' := vi .i64 n) (congrArg (vi .i64) hn)) rfl rfl ?_
        refine AWo.pure (PureOp.assign rfl) rfl rfl ?_
        refine AWo.nil trivial ?_
        refine AW.seqR ?_
        refine AWo.pure (PureOp.assign rfl) rfl rfl ?_
        refine AWo.nil trivial ?_
        refine AW.seq ?_
        refine AW.seqR ?_
        refine AWo.pure (PureOp.move rfl) rfl rfl ?_
        refine AWo.pure (PureOp.move rfl) rfl rfl ?_
        refine AWo.nil trivial ?_
        refine AW.block ?_
        refine AW.ghost 77000 32 rfl ?_
        refine AW.loopw (fun mm σ => ∃ i, (i ≤ n) ∧ mm = n - i ∧ σ = ⟨(upd (upd (upd (upd (upd (upd (upd emp 3 (.pointer (some ⟨4000, 0, none⟩))) 5 (.pointer (some ⟨6000, 0, none⟩))) 7 (.pointer (some ⟨8000, 0, none⟩))) 9 (vi .i64 n)) 36 (vi .i64 n)) 37 (vi .i64 i)) 10 (.slice (some ⟨77000, 0, none⟩) i 0)), (upd (upd (upd (upd emp 4000 ⟨b.map (vi .u8), true, 1⟩) 6000 ⟨h.map (vi .u8), true, 1⟩) 8000 ⟨(List.replicate 32 255).map (vi .u8), true, 1⟩) 77000 ⟨(List.replicate i (List.replicate 32 255)).flatten.map (vi .u8), true, 32⟩)⟩) (fm := []) ?_ ⟨0, Nat.zero_le _, rfl, rfl⟩ ?_
        ·
          refine Wk.of [4000, 6000, 8000, 77000] ?_ ?_ ?_ (by decide) rfl
          ·
            refine WkE.upd rfl (by first | exact .nilS _ (by simp) | exact .slice (77000) 0 _ 0 ⟨_, rfl⟩ (by simp) (by simp)) ?_
            refine WkE.upd rfl (by first | exact VR.flat _ rfl | exact VR.eqv (vp_succ _) rfl | exact VR.eqv (vp_succ _).symm rfl | exact VR.eqv (by first | rfl | (congr 1; omega) | (simp; done) | (simp; omega)) rfl) ?_
            refine WkE.upd rfl (by first | exact VR.flat _ rfl | exact VR.eqv (vp_succ _) rfl | exact VR.eqv (vp_succ _).symm rfl | exact VR.eqv (by first | rfl | (congr 1; omega) | (simp; done) | (simp; omega)) rfl) ?_
            refine WkE.upd rfl (by first | exact VR.flat _ rfl | exact VR.eqv (vp_succ _) rfl | exact VR.eqv (vp_succ _).symm rfl | exact VR.eqv (by first | rfl | (congr 1; omega) | (simp; done) | (simp; omega)) rfl) ?_
            refine WkE.upd rfl (.ptr (8000) 0 ⟨_, rfl⟩) ?_
            refine WkE.upd rfl (.ptr (6000) 0 ⟨_, rfl⟩) ?_
            refine WkE.upd rfl (.ptr (4000) 0 ⟨_, rfl⟩) ?_
            exact WkE.emp
          ·
            refine WkM.flatM rfl (by first | rfl | assumption | simp) (fun _ => rfl) (fun h => h) ?_
            refine WkM.flatM rfl (by first | rfl | assumption | simp) (fun _ => rfl) (fun h => h) ?_
            refine WkM.flatM rfl (by first | rfl | assumption | simp) (fun _ => rfl) (fun h => h) ?_
            refine WkM.flatM rfl (by first | rfl | assumption | simp) (fun _ => rfl) (fun h => h) ?_
            exact WkM.emp
          ·
            repeat (refine dom_upd_mem (by decide) ?_)
            exact dom_emp
        ·
          rintro mm σ ⟨i, hinv, rfl, rfl⟩
          refine AW.seqR ?_
          first | refine AWo.pure (PureOp.ltN rfl rfl) rfl rfl ?_ | refine AWo.pure (PureOp.bin rfl rfl rfl) rfl rfl ?_
          refine AWo.nil trivial ?_
          refine AW.seq ?_
          refine AW.cond rfl (fun hb2 => ?_) (fun hb2 => ?_)
          ·
            have hi : i < n := by simpa using hb2
            refine AW.skip ?_
            refine thenA_normal ?_
            refine AW.seq ?_
            refine AW.block ?_
            refine AW.region ?_
            refine AWo.pure (PureOp.move rfl) rfl rfl ?_
            first | refine AWo.loadAll tbok rfl rfl rfl rfl (by first | (simp [*]; done) | rfl) rfl rfl ?_ | refine AWo.loadAgg tbok rfl rfl rfl rfl (by first | decide | omega) rfl rfl rfl ?_
            refine AWo.buildSlice tbok 42000 [(0, .agg ((List.replicate 32 255).map (vi .u8)).toArray)] (out := [(List.replicate 32 255)].flatten.map (vi .u8)) rfl rfl (by decide) rfl rfl rfl (by decide) rfl (fillB1 (by simp)) rfl rfl rfl ?_
            refine AWo.append tbok (all := (List.replicate (i + 1) (List.replicate 32 255)).flatten.map (vi .u8)) (news := [(List.replicate 32 255)].flatten.map (vi .u8)) 43000 rfl rfl rfl rfl (by simp) rfl (by first | decide | (simp; done) | (simp; omega)) (by decide) rfl rfl rfl (by decide) rfl rfl rfl (by first | decide | omega) (by first | decide | omega) (by first | exact oneM (fun _ => rfl) _ | (simp; done)) (rep_snoc i) rfl rfl ?_
            refine AWo.pure (PureOp.assign rfl) rfl rfl ?_
            refine AWo.nil trivial ?_
            refine inBlockA_normal ?_
            refine thenA_normal ?_
            refine AW.region ?_
            first | refine AWo.pure (PureOp.addI (b := 1) rfl rfl (by first | decide | omega)) rfl rfl ?_ | refine AWo.pure (PureOp.bin rfl rfl rfl) rfl rfl ?_
            refine AWo.pure (PureOp.move rfl) rfl rfl ?_
            refine AWo.nil trivial ?_
            refine thenA_normal ?_
            refine ⟨n - (i + 1), [(77000, 43000)], _, by omega, ?_, i + 1, by omega, rfl, rfl⟩
            refine Wk.of [4000, 6000, 8000, 77000] ?_ ?_ ?_ (by decide) rfl
            ·
              refine WkE.upd rfl (by first | exact .nilS _ (by simp) | exact .slice (77000) 0 _ 0 ⟨_, rfl⟩ (by simp) (by simp)) ?_
              refine WkE.upd rfl (by first | exact VR.flat _ rfl | exact VR.eqv (vp_succ _) rfl | exact VR.eqv (vp_succ _).symm rfl | exact VR.eqv (by first | rfl | (congr 1; omega) | (simp; done) | (simp; omega)) rfl) ?_
              refine WkE.upd rfl (by first | exact VR.flat _ rfl | exact VR.eqv (vp_succ _) rfl | exact VR.eqv (vp_succ _).symm rfl | exact VR.eqv (by first | rfl | (congr 1; omega) | (simp; done) | (simp; omega)) rfl) ?_
              refine WkE.upd rfl (by first | exact VR.flat _ rfl | exact VR.eqv (vp_succ _) rfl | exact VR.eqv (vp_succ _).symm rfl | exact VR.eqv (by first | rfl | (congr 1; omega) | (simp; done) | (simp; omega)) rfl) ?_
              refine WkE.upd rfl (.ptr (8000) 0 ⟨_, rfl⟩) ?_
              refine WkE.upd rfl (.ptr (6000) 0 ⟨_, rfl⟩) ?_
              refine WkE.upd rfl (.ptr (4000) 0 ⟨_, rfl⟩) ?_
              exact WkE.emp
            ·
              refine WkM.flatM rfl (by first | rfl | assumption | simp) (fun _ => rfl) (fun h => h) ?_
              refine WkM.flatM rfl (by first | rfl | assumption | simp) (fun _ => rfl) (fun h => h) ?_
              refine WkM.flatM rfl (by first | rfl | assumption | simp) (fun _ => rfl) (fun h => h) ?_
              refine WkM.flatM rfl (by first | rfl | assumption | simp) (fun _ => rfl) (fun h => h) ?_
              exact WkM.emp
            ·
              repeat (refine dom_upd_mem (by decide) ?_)
              exact dom_emp
          ·
            have hi : n = i := by simp at hb2; omega
            subst hi
            refine AW.exit ?_
            refine thenA_exit ?_
            refine thenA_exit ?_
            refine inBlockA_hit ?_
            refine thenA_normal ?_
            refine AW.seqR ?_
            refine AWo.pure (PureOp.move rfl) rfl rfl ?_
            first | refine AWo.loadAll tbok rfl rfl rfl rfl (by first | (simp [*]; done) | rfl) rfl rfl ?_ | refine AWo.loadAgg tbok rfl rfl rfl rfl (by first | decide | omega) rfl rfl rfl ?_
            first | refine AWo.loadAll tbok rfl rfl rfl rfl (by first | (simp [*]; done) | rfl) rfl rfl ?_ | refine AWo.loadAgg tbok rfl rfl rfl rfl (by first | decide | omega) rfl rfl rfl ?_
            refine AWo.buildSlice tbok 48000 [(0, .agg (b.map (vi .u8)).toArray), (1, .agg (h.map (vi .u8)).toArray)] (out := [b, h].flatten.map (vi .u8)) rfl rfl (by decide) rfl rfl rfl (by decide) rfl (fillB2 hlb hlh) rfl rfl rfl ?_
            refine AWo.append tbok (all := (List.replicate n (List.replicate 32 255) ++ [b, h]).flatten.map (vi .u8)) (news := [b, h].flatten.map (vi .u8)) 49000 rfl rfl rfl rfl (by simp) (by show List.take _ (List.drop 0 _) = _; rw [List.drop_zero]; exact List.take_of_length_le (by simp [hlb, hlh])) (by first | decide | (simp; done) | (simp; omega)) (by decide) rfl rfl rfl (by decide) rfl rfl rfl (by first | decide | omega) (by first | decide | omega) (by first | exact oneM (fun _ => rfl) _ | (simp; done)) (by rw [← List.map_append, ← List.flatten_append]) rfl rfl ?_
            refine AWo.pure (PureOp.assign rfl) rfl rfl ?_
            refine AWo.nil trivial ?_
            have hLL : okL (List.replicate n (List.replicate 32 255) ++ [b, h]) := ll_ok hb hlb hh hlh n
            refine AW.seqR ?_
            refine AWo.alloc tbok 12000 1 _ rfl rfl rfl rfl rfl rfl ?_
            refine AWo.alloc tbok 13000 1 _ rfl rfl rfl rfl rfl rfl ?_
            refine AWo.store1 tbok rfl rfl rfl rfl rfl Nat.zero_lt_one rfl rfl ?_
            refine AWo.store1 tbok rfl rfl rfl rfl rfl Nat.zero_lt_one rfl rfl ?_
            refine AWo.nil trivial ?_
            rw [show n + 2 = (List.replicate n (List.replicate 32 255) ++ [b, h]).length from by simp]
            refine AW.seqR ?_
            refine AWo.pure (PureOp.move rfl) rfl rfl ?_
            refine AWo.callX (rounds_ctr (L := (List.replicate n (List.replicate 32 255) ++ [b, h])) (c := 0)) bd38 [(49000, 0), (12000, 0)] [52000, 52001] rfl (.cons rfl (.cons rfl .nil)) rfl (.cons rfl rfl (.cons rfl rfl .nil)) (.flat rfl (flatM flat_vi) (by intro h; first | exact h | rfl) (.flat rfl (flat1 rfl) (by intro h; first | exact h | rfl) .nil)) rfl (.keep rfl (.keep rfl (.new rfl (OkL.all rfl) (.new rfl (OkL.all rfl) .nil)))) (frC rfl (frC rfl frN)) (by decide) (.cons rfl rfl .nil) rfl rfl rfl rfl ?_
            refine AWo.callX (field_ctr (L := (List.replicate n (List.replicate 32 255) ++ [b, h])) (c := 0) hLL (by simp) (by decide)) bd37 [(52000, 0), (52001, 0), (12000, 0), (49000, 0)] [] rfl (.cons rfl .nil) rfl (.cons rfl rfl .nil) (.whole rfl rfl (OkL.all rfl) (by intro h; first | exact h | rfl) (.whole rfl rfl (OkL.all rfl) (by intro h; first | exact h | rfl) (.flat rfl (flat1 rfl) (fun h => h) (.flat rfl (flatM flat_vi) (by intro h; first | exact h | rfl) .nil)))) rfl (.keep rfl (.keep rfl (.chg rfl rfl (flat_map_ren (flat1 rfl)) (OkL.flat (flat1 rfl)) (.keep rfl .nil)))) frN (by decide) (.pure (pure_aggM flat_vi) (.cons rfl rfl (.cons rfl rfl .nil))) rfl rfl rfl rfl ?_
            refine AWo.pure (PureOp.move rfl) rfl rfl ?_
            refine AWo.pure (PureOp.extract rfl rfl) rfl rfl ?_
            refine AWo.pure (PureOp.extract rfl rfl) rfl rfl ?_
            refine AWo.pure (PureOp.extract rfl rfl) rfl rfl ?_
            refine AWo.alloc tbok 14000 1 _ rfl rfl rfl rfl rfl rfl ?_
            refine AWo.storeAllN tbok rfl rfl rfl rfl (by first | (simp [*]; done) | rfl) (by first | (simp [*]; done) | rfl) (by first | exact oneM (fun _ => rfl) _ | rfl | (simp; done)) rfl ?_
            refine AWo.pure (PureOp.assign rfl) rfl rfl ?_
            refine AWo.pure (PureOp.assign rfl) rfl rfl ?_
            refine AWo.nil trivial ?_
            refine AW.seqR ?_
            first | refine AWo.loadAll tbok rfl rfl rfl rfl (by first | (simp [*]; done) | rfl) rfl rfl ?_ | refine AWo.loadAgg tbok rfl rfl rfl rfl (by first | decide | omega) rfl rfl rfl ?_
            refine AWo.buildSlice tbok 59000 [(0, .agg (b.map (vi .u8)).toArray)] (out := [b].flatten.map (vi .u8)) rfl rfl (by decide) rfl rfl rfl (by decide) rfl (fillB1 hlb) rfl rfl rfl ?_
            refine AWo.callX (rounds_ctr (L := [b]) (c := 0)) bd38 [(59000, 0), (13000, 0)] [60000, 60001] rfl (.cons rfl (.cons rfl .nil)) rfl (.cons rfl rfl (.cons rfl rfl .nil)) (.flat rfl (flatM flat_vi) (by intro h; first | exact h | rfl) (.flat rfl (flat1 rfl) (by intro h; first | exact h | rfl) .nil)) rfl (.keep rfl (.keep rfl (.new rfl (OkL.all rfl) (.new rfl (OkL.all rfl) .nil)))) (frC rfl (frC rfl frN)) (by decide) (.cons rfl rfl .nil) rfl rfl rfl rfl ?_
            refine AWo.callX (field_ctr (L := [b]) (c := 0) hL1 (by simp) (by decide)) bd37 [(60000, 0), (60001, 0), (13000, 0), (59000, 0)] [] rfl (.cons rfl .nil) rfl (.cons rfl rfl .nil) (.whole rfl rfl (OkL.all rfl) (by intro h; first | exact h | rfl) (.whole rfl rfl (OkL.all rfl) (by intro h; first | exact h | rfl) (.flat rfl (flat1 rfl) (fun h => h) (.flat rfl (flatM flat_vi) (by intro h; first | exact h | rfl) .nil)))) rfl (.keep rfl (.keep rfl (.chg rfl rfl (flat_map_ren (flat1 rfl)) (OkL.flat (flat1 rfl)) (.keep rfl .nil)))) frN (by decide) (.pure (pure_aggM flat_vi) (.cons rfl rfl (.cons rfl rfl .nil))) rfl rfl rfl rfl ?_
            refine AWo.pure (PureOp.move rfl) rfl rfl ?_
            refine AWo.pure (PureOp.extract rfl rfl) rfl rfl ?_
            refine AWo.pure (PureOp.extract rfl rfl) rfl rfl ?_
            refine AWo.pure (PureOp.extract rfl rfl) rfl rfl ?_
            refine AWo.alloc tbok 17000 1 _ rfl rfl rfl rfl rfl rfl ?_
            refine AWo.storeAllN tbok rfl rfl rfl rfl (by first | (simp [*]; done) | rfl) (by first | (simp [*]; done) | rfl) (by first | exact oneM (fun _ => rfl) _ | rfl | (simp; done)) rfl ?_
            refine AWo.pure (PureOp.assign rfl) rfl rfl ?_
            refine AWo.pure (PureOp.assign rfl) rfl rfl ?_
            refine AWo.nil trivial ?_
            refine AW.seq ?_
            have hsl := sE_len (List.replicate n (List.replicate 32 255) ++ [b, h]) 0
            have hsl2 := sE_len [b] 0
            obtain ⟨f1, f2, f3⟩ := s_hit (L := [b]) (c := 0) (i := 0) (by decide) (fun j hj => absurd hj (Nat.not_lt_zero j)) (by rw [sval_one]; exact hlt)
            rw [sval_one] at f1
            rw [f1, f2, f3]
            refine AW.seqR ?_
            refine AWo.pure (PureOp.move rfl) rfl rfl ?_
            first | refine AWo.pure (PureOp.geP rfl rfl) rfl rfl ?_ | refine AWo.pure (PureOp.geN (b := 64) rfl rfl) rfl rfl ?_ | refine AWo.pure (PureOp.bin rfl rfl rfl) rfl rfl ?_
            refine AWo.nil trivial ?_
            refine AW.cond rfl (fun hb3 => ?_) (fun hb3 => ?_)
            ·
              have hge : 64 ≤ n := by simpa using hb3
              obtain ⟨e1, e2, e3⟩ := s_miss (L := (List.replicate n (List.replicate 32 255) ++ [b, h])) (c := 0) (fun j hj => first_bad (by omega))
              rw [e1, e2, e3]
              have hrl : (List.replicate 4 0).length = 4 := rfl
              refine AW.seqR ?_
              refine AWo.pure (PureOp.move rfl) rfl rfl ?_
              first | refine AWo.pure ((PureOp.eqN (b := 11) rfl rfl).mono (v' := .bool true) (by first | rfl | (simp; done) | (congr 1; simp; omega))) rfl rfl ?_ | refine AWo.pure ((PureOp.bin rfl rfl rfl).mono (v' := .bool true) (by first | rfl | (simp; done) | (congr 1; simp; omega))) rfl rfl ?_
              refine AWo.pure (PureOp.move rfl) rfl rfl ?_
              refine AWo.pure (PureOp.move rfl) rfl rfl ?_
              first | refine AWo.pure ((PureOp.eqN (b := 64) rfl rfl).mono (v' := .bool true) (by first | rfl | (simp; done) | (congr 1; simp; omega))) rfl rfl ?_ | refine AWo.pure ((PureOp.bin rfl rfl rfl).mono (v' := .bool true) (by first | rfl | (simp; done) | (congr 1; simp; omega))) rfl rfl ?_
              refine AWo.pure (PureOp.pickT rfl rfl) rfl rfl ?_
              refine AWo.pure (PureOp.move rfl) rfl rfl ?_
              first | refine AWo.loadAll tbok rfl rfl rfl rfl (by first | (simp [*]; done) | rfl) rfl rfl ?_ | refine AWo.loadAgg tbok rfl rfl rfl rfl (by first | decide | omega) rfl rfl rfl ?_
              refine AWo.callX (v := .bool true) (iszero_ctr (a := List.replicate 4 0) rfl) bd39 [] [] rfl (.cons rfl .nil) rfl (.pure (by first | rfl | exact pure_aggM flat_vi | exact pure_aggM flat_bool) .nil) .nil rfl .nil frN (by decide) (.cons rfl rfl .nil) (congrArg Value.bool (decide_eq_true rfl)) rfl rfl rfl ?_
              refine AWo.pure (PureOp.pickT rfl rfl) rfl rfl ?_
              refine AWo.pure (PureOp.assign rfl) rfl rfl ?_
              refine AWo.nil trivial ?_
              refine AW.ret ?_
              refine thenA_ret ?_
              refine RetQ.gc [_] [] [.tmp 6] (.inl rfl) rfl (.tmp rfl .nil) rfl (.cons rfl (by first | rfl | (simp [ren, ren1]; done)) .nil) trivial (by decide) rfl
            ·
              have hn64 : n < 64 := by simpa using hb3
              obtain ⟨e1, e2, e3⟩ := s_hit (L := (List.replicate n (List.replicate 32 255) ++ [b, h])) (c := 0) (i := n) hn64 (fun j hj => first_bad hj) (by rw [first_hit]; exact hlt)
              rw [first_hit] at e1
              rw [e1, e2, e3]
              refine AW.skip ?_
              refine thenA_normal ?_
              refine AW.seqR ?_
              refine AWo.pure (PureOp.move rfl) rfl rfl ?_
              first | refine AWo.pure ((PureOp.eqN (b := 0) rfl rfl).mono (v' := .bool true) (by first | rfl | (simp; done) | (congr 1; simp; omega))) rfl rfl ?_ | refine AWo.pure ((PureOp.bin rfl rfl rfl).mono (v' := .bool true) (by first | rfl | (simp; done) | (congr 1; simp; omega))) rfl rfl ?_
              refine AWo.pure (PureOp.move rfl) rfl rfl ?_
              refine AWo.pure (PureOp.move rfl) rfl rfl ?_
              refine AWo.pure (PureOp.move rfl) rfl rfl ?_
              first | refine AWo.pure (PureOp.addI (b := 1) rfl rfl (by first | decide | omega)) rfl rfl ?_ | refine AWo.pure (PureOp.bin rfl rfl rfl) rfl rfl ?_
              first | refine AWo.pure ((PureOp.eqN rfl rfl).mono (v' := .bool true) (by first | rfl | (simp; done) | (congr 1; simp; omega))) rfl rfl ?_ | refine AWo.pure ((PureOp.bin rfl rfl rfl).mono (v' := .bool true) (by first | rfl | (simp; done) | (congr 1; simp; omega))) rfl rfl ?_
              refine AWo.pure (PureOp.pickT rfl rfl) rfl rfl ?_
              refine AWo.pure (PureOp.move rfl) rfl rfl ?_
              first | refine AWo.loadM tbok 0 rfl rfl rfl (by first | decide | omega) rfl rfl ?_ | refine AWo.load tbok rfl rfl rfl rfl rfl rfl ?_
              refine AWo.pure (PureOp.move rfl) rfl rfl ?_
              first | refine AWo.pure ((PureOp.eqN rfl rfl).mono (v' := .bool true) (by first | rfl | (simp; done) | (congr 1; simp; omega))) rfl rfl ?_ | refine AWo.pure ((PureOp.bin rfl rfl rfl).mono (v' := .bool true) (by first | rfl | (simp; done) | (congr 1; simp; omega))) rfl rfl ?_
              refine AWo.pure (PureOp.pickT rfl rfl) rfl rfl ?_
              refine AWo.pure (PureOp.move rfl) rfl rfl ?_
              first | refine AWo.loadAll tbok rfl rfl rfl rfl (by first | (simp [*]; done) | rfl) rfl rfl ?_ | refine AWo.loadAgg tbok rfl rfl rfl rfl (by first | decide | omega) rfl rfl rfl ?_
              first | refine AWo.loadAll tbok rfl rfl rfl rfl (by first | (simp [*]; done) | rfl) rfl rfl ?_ | refine AWo.loadAgg tbok rfl rfl rfl rfl (by first | decide | omega) rfl rfl rfl ?_
              refine AWo.callX (v := .bool true) (equal_ctr (a := fbE (num 256 (maskL b))) (b := fbE (num 256 (maskL b))) (fbE_len _) (fbE_len _)) bd40 [] [] rfl (.cons rfl (.cons rfl .nil)) rfl (.pure (by first | rfl | exact pure_aggM flat_vi | exact pure_aggM flat_bool) (.pure (by first | rfl | exact pure_aggM flat_vi | exact pure_aggM flat_bool) .nil)) .nil rfl .nil frN (by decide) (.cons rfl rfl .nil) (congrArg Value.bool (decide_eq_true rfl)) rfl rfl rfl ?_
              refine AWo.pure (PureOp.pickT rfl rfl) rfl rfl ?_
              refine AWo.pure (PureOp.move rfl) rfl rfl ?_
              first | refine AWo.loadM tbok 0 rfl rfl rfl (by first | decide | omega) rfl rfl ?_ | refine AWo.load tbok rfl rfl rfl rfl rfl rfl ?_
              first | refine AWo.pure ((PureOp.eqN (b := 1) rfl rfl).mono (v' := .bool true) (by first | rfl | (simp; done) | (congr 1; simp; omega))) rfl rfl ?_ | refine AWo.pure ((PureOp.bin rfl rfl rfl).mono (v' := .bool true) (by first | rfl | (simp; done) | (congr 1; simp; omega))) rfl rfl ?_
              refine AWo.pure (PureOp.pickT rfl rfl) rfl rfl ?_
              refine AWo.pure (PureOp.assign rfl) rfl rfl ?_
              refine AWo.nil trivial ?_
              refine AW.ret ?_
              refine RetQ.gc [_] [] [.tmp 6] (.inl rfl) rfl (.tmp rfl .nil) rfl (.cons rfl (by first | rfl | (simp [ren, ren1]; done)) .nil) trivial (by decide) rfl
end Go.Proofs.Ytiikffiembcboaa
