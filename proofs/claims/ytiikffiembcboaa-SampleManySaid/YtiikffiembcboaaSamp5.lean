/- SampleMany: what it reckons. -/
import Derived.Test.YtiikffiembcboaaSamp2
namespace Go.Proofs.Ytiikffiembcboaa
open Go Sim

/-- how many blocks so many samples ask for -/
def mS (L : List (List Nat)) (c : Nat) : Nat → Nat
  | 0 => 0
  | i + 1 => mS L c i + sK L (c + mS L c i)

def mEls (L : List (List Nat)) (c i : Nat) : List (List Nat) := (List.range i).map fun j => sE L (c + mS L c j)

theorem mEls_len (L : List (List Nat)) (c i : Nat) : (mEls L c i).length = i := by simp [mEls]
theorem mEls_four {L : List (List Nat)} {c i : Nat} : ∀ x ∈ mEls L c i, x.length = 4 := fun x hx => by
  obtain ⟨j, _, rfl⟩ := List.mem_map.1 hx; exact sE_len _ _
theorem mEls_flat (L : List (List Nat)) (c i : Nat) : (mEls L c i).flatten.length = i * 4 := by rw [flat_len mEls_four, mEls_len]
theorem mEls_succ (L : List (List Nat)) (c i : Nat) : mEls L c (i + 1) = mEls L c i ++ [sE L (c + mS L c i)] := by simp [mEls, List.range_succ]
theorem sK_le (L : List (List Nat)) (c : Nat) : sK L c ≤ 64 := by
  simp only [sK]
  split
  · rename_i i h
    have : ∀ {n s i : Nat} {p : Nat → Bool}, sfirst p n s = some i → i < s + n := by
      intro n
      induction n with
      | zero => intro s i p h; cases h
      | succ n ih =>
        intro s i p h
        simp only [sfirst] at h
        split at h
        · cases h; omega
        · have := ih h; omega
    have := this h
    omega
  · exact Nat.le_refl _
theorem mS_le (L : List (List Nat)) (c i : Nat) : mS L c i ≤ 64 * i := by
  induction i with
  | zero => exact Nat.le_refl _
  | succ i ih => have := sK_le L (c + mS L c i); simp only [mS]; omega

def mI (L : List (List Nat)) (c n : Nat) : Option Nat := sfirst (fun i => decide (sC L (c + mS L c i) ≠ 0)) n 0
def fL (L : List (List Nat)) (c n : Nat) : List (List Nat) := match mI L c n with
  | some _ => []
  | none => mEls L c n
def fK (L : List (List Nat)) (c n : Nat) : Nat := match mI L c n with
  | some i => mS L c (i + 1)
  | none => mS L c n
def fC (L : List (List Nat)) (c n : Nat) : Int := match mI L c n with
  | some i => sC L (c + mS L c i)
  | none => 0

theorem m_all {L : List (List Nat)} {c n : Nat} (h : ∀ j, j < n → sC L (c + mS L c j) = 0) : fL L c n = mEls L c n ∧ fK L c n = mS L c n ∧ fC L c n = 0 := by
  have : mI L c n = none := sfirst_miss fun j _ hj => decide_eq_false (by simp [h j (by omega)])
  simp only [fL, fK, fC, this, and_self]
theorem m_fail {L : List (List Nat)} {c n i : Nat} (hi : i < n) (h : ∀ j, j < i → sC L (c + mS L c j) = 0) (hne : sC L (c + mS L c i) ≠ 0) : fL L c n = [] ∧ fK L c n = mS L c (i + 1) ∧ fC L c n = sC L (c + mS L c i) := by
  have : mI L c n = some i := sfirst_hit (Nat.zero_le _) (by omega) (fun j _ hj => decide_eq_false (by simp [h j hj])) (decide_eq_true hne)
  simp only [fL, fK, fC, this, and_self]

theorem els_room {L : List (List Nat)} {n i : Nat} (h : fL L 0 n = mEls L 0 n) (hi : i < n) : 0 + i * 4 + 4 ≤ ((fL L 0 n).flatten.map (vi .u64)).length := by
  rw [h, List.length_map, mEls_flat]; omega
theorem els_at {L : List (List Nat)} {n i : Nat} (h : fL L 0 n = mEls L 0 n) (hi : i < n) : (((fL L 0 n).flatten.map (vi .u64)).drop (0 + i * 4)).take 4 = (sE L (0 + mS L 0 i)).map (vi .u64) := by
  rw [h, Nat.zero_add, flat_take_map mEls_four (by rw [mEls_len]; exact hi)]
  congr 1
  rw [mEls, List.getD_eq_getElem?_getD, List.getElem?_map, List.getElem?_range hi]
  rfl

set_option maxRecDepth 10000 in
theorem fields_ctr {L : List (List Nat)} {c n : Nat} {z : Int} (hL : okL L) (h0 : 0 < L.length) (hc : c < 4611686018427300000) (hn : n < 1000) (hz : (if 0 > z then 0 else z) = (n : Int)) :
    GC Try.prog 41 [.int .i64 z, .func (.func 116) #[] #[.pointer (some ⟨0, 0, none⟩), .pointer (some ⟨1, 0, none⟩)]] [⟨[.pointer (some ⟨2, 0, none⟩)], false, 1⟩, ⟨[.slice (some ⟨3, 0, none⟩) L.length 0], false, 1⟩, ⟨[vi .i64 (c)], true, 1⟩, ⟨L.flatten.map (vi .u8), false, 32⟩] [.slice (some ⟨4, 0, none⟩) (fL L c n).length 0, vi .i64 (fK L c n), .int .i64 (fC L c n)] [⟨[.pointer (some ⟨2, 0, none⟩)], false, 1⟩, ⟨[.slice (some ⟨3, 0, none⟩) L.length 0], false, 1⟩, ⟨[vi .i64 (c + fK L c n)], true, 1⟩, ⟨L.flatten.map (vi .u8), false, 32⟩, ⟨(fL L c n).flatten.map (vi .u64), true, 4⟩] := by
  refine GC.intro Try.func41 rfl (by show 2 ≤ 36; decide) (by first | exact Nat.le_refl _ | decide | simp) ?_
  have hSE := sE_len
  refine AW.seqR ?_
  refine AWo.pure (PureOp.assign rfl) rfl rfl ?_
  refine AWo.pure (PureOp.assign rfl) rfl rfl ?_
  refine AWo.pure (PureOp.assign rfl) rfl rfl ?_
  refine AWo.nil trivial ?_
  refine AW.seqR ?_
  refine AWo.pure (PureOp.assign rfl) rfl rfl ?_
  refine AWo.nil trivial ?_
  refine AW.seqR ?_
  refine AWo.pure (PureOp.assign rfl) rfl rfl ?_
  refine AWo.nil trivial ?_
  refine AW.seq ?_
  refine AW.seqR ?_
  refine AWo.pure (PureOp.move rfl) rfl rfl ?_
  refine AWo.pure ((PureOp.max rfl rfl).mono (v' := vi .i64 n) (congrArg (Value.int .i64) hz)) rfl rfl ?_
  refine AWo.pure (PureOp.move rfl) rfl rfl ?_
  refine AWo.nil trivial ?_
  refine AW.block ?_
  refine AW.ghost 77000 4 rfl ?_
  refine AW.loopw (fun mm σ => ∃ i, (i ≤ n ∧ ∀ j, j < i → sC L (c + mS L c j) = 0) ∧ mm = n - i ∧ σ = ⟨(upd (upd (upd (upd (upd emp 1 (.func (.func 116) #[] #[.pointer (some ⟨0, 0, none⟩), .pointer (some ⟨1, 0, none⟩)])) 7 (.slice (some ⟨77000, 0, none⟩) i 0)) 8 (vi .i64 (mS L c i))) 13 (vi .i64 n)) 14 (vi .i64 i)), (upd (upd (upd (upd (upd emp 0 ⟨[.pointer (some ⟨2, 0, none⟩)], false, 1⟩) 1 ⟨[.slice (some ⟨3, 0, none⟩) L.length 0], false, 1⟩) 2 ⟨[vi .i64 (c + mS L c i)], true, 1⟩) 3 ⟨L.flatten.map (vi .u8), false, 32⟩) 77000 ⟨(mEls L c i).flatten.map (vi .u64), true, 4⟩)⟩) (fm := []) ?_ ⟨0, ⟨Nat.zero_le _, fun j hj => absurd hj (Nat.not_lt_zero j)⟩, rfl, rfl⟩ ?_
  ·
    refine Wk.of [0, 1, 2, 3, 77000] ?_ ?_ ?_ (by decide) rfl
    ·
      refine WkE.upd rfl (by first | exact VR.flat _ rfl | exact VR.eqv (vp_succ _) rfl | exact VR.eqv (vp_succ _).symm rfl | exact VR.eqv (by first | rfl | (congr 1; omega) | (simp; done) | (simp; omega)) rfl) ?_
      refine WkE.upd rfl (by first | exact VR.flat _ rfl | exact VR.eqv (vp_succ _) rfl | exact VR.eqv (vp_succ _).symm rfl | exact VR.eqv (by first | rfl | (congr 1; omega) | (simp; done) | (simp; omega)) rfl) ?_
      refine WkE.upd rfl (by first | exact VR.flat _ rfl | exact VR.eqv (vp_succ _) rfl | exact VR.eqv (vp_succ _).symm rfl | exact VR.eqv (by first | rfl | (congr 1; omega) | (simp; done) | (simp; omega)) rfl) ?_
      refine WkE.upd rfl (by first | exact .nilS _ (by simp) | exact .slice (77000) 0 _ 0 ⟨_, rfl⟩ (by simp) (by simp)) ?_
      refine WkE.upd rfl (okVI_rel (ids := [0, 1]) (by simp) rfl (dom_all rfl) rfl) ?_
      exact WkE.emp
    ·
      refine WkM.flatM rfl (by first | rfl | assumption | simp) (fun _ => rfl) (fun h => h) ?_
      refine WkM.flat rfl (flatM flat_vi) (fun h => h) ?_
      refine WkM.refl rfl (flat1 rfl) (fun h => h) ?_
      refine WkM.ren [3] rfl rfl rfl (dom_all rfl) (fun h => h) ?_
      refine WkM.ren [2] rfl rfl rfl (dom_all rfl) (fun h => h) ?_
      exact WkM.emp
    ·
      repeat (refine dom_upd_mem (by decide) ?_)
      exact dom_emp
  ·
    rintro mm σ ⟨i, ⟨hi0, hok⟩, rfl, rfl⟩
    have hms := mS_le L c i
    have hsk := sK_le L (c + mS L c i)
    have hsl := sE_len L (c + mS L c i)
    have hel : ((mEls L c i).flatten.map (vi .u64)).length = i * 4 := by rw [List.length_map, mEls_flat]
    refine AW.seqR ?_
    first | refine AWo.pure (PureOp.ltN rfl rfl) rfl rfl ?_ | refine AWo.pure (PureOp.bin rfl rfl rfl) rfl rfl ?_
    refine AWo.nil trivial ?_
    refine AW.seq ?_
    refine AW.cond rfl (fun hb0 => ?_) (fun hb0 => ?_)
    ·
      have hi : i < n := by simpa using hb0
      refine AW.skip ?_
      refine thenA_normal ?_
      refine AW.seq ?_
      refine AW.block ?_
      refine AW.seqR ?_
      refine AWo.pure (PureOp.move rfl) rfl rfl ?_
      refine AWo.callX (field_ctr (c := c + mS L c i) hL h0 (by omega)) bd37 [(0, 0), (1, 0), (2, 0), (3, 0)] [] rfl (.cons rfl .nil) rfl (.cons rfl rfl .nil) (.whole rfl rfl (OkL.all rfl) (by intro h; first | exact h | rfl) (.whole rfl rfl (OkL.all rfl) (by intro h; first | exact h | rfl) (.flat rfl (flat1 rfl) (fun h => h) (.flat rfl (flatM flat_vi) (by intro h; first | exact h | rfl) .nil)))) rfl (.keep rfl (.keep rfl (.chg rfl rfl (flat_map_ren (flat1 rfl)) (OkL.flat (flat1 rfl)) (.keep rfl .nil)))) frN (by decide) (.pure (pure_aggM flat_vi) (.cons rfl rfl (.cons rfl rfl .nil))) rfl rfl rfl rfl ?_
      refine AWo.pure (PureOp.move rfl) rfl rfl ?_
      refine AWo.pure (PureOp.extract rfl rfl) rfl rfl ?_
      refine AWo.pure (PureOp.extract rfl rfl) rfl rfl ?_
      refine AWo.pure (PureOp.extract rfl rfl) rfl rfl ?_
      refine AWo.alloc tbok 10000 1 _ rfl rfl rfl rfl rfl rfl ?_
      refine AWo.storeAllN tbok rfl rfl rfl rfl (by first | (simp [*]; done) | rfl) (by first | (simp [*]; done) | rfl) (by first | exact oneM (fun _ => rfl) _ | rfl | (simp; done)) rfl ?_
      refine AWo.pure (PureOp.assign rfl) rfl rfl ?_
      refine AWo.pure (PureOp.assign rfl) rfl rfl ?_
      refine AWo.nil trivial ?_
      rw [show c + mS L c i + sK L (c + mS L c i) = c + mS L c (i + 1) from Nat.add_assoc _ _ _]
      refine AW.seqR ?_
      refine AWo.pure (PureOp.move rfl) rfl rfl ?_
      refine AWo.pure (PureOp.move rfl) rfl rfl ?_
      refine AWo.pure ((PureOp.addI rfl rfl (by omega)).mono (v' := vi .i64 (mS L c (i + 1))) rfl) rfl rfl ?_
      refine AWo.pure (PureOp.assign rfl) rfl rfl ?_
      refine AWo.nil trivial ?_
      refine AW.seq ?_
      refine AW.seqR ?_
      refine AWo.pure (PureOp.move rfl) rfl rfl ?_
      first | refine AWo.pure (PureOp.neN (b := 0) rfl rfl) rfl rfl ?_ | refine AWo.pure (PureOp.bin rfl rfl rfl) rfl rfl ?_
      refine AWo.nil trivial ?_
      refine AW.cond rfl (fun hb1 => ?_) (fun hb1 => ?_)
      ·
        have hne : sC L (c + mS L c i) ≠ 0 := by simpa using hb1
        obtain ⟨e1, e2, e3⟩ := m_fail hi hok hne
        rw [e1, e2, e3]
        refine AW.seqR ?_
        refine AWo.pure (PureOp.move rfl) rfl rfl ?_
        refine AWo.pure (PureOp.move rfl) rfl rfl ?_
        refine AWo.pure (PureOp.assign rfl) rfl rfl ?_
        refine AWo.pure (PureOp.assign rfl) rfl rfl ?_
        refine AWo.pure (PureOp.assign rfl) rfl rfl ?_
        refine AWo.nil trivial ?_
        refine AW.ret ?_
        refine thenA_ret ?_
        refine inBlockA_ret ?_
        refine thenA_ret ?_
        refine thenA_ret ?_
        refine inBlockA_ret ?_
        refine thenA_ret ?_
        refine RetQ.gc [_, _, _] [77000] [.tmp 4, .tmp 5, .tmp 6] (.inl rfl) rfl (.tmp rfl (.tmp rfl (.tmp rfl .nil))) rfl (.nilS (.cons rfl rfl (.cons rfl rfl .nil))) (OutL.whole rfl rfl (OkL.all rfl) (by intro h; exact h.elim id fun h => absurd h.1 (by simp)) (OutL.whole rfl rfl (OkL.all rfl) (by intro h; exact h.elim id fun h => absurd h.1 (by simp)) (OutL.flat rfl (flat1 rfl) (fun _ => rfl) (OutL.flat rfl (flatM flat_vi) (by intro h; exact h.elim id fun h => absurd h.1 (by simp)) (OutL.part rfl (by simp) (by simp) (fun _ => rfl) (by simp) trivial))))) (by decide) rfl
      ·
        have hc0 : sC L (c + mS L c i) = 0 := by simpa using hb1
        refine AW.skip ?_
        refine thenA_normal ?_
        refine AW.region ?_
        refine AWo.pure (PureOp.move rfl) rfl rfl ?_
        first | refine AWo.loadAll tbok rfl rfl rfl rfl (by first | (simp [*]; done) | rfl) rfl rfl ?_ | refine AWo.loadAgg tbok rfl rfl rfl rfl (by first | decide | omega) rfl rfl rfl ?_
        refine AWo.buildSlice tbok 32000 [(0, .agg ((sE L (c + mS L c i)).map (vi .u64)).toArray)] (out := [sE L (c + mS L c i)].flatten.map (vi .u64)) rfl rfl (by decide) rfl rfl rfl (by decide) rfl (fillB1 (sE_len _ _)) rfl rfl rfl ?_
        refine AWo.append tbok (all := (mEls L c (i + 1)).flatten.map (vi .u64)) (news := [sE L (c + mS L c i)].flatten.map (vi .u64)) 33000 rfl rfl rfl rfl (by rw [List.length_map, mEls_flat]) (by show List.take _ (List.drop 0 _) = _; rw [List.drop_zero]; exact List.take_of_length_le (by simp [sE_len])) (by first | decide | (simp; done) | (simp; omega)) (by decide) rfl rfl rfl (by decide) rfl rfl rfl (by first | decide | omega) (by first | decide | omega) (by first | exact oneM (fun _ => rfl) _ | (simp; done)) (by rw [mEls_succ, ← List.map_append, ← List.flatten_append]) rfl rfl ?_
        refine AWo.pure (PureOp.assign rfl) rfl rfl ?_
        refine AWo.nil trivial ?_
        refine inBlockA_normal ?_
        refine thenA_normal ?_
        refine AW.region ?_
        first | refine AWo.pure (PureOp.addI (b := 1) rfl rfl (by first | decide | omega)) rfl rfl ?_ | refine AWo.pure (PureOp.bin rfl rfl rfl) rfl rfl ?_
        refine AWo.pure (PureOp.move rfl) rfl rfl ?_
        refine AWo.nil trivial ?_
        refine thenA_normal ?_
        refine ⟨n - (i + 1), [(77000, 33000)], _, by omega, ?_, i + 1, ⟨by omega, fun j hj => by rcases (by omega : j < i ∨ j = i) with h | rfl; exact hok j h; exact hc0⟩, rfl, rfl⟩
        refine Wk.of [0, 1, 2, 3, 77000] ?_ ?_ ?_ (by decide) rfl
        ·
          refine WkE.upd rfl (by first | exact VR.flat _ rfl | exact VR.eqv (vp_succ _) rfl | exact VR.eqv (vp_succ _).symm rfl | exact VR.eqv (by first | rfl | (congr 1; omega) | (simp; done) | (simp; omega)) rfl) ?_
          refine WkE.upd rfl (by first | exact VR.flat _ rfl | exact VR.eqv (vp_succ _) rfl | exact VR.eqv (vp_succ _).symm rfl | exact VR.eqv (by first | rfl | (congr 1; omega) | (simp; done) | (simp; omega)) rfl) ?_
          refine WkE.upd rfl (by first | exact VR.flat _ rfl | exact VR.eqv (vp_succ _) rfl | exact VR.eqv (vp_succ _).symm rfl | exact VR.eqv (by first | rfl | (congr 1; omega) | (simp; done) | (simp; omega)) rfl) ?_
          refine WkE.upd rfl (by first | exact .nilS _ (by simp) | exact .slice (77000) 0 _ 0 ⟨_, rfl⟩ (by simp) (by simp)) ?_
          refine WkE.upd rfl (okVI_rel (ids := [0, 1]) (by simp) rfl (dom_all rfl) rfl) ?_
          exact WkE.emp
        ·
          refine WkM.flatM rfl (by first | rfl | assumption | simp) (fun _ => rfl) (fun h => h) ?_
          refine WkM.flat rfl (flatM flat_vi) (fun h => h) ?_
          refine WkM.refl rfl (flat1 rfl) (fun h => h) ?_
          refine WkM.ren [3] rfl rfl rfl (dom_all rfl) (fun h => h) ?_
          refine WkM.ren [2] rfl rfl rfl (dom_all rfl) (fun h => h) ?_
          exact WkM.emp
        ·
          repeat (refine dom_upd_mem (by decide) ?_)
          exact dom_emp
    ·
      have hi : n = i := by simp at hb0; omega
      subst hi
      obtain ⟨e1, e2, e3⟩ := m_all hok
      rw [e1, e2, e3, mEls_len]
      refine AW.exit ?_
      refine thenA_exit ?_
      refine thenA_exit ?_
      refine inBlockA_hit ?_
      refine thenA_normal ?_
      refine AW.seqR ?_
      refine AWo.pure (PureOp.move rfl) rfl rfl ?_
      refine AWo.pure (PureOp.move rfl) rfl rfl ?_
      refine AWo.pure (PureOp.assign rfl) rfl rfl ?_
      refine AWo.pure (PureOp.assign rfl) rfl rfl ?_
      refine AWo.pure (PureOp.assign rfl) rfl rfl ?_
      refine AWo.nil trivial ?_
      refine AW.ret ?_
      refine RetQ.gc [_, _, _] [77000] [.tmp 4, .tmp 5, .tmp 6] (.inl rfl) rfl (.tmp rfl (.tmp rfl (.tmp rfl .nil))) rfl (.cons rfl rfl (.cons rfl rfl (.cons rfl rfl .nil))) (OutL.whole rfl rfl (OkL.all rfl) (by intro h; exact h.elim id fun h => absurd h.1 (by simp)) (OutL.whole rfl rfl (OkL.all rfl) (by intro h; exact h.elim id fun h => absurd h.1 (by simp)) (OutL.flat rfl (flat1 rfl) (fun _ => rfl) (OutL.flat rfl (flatM flat_vi) (by intro h; exact h.elim id fun h => absurd h.1 (by simp)) (OutL.flat rfl (flatM flat_vi) (fun _ => rfl) trivial))))) (by decide) rfl

set_option maxRecDepth 10000 in
theorem many_ok {L : List (List Nat)} {m n : Nat} (hL : okL L) (h0 : 0 < L.length) (hl : L.length ≤ 60) (hm : m < 256) (hn : m % 20 = n) (hok : ∀ j, j < n → sC L (0 + mS L 0 j) = 0) : GC Try.prog 6 [.slice (some ⟨0, 0, none⟩) L.length 0, vi .u8 m] [⟨L.flatten.map (vi .u8), false, 32⟩] [.bool true] [⟨L.flatten.map (vi .u8), false, 32⟩] := by
  refine GC.intro Try.func6 rfl (by show 2 ≤ 111; decide) (by first | exact Nat.le_refl _ | decide | simp) ?_
  have hfE := fbE_len
  have hSE := sE_len
  refine AW.seqR ?_
  refine AWo.pure (PureOp.assign rfl) rfl rfl ?_
  refine AWo.nil trivial ?_
  refine AW.seq ?_
  refine AW.seqR ?_
  refine AWo.callX (sspeaks_ctr) bd33 [] [] rfl .nil rfl .nil .nil rfl .nil frN (by decide) (.cons rfl rfl .nil) rfl rfl rfl rfl ?_
  first | refine AWo.pure ((PureOp.not rfl).mono (v' := .bool false) rfl) rfl rfl ?_
  refine AWo.pure (PureOp.move rfl) rfl rfl ?_
  refine AWo.pure (PureOp.move rfl) rfl rfl ?_
  refine AWo.pure (PureOp.lenS tbok rfl rfl) rfl rfl ?_
  first | refine AWo.pure ((PureOp.eqN (b := 0) rfl rfl).mono (v' := .bool false) (congrArg Value.bool (beq_eq_false_iff_ne.2 (by omega)))) rfl rfl ?_ | refine AWo.pure ((PureOp.bin rfl rfl rfl).mono (v' := .bool false) (congrArg Value.bool (beq_eq_false_iff_ne.2 (by omega)))) rfl rfl ?_
  refine AWo.pure (PureOp.pickF rfl rfl) rfl rfl ?_
  refine AWo.pure (PureOp.move rfl) rfl rfl ?_
  refine AWo.pure (PureOp.move rfl) rfl rfl ?_
  refine AWo.pure (PureOp.lenS tbok rfl rfl) rfl rfl ?_
  first | refine AWo.pure (PureOp.gtN (b := 60) rfl rfl) rfl rfl ?_ | refine AWo.pure (PureOp.bin rfl rfl rfl) rfl rfl ?_
  refine AWo.pure (PureOp.pickF rfl rfl) rfl rfl ?_
  refine AWo.nil trivial ?_
  refine AW.cond rfl (fun hb0 => ?_) (fun hb0 => ?_)
  ·
    refine AW.seqR ?_
    refine AWo.callX (sspeaks_ctr) bd33 [] [] rfl .nil rfl .nil .nil rfl .nil frN (by decide) (.cons rfl rfl .nil) rfl rfl rfl rfl ?_
    refine AWo.pure (PureOp.assign rfl) rfl rfl ?_
    refine AWo.nil trivial ?_
    refine AW.ret ?_
    refine thenA_ret ?_
    refine RetQ.gc [_] [] [.tmp 4] (.inl rfl) rfl (.tmp rfl .nil) rfl (.cons rfl (by first | rfl | (simp [ren, ren1]; done)) .nil) (OutL.flat rfl (flatM flat_vi) (by intro h; exact h.elim id fun h => absurd h.1 (by simp)) trivial) (by decide) rfl
  ·
    refine AW.skip ?_
    refine thenA_normal ?_
    refine AW.seqR ?_
    refine AWo.pure (PureOp.move rfl) rfl rfl ?_
    refine AWo.pure (PureOp.cvtN tbok 9223372036854775808 rfl rfl rfl (by decide) (by decide) (by omega)) rfl rfl ?_
    first | refine AWo.pure ((PureOp.remN (b := 20) rfl rfl (by first | decide | omega)).mono (v' := vi .i64 n) (congrArg (vi .i64) hn)) rfl rfl ?_ | refine AWo.pure ((PureOp.rem rfl rfl (by first | decide | omega)).mono (v' := vi .i64 n) (congrArg (vi .i64) hn)) rfl rfl ?_
    refine AWo.pure (PureOp.assign rfl) rfl rfl ?_
    refine AWo.nil trivial ?_
    refine AW.seqR ?_
    refine AWo.alloc tbok 7000 1 _ rfl rfl rfl rfl rfl rfl ?_
    refine AWo.alloc tbok 8000 1 _ rfl rfl rfl rfl rfl rfl ?_
    refine AWo.store1 tbok rfl rfl rfl rfl rfl Nat.zero_lt_one rfl rfl ?_
    refine AWo.store1 tbok rfl rfl rfl rfl rfl Nat.zero_lt_one rfl rfl ?_
    refine AWo.pure (PureOp.assign rfl) rfl rfl ?_
    refine AWo.nil trivial ?_
    obtain ⟨e1, e2, e3⟩ := m_all hok
    refine AW.seqR ?_
    refine AWo.pure (PureOp.move rfl) rfl rfl ?_
    refine AWo.pure (PureOp.move rfl) rfl rfl ?_
    refine AWo.callX (rounds_ctr (L := L) (c := 0)) bd38 [(0, 0), (7000, 0)] [37000, 37001] rfl (.cons rfl (.cons rfl .nil)) rfl (.cons rfl rfl (.cons rfl rfl .nil)) (.flat rfl (flatM flat_vi) (by intro h; first | exact h | rfl) (.flat rfl (flat1 rfl) (by intro h; first | exact h | rfl) .nil)) rfl (.keep rfl (.keep rfl (.new rfl (OkL.all rfl) (.new rfl (OkL.all rfl) .nil)))) (frC rfl (frC rfl frN)) (by decide) (.cons rfl rfl .nil) rfl rfl rfl rfl ?_
    refine AWo.callX (fields_ctr (z := (n : Nat)) (c := 0) (n := n) hL h0 (by decide) (by omega) (by omega)) bd41 [(37000, 0), (37001, 0), (7000, 0), (0, 0)] [38000] rfl (.cons rfl (.cons rfl .nil)) rfl (.cons rfl rfl (.cons rfl rfl .nil)) (.whole rfl rfl (OkL.all rfl) (by intro h; first | exact h | rfl) (.whole rfl rfl (OkL.all rfl) (by intro h; first | exact h | rfl) (.flat rfl (flat1 rfl) (fun h => h) (.flat rfl (flatM flat_vi) (by intro h; first | exact h | rfl) .nil)))) rfl (.keep rfl (.keep rfl (.chg rfl rfl (flat_map_ren (flat1 rfl)) (OkL.flat (flat1 rfl)) (.keep rfl (.new (flat_map_ren (flatM flat_vi)) (OkL.flat (flatM flat_vi)) .nil))))) (frC rfl frN) (by decide) (.cons rfl rfl (.cons rfl rfl (.cons rfl rfl .nil))) rfl rfl rfl rfl ?_
    refine AWo.pure (PureOp.move rfl) rfl rfl ?_
    refine AWo.pure (PureOp.extract rfl rfl) rfl rfl ?_
    refine AWo.pure (PureOp.extract rfl rfl) rfl rfl ?_
    refine AWo.pure (PureOp.extract rfl rfl) rfl rfl ?_
    refine AWo.pure (PureOp.assign rfl) rfl rfl ?_
    refine AWo.pure (PureOp.assign rfl) rfl rfl ?_
    refine AWo.pure (PureOp.assign rfl) rfl rfl ?_
    refine AWo.nil trivial ?_
    refine AW.seqR ?_
    refine AWo.pure (PureOp.move rfl) rfl rfl ?_
    refine AWo.callX (rounds_ctr (L := L) (c := 0)) bd38 [(0, 0), (8000, 0)] [43000, 43001] rfl (.cons rfl (.cons rfl .nil)) rfl (.cons rfl rfl (.cons rfl rfl .nil)) (.flat rfl (flatM flat_vi) (by intro h; first | exact h | rfl) (.flat rfl (flat1 rfl) (by intro h; first | exact h | rfl) .nil)) rfl (.keep rfl (.keep rfl (.new rfl (OkL.all rfl) (.new rfl (OkL.all rfl) .nil)))) (frC rfl (frC rfl frN)) (by decide) (.cons rfl rfl .nil) rfl rfl rfl rfl ?_
    refine AWo.pure (PureOp.assign rfl) rfl rfl ?_
    refine AWo.nil trivial ?_
    refine AW.seq ?_
    refine AW.seqR ?_
    refine AWo.pure (PureOp.move rfl) rfl rfl ?_
    refine AWo.pure (PureOp.move rfl) rfl rfl ?_
    refine AWo.nil trivial ?_
    refine AW.block ?_
    refine AW.loopw (fun mm σ => ∃ i, (i ≤ n) ∧ mm = n - i ∧ σ = ⟨(upd (upd (upd (upd (upd (upd (upd (upd (upd (upd emp 5 (vi .i64 n)) 6 (.pointer (some ⟨7000, 0, none⟩))) 7 (.pointer (some ⟨8000, 0, none⟩))) 9 (.slice (some ⟨38000, 0, none⟩) (fL L 0 n).length 0)) 10 (vi .i64 (fK L 0 n))) 11 (.int .i64 (fC L 0 n))) 12 (.func (.func 116) #[] #[.pointer (some ⟨43000, 0, none⟩), .pointer (some ⟨43001, 0, none⟩)])) 8 (vi .i64 (mS L 0 i))) 43 (vi .i64 n)) 44 (vi .i64 i)), (upd (upd (upd (upd (upd (upd emp 0 ⟨L.flatten.map (vi .u8), false, 32⟩) 7000 ⟨[vi .i64 (0 + fK L 0 n)], true, 1⟩) 8000 ⟨[vi .i64 (0 + mS L 0 i)], true, 1⟩) 38000 ⟨(fL L 0 n).flatten.map (vi .u64), true, 4⟩) 43000 ⟨[.pointer (some ⟨8000, 0, none⟩)], true, 1⟩) 43001 ⟨[.slice (some ⟨0, 0, none⟩) L.length 0], true, 1⟩)⟩) (fm := []) ?_ ⟨0, Nat.zero_le _, rfl, rfl⟩ ?_
    ·
      refine Wk.of [0, 7000, 8000, 38000, 43000, 43001] ?_ ?_ ?_ (by decide) rfl
      ·
        refine WkE.upd rfl (by first | exact VR.flat _ rfl | exact VR.eqv (vp_succ _) rfl | exact VR.eqv (vp_succ _).symm rfl | exact VR.eqv (by first | rfl | (congr 1; omega) | (simp; done) | (simp; omega)) rfl) ?_
        refine WkE.upd rfl (by first | exact VR.flat _ rfl | exact VR.eqv (vp_succ _) rfl | exact VR.eqv (vp_succ _).symm rfl | exact VR.eqv (by first | rfl | (congr 1; omega) | (simp; done) | (simp; omega)) rfl) ?_
        refine WkE.upd rfl (by first | exact VR.flat _ rfl | exact VR.eqv (vp_succ _) rfl | exact VR.eqv (vp_succ _).symm rfl | exact VR.eqv (by first | rfl | (congr 1; omega) | (simp; done) | (simp; omega)) rfl) ?_
        refine WkE.upd rfl (okVI_rel (ids := [43000, 43001]) (by simp) rfl (dom_all rfl) rfl) ?_
        refine WkE.upd rfl (by first | exact VR.flat _ rfl | exact VR.eqv (vp_succ _) rfl | exact VR.eqv (vp_succ _).symm rfl | exact VR.eqv (by first | rfl | (congr 1; omega) | (simp; done) | (simp; omega)) rfl) ?_
        refine WkE.upd rfl (by first | exact VR.flat _ rfl | exact VR.eqv (vp_succ _) rfl | exact VR.eqv (vp_succ _).symm rfl | exact VR.eqv (by first | rfl | (congr 1; omega) | (simp; done) | (simp; omega)) rfl) ?_
        refine WkE.upd rfl (.slice (38000) 0 _ 0 ⟨_, rfl⟩ (by simp) (by simp)) ?_
        refine WkE.upd rfl (.ptr (8000) 0 ⟨_, rfl⟩) ?_
        refine WkE.upd rfl (.ptr (7000) 0 ⟨_, rfl⟩) ?_
        refine WkE.upd rfl (by first | exact VR.flat _ rfl | exact VR.eqv (vp_succ _) rfl | exact VR.eqv (vp_succ _).symm rfl | exact VR.eqv (by first | rfl | (congr 1; omega) | (simp; done) | (simp; omega)) rfl) ?_
        exact WkE.emp
      ·
        refine WkM.ren [0] rfl rfl rfl (dom_all rfl) (fun h => h) ?_
        refine WkM.ren [8000] rfl rfl rfl (dom_all rfl) (fun h => h) ?_
        refine WkM.flat rfl (flatM flat_vi) (fun h => h) ?_
        refine WkM.refl rfl (flat1 rfl) (fun h => h) ?_
        refine WkM.refl rfl (flat1 rfl) (fun h => h) ?_
        refine WkM.flat rfl (flatM flat_vi) (fun h => h) ?_
        exact WkM.emp
      ·
        repeat (refine dom_upd_mem (by decide) ?_)
        exact dom_emp
    ·
      rintro mm σ ⟨i, hinv, rfl, rfl⟩
      have hms := mS_le L 0 i
      have hsk := sK_le L (0 + mS L 0 i)
      have hsl := sE_len L (0 + mS L 0 i)
      refine AW.seqR ?_
      first | refine AWo.pure (PureOp.ltN rfl rfl) rfl rfl ?_ | refine AWo.pure (PureOp.bin rfl rfl rfl) rfl rfl ?_
      refine AWo.nil trivial ?_
      refine AW.seq ?_
      refine AW.cond rfl (fun hb1 => ?_) (fun hb1 => ?_)
      ·
        have hi : i < n := by simpa using hb1
        refine AW.skip ?_
        refine thenA_normal ?_
        refine AW.seq ?_
        refine AW.block ?_
        refine AW.seqR ?_
        refine AWo.pure (PureOp.move rfl) rfl rfl ?_
        refine AWo.pure (PureOp.assign rfl) rfl rfl ?_
        refine AWo.nil trivial ?_
        refine AW.seqR ?_
        refine AWo.pure (PureOp.move rfl) rfl rfl ?_
        refine AWo.callX (field_ctr (c := 0 + mS L 0 i) hL h0 (by omega)) bd37 [(43000, 0), (43001, 0), (8000, 0), (0, 0)] [] rfl (.cons rfl .nil) rfl (.cons rfl rfl .nil) (.whole rfl rfl (OkL.all rfl) (by intro h; first | exact h | rfl) (.whole rfl rfl (OkL.all rfl) (by intro h; first | exact h | rfl) (.flat rfl (flat1 rfl) (fun h => h) (.flat rfl (flatM flat_vi) (by intro h; first | exact h | rfl) .nil)))) rfl (.keep rfl (.keep rfl (.chg rfl rfl (flat_map_ren (flat1 rfl)) (OkL.flat (flat1 rfl)) (.keep rfl .nil)))) frN (by decide) (.pure (pure_aggM flat_vi) (.cons rfl rfl (.cons rfl rfl .nil))) rfl rfl rfl rfl ?_
        refine AWo.pure (PureOp.move rfl) rfl rfl ?_
        refine AWo.pure (PureOp.extract rfl rfl) rfl rfl ?_
        refine AWo.pure (PureOp.extract rfl rfl) rfl rfl ?_
        refine AWo.pure (PureOp.extract rfl rfl) rfl rfl ?_
        refine AWo.alloc tbok 15000 1 _ rfl rfl rfl rfl rfl rfl ?_
        refine AWo.storeAllN tbok rfl rfl rfl rfl (by first | (simp [*]; done) | rfl) (by first | (simp [*]; done) | rfl) (by first | exact oneM (fun _ => rfl) _ | rfl | (simp; done)) rfl ?_
        refine AWo.pure (PureOp.assign rfl) rfl rfl ?_
        refine AWo.pure (PureOp.assign rfl) rfl rfl ?_
        refine AWo.nil trivial ?_
        rw [show 0 + mS L 0 i + sK L (0 + mS L 0 i) = 0 + mS L 0 (i + 1) from Nat.add_assoc _ _ _]
        refine AW.seqR ?_
        refine AWo.pure (PureOp.move rfl) rfl rfl ?_
        refine AWo.pure (PureOp.move rfl) rfl rfl ?_
        refine AWo.pure ((PureOp.addI rfl rfl (by omega)).mono (v' := vi .i64 (mS L 0 (i + 1))) rfl) rfl rfl ?_
        refine AWo.pure (PureOp.assign rfl) rfl rfl ?_
        refine AWo.nil trivial ?_
        refine AW.seq ?_
        refine AW.seqR ?_
        refine AWo.pure (PureOp.move rfl) rfl rfl ?_
        first | refine AWo.pure ((PureOp.neN (b := 0) rfl rfl).mono (v' := .bool false) (by rw [hok i hi]; rfl)) rfl rfl ?_ | refine AWo.pure ((PureOp.bin rfl rfl rfl).mono (v' := .bool false) (by rw [hok i hi]; rfl)) rfl rfl ?_
        refine AWo.nil trivial ?_
        refine AW.condF rfl ?_
        refine AW.skip ?_
        refine thenA_normal ?_
        refine AW.seqD mixed ?_
        refine AWo.pure (PureOp.move rfl) rfl rfl ?_
        first | refine AWo.pure ((PureOp.eqN (b := 0) rfl rfl).mono (v' := .bool true) (by rw [e3]; rfl)) rfl rfl ?_ | refine AWo.pure ((PureOp.bin rfl rfl rfl).mono (v' := .bool true) (by rw [e3]; rfl)) rfl rfl ?_
        refine AWo.pure (PureOp.move rfl) rfl rfl ?_
        refine AWo.pure (PureOp.move rfl) rfl rfl ?_
        refine AWo.pure (PureOp.lenS tbok rfl rfl) rfl rfl ?_
        refine AWo.pure (PureOp.move rfl) rfl rfl ?_
        first | refine AWo.pure ((PureOp.neN rfl rfl).mono (v' := .bool false) (by rw [e1, mEls_len]; simp)) rfl rfl ?_ | refine AWo.pure ((PureOp.bin rfl rfl rfl).mono (v' := .bool false) (by rw [e1, mEls_len]; simp)) rfl rfl ?_
        refine AWo.pure (PureOp.move rfl) rfl rfl ?_
        refine AWo.pure (PureOp.move rfl) rfl rfl ?_
        refine AWo.pure (PureOp.move rfl) rfl rfl ?_
        refine AWo.pure (PureOp.idxN tbok (j := i) rfl rfl rfl rfl (by rw [e1, mEls_len]; exact hi)) rfl rfl ?_
        refine AWo.loadAgg tbok (vs := (sE L (0 + mS L 0 i)).map (vi .u64)) rfl rfl rfl rfl (els_room e1 hi) (els_at e1 hi) rfl rfl ?_
        first | refine AWo.loadAll tbok rfl rfl rfl rfl (by first | (simp [*]; done) | rfl) rfl rfl ?_ | refine AWo.loadAgg tbok rfl rfl rfl rfl (by first | decide | omega) rfl rfl rfl ?_
        refine AWo.callX (v := .bool true) (equal_ctr (a := sE L (0 + mS L 0 i)) (b := sE L (0 + mS L 0 i)) hsl hsl) bd40 [] [] rfl (.cons rfl (.cons rfl .nil)) rfl (.pure (by first | rfl | exact pure_aggM flat_vi | exact pure_aggM flat_bool) (.pure (by first | rfl | exact pure_aggM flat_vi | exact pure_aggM flat_bool) .nil)) .nil rfl .nil frN (by decide) (.cons rfl rfl .nil) (congrArg Value.bool (decide_eq_true rfl)) rfl rfl rfl ?_
        first | refine AWo.pure ((PureOp.not rfl).mono (v' := .bool false) rfl) rfl rfl ?_
        refine AWo.pure (PureOp.pickF rfl rfl) rfl rfl ?_
        refine AWo.pure (PureOp.pickT rfl rfl) rfl rfl ?_
        refine AWo.nil (by kernel_rfl) ?_
        refine AW.condF rfl ?_
        refine AW.skip ?_
        refine inBlockA_normal ?_
        refine thenA_normal ?_
        refine AW.region ?_
        first | refine AWo.pure (PureOp.addI (b := 1) rfl rfl (by first | decide | omega)) rfl rfl ?_ | refine AWo.pure (PureOp.bin rfl rfl rfl) rfl rfl ?_
        refine AWo.pure (PureOp.move rfl) rfl rfl ?_
        refine AWo.nil trivial ?_
        refine thenA_normal ?_
        refine ⟨n - (i + 1), [], _, by omega, ?_, i + 1, by omega, rfl, rfl⟩
        refine Wk.of [0, 7000, 8000, 38000, 43000, 43001] ?_ ?_ ?_ (by decide) rfl
        ·
          refine WkE.upd rfl (by first | exact VR.flat _ rfl | exact VR.eqv (vp_succ _) rfl | exact VR.eqv (vp_succ _).symm rfl | exact VR.eqv (by first | rfl | (congr 1; omega) | (simp; done) | (simp; omega)) rfl) ?_
          refine WkE.upd rfl (by first | exact VR.flat _ rfl | exact VR.eqv (vp_succ _) rfl | exact VR.eqv (vp_succ _).symm rfl | exact VR.eqv (by first | rfl | (congr 1; omega) | (simp; done) | (simp; omega)) rfl) ?_
          refine WkE.upd rfl (by first | exact VR.flat _ rfl | exact VR.eqv (vp_succ _) rfl | exact VR.eqv (vp_succ _).symm rfl | exact VR.eqv (by first | rfl | (congr 1; omega) | (simp; done) | (simp; omega)) rfl) ?_
          refine WkE.upd rfl (okVI_rel (ids := [43000, 43001]) (by simp) rfl (dom_all rfl) rfl) ?_
          refine WkE.upd rfl (by first | exact VR.flat _ rfl | exact VR.eqv (vp_succ _) rfl | exact VR.eqv (vp_succ _).symm rfl | exact VR.eqv (by first | rfl | (congr 1; omega) | (simp; done) | (simp; omega)) rfl) ?_
          refine WkE.upd rfl (by first | exact VR.flat _ rfl | exact VR.eqv (vp_succ _) rfl | exact VR.eqv (vp_succ _).symm rfl | exact VR.eqv (by first | rfl | (congr 1; omega) | (simp; done) | (simp; omega)) rfl) ?_
          refine WkE.upd rfl (.slice (38000) 0 _ 0 ⟨_, rfl⟩ (by simp) (by simp)) ?_
          refine WkE.upd rfl (.ptr (8000) 0 ⟨_, rfl⟩) ?_
          refine WkE.upd rfl (.ptr (7000) 0 ⟨_, rfl⟩) ?_
          refine WkE.upd rfl (by first | exact VR.flat _ rfl | exact VR.eqv (vp_succ _) rfl | exact VR.eqv (vp_succ _).symm rfl | exact VR.eqv (by first | rfl | (congr 1; omega) | (simp; done) | (simp; omega)) rfl) ?_
          exact WkE.emp
        ·
          refine WkM.ren [0] rfl rfl rfl (dom_all rfl) (fun h => h) ?_
          refine WkM.ren [8000] rfl rfl rfl (dom_all rfl) (fun h => h) ?_
          refine WkM.flat rfl (flatM flat_vi) (fun h => h) ?_
          refine WkM.refl rfl (flat1 rfl) (fun h => h) ?_
          refine WkM.refl rfl (flat1 rfl) (fun h => h) ?_
          refine WkM.flat rfl (flatM flat_vi) (fun h => h) ?_
          exact WkM.emp
        ·
          repeat (refine dom_upd_mem (by decide) ?_)
          exact dom_emp
      ·
        have hi : n = i := by simp at hb1; omega
        subst hi
        refine AW.exit ?_
        refine thenA_exit ?_
        refine thenA_exit ?_
        refine inBlockA_hit ?_
        refine thenA_normal ?_
        refine AW.seqR ?_
        refine AWo.pure (PureOp.move rfl) rfl rfl ?_
        first | refine AWo.pure ((PureOp.eqN (b := 0) rfl rfl).mono (v' := .bool true) (by rw [e3]; rfl)) rfl rfl ?_ | refine AWo.pure ((PureOp.bin rfl rfl rfl).mono (v' := .bool true) (by rw [e3]; rfl)) rfl rfl ?_
        refine AWo.pure (PureOp.move rfl) rfl rfl ?_
        refine AWo.pure (PureOp.move rfl) rfl rfl ?_
        refine AWo.pure (PureOp.move rfl) rfl rfl ?_
        first | refine AWo.pure ((PureOp.eqN rfl rfl).mono (v' := .bool true) (by rw [e2]; simp)) rfl rfl ?_ | refine AWo.pure ((PureOp.bin rfl rfl rfl).mono (v' := .bool true) (by rw [e2]; simp)) rfl rfl ?_
        refine AWo.pure (PureOp.pickT rfl rfl) rfl rfl ?_
        refine AWo.pure (PureOp.move rfl) rfl rfl ?_
        first | refine AWo.loadM tbok 0 rfl rfl rfl (by first | decide | omega) rfl rfl ?_ | refine AWo.load tbok rfl rfl rfl rfl rfl rfl ?_
        first | refine AWo.loadM tbok 0 rfl rfl rfl (by first | decide | omega) rfl rfl ?_ | refine AWo.load tbok rfl rfl rfl rfl rfl rfl ?_
        first | refine AWo.pure ((PureOp.eqN rfl rfl).mono (v' := .bool true) (by rw [e2]; simp)) rfl rfl ?_ | refine AWo.pure ((PureOp.bin rfl rfl rfl).mono (v' := .bool true) (by rw [e2]; simp)) rfl rfl ?_
        refine AWo.pure (PureOp.pickT rfl rfl) rfl rfl ?_
        refine AWo.pure (PureOp.move rfl) rfl rfl ?_
        first | refine AWo.loadM tbok 0 rfl rfl rfl (by first | decide | omega) rfl rfl ?_ | refine AWo.load tbok rfl rfl rfl rfl rfl rfl ?_
        refine AWo.pure (PureOp.move rfl) rfl rfl ?_
        first | refine AWo.pure ((PureOp.eqN rfl rfl).mono (v' := .bool true) (by rw [e2]; simp)) rfl rfl ?_ | refine AWo.pure ((PureOp.bin rfl rfl rfl).mono (v' := .bool true) (by rw [e2]; simp)) rfl rfl ?_
        refine AWo.pure (PureOp.pickT rfl rfl) rfl rfl ?_
        refine AWo.pure (PureOp.assign rfl) rfl rfl ?_
        refine AWo.nil trivial ?_
        refine AW.ret ?_
        refine RetQ.gc [_] [] [.tmp 4] (.inl rfl) rfl (.tmp rfl .nil) rfl (.cons rfl (by first | rfl | (simp [ren, ren1]; done)) .nil) (OutL.flat rfl (flatM flat_vi) (by intro h; exact h.elim id fun h => absurd h.1 (by simp)) trivial) (by decide) rfl

set_option maxRecDepth 10000 in
theorem many_fail {L : List (List Nat)} {m n j0 : Nat} (hL : okL L) (h0 : 0 < L.length) (hl : L.length ≤ 60) (hm : m < 256) (hn : m % 20 = n) (hj0 : j0 < n) (hok : ∀ j, j < j0 → sC L (0 + mS L 0 j) = 0) (hne : sC L (0 + mS L 0 j0) ≠ 0) : GC Try.prog 6 [.slice (some ⟨0, 0, none⟩) L.length 0, vi .u8 m] [⟨L.flatten.map (vi .u8), false, 32⟩] [.bool true] [⟨L.flatten.map (vi .u8), false, 32⟩] := by
  refine GC.intro Try.func6 rfl (by show 2 ≤ 111; decide) (by first | exact Nat.le_refl _ | decide | simp) ?_
  have hfE := fbE_len
  have hSE := sE_len
  refine AW.seqR ?_
  refine AWo.pure (PureOp.assign rfl) rfl rfl ?_
  refine AWo.nil trivial ?_
  refine AW.seq ?_
  refine AW.seqR ?_
  refine AWo.callX (sspeaks_ctr) bd33 [] [] rfl .nil rfl .nil .nil rfl .nil frN (by decide) (.cons rfl rfl .nil) rfl rfl rfl rfl ?_
  first | refine AWo.pure ((PureOp.not rfl).mono (v' := .bool false) rfl) rfl rfl ?_
  refine AWo.pure (PureOp.move rfl) rfl rfl ?_
  refine AWo.pure (PureOp.move rfl) rfl rfl ?_
  refine AWo.pure (PureOp.lenS tbok rfl rfl) rfl rfl ?_
  first | refine AWo.pure ((PureOp.eqN (b := 0) rfl rfl).mono (v' := .bool false) (congrArg Value.bool (beq_eq_false_iff_ne.2 (by omega)))) rfl rfl ?_ | refine AWo.pure ((PureOp.bin rfl rfl rfl).mono (v' := .bool false) (congrArg Value.bool (beq_eq_false_iff_ne.2 (by omega)))) rfl rfl ?_
  refine AWo.pure (PureOp.pickF rfl rfl) rfl rfl ?_
  refine AWo.pure (PureOp.move rfl) rfl rfl ?_
  refine AWo.pure (PureOp.move rfl) rfl rfl ?_
  refine AWo.pure (PureOp.lenS tbok rfl rfl) rfl rfl ?_
  first | refine AWo.pure (PureOp.gtN (b := 60) rfl rfl) rfl rfl ?_ | refine AWo.pure (PureOp.bin rfl rfl rfl) rfl rfl ?_
  refine AWo.pure (PureOp.pickF rfl rfl) rfl rfl ?_
  refine AWo.nil trivial ?_
  refine AW.cond rfl (fun hb0 => ?_) (fun hb0 => ?_)
  ·
    refine AW.seqR ?_
    refine AWo.callX (sspeaks_ctr) bd33 [] [] rfl .nil rfl .nil .nil rfl .nil frN (by decide) (.cons rfl rfl .nil) rfl rfl rfl rfl ?_
    refine AWo.pure (PureOp.assign rfl) rfl rfl ?_
    refine AWo.nil trivial ?_
    refine AW.ret ?_
    refine thenA_ret ?_
    refine RetQ.gc [_] [] [.tmp 4] (.inl rfl) rfl (.tmp rfl .nil) rfl (.cons rfl (by first | rfl | (simp [ren, ren1]; done)) .nil) (OutL.flat rfl (flatM flat_vi) (by intro h; exact h.elim id fun h => absurd h.1 (by simp)) trivial) (by decide) rfl
  ·
    refine AW.skip ?_
    refine thenA_normal ?_
    refine AW.seqR ?_
    refine AWo.pure (PureOp.move rfl) rfl rfl ?_
    refine AWo.pure (PureOp.cvtN tbok 9223372036854775808 rfl rfl rfl (by decide) (by decide) (by omega)) rfl rfl ?_
    first | refine AWo.pure ((PureOp.remN (b := 20) rfl rfl (by first | decide | omega)).mono (v' := vi .i64 n) (congrArg (vi .i64) hn)) rfl rfl ?_ | refine AWo.pure ((PureOp.rem rfl rfl (by first | decide | omega)).mono (v' := vi .i64 n) (congrArg (vi .i64) hn)) rfl rfl ?_
    refine AWo.pure (PureOp.assign rfl) rfl rfl ?_
    refine AWo.nil trivial ?_
    refine AW.seqR ?_
    refine AWo.alloc tbok 7000 1 _ rfl rfl rfl rfl rfl rfl ?_
    refine AWo.alloc tbok 8000 1 _ rfl rfl rfl rfl rfl rfl ?_
    refine AWo.store1 tbok rfl rfl rfl rfl rfl Nat.zero_lt_one rfl rfl ?_
    refine AWo.store1 tbok rfl rfl rfl rfl rfl Nat.zero_lt_one rfl rfl ?_
    refine AWo.pure (PureOp.assign rfl) rfl rfl ?_
    refine AWo.nil trivial ?_
    obtain ⟨e1, e2, e3⟩ := m_fail hj0 hok hne
    refine AW.seqR ?_
    refine AWo.pure (PureOp.move rfl) rfl rfl ?_
    refine AWo.pure (PureOp.move rfl) rfl rfl ?_
    refine AWo.callX (rounds_ctr (L := L) (c := 0)) bd38 [(0, 0), (7000, 0)] [37000, 37001] rfl (.cons rfl (.cons rfl .nil)) rfl (.cons rfl rfl (.cons rfl rfl .nil)) (.flat rfl (flatM flat_vi) (by intro h; first | exact h | rfl) (.flat rfl (flat1 rfl) (by intro h; first | exact h | rfl) .nil)) rfl (.keep rfl (.keep rfl (.new rfl (OkL.all rfl) (.new rfl (OkL.all rfl) .nil)))) (frC rfl (frC rfl frN)) (by decide) (.cons rfl rfl .nil) rfl rfl rfl rfl ?_
    refine AWo.callX (fields_ctr (z := (n : Nat)) (c := 0) (n := n) hL h0 (by decide) (by omega) (by omega)) bd41 [(37000, 0), (37001, 0), (7000, 0), (0, 0)] [38000] rfl (.cons rfl (.cons rfl .nil)) rfl (.cons rfl rfl (.cons rfl rfl .nil)) (.whole rfl rfl (OkL.all rfl) (by intro h; first | exact h | rfl) (.whole rfl rfl (OkL.all rfl) (by intro h; first | exact h | rfl) (.flat rfl (flat1 rfl) (fun h => h) (.flat rfl (flatM flat_vi) (by intro h; first | exact h | rfl) .nil)))) rfl (.keep rfl (.keep rfl (.chg rfl rfl (flat_map_ren (flat1 rfl)) (OkL.flat (flat1 rfl)) (.keep rfl (.new (flat_map_ren (flatM flat_vi)) (OkL.flat (flatM flat_vi)) .nil))))) (frC rfl frN) (by decide) (.cons rfl rfl (.cons rfl rfl (.cons rfl rfl .nil))) rfl rfl rfl rfl ?_
    refine AWo.pure (PureOp.move rfl) rfl rfl ?_
    refine AWo.pure (PureOp.extract rfl rfl) rfl rfl ?_
    refine AWo.pure (PureOp.extract rfl rfl) rfl rfl ?_
    refine AWo.pure (PureOp.extract rfl rfl) rfl rfl ?_
    refine AWo.pure (PureOp.assign rfl) rfl rfl ?_
    refine AWo.pure (PureOp.assign rfl) rfl rfl ?_
    refine AWo.pure (PureOp.assign rfl) rfl rfl ?_
    refine AWo.nil trivial ?_
    refine AW.seqR ?_
    refine AWo.pure (PureOp.move rfl) rfl rfl ?_
    refine AWo.callX (rounds_ctr (L := L) (c := 0)) bd38 [(0, 0), (8000, 0)] [43000, 43001] rfl (.cons rfl (.cons rfl .nil)) rfl (.cons rfl rfl (.cons rfl rfl .nil)) (.flat rfl (flatM flat_vi) (by intro h; first | exact h | rfl) (.flat rfl (flat1 rfl) (by intro h; first | exact h | rfl) .nil)) rfl (.keep rfl (.keep rfl (.new rfl (OkL.all rfl) (.new rfl (OkL.all rfl) .nil)))) (frC rfl (frC rfl frN)) (by decide) (.cons rfl rfl .nil) rfl rfl rfl rfl ?_
    refine AWo.pure (PureOp.assign rfl) rfl rfl ?_
    refine AWo.nil trivial ?_
    refine AW.seq ?_
    refine AW.seqR ?_
    refine AWo.pure (PureOp.move rfl) rfl rfl ?_
    refine AWo.pure (PureOp.move rfl) rfl rfl ?_
    refine AWo.nil trivial ?_
    refine AW.block ?_
    refine AW.loopw (fun mm σ => ∃ i, (i ≤ j0) ∧ mm = j0 + 1 - i ∧ σ = ⟨(upd (upd (upd (upd (upd (upd (upd (upd (upd (upd emp 5 (vi .i64 n)) 6 (.pointer (some ⟨7000, 0, none⟩))) 7 (.pointer (some ⟨8000, 0, none⟩))) 9 (.slice (some ⟨38000, 0, none⟩) (fL L 0 n).length 0)) 10 (vi .i64 (fK L 0 n))) 11 (.int .i64 (fC L 0 n))) 12 (.func (.func 116) #[] #[.pointer (some ⟨43000, 0, none⟩), .pointer (some ⟨43001, 0, none⟩)])) 8 (vi .i64 (mS L 0 i))) 43 (vi .i64 n)) 44 (vi .i64 i)), (upd (upd (upd (upd (upd (upd emp 0 ⟨L.flatten.map (vi .u8), false, 32⟩) 7000 ⟨[vi .i64 (0 + fK L 0 n)], true, 1⟩) 8000 ⟨[vi .i64 (0 + mS L 0 i)], true, 1⟩) 38000 ⟨(fL L 0 n).flatten.map (vi .u64), true, 4⟩) 43000 ⟨[.pointer (some ⟨8000, 0, none⟩)], true, 1⟩) 43001 ⟨[.slice (some ⟨0, 0, none⟩) L.length 0], true, 1⟩)⟩) (fm := []) ?_ ⟨0, Nat.zero_le _, rfl, rfl⟩ ?_
    ·
      refine Wk.of [0, 7000, 8000, 38000, 43000, 43001] ?_ ?_ ?_ (by decide) rfl
      ·
        refine WkE.upd rfl (by first | exact VR.flat _ rfl | exact VR.eqv (vp_succ _) rfl | exact VR.eqv (vp_succ _).symm rfl | exact VR.eqv (by first | rfl | (congr 1; omega) | (simp; done) | (simp; omega)) rfl) ?_
        refine WkE.upd rfl (by first | exact VR.flat _ rfl | exact VR.eqv (vp_succ _) rfl | exact VR.eqv (vp_succ _).symm rfl | exact VR.eqv (by first | rfl | (congr 1; omega) | (simp; done) | (simp; omega)) rfl) ?_
        refine WkE.upd rfl (by first | exact VR.flat _ rfl | exact VR.eqv (vp_succ _) rfl | exact VR.eqv (vp_succ _).symm rfl | exact VR.eqv (by first | rfl | (congr 1; omega) | (simp; done) | (simp; omega)) rfl) ?_
        refine WkE.upd rfl (okVI_rel (ids := [43000, 43001]) (by simp) rfl (dom_all rfl) rfl) ?_
        refine WkE.upd rfl (by first | exact VR.flat _ rfl | exact VR.eqv (vp_succ _) rfl | exact VR.eqv (vp_succ _).symm rfl | exact VR.eqv (by first | rfl | (congr 1; omega) | (simp; done) | (simp; omega)) rfl) ?_
        refine WkE.upd rfl (by first | exact VR.flat _ rfl | exact VR.eqv (vp_succ _) rfl | exact VR.eqv (vp_succ _).symm rfl | exact VR.eqv (by first | rfl | (congr 1; omega) | (simp; done) | (simp; omega)) rfl) ?_
        refine WkE.upd rfl (.slice (38000) 0 _ 0 ⟨_, rfl⟩ (by simp) (by simp)) ?_
        refine WkE.upd rfl (.ptr (8000) 0 ⟨_, rfl⟩) ?_
        refine WkE.upd rfl (.ptr (7000) 0 ⟨_, rfl⟩) ?_
        refine WkE.upd rfl (by first | exact VR.flat _ rfl | exact VR.eqv (vp_succ _) rfl | exact VR.eqv (vp_succ _).symm rfl | exact VR.eqv (by first | rfl | (congr 1; omega) | (simp; done) | (simp; omega)) rfl) ?_
        exact WkE.emp
      ·
        refine WkM.ren [0] rfl rfl rfl (dom_all rfl) (fun h => h) ?_
        refine WkM.ren [8000] rfl rfl rfl (dom_all rfl) (fun h => h) ?_
        refine WkM.flat rfl (flatM flat_vi) (fun h => h) ?_
        refine WkM.refl rfl (flat1 rfl) (fun h => h) ?_
        refine WkM.refl rfl (flat1 rfl) (fun h => h) ?_
        refine WkM.flat rfl (flatM flat_vi) (fun h => h) ?_
        exact WkM.emp
      ·
        repeat (refine dom_upd_mem (by decide) ?_)
        exact dom_emp
    ·
      rintro mm σ ⟨i, hinv, rfl, rfl⟩
      have hms := mS_le L 0 i
      have hsk := sK_le L (0 + mS L 0 i)
      have hsl := sE_len L (0 + mS L 0 i)
      have hci : i < j0 → sC L (0 + mS L 0 i) = 0 := hok i
      refine AW.seqR ?_
      first | refine AWo.pure (PureOp.ltN rfl rfl) rfl rfl ?_ | refine AWo.pure (PureOp.bin rfl rfl rfl) rfl rfl ?_
      refine AWo.nil trivial ?_
      refine AW.seq ?_
      refine AW.cond rfl (fun hb1 => ?_) (fun hb1 => ?_)
      ·
        refine AW.skip ?_
        refine thenA_normal ?_
        refine AW.seq ?_
        refine AW.block ?_
        refine AW.seqR ?_
        refine AWo.pure (PureOp.move rfl) rfl rfl ?_
        refine AWo.pure (PureOp.assign rfl) rfl rfl ?_
        refine AWo.nil trivial ?_
        refine AW.seqR ?_
        refine AWo.pure (PureOp.move rfl) rfl rfl ?_
        refine AWo.callX (field_ctr (c := 0 + mS L 0 i) hL h0 (by omega)) bd37 [(43000, 0), (43001, 0), (8000, 0), (0, 0)] [] rfl (.cons rfl .nil) rfl (.cons rfl rfl .nil) (.whole rfl rfl (OkL.all rfl) (by intro h; first | exact h | rfl) (.whole rfl rfl (OkL.all rfl) (by intro h; first | exact h | rfl) (.flat rfl (flat1 rfl) (fun h => h) (.flat rfl (flatM flat_vi) (by intro h; first | exact h | rfl) .nil)))) rfl (.keep rfl (.keep rfl (.chg rfl rfl (flat_map_ren (flat1 rfl)) (OkL.flat (flat1 rfl)) (.keep rfl .nil)))) frN (by decide) (.pure (pure_aggM flat_vi) (.cons rfl rfl (.cons rfl rfl .nil))) rfl rfl rfl rfl ?_
        refine AWo.pure (PureOp.move rfl) rfl rfl ?_
        refine AWo.pure (PureOp.extract rfl rfl) rfl rfl ?_
        refine AWo.pure (PureOp.extract rfl rfl) rfl rfl ?_
        refine AWo.pure (PureOp.extract rfl rfl) rfl rfl ?_
        refine AWo.alloc tbok 15000 1 _ rfl rfl rfl rfl rfl rfl ?_
        refine AWo.storeAllN tbok rfl rfl rfl rfl (by first | (simp [*]; done) | rfl) (by first | (simp [*]; done) | rfl) (by first | exact oneM (fun _ => rfl) _ | rfl | (simp; done)) rfl ?_
        refine AWo.pure (PureOp.assign rfl) rfl rfl ?_
        refine AWo.pure (PureOp.assign rfl) rfl rfl ?_
        refine AWo.nil trivial ?_
        rw [show 0 + mS L 0 i + sK L (0 + mS L 0 i) = 0 + mS L 0 (i + 1) from Nat.add_assoc _ _ _]
        refine AW.seqR ?_
        refine AWo.pure (PureOp.move rfl) rfl rfl ?_
        refine AWo.pure (PureOp.move rfl) rfl rfl ?_
        refine AWo.pure ((PureOp.addI rfl rfl (by omega)).mono (v' := vi .i64 (mS L 0 (i + 1))) rfl) rfl rfl ?_
        refine AWo.pure (PureOp.assign rfl) rfl rfl ?_
        refine AWo.nil trivial ?_
        refine AW.seq ?_
        refine AW.seqR ?_
        refine AWo.pure (PureOp.move rfl) rfl rfl ?_
        first | refine AWo.pure (PureOp.neN (b := 0) rfl rfl) rfl rfl ?_ | refine AWo.pure (PureOp.bin rfl rfl rfl) rfl rfl ?_
        refine AWo.nil trivial ?_
        refine AW.cond rfl (fun hb2 => ?_) (fun hb2 => ?_)
        ·
          have hne2 : sC L (0 + mS L 0 i) ≠ 0 := by simpa using hb2
          have hij : j0 = i := by
            rcases Nat.lt_or_ge i j0 with h | h
            · exact absurd (hok i h) hne2
            · omega
          subst hij
          refine AW.seqR ?_
          refine AWo.pure (PureOp.move rfl) rfl rfl ?_
          refine AWo.pure (PureOp.move rfl) rfl rfl ?_
          first | refine AWo.pure ((PureOp.eqN rfl rfl).mono (v' := .bool true) (by rw [e3]; simp)) rfl rfl ?_ | refine AWo.pure ((PureOp.bin rfl rfl rfl).mono (v' := .bool true) (by rw [e3]; simp)) rfl rfl ?_
          refine AWo.pure (PureOp.move rfl) rfl rfl ?_
          refine AWo.pure (PureOp.move rfl) rfl rfl ?_
          refine AWo.pure (PureOp.move rfl) rfl rfl ?_
          first | refine AWo.pure ((PureOp.eqN rfl rfl).mono (v' := .bool true) (by rw [e2]; simp)) rfl rfl ?_ | refine AWo.pure ((PureOp.bin rfl rfl rfl).mono (v' := .bool true) (by rw [e2]; simp)) rfl rfl ?_
          refine AWo.pure (PureOp.pickT rfl rfl) rfl rfl ?_
          refine AWo.pure (PureOp.move rfl) rfl rfl ?_
          first | refine AWo.loadM tbok 0 rfl rfl rfl (by first | decide | omega) rfl rfl ?_ | refine AWo.load tbok rfl rfl rfl rfl rfl rfl ?_
          first | refine AWo.loadM tbok 0 rfl rfl rfl (by first | decide | omega) rfl rfl ?_ | refine AWo.load tbok rfl rfl rfl rfl rfl rfl ?_
          first | refine AWo.pure ((PureOp.eqN rfl rfl).mono (v' := .bool true) (by rw [e2]; simp [mS])) rfl rfl ?_ | refine AWo.pure ((PureOp.bin rfl rfl rfl).mono (v' := .bool true) (by rw [e2]; simp [mS])) rfl rfl ?_
          refine AWo.pure (PureOp.pickT rfl rfl) rfl rfl ?_
          refine AWo.pure (PureOp.move rfl) rfl rfl ?_
          refine AWo.pure (PureOp.move rfl) rfl rfl ?_
          refine AWo.pure (PureOp.lenS tbok rfl rfl) rfl rfl ?_
          first | refine AWo.pure ((PureOp.eqN (b := 0) rfl rfl).mono (v' := .bool true) (by rw [e1]; rfl)) rfl rfl ?_ | refine AWo.pure ((PureOp.bin rfl rfl rfl).mono (v' := .bool true) (by rw [e1]; rfl)) rfl rfl ?_
          refine AWo.pure (PureOp.pickT rfl rfl) rfl rfl ?_
          refine AWo.pure (PureOp.assign rfl) rfl rfl ?_
          refine AWo.nil trivial ?_
          refine AW.ret ?_
          refine thenA_ret ?_
          refine inBlockA_ret ?_
          refine thenA_ret ?_
          refine thenA_ret ?_
          refine inBlockA_ret ?_
          refine thenA_ret ?_
          refine RetQ.gc [_] [] [.tmp 4] (.inl rfl) rfl (.tmp rfl .nil) rfl (.cons rfl (by first | rfl | (simp [ren, ren1]; done)) .nil) (OutL.flat rfl (flatM flat_vi) (by intro h; exact h.elim id fun h => absurd h.1 (by simp)) trivial) (by decide) rfl
        ·
          have hc0 : sC L (0 + mS L 0 i) = 0 := by simpa using hb2
          have hij : i < j0 := by
            rcases Nat.lt_or_ge i j0 with h | h
            · exact h
            · exfalso; have : i = j0 := by omega
              subst this; exact hne hc0
          refine AW.skip ?_
          refine thenA_normal ?_
          refine AW.seqD mixed ?_
          refine AWo.pure (PureOp.move rfl) rfl rfl ?_
          first | refine AWo.pure ((PureOp.eqN (b := 0) rfl rfl).mono (v' := .bool false) (by rw [e3]; simpa using hne)) rfl rfl ?_ | refine AWo.pure ((PureOp.bin rfl rfl rfl).mono (v' := .bool false) (by rw [e3]; simpa using hne)) rfl rfl ?_
          refine AWo.pure (PureOp.move rfl) rfl rfl ?_
          refine AWo.skipped rfl rfl ?_
          refine AWo.skipped rfl rfl ?_
          refine AWo.skipped rfl rfl ?_
          refine AWo.skipped rfl rfl ?_
          refine AWo.skipped rfl rfl ?_
          refine AWo.skipped rfl rfl ?_
          refine AWo.skipped rfl rfl ?_
          refine AWo.skipped rfl rfl ?_
          refine AWo.skipped rfl rfl ?_
          refine AWo.skipped rfl rfl ?_
          refine AWo.skipped rfl rfl ?_
          refine AWo.skipped rfl rfl ?_
          refine AWo.skipped rfl rfl ?_
          refine AWo.pure (PureOp.pickF rfl rfl) rfl rfl ?_
          refine AWo.nil (by kernel_rfl) ?_
          refine AW.condF rfl ?_
          refine AW.skip ?_
          refine inBlockA_normal ?_
          refine thenA_normal ?_
          refine AW.region ?_
          first | refine AWo.pure (PureOp.addI (b := 1) rfl rfl (by first | decide | omega)) rfl rfl ?_ | refine AWo.pure (PureOp.bin rfl rfl rfl) rfl rfl ?_
          refine AWo.pure (PureOp.move rfl) rfl rfl ?_
          refine AWo.nil trivial ?_
          refine thenA_normal ?_
          refine ⟨j0 + 1 - (i + 1), [], _, by omega, ?_, i + 1, by omega, rfl, rfl⟩
          refine Wk.of [0, 7000, 8000, 38000, 43000, 43001] ?_ ?_ ?_ (by decide) rfl
          ·
            refine WkE.upd rfl (by first | exact VR.flat _ rfl | exact VR.eqv (vp_succ _) rfl | exact VR.eqv (vp_succ _).symm rfl | exact VR.eqv (by first | rfl | (congr 1; omega) | (simp; done) | (simp; omega)) rfl) ?_
            refine WkE.upd rfl (by first | exact VR.flat _ rfl | exact VR.eqv (vp_succ _) rfl | exact VR.eqv (vp_succ _).symm rfl | exact VR.eqv (by first | rfl | (congr 1; omega) | (simp; done) | (simp; omega)) rfl) ?_
            refine WkE.upd rfl (by first | exact VR.flat _ rfl | exact VR.eqv (vp_succ _) rfl | exact VR.eqv (vp_succ _).symm rfl | exact VR.eqv (by first | rfl | (congr 1; omega) | (simp; done) | (simp; omega)) rfl) ?_
            refine WkE.upd rfl (okVI_rel (ids := [43000, 43001]) (by simp) rfl (dom_all rfl) rfl) ?_
            refine WkE.upd rfl (by first | exact VR.flat _ rfl | exact VR.eqv (vp_succ _) rfl | exact VR.eqv (vp_succ _).symm rfl | exact VR.eqv (by first | rfl | (congr 1; omega) | (simp; done) | (simp; omega)) rfl) ?_
            refine WkE.upd rfl (by first | exact VR.flat _ rfl | exact VR.eqv (vp_succ _) rfl | exact VR.eqv (vp_succ _).symm rfl | exact VR.eqv (by first | rfl | (congr 1; omega) | (simp; done) | (simp; omega)) rfl) ?_
            refine WkE.upd rfl (.slice (38000) 0 _ 0 ⟨_, rfl⟩ (by simp) (by simp)) ?_
            refine WkE.upd rfl (.ptr (8000) 0 ⟨_, rfl⟩) ?_
            refine WkE.upd rfl (.ptr (7000) 0 ⟨_, rfl⟩) ?_
            refine WkE.upd rfl (by first | exact VR.flat _ rfl | exact VR.eqv (vp_succ _) rfl | exact VR.eqv (vp_succ _).symm rfl | exact VR.eqv (by first | rfl | (congr 1; omega) | (simp; done) | (simp; omega)) rfl) ?_
            exact WkE.emp
          ·
            refine WkM.ren [0] rfl rfl rfl (dom_all rfl) (fun h => h) ?_
            refine WkM.ren [8000] rfl rfl rfl (dom_all rfl) (fun h => h) ?_
            refine WkM.flat rfl (flatM flat_vi) (fun h => h) ?_
            refine WkM.refl rfl (flat1 rfl) (fun h => h) ?_
            refine WkM.refl rfl (flat1 rfl) (fun h => h) ?_
            refine WkM.flat rfl (flatM flat_vi) (fun h => h) ?_
            exact WkM.emp
          ·
            repeat (refine dom_upd_mem (by decide) ?_)
            exact dom_emp
      ·
        exfalso
        simp at hb1
        omega

set_option maxRecDepth 10000 in
theorem many_long {L : List (List Nat)} {m : Nat} (hl : L.length = 0 ∨ 60 < L.length) : GC Try.prog 6 [.slice (some ⟨0, 0, none⟩) L.length 0, vi .u8 m] [⟨L.flatten.map (vi .u8), false, 32⟩] [.bool true] [⟨L.flatten.map (vi .u8), false, 32⟩] := by
  refine GC.intro Try.func6 rfl (by show 2 ≤ 111; decide) (by first | exact Nat.le_refl _ | decide | simp) ?_
  refine AW.seqR ?_
  refine AWo.pure (PureOp.assign rfl) rfl rfl ?_
  refine AWo.nil trivial ?_
  refine AW.seq ?_
  refine AW.seqR ?_
  refine AWo.callX (sspeaks_ctr) bd33 [] [] rfl .nil rfl .nil .nil rfl .nil frN (by decide) (.cons rfl rfl .nil) rfl rfl rfl rfl ?_
  first | refine AWo.pure ((PureOp.not rfl).mono (v' := .bool false) rfl) rfl rfl ?_
  refine AWo.pure (PureOp.move rfl) rfl rfl ?_
  refine AWo.pure (PureOp.move rfl) rfl rfl ?_
  refine AWo.pure (PureOp.lenS tbok rfl rfl) rfl rfl ?_
  first | refine AWo.pure (PureOp.eqN (b := 0) rfl rfl) rfl rfl ?_ | refine AWo.pure (PureOp.bin rfl rfl rfl) rfl rfl ?_
  refine AWo.pure (PureOp.pickF rfl rfl) rfl rfl ?_
  first | refine AWo.pureB (PureOp.move rfl) rfl rfl (fun hb0 => ?_) (fun hb0 => ?_)
  ·
    refine AWo.skipped rfl rfl ?_
    refine AWo.skipped rfl rfl ?_
    refine AWo.skipped rfl rfl ?_
    refine AWo.pure (PureOp.pickT rfl rfl) rfl rfl ?_
    refine AWo.nil trivial ?_
    refine AW.condT rfl ?_
    refine AW.seqR ?_
    refine AWo.callX (sspeaks_ctr) bd33 [] [] rfl .nil rfl .nil .nil rfl .nil frN (by decide) (.cons rfl rfl .nil) rfl rfl rfl rfl ?_
    refine AWo.pure (PureOp.assign rfl) rfl rfl ?_
    refine AWo.nil trivial ?_
    refine AW.ret ?_
    refine thenA_ret ?_
    refine RetQ.gc [_] [] [.tmp 4] (.inl rfl) rfl (.tmp rfl .nil) rfl (.cons rfl rfl .nil) (OutL.flat rfl (flatM flat_vi) (by intro h; exact h.elim id fun h => absurd h.1 (by simp)) trivial) (by decide) rfl
  ·
    refine AWo.pure (PureOp.move rfl) rfl rfl ?_
    refine AWo.pure (PureOp.lenS tbok rfl rfl) rfl rfl ?_
    first | refine AWo.pure (PureOp.gtN (b := 60) rfl rfl) rfl rfl ?_ | refine AWo.pure (PureOp.bin rfl rfl rfl) rfl rfl ?_
    refine AWo.pure (PureOp.pickF rfl rfl) rfl rfl ?_
    refine AWo.nil trivial ?_
    refine AW.cond rfl (fun hb1 => ?_) (fun hb1 => ?_)
    ·
      refine AW.seqR ?_
      refine AWo.callX (sspeaks_ctr) bd33 [] [] rfl .nil rfl .nil .nil rfl .nil frN (by decide) (.cons rfl rfl .nil) rfl rfl rfl rfl ?_
      refine AWo.pure (PureOp.assign rfl) rfl rfl ?_
      refine AWo.nil trivial ?_
      refine AW.ret ?_
      refine thenA_ret ?_
      refine RetQ.gc [_] [] [.tmp 4] (.inl rfl) rfl (.tmp rfl .nil) rfl (.cons rfl rfl .nil) (OutL.flat rfl (flatM flat_vi) (by intro h; exact h.elim id fun h => absurd h.1 (by simp)) trivial) (by decide) rfl
    ·
      exfalso
      rcases hl with h | h
      · simp_all
      · simp_all
        try omega
end Go.Proofs.Ytiikffiembcboaa
