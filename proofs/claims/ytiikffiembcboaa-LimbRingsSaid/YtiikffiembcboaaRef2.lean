/- The document's numbers: sums, differences, products, words. -/
import Derived.Test.YtiikffiembcboaaRef1
import Derived.Test.YtiikffiembcboaaNum3
namespace Go.Proofs.Ytiikffiembcboaa
open Go Sim

theorem rep_getD (n k : Nat) : (List.replicate n 0).getD k 0 = 0 := by
  rw [List.getD_eq_getElem?_getD]
  rcases Nat.lt_or_ge k n with h | h
  · rw [List.getElem?_eq_getElem (by simpa using h)]; simp
  · rw [List.getElem?_eq_none (by simpa using h)]; rfl

/-- what is done of a number's bytes: from the r-th on -/
def OfbI (a : List Nat) (r : Nat) (l : List Nat) : Prop := (∀ k, k < r / 4 → l.getD k 0 = 0) ∧ l.getD (r / 4) 0 = num 256 ((a.drop r).take (4 - r % 4)) ∧
  ∀ k, r / 4 < k → l.getD k 0 = num 256 ((a.drop (4 * k)).take 4)

theorem num_dropcons {a : List Nat} {r n : Nat} (hr : r < a.length) : num 256 ((a.drop r).take (n + 1)) = a.getD r 0 + 256 * num 256 ((a.drop (r + 1)).take n) := by
  rw [List.drop_eq_getElem_cons hr, List.take_succ_cons, num, List.getD_eq_getElem?_getD, List.getElem?_eq_getElem hr]; rfl

theorem ofbI_init (a : List Nat) : OfbI a a.length (List.replicate (a.length / 4 + 1) 0) := by
  refine ⟨fun k _ => rep_getD _ _, ?_, fun k hk => ?_⟩
  · rw [rep_getD]; simp [num]
  · rw [rep_getD, List.drop_of_length_le (by omega)]; rfl

theorem ofbI_val {a l : List Nat} {r : Nat} (hr : r < a.length) (hI : OfbI a (r + 1) l) : l.getD (r / 4) 0 * 256 + a.getD r 0 = num 256 ((a.drop r).take (4 - r % 4)) := by
  obtain ⟨h1, h2, h3⟩ := hI
  rw [show 4 - r % 4 = (3 - r % 4) + 1 by omega, num_dropcons hr]
  rcases Nat.lt_or_ge (r % 4) 3 with h | h
  · rw [show (r + 1) / 4 = r / 4 by omega, show 4 - (r + 1) % 4 = 3 - r % 4 by omega] at h2
    rw [h2]; omega
  · rw [show 3 - r % 4 = 0 by omega, h1 (r / 4) (by omega)]
    simp [num]

theorem ofbI_bd {a l : List Nat} {r : Nat} (h : bd 256 a) (_ : l.length = a.length / 4 + 1) (hr : r < a.length) (hI : OfbI a (r + 1) l) : l.getD (r / 4) 0 * 256 + a.getD r 0 < 4294967296 := by
  rw [ofbI_val hr hI]
  exact num_lt_pow (B := 256) (bd_take (bd_drop h _) _) (by decide) (n := 4) (by simp; omega)

theorem ofbI_step {a l : List Nat} {r : Nat} (_ : bd 256 a) (hl : l.length = a.length / 4 + 1) (hr : r < a.length) (hI : OfbI a (r + 1) l) : OfbI a r (l.set (r / 4) (l.getD (r / 4) 0 * 256 + a.getD r 0)) := by
  have hv := ofbI_val hr hI
  obtain ⟨h1, h2, h3⟩ := hI
  refine ⟨fun k hk => ?_, ?_, fun k hk => ?_⟩
  · rw [getD_set (by omega)]; exact h1 k (by omega)
  · rw [getD_set_self (by omega)]; exact hv
  · rw [getD_set (by omega)]
    rcases Nat.lt_or_ge ((r + 1) / 4) k with h | h
    · exact h3 k h
    · obtain rfl : k = (r + 1) / 4 := by omega
      rw [h2, show 4 * ((r + 1) / 4) = r + 1 by omega, show 4 - (r + 1) % 4 = 4 by omega]

theorem num_fours (a : List Nat) : ∀ (n : Nat) (l : List Nat), l.length = n → (∀ k, k < n → l.getD k 0 = num 256 ((a.drop (4 * k)).take 4)) → a.length ≤ 4 * n → num 4294967296 l = num 256 a := by
  intro n
  induction n generalizing a with
  | zero =>
    intro l hl _ ha
    obtain rfl := List.length_eq_zero_iff.1 hl
    obtain rfl : a = [] := List.length_eq_zero_iff.1 (by omega)
    rfl
  | succ n ih =>
    intro l hl hk ha
    obtain ⟨x, r, rfl⟩ : ∃ x r, l = x :: r := by cases l with
      | nil => simp at hl
      | cons x r => exact ⟨x, r, rfl⟩
    have h0 := hk 0 (by omega)
    simp only [List.getD_cons_zero, Nat.mul_zero, List.drop_zero] at h0
    have hr := ih (a.drop 4) r (by simpa using hl) (fun k hk2 => by
      have := hk (k + 1) (by omega)
      rw [List.getD_cons_succ] at this
      rw [this, List.drop_drop, show 4 + 4 * k = 4 * (k + 1) by omega]) (by simp; omega)
    rw [num, hr, h0]
    rcases Nat.lt_or_ge a.length 4 with h | h
    · rw [List.take_of_length_le (by omega), List.drop_of_length_le (by omega)]; simp [num]
    · have := num_take_drop (B := 256) a 4 h
      rw [this]

theorem ofbI_end {a l : List Nat} (_ : bd 256 a) (hl : l.length = a.length / 4 + 1) (hI : OfbI a 0 l) : num 4294967296 l = num 256 a := by
  obtain ⟨_, h2, h3⟩ := hI
  refine num_fours a _ l hl (fun k hk => ?_) (by omega)
  rcases Nat.eq_zero_or_pos k with rfl | h
  · simpa using h2
  · exact h3 k (by omega)

set_option maxRecDepth 10000 in
theorem words_ctr {a : List Nat} {n : Nat} (h : bd 4294967296 a) (hn : n < 100000000) : GC Try.prog 55 [.slice (some ⟨0, 0, none⟩) a.length 0, vi .i64 (n)] [⟨a.map (vi .u64), false, 1⟩] [.slice (some ⟨1, 0, none⟩) (digs 18446744073709551616 n (num 4294967296 a)).length 0] [⟨a.map (vi .u64), false, 1⟩, ⟨(digs 18446744073709551616 n (num 4294967296 a)).map (vi .u64), true, 1⟩] := by
  refine GC.intro Try.func55 rfl (by show 2 ≤ 29; decide) (by first | exact Nat.le_refl _ | decide | simp) ?_
  refine AW.seqR ?_
  refine AWo.pure (PureOp.assign rfl) rfl rfl ?_
  refine AWo.nil trivial ?_
  refine AW.seqR ?_
  refine AWo.pure (PureOp.move rfl) rfl rfl ?_
  refine AWo.makeSliceC (n := 0) tbok 9000 ((List.replicate 0 0).map (vi .u64)) rfl rfl (by first | decide | omega) rfl rfl (by decide) rfl rfl rfl rfl (by first | decide | omega) (by first | decide | omega) (by simp [vi]) rfl rfl rfl ?_
  refine AWo.pure (PureOp.assign rfl) rfl rfl ?_
  refine AWo.nil trivial ?_
  refine AW.seq ?_
  refine AW.seqR ?_
  refine AWo.pure (PureOp.assign rfl) rfl rfl ?_
  refine AWo.nil trivial ?_
  refine AW.block ?_
  refine AW.loopw (fun mm σ => ∃ i, (i ≤ n) ∧ mm = n - i ∧ σ = ⟨(upd (upd (upd (upd emp 0 (.slice (some ⟨0, 0, none⟩) a.length 0)) 1 (vi .i64 n)) 5 (.slice (some ⟨77000, 0, none⟩) i 0)) 6 (vi .i64 i)), (upd (upd emp 0 ⟨a.map (vi .u64), false, 1⟩) 77000 ⟨(digs 18446744073709551616 i (num 4294967296 a)).map (vi .u64), true, 1⟩)⟩) (fm := [(77000, 9000)]) ?_ ⟨0, Nat.zero_le _, rfl, rfl⟩ ?_
  ·
    refine Wk.of [0, 77000] ?_ ?_ ?_ (by decide) rfl
    ·
      refine WkE.upd rfl (by first | exact VR.flat _ rfl | exact VR.eqv (vp_succ _) rfl | exact VR.eqv (vp_succ _).symm rfl | exact VR.eqv (by first | rfl | (congr 1; omega) | (simp; done) | (simp; omega)) rfl) ?_
      refine WkE.upd rfl (.slice (77000) 0 _ 0 ⟨_, rfl⟩ (by simp) (by simp)) ?_
      refine WkE.upd rfl (by first | exact VR.flat _ rfl | exact VR.eqv (vp_succ _) rfl | exact VR.eqv (vp_succ _).symm rfl | exact VR.eqv (by first | rfl | (congr 1; omega) | (simp; done) | (simp; omega)) rfl) ?_
      refine WkE.upd rfl (.slice (0) 0 _ 0 ⟨_, rfl⟩ (by simp) (by simp)) ?_
      exact WkE.emp
    ·
      refine WkM.flatM rfl (by first | rfl | assumption | simp) (fun _ => rfl) (fun h => h) ?_
      refine WkM.flatM rfl (by first | rfl | assumption | simp) (fun _ => rfl) (fun h => h) ?_
      exact WkM.emp
    ·
      repeat (refine dom_upd_mem (by decide) ?_)
      exact dom_emp
  ·
    rintro mm σ ⟨i, hinv, rfl, rfl⟩
    have hx := bd_getD h (by decide) (2 * i)
    have hy := bd_getD h (by decide) (2 * i + 1)
    have hxy := word_two (B := 4294967296) (num 4294967296 a) i (by decide)
    rw [← num_getD h (by decide), ← num_getD h (by decide)] at hxy
    refine AW.seq ?_
    refine AW.seqR ?_
    refine AWo.pure (PureOp.move rfl) rfl rfl ?_
    refine AWo.pure (PureOp.move rfl) rfl rfl ?_
    first | refine AWo.pure (PureOp.ltN rfl rfl) rfl rfl ?_ | refine AWo.pure (PureOp.bin rfl rfl rfl) rfl rfl ?_
    refine AWo.nil trivial ?_
    refine AW.cond rfl (fun hb0 => ?_) (fun hb0 => ?_)
    ·
      have hi : i < n := by simpa using hb0
      refine AW.skip ?_
      refine thenA_normal ?_
      refine AW.seq ?_
      refine AW.block ?_
      refine AW.region ?_
      refine AWo.pure (PureOp.move rfl) rfl rfl ?_
      refine AWo.pure (PureOp.move rfl) rfl rfl ?_
      refine AWo.pure (PureOp.move rfl) rfl rfl ?_
      first | refine AWo.pure ((PureOp.mulI (a := 2) rfl rfl (by first | decide | omega)).mono (v' := vi .i64 (2 * i)) rfl) rfl rfl ?_ | refine AWo.pure ((PureOp.bin rfl rfl rfl).mono (v' := vi .i64 (2 * i)) rfl) rfl rfl ?_
      refine AWo.callX (get_ctr) bd115 [(0, 0)] [] rfl (.cons rfl (.cons rfl .nil)) rfl (.cons rfl rfl (.cons rfl rfl .nil)) (.flat rfl (by first | exact flatM flat_vi | exact flatM flat_bool | (simp [flatV, flat_vi]; done)) (by intro h; first | exact h | rfl) .nil) rfl (.keep rfl .nil) frN (by decide) (.cons rfl rfl .nil) rfl rfl rfl rfl ?_
      refine AWo.pure (PureOp.move rfl) rfl rfl ?_
      refine AWo.pure (PureOp.move rfl) rfl rfl ?_
      first | refine AWo.pure ((PureOp.mulI (a := 2) rfl rfl (by first | decide | omega)).mono (v' := vi .i64 (2 * i)) rfl) rfl rfl ?_ | refine AWo.pure ((PureOp.bin rfl rfl rfl).mono (v' := vi .i64 (2 * i)) rfl) rfl rfl ?_
      first | refine AWo.pure (PureOp.addI (b := 1) rfl rfl (by first | decide | omega)) rfl rfl ?_ | refine AWo.pure (PureOp.bin rfl rfl rfl) rfl rfl ?_
      refine AWo.callX (get_ctr) bd115 [(0, 0)] [] rfl (.cons rfl (.cons rfl .nil)) rfl (.cons rfl rfl (.cons rfl rfl .nil)) (.flat rfl (by first | exact flatM flat_vi | exact flatM flat_bool | (simp [flatV, flat_vi]; done)) (by intro h; first | exact h | rfl) .nil) rfl (.keep rfl .nil) frN (by decide) (.cons rfl rfl .nil) rfl rfl rfl rfl ?_
      first | refine AWo.pure ((PureOp.mulU (b := 4294967296) 18446744073709551616 rfl rfl rfl rfl).mono (v' := vi .u64 (a.getD (2 * i + 1) 0 * 4294967296)) (by rw [Nat.mod_eq_of_lt (by omega)])) rfl rfl ?_ | refine AWo.pure ((PureOp.bin rfl rfl rfl).mono (v' := vi .u64 (a.getD (2 * i + 1) 0 * 4294967296)) (by rw [Nat.mod_eq_of_lt (by omega)])) rfl rfl ?_
      first | refine AWo.pure ((PureOp.addU 18446744073709551616 rfl rfl rfl rfl).mono (v' := vi .u64 (num 4294967296 a / 18446744073709551616 ^ i % 18446744073709551616)) (by rw [Nat.mod_eq_of_lt (by omega), hxy])) rfl rfl ?_ | refine AWo.pure ((PureOp.bin rfl rfl rfl).mono (v' := vi .u64 (num 4294967296 a / 18446744073709551616 ^ i % 18446744073709551616)) (by rw [Nat.mod_eq_of_lt (by omega), hxy])) rfl rfl ?_
      refine AWo.buildSlice tbok 27000 [(0, vi .u64 (num 4294967296 a / 18446744073709551616 ^ i % 18446744073709551616))] (out := [vi .u64 (num 4294967296 a / 18446744073709551616 ^ i % 18446744073709551616)]) rfl rfl (by decide) rfl rfl rfl (by decide) rfl rfl rfl rfl rfl ?_
      refine AWo.append tbok (all := (digs 18446744073709551616 (i + 1) (num 4294967296 a)).map (vi .u64)) 28000 rfl rfl rfl rfl (by simp [digs_len]) rfl (by first | decide | (simp; done) | (simp; omega)) (by decide) rfl rfl rfl (by decide) rfl rfl rfl (by first | decide | omega) (by first | decide | omega) rfl (by rw [digs_snoc, ← map_snoc]; rfl) rfl rfl ?_
      refine AWo.pure (PureOp.assign rfl) rfl rfl ?_
      refine AWo.nil trivial ?_
      refine inBlockA_normal ?_
      refine thenA_normal ?_
      refine AW.region ?_
      refine AWo.pure (PureOp.move rfl) rfl rfl ?_
      first | refine AWo.pure (PureOp.addI (b := 1) rfl rfl (by first | decide | omega)) rfl rfl ?_ | refine AWo.pure (PureOp.bin rfl rfl rfl) rfl rfl ?_
      refine AWo.pure (PureOp.assign rfl) rfl rfl ?_
      refine AWo.nil trivial ?_
      refine thenA_normal ?_
      refine ⟨n - (i + 1), [(77000, 28000)], _, by omega, ?_, i + 1, by omega, rfl, rfl⟩
      refine Wk.of [0, 77000] ?_ ?_ ?_ (by decide) rfl
      ·
        refine WkE.upd rfl (by first | exact VR.flat _ rfl | exact VR.eqv (vp_succ _) rfl | exact VR.eqv (vp_succ _).symm rfl | exact VR.eqv (by first | rfl | (congr 1; omega) | (simp; done) | (simp; omega)) rfl) ?_
        refine WkE.upd rfl (.slice (77000) 0 _ 0 ⟨_, rfl⟩ (by simp) (by simp)) ?_
        refine WkE.upd rfl (by first | exact VR.flat _ rfl | exact VR.eqv (vp_succ _) rfl | exact VR.eqv (vp_succ _).symm rfl | exact VR.eqv (by first | rfl | (congr 1; omega) | (simp; done) | (simp; omega)) rfl) ?_
        refine WkE.upd rfl (.slice (0) 0 _ 0 ⟨_, rfl⟩ (by simp) (by simp)) ?_
        exact WkE.emp
      ·
        refine WkM.flatM rfl (by first | rfl | assumption | simp) (fun _ => rfl) (fun h => h) ?_
        refine WkM.flatM rfl (by first | rfl | assumption | simp) (fun _ => rfl) (fun h => h) ?_
        exact WkM.emp
      ·
        repeat (refine dom_upd_mem (by decide) ?_)
        exact dom_emp
    ·
      have hi : i = n := by simp at hb0; omega
      subst hi
      refine AW.exit ?_
      refine thenA_exit ?_
      refine thenA_exit ?_
      refine inBlockA_hit ?_
      refine thenA_normal ?_
      refine AW.seqR ?_
      refine AWo.pure (PureOp.move rfl) rfl rfl ?_
      refine AWo.pure (PureOp.assign rfl) rfl rfl ?_
      refine AWo.nil trivial ?_
      refine AW.ret ?_
      refine RetQ.gc [_] [77000] [.tmp 4] (.inl rfl) rfl (.tmp rfl .nil) rfl (.cons rfl (by simp [ren, ren1, hmap, digs_len]) .nil) (OutL.flat rfl (by first | exact flatM flat_vi | exact flatM flat_bool | (simp [flatV, flat_vi]; done)) (by intro h; first | rfl | exact h.elim id fun h => absurd h.1 (by simp)) (OutL.flat rfl (by first | exact flatM flat_vi | exact flatM flat_bool | (simp [flatV, flat_vi]; done)) (by intro h; first | rfl | exact h.elim id fun h => absurd h.1 (by simp)) trivial)) (by decide) rfl

set_option maxRecDepth 10000 in
theorem radd_ctr {a b : List Nat} (ha : bd 4294967296 a) (hb : bd 4294967296 b) (hla : a.length < 100000000) (hlb : b.length < 100000000) : GC Try.prog 70 [.slice (some ⟨0, 0, none⟩) a.length 0, .slice (some ⟨1, 0, none⟩) b.length 0] [⟨a.map (vi .u64), false, 1⟩, ⟨b.map (vi .u64), false, 1⟩] [.slice (some ⟨2, 0, none⟩) (D 4294967296 (num 4294967296 a + num 4294967296 b)).length 0] [⟨a.map (vi .u64), false, 1⟩, ⟨b.map (vi .u64), false, 1⟩, ⟨(D 4294967296 (num 4294967296 a + num 4294967296 b)).map (vi .u64), true, 1⟩] := by
  refine GC.intro Try.func70 rfl (by show 2 ≤ 44; decide) (by first | exact Nat.le_refl _ | decide | simp) ?_
  refine AW.seqR ?_
  refine AWo.pure (PureOp.assign rfl) rfl rfl ?_
  refine AWo.nil trivial ?_
  refine AW.seqR ?_
  refine AWo.pure (PureOp.move rfl) rfl rfl ?_
  refine AWo.pure (PureOp.lenS tbok rfl rfl) rfl rfl ?_
  refine AWo.pure (PureOp.assign rfl) rfl rfl ?_
  refine AWo.nil trivial ?_
  refine AW.seq ?_
  refine AW.seqR ?_
  refine AWo.pure (PureOp.move rfl) rfl rfl ?_
  refine AWo.pure (PureOp.lenS tbok rfl rfl) rfl rfl ?_
  refine AWo.pure (PureOp.move rfl) rfl rfl ?_
  first | refine AWo.pure (PureOp.gtN rfl rfl) rfl rfl ?_ | refine AWo.pure (PureOp.bin rfl rfl rfl) rfl rfl ?_
  refine AWo.nil trivial ?_
  refine AW.joinT (fun σ => ∃ n, (a.length ≤ n ∧ b.length ≤ n ∧ n < 900000000) ∧ σ = ⟨(upd (upd (upd emp 0 (.slice (some ⟨0, 0, none⟩) a.length 0)) 1 (.slice (some ⟨1, 0, none⟩) b.length 0)) 5 (vi .i64 n)), (upd (upd emp 0 ⟨a.map (vi .u64), false, 1⟩) 1 ⟨b.map (vi .u64), false, 1⟩)⟩) ?_ ?_
  ·
    refine AW.cond rfl (fun hb0 => ?_) (fun hb0 => ?_)
    ·
      have hab : a.length < b.length := by simpa using hb0
      refine AW.region ?_
      refine AWo.pure (PureOp.move rfl) rfl rfl ?_
      refine AWo.pure (PureOp.lenS tbok rfl rfl) rfl rfl ?_
      refine AWo.pure (PureOp.assign rfl) rfl rfl ?_
      refine AWo.nil trivial ?_
      refine thenA_normal ?_
      refine ⟨[], _, ?_, (by first | exact ⟨b.length, ⟨by omega, by omega, by omega⟩, rfl⟩ | exact ⟨a.length, ⟨by omega, by omega, by omega⟩, rfl⟩)⟩
      refine Wk.of [0, 1] ?_ ?_ ?_ (by decide) rfl
      ·
        refine WkE.upd rfl (by first | exact VR.flat _ rfl | exact VR.eqv (vp_succ _) rfl | exact VR.eqv (vp_succ _).symm rfl | exact VR.eqv (by first | rfl | (congr 1; omega) | (simp; done) | (simp; omega)) rfl) ?_
        refine WkE.upd rfl (.slice (1) 0 _ 0 ⟨_, rfl⟩ (by simp) (by simp)) ?_
        refine WkE.upd rfl (.slice (0) 0 _ 0 ⟨_, rfl⟩ (by simp) (by simp)) ?_
        exact WkE.emp
      ·
        refine WkM.flatM rfl (by first | rfl | assumption | simp) (fun _ => rfl) (fun h => h) ?_
        refine WkM.flatM rfl (by first | rfl | assumption | simp) (fun _ => rfl) (fun h => h) ?_
        exact WkM.emp
      ·
        repeat (refine dom_upd_mem (by decide) ?_)
        exact dom_emp
    ·
      have hab : b.length ≤ a.length := by simpa using hb0
      refine AW.skip ?_
      refine thenA_normal ?_
      refine ⟨[], _, ?_, (by first | exact ⟨b.length, ⟨by omega, by omega, by omega⟩, rfl⟩ | exact ⟨a.length, ⟨by omega, by omega, by omega⟩, rfl⟩)⟩
      refine Wk.of [0, 1] ?_ ?_ ?_ (by decide) rfl
      ·
        refine WkE.upd rfl (by first | exact VR.flat _ rfl | exact VR.eqv (vp_succ _) rfl | exact VR.eqv (vp_succ _).symm rfl | exact VR.eqv (by first | rfl | (congr 1; omega) | (simp; done) | (simp; omega)) rfl) ?_
        refine WkE.upd rfl (.slice (1) 0 _ 0 ⟨_, rfl⟩ (by simp) (by simp)) ?_
        refine WkE.upd rfl (.slice (0) 0 _ 0 ⟨_, rfl⟩ (by simp) (by simp)) ?_
        exact WkE.emp
      ·
        refine WkM.flatM rfl (by first | rfl | assumption | simp) (fun _ => rfl) (fun h => h) ?_
        refine WkM.flatM rfl (by first | rfl | assumption | simp) (fun _ => rfl) (fun h => h) ?_
        exact WkM.emp
      ·
        repeat (refine dom_upd_mem (by decide) ?_)
        exact dom_emp
  ·
    rintro σ ⟨n, ⟨hn1, hn2, hn3⟩, rfl⟩
    refine AW.seqR ?_
    refine AWo.pure (PureOp.move rfl) rfl rfl ?_
    first | refine AWo.pure (PureOp.addI (b := 1) rfl rfl (by first | decide | omega)) rfl rfl ?_ | refine AWo.pure (PureOp.bin rfl rfl rfl) rfl rfl ?_
    refine AWo.makeSliceC (n := 0) tbok 21000 ((List.replicate 0 0).map (vi .u64)) rfl rfl (by first | decide | omega) rfl rfl (by decide) rfl rfl rfl rfl (by first | decide | omega) (by first | decide | omega) (by simp [vi]) rfl rfl rfl ?_
    refine AWo.pure (PureOp.assign rfl) rfl rfl ?_
    refine AWo.nil trivial ?_
    refine AW.seqR ?_
    refine AWo.pure (PureOp.assign rfl) rfl rfl ?_
    refine AWo.nil trivial ?_
    refine AW.seq ?_
    refine AW.seqR ?_
    refine AWo.pure (PureOp.assign rfl) rfl rfl ?_
    refine AWo.nil trivial ?_
    refine AW.block ?_
    refine AW.loopw (fun mm σ => ∃ i, ∃ (l : List Nat), ∃ c, (i ≤ n + 1 ∧ l.length = i ∧ bd 4294967296 l ∧ c ≤ 1 ∧ num 4294967296 l + 4294967296 ^ i * c = num 4294967296 a % 4294967296 ^ i + num 4294967296 b % 4294967296 ^ i) ∧ mm = n + 1 - i ∧ σ = ⟨(upd (upd (upd (upd (upd (upd emp 0 (.slice (some ⟨0, 0, none⟩) a.length 0)) 1 (.slice (some ⟨1, 0, none⟩) b.length 0)) 5 (vi .i64 n)) 6 (.slice (some ⟨77000, 0, none⟩) i 0)) 7 (vi .u64 c)) 8 (vi .i64 i)), (upd (upd (upd emp 0 ⟨a.map (vi .u64), false, 1⟩) 1 ⟨b.map (vi .u64), false, 1⟩) 77000 ⟨l.map (vi .u64), true, 1⟩)⟩) (fm := [(77000, 21000)]) ?_ ⟨0, [], 0, ⟨by omega, rfl, bd_nil, by omega, by simp [num, Nat.mod_one]⟩, rfl, rfl⟩ ?_
    ·
      refine Wk.of [0, 1, 77000] ?_ ?_ ?_ (by decide) rfl
      ·
        refine WkE.upd rfl (by first | exact VR.flat _ rfl | exact VR.eqv (vp_succ _) rfl | exact VR.eqv (vp_succ _).symm rfl | exact VR.eqv (by first | rfl | (congr 1; omega) | (simp; done) | (simp; omega)) rfl) ?_
        refine WkE.upd rfl (by first | exact VR.flat _ rfl | exact VR.eqv (vp_succ _) rfl | exact VR.eqv (vp_succ _).symm rfl | exact VR.eqv (by first | rfl | (congr 1; omega) | (simp; done) | (simp; omega)) rfl) ?_
        refine WkE.upd rfl (.slice (77000) 0 _ 0 ⟨_, rfl⟩ (by simp) (by simp)) ?_
        refine WkE.upd rfl (by first | exact VR.flat _ rfl | exact VR.eqv (vp_succ _) rfl | exact VR.eqv (vp_succ _).symm rfl | exact VR.eqv (by first | rfl | (congr 1; omega) | (simp; done) | (simp; omega)) rfl) ?_
        refine WkE.upd rfl (.slice (1) 0 _ 0 ⟨_, rfl⟩ (by simp) (by simp)) ?_
        refine WkE.upd rfl (.slice (0) 0 _ 0 ⟨_, rfl⟩ (by simp) (by simp)) ?_
        exact WkE.emp
      ·
        refine WkM.flatM rfl (by first | rfl | assumption | simp) (fun _ => rfl) (fun h => h) ?_
        refine WkM.flatM rfl (by first | rfl | assumption | simp) (fun _ => rfl) (fun h => h) ?_
        refine WkM.flatM rfl (by first | rfl | assumption | simp) (fun _ => rfl) (fun h => h) ?_
        exact WkM.emp
      ·
        repeat (refine dom_upd_mem (by decide) ?_)
        exact dom_emp
    ·
      rintro mm σ ⟨i, l, c, ⟨hi0, hl2, hbl, hc, hnl⟩, rfl, rfl⟩
      have hx := bd_getD ha (by decide) i
      have hy := bd_getD hb (by decide) i
      refine AW.seq ?_
      refine AW.seqR ?_
      refine AWo.pure (PureOp.move rfl) rfl rfl ?_
      refine AWo.pure (PureOp.move rfl) rfl rfl ?_
      first | refine AWo.pure (PureOp.leN rfl rfl) rfl rfl ?_ | refine AWo.pure (PureOp.bin rfl rfl rfl) rfl rfl ?_
      refine AWo.nil trivial ?_
      refine AW.cond rfl (fun hb1 => ?_) (fun hb1 => ?_)
      ·
        have hi : i ≤ n := by simpa using hb1
        refine AW.skip ?_
        refine thenA_normal ?_
        refine AW.seq ?_
        refine AW.block ?_
        refine AW.seqR ?_
        refine AWo.pure (PureOp.move rfl) rfl rfl ?_
        refine AWo.pure (PureOp.move rfl) rfl rfl ?_
        refine AWo.callX (get_ctr) bd115 [(0, 0)] [] rfl (.cons rfl (.cons rfl .nil)) rfl (.cons rfl rfl (.cons rfl rfl .nil)) (.flat rfl (by first | exact flatM flat_vi | exact flatM flat_bool | (simp [flatV, flat_vi]; done)) (by intro h; first | exact h | rfl) .nil) rfl (.keep rfl .nil) frN (by decide) (.cons rfl rfl .nil) rfl rfl rfl rfl ?_
        refine AWo.pure (PureOp.move rfl) rfl rfl ?_
        refine AWo.pure (PureOp.move rfl) rfl rfl ?_
        refine AWo.callX (get_ctr) bd115 [(1, 0)] [] rfl (.cons rfl (.cons rfl .nil)) rfl (.cons rfl rfl (.cons rfl rfl .nil)) (.flat rfl (by first | exact flatM flat_vi | exact flatM flat_bool | (simp [flatV, flat_vi]; done)) (by intro h; first | exact h | rfl) .nil) rfl (.keep rfl .nil) frN (by decide) (.cons rfl rfl .nil) rfl rfl rfl rfl ?_
        first | refine AWo.pure ((PureOp.addU 18446744073709551616 rfl rfl rfl rfl).mono (v' := vi .u64 (a.getD i 0 + b.getD i 0)) (by rw [Nat.mod_eq_of_lt (by omega)])) rfl rfl ?_ | refine AWo.pure ((PureOp.bin rfl rfl rfl).mono (v' := vi .u64 (a.getD i 0 + b.getD i 0)) (by rw [Nat.mod_eq_of_lt (by omega)])) rfl rfl ?_
        refine AWo.pure (PureOp.move rfl) rfl rfl ?_
        first | refine AWo.pure ((PureOp.addU 18446744073709551616 rfl rfl rfl rfl).mono (v' := vi .u64 (a.getD i 0 + b.getD i 0 + c)) (by rw [Nat.mod_eq_of_lt (by omega)])) rfl rfl ?_ | refine AWo.pure ((PureOp.bin rfl rfl rfl).mono (v' := vi .u64 (a.getD i 0 + b.getD i 0 + c)) (by rw [Nat.mod_eq_of_lt (by omega)])) rfl rfl ?_
        refine AWo.pure (PureOp.assign rfl) rfl rfl ?_
        refine AWo.nil trivial ?_
        refine AW.seqR ?_
        refine AWo.pure (PureOp.move rfl) rfl rfl ?_
        refine AWo.pure (PureOp.move rfl) rfl rfl ?_
        first | refine AWo.pure (PureOp.remN (b := 4294967296) rfl rfl (by first | decide | omega)) rfl rfl ?_ | refine AWo.pure (PureOp.rem rfl rfl (by first | decide | omega)) rfl rfl ?_
        refine AWo.buildSlice tbok 39000 [(0, vi .u64 ((a.getD i 0 + b.getD i 0 + c) % 4294967296))] (out := [vi .u64 ((a.getD i 0 + b.getD i 0 + c) % 4294967296)]) rfl rfl (by decide) rfl rfl rfl (by decide) rfl rfl rfl rfl rfl ?_
        refine AWo.append tbok (all := (l ++ [(a.getD i 0 + b.getD i 0 + c) % 4294967296]).map (vi .u64)) 40000 rfl rfl rfl rfl (by simp [hl2]) rfl (by first | decide | (simp; done) | (simp; omega)) (by decide) rfl rfl rfl (by decide) rfl rfl rfl (by first | decide | omega) (by first | decide | omega) rfl (map_snoc _ _ _) rfl rfl ?_
        refine AWo.pure (PureOp.assign rfl) rfl rfl ?_
        refine AWo.nil trivial ?_
        refine AW.region ?_
        refine AWo.pure (PureOp.move rfl) rfl rfl ?_
        first | refine AWo.pure (PureOp.quoN (b := 4294967296) 18446744073709551616 rfl rfl (by decide) (by decide) (by first | decide | omega) (by first | decide | omega)) rfl rfl ?_ | refine AWo.pure (PureOp.quo rfl rfl (by first | decide | omega)) rfl rfl ?_
        refine AWo.pure (PureOp.assign rfl) rfl rfl ?_
        refine AWo.nil trivial ?_
        refine inBlockA_normal ?_
        refine thenA_normal ?_
        refine AW.region ?_
        refine AWo.pure (PureOp.move rfl) rfl rfl ?_
        first | refine AWo.pure (PureOp.addI (b := 1) rfl rfl (by first | decide | omega)) rfl rfl ?_ | refine AWo.pure (PureOp.bin rfl rfl rfl) rfl rfl ?_
        refine AWo.pure (PureOp.assign rfl) rfl rfl ?_
        refine AWo.nil trivial ?_
        refine thenA_normal ?_
        refine ⟨n + 1 - (i + 1), [(77000, 40000)], _, by omega, ?_, i + 1, l ++ [(a.getD i 0 + b.getD i 0 + c) % 4294967296], (a.getD i 0 + b.getD i 0 + c) / 4294967296, ⟨by omega, snoc_len hl2, bd_snoc hbl (Nat.mod_lt _ (by decide)), by omega, add_step hl2 hnl (num_getD ha (by decide) i) (num_getD hb (by decide) i)⟩, rfl, rfl⟩
        refine Wk.of [0, 1, 77000] ?_ ?_ ?_ (by decide) rfl
        ·
          refine WkE.upd rfl (by first | exact VR.flat _ rfl | exact VR.eqv (vp_succ _) rfl | exact VR.eqv (vp_succ _).symm rfl | exact VR.eqv (by first | rfl | (congr 1; omega) | (simp; done) | (simp; omega)) rfl) ?_
          refine WkE.upd rfl (by first | exact VR.flat _ rfl | exact VR.eqv (vp_succ _) rfl | exact VR.eqv (vp_succ _).symm rfl | exact VR.eqv (by first | rfl | (congr 1; omega) | (simp; done) | (simp; omega)) rfl) ?_
          refine WkE.upd rfl (.slice (77000) 0 _ 0 ⟨_, rfl⟩ (by simp) (by simp)) ?_
          refine WkE.upd rfl (by first | exact VR.flat _ rfl | exact VR.eqv (vp_succ _) rfl | exact VR.eqv (vp_succ _).symm rfl | exact VR.eqv (by first | rfl | (congr 1; omega) | (simp; done) | (simp; omega)) rfl) ?_
          refine WkE.upd rfl (.slice (1) 0 _ 0 ⟨_, rfl⟩ (by simp) (by simp)) ?_
          refine WkE.upd rfl (.slice (0) 0 _ 0 ⟨_, rfl⟩ (by simp) (by simp)) ?_
          exact WkE.emp
        ·
          refine WkM.flatM rfl (by first | rfl | assumption | simp) (fun _ => rfl) (fun h => h) ?_
          refine WkM.flatM rfl (by first | rfl | assumption | simp) (fun _ => rfl) (fun h => h) ?_
          refine WkM.flatM rfl (by first | rfl | assumption | simp) (fun _ => rfl) (fun h => h) ?_
          exact WkM.emp
        ·
          repeat (refine dom_upd_mem (by decide) ?_)
          exact dom_emp
      ·
        have hi : i = n + 1 := by simp at hb1; omega
        subst hi
        have hv := add_end (by decide) hnl (num_lt_pow ha (by decide) hn1) (num_lt_pow hb (by decide) hn2)
        refine AW.exit ?_
        refine thenA_exit ?_
        refine thenA_exit ?_
        refine inBlockA_hit ?_
        refine thenA_normal ?_
        refine AW.seqR ?_
        refine AWo.pure (PureOp.move rfl) rfl rfl ?_
        refine AWo.callX (trim_ctr (a := l) hbl hv hl2 (by omega)) bd118 [(77000, 0)] [] rfl (.cons rfl .nil) rfl (.cons rfl rfl .nil) (.flat rfl (by first | exact flatM flat_vi | exact flatM flat_bool | (simp [flatV, flat_vi]; done)) (by intro h; first | exact h | rfl) .nil) rfl (.keep rfl .nil) frN (by decide) (.cons rfl rfl .nil) rfl rfl rfl rfl ?_
        refine AWo.pure (PureOp.assign rfl) rfl rfl ?_
        refine AWo.nil trivial ?_
        refine AW.ret ?_
        refine RetQ.gc [_] [77000] [.tmp 4] (.inl rfl) rfl (.tmp rfl .nil) rfl (.cons rfl rfl .nil) (OutL.flat rfl (by first | exact flatM flat_vi | exact flatM flat_bool | (simp [flatV, flat_vi]; done)) (by intro h; first | rfl | exact h.elim id fun h => absurd h.1 (by simp)) (OutL.flat rfl (by first | exact flatM flat_vi | exact flatM flat_bool | (simp [flatV, flat_vi]; done)) (by intro h; first | rfl | exact h.elim id fun h => absurd h.1 (by simp)) (OutL.part rfl (dpart (by decide) hbl hv) (flatM flat_vi) (fun _ => rfl) (dpart_len (by decide) hbl hv) trivial))) (by decide) rfl

set_option maxRecDepth 10000 in
theorem rsub_ctr {a b : List Nat} (ha : bd 4294967296 a) (hb : bd 4294967296 b) (hla : a.length < 100000000) (hlb : b.length < 100000000) (hle : num 4294967296 b ≤ num 4294967296 a) : GC Try.prog 71 [.slice (some ⟨0, 0, none⟩) a.length 0, .slice (some ⟨1, 0, none⟩) b.length 0] [⟨a.map (vi .u64), false, 1⟩, ⟨b.map (vi .u64), false, 1⟩] [.slice (some ⟨2, 0, none⟩) (D 4294967296 (num 4294967296 a - num 4294967296 b)).length 0] [⟨a.map (vi .u64), false, 1⟩, ⟨b.map (vi .u64), false, 1⟩, ⟨(D 4294967296 (num 4294967296 a - num 4294967296 b)).map (vi .u64), true, 1⟩] := by
  refine GC.intro Try.func71 rfl (by show 2 ≤ 39; decide) (by first | exact Nat.le_refl _ | decide | simp) ?_
  refine AW.seqR ?_
  refine AWo.pure (PureOp.assign rfl) rfl rfl ?_
  refine AWo.nil trivial ?_
  refine AW.seqR ?_
  refine AWo.pure (PureOp.move rfl) rfl rfl ?_
  refine AWo.pure (PureOp.lenS tbok rfl rfl) rfl rfl ?_
  refine AWo.makeSliceC (n := 0) tbok 12000 ((List.replicate 0 0).map (vi .u64)) rfl rfl (by first | decide | omega) rfl rfl (by decide) rfl rfl rfl rfl (by first | decide | omega) (by first | decide | omega) (by simp [vi]) rfl rfl rfl ?_
  refine AWo.pure (PureOp.assign rfl) rfl rfl ?_
  refine AWo.nil trivial ?_
  refine AW.seqR ?_
  refine AWo.pure (PureOp.assign rfl) rfl rfl ?_
  refine AWo.nil trivial ?_
  refine AW.seq ?_
  refine AW.seqR ?_
  refine AWo.pure (PureOp.assign rfl) rfl rfl ?_
  refine AWo.nil trivial ?_
  refine AW.block ?_
  refine AW.loopw (fun mm σ => ∃ i, ∃ (l : List Nat), ∃ c, (i ≤ a.length ∧ l.length = i ∧ bd 4294967296 l ∧ c ≤ 1 ∧ num 4294967296 l + num 4294967296 b % 4294967296 ^ i = num 4294967296 a % 4294967296 ^ i + 4294967296 ^ i * c) ∧ mm = a.length - i ∧ σ = ⟨(upd (upd (upd (upd (upd emp 0 (.slice (some ⟨0, 0, none⟩) a.length 0)) 1 (.slice (some ⟨1, 0, none⟩) b.length 0)) 5 (.slice (some ⟨77000, 0, none⟩) i 0)) 6 (vi .u64 c)) 7 (vi .i64 i)), (upd (upd (upd emp 0 ⟨a.map (vi .u64), false, 1⟩) 1 ⟨b.map (vi .u64), false, 1⟩) 77000 ⟨l.map (vi .u64), true, 1⟩)⟩) (fm := [(77000, 12000)]) ?_ ⟨0, [], 0, ⟨by omega, rfl, bd_nil, by omega, by simp [num, Nat.mod_one]⟩, rfl, rfl⟩ ?_
  ·
    refine Wk.of [0, 1, 77000] ?_ ?_ ?_ (by decide) rfl
    ·
      refine WkE.upd rfl (by first | exact VR.flat _ rfl | exact VR.eqv (vp_succ _) rfl | exact VR.eqv (vp_succ _).symm rfl | exact VR.eqv (by first | rfl | (congr 1; omega) | (simp; done) | (simp; omega)) rfl) ?_
      refine WkE.upd rfl (by first | exact VR.flat _ rfl | exact VR.eqv (vp_succ _) rfl | exact VR.eqv (vp_succ _).symm rfl | exact VR.eqv (by first | rfl | (congr 1; omega) | (simp; done) | (simp; omega)) rfl) ?_
      refine WkE.upd rfl (.slice (77000) 0 _ 0 ⟨_, rfl⟩ (by simp) (by simp)) ?_
      refine WkE.upd rfl (.slice (1) 0 _ 0 ⟨_, rfl⟩ (by simp) (by simp)) ?_
      refine WkE.upd rfl (.slice (0) 0 _ 0 ⟨_, rfl⟩ (by simp) (by simp)) ?_
      exact WkE.emp
    ·
      refine WkM.flatM rfl (by first | rfl | assumption | simp) (fun _ => rfl) (fun h => h) ?_
      refine WkM.flatM rfl (by first | rfl | assumption | simp) (fun _ => rfl) (fun h => h) ?_
      refine WkM.flatM rfl (by first | rfl | assumption | simp) (fun _ => rfl) (fun h => h) ?_
      exact WkM.emp
    ·
      repeat (refine dom_upd_mem (by decide) ?_)
      exact dom_emp
  ·
    rintro mm σ ⟨i, l, c, ⟨hi0, hl2, hbl, hc, hnl⟩, rfl, rfl⟩
    have hx := bd_getD ha (by decide) i
    have hy := bd_getD hb (by decide) i
    refine AW.seq ?_
    refine AW.seqR ?_
    refine AWo.pure (PureOp.move rfl) rfl rfl ?_
    refine AWo.pure (PureOp.move rfl) rfl rfl ?_
    refine AWo.pure (PureOp.lenS tbok rfl rfl) rfl rfl ?_
    first | refine AWo.pure (PureOp.ltN rfl rfl) rfl rfl ?_ | refine AWo.pure (PureOp.bin rfl rfl rfl) rfl rfl ?_
    refine AWo.nil trivial ?_
    refine AW.cond rfl (fun hb0 => ?_) (fun hb0 => ?_)
    ·
      have hi : i < a.length := by simpa using hb0
      refine AW.skip ?_
      refine thenA_normal ?_
      refine AW.seq ?_
      refine AW.block ?_
      refine AW.seqD mixed ?_
      refine AWo.pure (PureOp.move rfl) rfl rfl ?_
      refine AWo.pure (PureOp.move rfl) rfl rfl ?_
      first | refine AWo.pure (PureOp.idx1 tbok rfl rfl rfl rfl (by first | decide | omega)) rfl rfl ?_ | refine AWo.pure (PureOp.idx tbok rfl rfl rfl rfl (by first | decide | omega)) rfl rfl ?_
      first | refine AWo.loadM tbok 0 rfl rfl rfl (by first | decide | omega) rfl rfl ?_ | refine AWo.load tbok rfl rfl rfl rfl rfl rfl ?_
      first | refine AWo.pure ((PureOp.addU (a := 4294967296) 18446744073709551616 rfl rfl rfl rfl).mono (v' := vi .u64 (4294967296 + a.getD i 0)) (by rw [Nat.mod_eq_of_lt (by omega)])) rfl rfl ?_ | refine AWo.pure ((PureOp.bin rfl rfl rfl).mono (v' := vi .u64 (4294967296 + a.getD i 0)) (by rw [Nat.mod_eq_of_lt (by omega)])) rfl rfl ?_
      refine AWo.pure (PureOp.move rfl) rfl rfl ?_
      refine AWo.pure (PureOp.move rfl) rfl rfl ?_
      refine AWo.callX (get_ctr) bd115 [(1, 0)] [] rfl (.cons rfl (.cons rfl .nil)) rfl (.cons rfl rfl (.cons rfl rfl .nil)) (.flat rfl (by first | exact flatM flat_vi | exact flatM flat_bool | (simp [flatV, flat_vi]; done)) (by intro h; first | exact h | rfl) .nil) rfl (.keep rfl .nil) frN (by decide) (.cons rfl rfl .nil) rfl rfl rfl rfl ?_
      first | refine AWo.pure ((PureOp.subU 18446744073709551616 rfl rfl rfl rfl (by first | decide | omega)).mono (v' := vi .u64 (4294967296 + a.getD i 0 - b.getD i 0)) (by congr 1; omega)) rfl rfl ?_ | refine AWo.pure ((PureOp.bin rfl rfl rfl).mono (v' := vi .u64 (4294967296 + a.getD i 0 - b.getD i 0)) (by congr 1; omega)) rfl rfl ?_
      refine AWo.pure (PureOp.move rfl) rfl rfl ?_
      first | refine AWo.pure ((PureOp.subU 18446744073709551616 rfl rfl rfl rfl (by first | decide | omega)).mono (v' := vi .u64 (4294967296 + a.getD i 0 - b.getD i 0 - c)) (by congr 1; omega)) rfl rfl ?_ | refine AWo.pure ((PureOp.bin rfl rfl rfl).mono (v' := vi .u64 (4294967296 + a.getD i 0 - b.getD i 0 - c)) (by congr 1; omega)) rfl rfl ?_
      refine AWo.pure (PureOp.assign rfl) rfl rfl ?_
      refine AWo.nil (by kernel_rfl) ?_
      refine AW.seqR ?_
      refine AWo.pure (PureOp.move rfl) rfl rfl ?_
      refine AWo.pure (PureOp.move rfl) rfl rfl ?_
      first | refine AWo.pure (PureOp.remN (b := 4294967296) rfl rfl (by first | decide | omega)) rfl rfl ?_ | refine AWo.pure (PureOp.rem rfl rfl (by first | decide | omega)) rfl rfl ?_
      refine AWo.buildSlice tbok 33000 [(0, vi .u64 ((4294967296 + a.getD i 0 - b.getD i 0 - c) % 4294967296))] (out := [vi .u64 ((4294967296 + a.getD i 0 - b.getD i 0 - c) % 4294967296)]) rfl rfl (by decide) rfl rfl rfl (by decide) rfl rfl rfl rfl rfl ?_
      refine AWo.append tbok (all := (l ++ [(4294967296 + a.getD i 0 - b.getD i 0 - c) % 4294967296]).map (vi .u64)) 34000 rfl rfl rfl rfl (by simp [hl2]) rfl (by first | decide | (simp; done) | (simp; omega)) (by decide) rfl rfl rfl (by decide) rfl rfl rfl (by first | decide | omega) (by first | decide | omega) rfl (map_snoc _ _ _) rfl rfl ?_
      refine AWo.pure (PureOp.assign rfl) rfl rfl ?_
      refine AWo.nil trivial ?_
      refine AW.region ?_
      refine AWo.pure (PureOp.move rfl) rfl rfl ?_
      first | refine AWo.pure (PureOp.quoN (b := 4294967296) 18446744073709551616 rfl rfl (by decide) (by decide) (by first | decide | omega) (by first | decide | omega)) rfl rfl ?_ | refine AWo.pure (PureOp.quo rfl rfl (by first | decide | omega)) rfl rfl ?_
      first | refine AWo.pure ((PureOp.subU (a := 1) 18446744073709551616 rfl rfl rfl rfl (by first | decide | omega)).mono (v' := vi .u64 (1 - (4294967296 + a.getD i 0 - b.getD i 0 - c) / 4294967296)) (by congr 1; omega)) rfl rfl ?_ | refine AWo.pure ((PureOp.bin rfl rfl rfl).mono (v' := vi .u64 (1 - (4294967296 + a.getD i 0 - b.getD i 0 - c) / 4294967296)) (by congr 1; omega)) rfl rfl ?_
      refine AWo.pure (PureOp.assign rfl) rfl rfl ?_
      refine AWo.nil trivial ?_
      refine inBlockA_normal ?_
      refine thenA_normal ?_
      refine AW.region ?_
      refine AWo.pure (PureOp.move rfl) rfl rfl ?_
      first | refine AWo.pure (PureOp.addI (b := 1) rfl rfl (by first | decide | omega)) rfl rfl ?_ | refine AWo.pure (PureOp.bin rfl rfl rfl) rfl rfl ?_
      refine AWo.pure (PureOp.assign rfl) rfl rfl ?_
      refine AWo.nil trivial ?_
      refine thenA_normal ?_
      refine ⟨a.length - (i + 1), [(77000, 34000)], _, by omega, ?_, i + 1, l ++ [(4294967296 + a.getD i 0 - b.getD i 0 - c) % 4294967296], 1 - (4294967296 + a.getD i 0 - b.getD i 0 - c) / 4294967296, ⟨by omega, snoc_len hl2, bd_snoc hbl (Nat.mod_lt _ (by decide)), by omega, sub_step hl2 hnl (num_getD ha (by decide) i) (num_getD hb (by decide) i) hy hc⟩, rfl, rfl⟩
      refine Wk.of [0, 1, 77000] ?_ ?_ ?_ (by decide) rfl
      ·
        refine WkE.upd rfl (by first | exact VR.flat _ rfl | exact VR.eqv (vp_succ _) rfl | exact VR.eqv (vp_succ _).symm rfl | exact VR.eqv (by first | rfl | (congr 1; omega) | (simp; done) | (simp; omega)) rfl) ?_
        refine WkE.upd rfl (by first | exact VR.flat _ rfl | exact VR.eqv (vp_succ _) rfl | exact VR.eqv (vp_succ _).symm rfl | exact VR.eqv (by first | rfl | (congr 1; omega) | (simp; done) | (simp; omega)) rfl) ?_
        refine WkE.upd rfl (.slice (77000) 0 _ 0 ⟨_, rfl⟩ (by simp) (by simp)) ?_
        refine WkE.upd rfl (.slice (1) 0 _ 0 ⟨_, rfl⟩ (by simp) (by simp)) ?_
        refine WkE.upd rfl (.slice (0) 0 _ 0 ⟨_, rfl⟩ (by simp) (by simp)) ?_
        exact WkE.emp
      ·
        refine WkM.flatM rfl (by first | rfl | assumption | simp) (fun _ => rfl) (fun h => h) ?_
        refine WkM.flatM rfl (by first | rfl | assumption | simp) (fun _ => rfl) (fun h => h) ?_
        refine WkM.flatM rfl (by first | rfl | assumption | simp) (fun _ => rfl) (fun h => h) ?_
        exact WkM.emp
      ·
        repeat (refine dom_upd_mem (by decide) ?_)
        exact dom_emp
    ·
      have hi : i = a.length := by simp at hb0; omega
      have hv := sub_end hbl hl2 hnl (by rw [hi]; exact num_lt ha) hle
      refine AW.exit ?_
      refine thenA_exit ?_
      refine thenA_exit ?_
      refine inBlockA_hit ?_
      refine thenA_normal ?_
      refine AW.seqR ?_
      refine AWo.pure (PureOp.move rfl) rfl rfl ?_
      refine AWo.callX (trim_ctr (a := l) hbl hv hl2 (by omega)) bd118 [(77000, 0)] [] rfl (.cons rfl .nil) rfl (.cons rfl rfl .nil) (.flat rfl (by first | exact flatM flat_vi | exact flatM flat_bool | (simp [flatV, flat_vi]; done)) (by intro h; first | exact h | rfl) .nil) rfl (.keep rfl .nil) frN (by decide) (.cons rfl rfl .nil) rfl rfl rfl rfl ?_
      refine AWo.pure (PureOp.assign rfl) rfl rfl ?_
      refine AWo.nil trivial ?_
      refine AW.ret ?_
      refine RetQ.gc [_] [77000] [.tmp 4] (.inl rfl) rfl (.tmp rfl .nil) rfl (.cons rfl rfl .nil) (OutL.flat rfl (by first | exact flatM flat_vi | exact flatM flat_bool | (simp [flatV, flat_vi]; done)) (by intro h; first | rfl | exact h.elim id fun h => absurd h.1 (by simp)) (OutL.flat rfl (by first | exact flatM flat_vi | exact flatM flat_bool | (simp [flatV, flat_vi]; done)) (by intro h; first | rfl | exact h.elim id fun h => absurd h.1 (by simp)) (OutL.part rfl (dpart (by decide) hbl hv) (flatM flat_vi) (fun _ => rfl) (dpart_len (by decide) hbl hv) trivial))) (by decide) rfl

set_option maxRecDepth 10000 in
theorem rmul_ctr {a b : List Nat} (ha : bd 4294967296 a) (hb : bd 4294967296 b) (hla : a.length < 100000000) (hlb : b.length < 100000000) : GC Try.prog 72 [.slice (some ⟨0, 0, none⟩) a.length 0, .slice (some ⟨1, 0, none⟩) b.length 0] [⟨a.map (vi .u64), false, 1⟩, ⟨b.map (vi .u64), false, 1⟩] [.slice (some ⟨2, 0, none⟩) (D 4294967296 (num 4294967296 a * num 4294967296 b)).length 0] [⟨a.map (vi .u64), false, 1⟩, ⟨b.map (vi .u64), false, 1⟩, ⟨(D 4294967296 (num 4294967296 a * num 4294967296 b)).map (vi .u64), true, 1⟩] := by
  refine GC.intro Try.func72 rfl (by show 2 ≤ 65; decide) (by first | exact Nat.le_refl _ | decide | simp) ?_
  refine AW.seqR ?_
  refine AWo.pure (PureOp.assign rfl) rfl rfl ?_
  refine AWo.nil trivial ?_
  refine AW.seqR ?_
  refine AWo.pure (PureOp.move rfl) rfl rfl ?_
  refine AWo.pure (PureOp.lenS tbok rfl rfl) rfl rfl ?_
  refine AWo.pure (PureOp.move rfl) rfl rfl ?_
  refine AWo.pure (PureOp.lenS tbok rfl rfl) rfl rfl ?_
  first | refine AWo.pure (PureOp.addI rfl rfl (by first | decide | omega)) rfl rfl ?_ | refine AWo.pure (PureOp.bin rfl rfl rfl) rfl rfl ?_
  first | refine AWo.pure (PureOp.addI (b := 1) rfl rfl (by first | decide | omega)) rfl rfl ?_ | refine AWo.pure (PureOp.bin rfl rfl rfl) rfl rfl ?_
  refine AWo.makeI tbok 17000 rfl rfl rfl rfl rfl rfl (by first | decide | omega) (by first | decide | omega) rfl rfl rfl ?_
  refine AWo.pure (PureOp.assign rfl) rfl rfl ?_
  refine AWo.nil trivial ?_
  refine AW.seq ?_
  refine AW.seqR ?_
  refine AWo.pure (PureOp.assign rfl) rfl rfl ?_
  refine AWo.nil trivial ?_
  refine AW.block ?_
  refine AW.loopw (fun mm σ => ∃ i, ∃ (l : List Nat), (i ≤ a.length ∧ l.length = a.length + b.length + 1 ∧ bd 4294967296 l ∧ num 4294967296 l = num 4294967296 (a.take i) * num 4294967296 b ∧ (∀ k, i + b.length ≤ k → l.getD k 0 = 0)) ∧ mm = a.length - i ∧ σ = ⟨(upd (upd (upd (upd emp 0 (.slice (some ⟨0, 0, none⟩) a.length 0)) 1 (.slice (some ⟨1, 0, none⟩) b.length 0)) 5 (.slice (some ⟨77000, 0, none⟩) (a.length + b.length + 1) 0)) 6 (vi .i64 i)), (upd (upd (upd emp 0 ⟨a.map (vi .u64), false, 1⟩) 1 ⟨b.map (vi .u64), false, 1⟩) 77000 ⟨l.map (vi .u64), true, 1⟩)⟩) (fm := [(77000, 17000)]) ?_ ⟨0, List.replicate (a.length + b.length + 1) 0, ⟨by omega, by simp, bd_replicate (by decide) _, by simp [num, num_replicate], fun k _ => rep_getD _ _⟩, rfl, rfl⟩ ?_
  ·
    refine Wk.of [0, 1, 77000] ?_ ?_ ?_ (by decide) rfl
    ·
      refine WkE.upd rfl (by first | exact VR.flat _ rfl | exact VR.eqv (vp_succ _) rfl | exact VR.eqv (vp_succ _).symm rfl | exact VR.eqv (by first | rfl | (congr 1; omega) | (simp; done) | (simp; omega)) rfl) ?_
      refine WkE.upd rfl (.slice (77000) 0 _ 0 ⟨_, rfl⟩ (by simp) (by simp)) ?_
      refine WkE.upd rfl (.slice (1) 0 _ 0 ⟨_, rfl⟩ (by simp) (by simp)) ?_
      refine WkE.upd rfl (.slice (0) 0 _ 0 ⟨_, rfl⟩ (by simp) (by simp)) ?_
      exact WkE.emp
    ·
      refine WkM.flatM rfl (by first | rfl | assumption | simp) (fun _ => rfl) (fun h => h) ?_
      refine WkM.flatM rfl (by first | rfl | assumption | simp) (fun _ => rfl) (fun h => h) ?_
      refine WkM.flatM rfl (by first | rfl | assumption | simp) (fun _ => rfl) (fun h => h) ?_
      exact WkM.emp
    ·
      repeat (refine dom_upd_mem (by decide) ?_)
      exact dom_emp
  ·
    rintro mm σ ⟨i, l, ⟨hi0, hl2, hbl, hnl, hz⟩, rfl, rfl⟩
    refine AW.seq ?_
    refine AW.seqR ?_
    refine AWo.pure (PureOp.move rfl) rfl rfl ?_
    refine AWo.pure (PureOp.move rfl) rfl rfl ?_
    refine AWo.pure (PureOp.lenS tbok rfl rfl) rfl rfl ?_
    first | refine AWo.pure (PureOp.ltN rfl rfl) rfl rfl ?_ | refine AWo.pure (PureOp.bin rfl rfl rfl) rfl rfl ?_
    refine AWo.nil trivial ?_
    refine AW.cond rfl (fun hb0 => ?_) (fun hb0 => ?_)
    ·
      have hi : i < a.length := by simpa using hb0
      refine AW.skip ?_
      refine thenA_normal ?_
      refine AW.seq ?_
      refine AW.block ?_
      refine AW.seqR ?_
      refine AWo.pure (PureOp.assign rfl) rfl rfl ?_
      refine AWo.nil trivial ?_
      refine AW.seq ?_
      refine AW.seqR ?_
      refine AWo.pure (PureOp.assign rfl) rfl rfl ?_
      refine AWo.nil trivial ?_
      refine AW.block ?_
      refine AW.loopw (fun mm σ => ∃ j, ∃ (l2 : List Nat), ∃ c, (j ≤ b.length ∧ l2.length = a.length + b.length + 1 ∧ bd 4294967296 l2 ∧ c < 4294967296 ∧ num 4294967296 l2 + c * 4294967296 ^ (i + j) = num 4294967296 (a.take i) * num 4294967296 b + a.getD i 0 * num 4294967296 (b.take j) * 4294967296 ^ i ∧ (∀ k, i + b.length ≤ k → l2.getD k 0 = 0)) ∧ mm = b.length - j ∧ σ = ⟨(upd (upd (upd (upd (upd (upd emp 0 (.slice (some ⟨0, 0, none⟩) a.length 0)) 1 (.slice (some ⟨1, 0, none⟩) b.length 0)) 5 (.slice (some ⟨77000, 0, none⟩) (a.length + b.length + 1) 0)) 6 (vi .i64 i)) 7 (vi .u64 c)) 8 (vi .i64 j)), (upd (upd (upd emp 0 ⟨a.map (vi .u64), false, 1⟩) 1 ⟨b.map (vi .u64), false, 1⟩) 77000 ⟨l2.map (vi .u64), true, 1⟩)⟩) (fm := []) ?_ ⟨0, l, 0, ⟨by omega, hl2, hbl, by decide, by simp [num, hnl], hz⟩, rfl, rfl⟩ ?_
      ·
        refine Wk.of [0, 1, 77000] ?_ ?_ ?_ (by decide) rfl
        ·
          refine WkE.upd rfl (by first | exact VR.flat _ rfl | exact VR.eqv (vp_succ _) rfl | exact VR.eqv (vp_succ _).symm rfl | exact VR.eqv (by first | rfl | (congr 1; omega) | (simp; done) | (simp; omega)) rfl) ?_
          refine WkE.upd rfl (by first | exact VR.flat _ rfl | exact VR.eqv (vp_succ _) rfl | exact VR.eqv (vp_succ _).symm rfl | exact VR.eqv (by first | rfl | (congr 1; omega) | (simp; done) | (simp; omega)) rfl) ?_
          refine WkE.upd rfl (by first | exact VR.flat _ rfl | exact VR.eqv (vp_succ _) rfl | exact VR.eqv (vp_succ _).symm rfl | exact VR.eqv (by first | rfl | (congr 1; omega) | (simp; done) | (simp; omega)) rfl) ?_
          refine WkE.upd rfl (.slice (77000) 0 _ 0 ⟨_, rfl⟩ (by simp) (by simp)) ?_
          refine WkE.upd rfl (.slice (1) 0 _ 0 ⟨_, rfl⟩ (by simp) (by simp)) ?_
          refine WkE.upd rfl (.slice (0) 0 _ 0 ⟨_, rfl⟩ (by simp) (by simp)) ?_
          exact WkE.emp
        ·
          refine WkM.flatM rfl (by first | rfl | assumption | simp) (fun _ => rfl) (fun h => h) ?_
          refine WkM.flatM rfl (by first | rfl | assumption | simp) (fun _ => rfl) (fun h => h) ?_
          refine WkM.flatM rfl (by first | rfl | assumption | simp) (fun _ => rfl) (fun h => h) ?_
          exact WkM.emp
        ·
          repeat (refine dom_upd_mem (by decide) ?_)
          exact dom_emp
      ·
        rintro mm σ ⟨j, l2, c, ⟨hj0, hk2, hbk, hc, hnk, hzk⟩, rfl, rfl⟩
        have hx := bd_getD ha (by decide) i
        have hy := bd_getD hb (by decide) j
        have he := bd_getD hbk (by decide) (i + j)
        have hlt := mad_lt he hx hy hc
        refine AW.seq ?_
        refine AW.seqR ?_
        refine AWo.pure (PureOp.move rfl) rfl rfl ?_
        refine AWo.pure (PureOp.move rfl) rfl rfl ?_
        refine AWo.pure (PureOp.lenS tbok rfl rfl) rfl rfl ?_
        first | refine AWo.pure (PureOp.ltN rfl rfl) rfl rfl ?_ | refine AWo.pure (PureOp.bin rfl rfl rfl) rfl rfl ?_
        refine AWo.nil trivial ?_
        refine AW.cond rfl (fun hb1 => ?_) (fun hb1 => ?_)
        ·
          have hj : j < b.length := by simpa using hb1
          refine AW.skip ?_
          refine thenA_normal ?_
          refine AW.seq ?_
          refine AW.block ?_
          refine AW.seqD mixed ?_
          refine AWo.pure (PureOp.move rfl) rfl rfl ?_
          refine AWo.pure (PureOp.move rfl) rfl rfl ?_
          refine AWo.pure (PureOp.move rfl) rfl rfl ?_
          first | refine AWo.pure (PureOp.addI rfl rfl (by first | decide | omega)) rfl rfl ?_ | refine AWo.pure (PureOp.bin rfl rfl rfl) rfl rfl ?_
          first | refine AWo.pure (PureOp.idx1 tbok rfl rfl rfl rfl (by first | decide | omega)) rfl rfl ?_ | refine AWo.pure (PureOp.idx tbok rfl rfl rfl rfl (by first | decide | omega)) rfl rfl ?_
          first | refine AWo.loadM tbok 0 rfl rfl rfl (by first | decide | omega) rfl rfl ?_ | refine AWo.load tbok rfl rfl rfl rfl rfl rfl ?_
          refine AWo.pure (PureOp.move rfl) rfl rfl ?_
          refine AWo.pure (PureOp.move rfl) rfl rfl ?_
          first | refine AWo.pure (PureOp.idx1 tbok rfl rfl rfl rfl (by first | decide | omega)) rfl rfl ?_ | refine AWo.pure (PureOp.idx tbok rfl rfl rfl rfl (by first | decide | omega)) rfl rfl ?_
          first | refine AWo.loadM tbok 0 rfl rfl rfl (by first | decide | omega) rfl rfl ?_ | refine AWo.load tbok rfl rfl rfl rfl rfl rfl ?_
          refine AWo.pure (PureOp.move rfl) rfl rfl ?_
          refine AWo.pure (PureOp.move rfl) rfl rfl ?_
          first | refine AWo.pure (PureOp.idx1 tbok rfl rfl rfl rfl (by first | decide | omega)) rfl rfl ?_ | refine AWo.pure (PureOp.idx tbok rfl rfl rfl rfl (by first | decide | omega)) rfl rfl ?_
          first | refine AWo.loadM tbok 0 rfl rfl rfl (by first | decide | omega) rfl rfl ?_ | refine AWo.load tbok rfl rfl rfl rfl rfl rfl ?_
          first | refine AWo.pure ((PureOp.mulU 18446744073709551616 rfl rfl rfl rfl).mono (v' := vi .u64 (a.getD i 0 * b.getD j 0)) (by rw [Nat.mod_eq_of_lt (by omega)])) rfl rfl ?_ | refine AWo.pure ((PureOp.bin rfl rfl rfl).mono (v' := vi .u64 (a.getD i 0 * b.getD j 0)) (by rw [Nat.mod_eq_of_lt (by omega)])) rfl rfl ?_
          first | refine AWo.pure ((PureOp.addU 18446744073709551616 rfl rfl rfl rfl).mono (v' := vi .u64 (l2.getD (i + j) 0 + a.getD i 0 * b.getD j 0)) (by rw [Nat.mod_eq_of_lt (by omega)])) rfl rfl ?_ | refine AWo.pure ((PureOp.bin rfl rfl rfl).mono (v' := vi .u64 (l2.getD (i + j) 0 + a.getD i 0 * b.getD j 0)) (by rw [Nat.mod_eq_of_lt (by omega)])) rfl rfl ?_
          refine AWo.pure (PureOp.move rfl) rfl rfl ?_
          first | refine AWo.pure ((PureOp.addU 18446744073709551616 rfl rfl rfl rfl).mono (v' := vi .u64 (l2.getD (i + j) 0 + a.getD i 0 * b.getD j 0 + c)) (by rw [Nat.mod_eq_of_lt (by omega)])) rfl rfl ?_ | refine AWo.pure ((PureOp.bin rfl rfl rfl).mono (v' := vi .u64 (l2.getD (i + j) 0 + a.getD i 0 * b.getD j 0 + c)) (by rw [Nat.mod_eq_of_lt (by omega)])) rfl rfl ?_
          refine AWo.pure (PureOp.assign rfl) rfl rfl ?_
          refine AWo.nil (by kernel_rfl) ?_
          refine AW.seqR ?_
          refine AWo.pure (PureOp.move rfl) rfl rfl ?_
          refine AWo.pure (PureOp.move rfl) rfl rfl ?_
          refine AWo.pure (PureOp.move rfl) rfl rfl ?_
          first | refine AWo.pure (PureOp.addI rfl rfl (by first | decide | omega)) rfl rfl ?_ | refine AWo.pure (PureOp.bin rfl rfl rfl) rfl rfl ?_
          refine AWo.pure (PureOp.move rfl) rfl rfl ?_
          first | refine AWo.pure (PureOp.remN (b := 4294967296) rfl rfl (by first | decide | omega)) rfl rfl ?_ | refine AWo.pure (PureOp.rem rfl rfl (by first | decide | omega)) rfl rfl ?_
          first | refine AWo.pure (PureOp.idx1 tbok rfl rfl rfl rfl (by first | decide | omega)) rfl rfl ?_ | refine AWo.pure (PureOp.idx tbok rfl rfl rfl rfl (by first | decide | omega)) rfl rfl ?_
          first | refine AWo.storeM (f := (vi .u64)) tbok rfl rfl rfl rfl (by first | decide | omega) rfl rfl ?_ | refine AWo.store tbok rfl rfl rfl rfl rfl (by first | decide | (simp; omega)) rfl rfl rfl ?_
          refine AWo.nil trivial ?_
          refine AW.region ?_
          refine AWo.pure (PureOp.move rfl) rfl rfl ?_
          first | refine AWo.pure (PureOp.quoN (b := 4294967296) 18446744073709551616 rfl rfl (by decide) (by decide) (by first | decide | omega) (by first | decide | omega)) rfl rfl ?_ | refine AWo.pure (PureOp.quo rfl rfl (by first | decide | omega)) rfl rfl ?_
          refine AWo.pure (PureOp.assign rfl) rfl rfl ?_
          refine AWo.nil trivial ?_
          refine inBlockA_normal ?_
          refine thenA_normal ?_
          refine AW.region ?_
          refine AWo.pure (PureOp.move rfl) rfl rfl ?_
          first | refine AWo.pure (PureOp.addI (b := 1) rfl rfl (by first | decide | omega)) rfl rfl ?_ | refine AWo.pure (PureOp.bin rfl rfl rfl) rfl rfl ?_
          refine AWo.pure (PureOp.assign rfl) rfl rfl ?_
          refine AWo.nil trivial ?_
          refine thenA_normal ?_
          refine ⟨b.length - (j + 1), [], _, by omega, ?_, j + 1, l2.set (i + j) ((l2.getD (i + j) 0 + a.getD i 0 * b.getD j 0 + c) % 4294967296), (l2.getD (i + j) 0 + a.getD i 0 * b.getD j 0 + c) / 4294967296, ⟨by omega, by simp [hk2], bd_set hbk (Nat.mod_lt _ (by decide)), Nat.div_lt_of_lt_mul hlt, mul_step (by omega) hnk rfl, fun k hk => by rw [getD_set (by omega)]; exact hzk k hk⟩, rfl, rfl⟩
          refine Wk.of [0, 1, 77000] ?_ ?_ ?_ (by decide) rfl
          ·
            refine WkE.upd rfl (by first | exact VR.flat _ rfl | exact VR.eqv (vp_succ _) rfl | exact VR.eqv (vp_succ _).symm rfl | exact VR.eqv (by first | rfl | (congr 1; omega) | (simp; done) | (simp; omega)) rfl) ?_
            refine WkE.upd rfl (by first | exact VR.flat _ rfl | exact VR.eqv (vp_succ _) rfl | exact VR.eqv (vp_succ _).symm rfl | exact VR.eqv (by first | rfl | (congr 1; omega) | (simp; done) | (simp; omega)) rfl) ?_
            refine WkE.upd rfl (by first | exact VR.flat _ rfl | exact VR.eqv (vp_succ _) rfl | exact VR.eqv (vp_succ _).symm rfl | exact VR.eqv (by first | rfl | (congr 1; omega) | (simp; done) | (simp; omega)) rfl) ?_
            refine WkE.upd rfl (.slice (77000) 0 _ 0 ⟨_, rfl⟩ (by simp) (by simp)) ?_
            refine WkE.upd rfl (.slice (1) 0 _ 0 ⟨_, rfl⟩ (by simp) (by simp)) ?_
            refine WkE.upd rfl (.slice (0) 0 _ 0 ⟨_, rfl⟩ (by simp) (by simp)) ?_
            exact WkE.emp
          ·
            refine WkM.flatM rfl (by first | rfl | assumption | simp) (fun _ => rfl) (fun h => h) ?_
            refine WkM.flatM rfl (by first | rfl | assumption | simp) (fun _ => rfl) (fun h => h) ?_
            refine WkM.flatM rfl (by first | rfl | assumption | simp) (fun _ => rfl) (fun h => h) ?_
            exact WkM.emp
          ·
            repeat (refine dom_upd_mem (by decide) ?_)
            exact dom_emp
        ·
          have hj : j = b.length := by simp at hb1; omega
          subst hj
          rw [take_all] at hnk
          refine AW.exit ?_
          refine thenA_exit ?_
          refine thenA_exit ?_
          refine inBlockA_hit ?_
          refine thenA_normal ?_
          refine AW.region ?_
          refine AWo.pure (PureOp.move rfl) rfl rfl ?_
          refine AWo.pure (PureOp.move rfl) rfl rfl ?_
          refine AWo.pure (PureOp.move rfl) rfl rfl ?_
          refine AWo.pure (PureOp.lenS tbok rfl rfl) rfl rfl ?_
          first | refine AWo.pure (PureOp.addI rfl rfl (by first | decide | omega)) rfl rfl ?_ | refine AWo.pure (PureOp.bin rfl rfl rfl) rfl rfl ?_
          refine AWo.pure (PureOp.move rfl) rfl rfl ?_
          first | refine AWo.pure (PureOp.idx1 tbok rfl rfl rfl rfl (by first | decide | omega)) rfl rfl ?_ | refine AWo.pure (PureOp.idx tbok rfl rfl rfl rfl (by first | decide | omega)) rfl rfl ?_
          first | refine AWo.storeM (f := (vi .u64)) tbok rfl rfl rfl rfl (by first | decide | omega) rfl rfl ?_ | refine AWo.store tbok rfl rfl rfl rfl rfl (by first | decide | (simp; omega)) rfl rfl rfl ?_
          refine AWo.nil trivial ?_
          refine inBlockA_normal ?_
          refine thenA_normal ?_
          refine AW.region ?_
          refine AWo.pure (PureOp.move rfl) rfl rfl ?_
          first | refine AWo.pure (PureOp.addI (b := 1) rfl rfl (by first | decide | omega)) rfl rfl ?_ | refine AWo.pure (PureOp.bin rfl rfl rfl) rfl rfl ?_
          refine AWo.pure (PureOp.assign rfl) rfl rfl ?_
          refine AWo.nil trivial ?_
          refine thenA_normal ?_
          refine ⟨a.length - (i + 1), [], _, by omega, ?_, i + 1, l2.set (i + b.length) c, ⟨by omega, by simp [hk2], bd_set hbk hc, mul_out (by omega) hnk (hzk _ (Nat.le_refl _)), fun k hk => by rw [getD_set (by omega)]; exact hzk k (by omega)⟩, rfl, rfl⟩
          refine Wk.of [0, 1, 77000] ?_ ?_ ?_ (by decide) rfl
          ·
            refine WkE.upd rfl (by first | exact VR.flat _ rfl | exact VR.eqv (vp_succ _) rfl | exact VR.eqv (vp_succ _).symm rfl | exact VR.eqv (by first | rfl | (congr 1; omega) | (simp; done) | (simp; omega)) rfl) ?_
            refine WkE.upd rfl (.slice (77000) 0 _ 0 ⟨_, rfl⟩ (by simp) (by simp)) ?_
            refine WkE.upd rfl (.slice (1) 0 _ 0 ⟨_, rfl⟩ (by simp) (by simp)) ?_
            refine WkE.upd rfl (.slice (0) 0 _ 0 ⟨_, rfl⟩ (by simp) (by simp)) ?_
            exact WkE.emp
          ·
            refine WkM.flatM rfl (by first | rfl | assumption | simp) (fun _ => rfl) (fun h => h) ?_
            refine WkM.flatM rfl (by first | rfl | assumption | simp) (fun _ => rfl) (fun h => h) ?_
            refine WkM.flatM rfl (by first | rfl | assumption | simp) (fun _ => rfl) (fun h => h) ?_
            exact WkM.emp
          ·
            repeat (refine dom_upd_mem (by decide) ?_)
            exact dom_emp
    ·
      have hi : i = a.length := by simp at hb0; omega
      subst hi
      have hv : num 4294967296 l = num 4294967296 a * num 4294967296 b := by rw [hnl, take_all]
      refine AW.exit ?_
      refine thenA_exit ?_
      refine thenA_exit ?_
      refine inBlockA_hit ?_
      refine thenA_normal ?_
      refine AW.seqR ?_
      refine AWo.pure (PureOp.move rfl) rfl rfl ?_
      refine AWo.callX (trim_ctr (a := l) hbl hv hl2 (by omega)) bd118 [(77000, 0)] [] rfl (.cons rfl .nil) rfl (.cons rfl rfl .nil) (.flat rfl (by first | exact flatM flat_vi | exact flatM flat_bool | (simp [flatV, flat_vi]; done)) (by intro h; first | exact h | rfl) .nil) rfl (.keep rfl .nil) frN (by decide) (.cons rfl rfl .nil) rfl rfl rfl rfl ?_
      refine AWo.pure (PureOp.assign rfl) rfl rfl ?_
      refine AWo.nil trivial ?_
      refine AW.ret ?_
      refine RetQ.gc [_] [77000] [.tmp 4] (.inl rfl) rfl (.tmp rfl .nil) rfl (.cons rfl rfl .nil) (OutL.flat rfl (by first | exact flatM flat_vi | exact flatM flat_bool | (simp [flatV, flat_vi]; done)) (by intro h; first | rfl | exact h.elim id fun h => absurd h.1 (by simp)) (OutL.flat rfl (by first | exact flatM flat_vi | exact flatM flat_bool | (simp [flatV, flat_vi]; done)) (by intro h; first | rfl | exact h.elim id fun h => absurd h.1 (by simp)) (OutL.part rfl (dpart (by decide) hbl hv) (flatM flat_vi) (fun _ => rfl) (dpart_len (by decide) hbl hv) trivial))) (by decide) rfl

set_option maxRecDepth 10000 in
theorem ofb_ctr {a : List Nat} (h : bd 256 a) (hla : a.length < 100000000) : GC Try.prog 75 [.slice (some ⟨0, 0, none⟩) a.length 0] [⟨a.map (vi .u8), false, 1⟩] [.slice (some ⟨1, 0, none⟩) (D 4294967296 (num 256 a)).length 0] [⟨a.map (vi .u8), false, 1⟩, ⟨(D 4294967296 (num 256 a)).map (vi .u64), true, 1⟩] := by
  refine GC.intro Try.func75 rfl (by show 1 ≤ 35; decide) (by first | exact Nat.le_refl _ | decide | simp) ?_
  refine AW.seqR ?_
  refine AWo.pure (PureOp.assign rfl) rfl rfl ?_
  refine AWo.nil trivial ?_
  refine AW.seqR ?_
  refine AWo.pure (PureOp.move rfl) rfl rfl ?_
  refine AWo.pure (PureOp.lenS tbok rfl rfl) rfl rfl ?_
  first | refine AWo.pure (PureOp.quoN (b := 4) 9223372036854775808 rfl rfl (by decide) (by decide) (by first | decide | omega) (by first | decide | omega)) rfl rfl ?_ | refine AWo.pure (PureOp.quo rfl rfl (by first | decide | omega)) rfl rfl ?_
  first | refine AWo.pure (PureOp.addI (b := 1) rfl rfl (by first | decide | omega)) rfl rfl ?_ | refine AWo.pure (PureOp.bin rfl rfl rfl) rfl rfl ?_
  refine AWo.makeI tbok 10000 rfl rfl rfl rfl rfl rfl (by first | decide | omega) (by first | decide | omega) rfl rfl rfl ?_
  refine AWo.pure (PureOp.assign rfl) rfl rfl ?_
  refine AWo.nil trivial ?_
  refine AW.seq ?_
  refine AW.seqR ?_
  refine AWo.pure (PureOp.move rfl) rfl rfl ?_
  refine AWo.pure (PureOp.lenS tbok rfl rfl) rfl rfl ?_
  first | refine AWo.pure (PureOp.subI (b := 1) rfl rfl (by first | decide | omega) (by first | decide | omega)) rfl rfl ?_ | refine AWo.pure (PureOp.subP rfl rfl (by first | decide | omega)) rfl rfl ?_ | refine AWo.pure (PureOp.bin rfl rfl rfl) rfl rfl ?_
  refine AWo.pure (PureOp.assign rfl) rfl rfl ?_
  refine AWo.nil trivial ?_
  refine AW.block ?_
  refine AW.loopw (fun mm σ => ∃ r, ∃ (l : List Nat), (r ≤ a.length ∧ l.length = a.length / 4 + 1 ∧ bd 4294967296 l ∧ OfbI a r l) ∧ mm = 1 * r ∧ σ = ⟨(upd (upd (upd emp 0 (.slice (some ⟨0, 0, none⟩) a.length 0)) 3 (.slice (some ⟨77000, 0, none⟩) (a.length / 4 + 1) 0)) 4 (vp r)), (upd (upd emp 0 ⟨a.map (vi .u8), false, 1⟩) 77000 ⟨l.map (vi .u64), true, 1⟩)⟩) (fm := [(77000, 10000)]) ?_ ⟨a.length, List.replicate (a.length / 4 + 1) 0, ⟨Nat.le_refl _, by simp, bd_replicate (by decide) _, ofbI_init a⟩, rfl, rfl⟩ ?_
  ·
    refine Wk.of [0, 77000] ?_ ?_ ?_ (by decide) rfl
    ·
      refine WkE.upd rfl (by first | exact VR.flat _ rfl | exact VR.eqv (vp_succ _) rfl | exact VR.eqv (vp_succ _).symm rfl | exact VR.eqv (by first | rfl | (congr 1; omega) | (simp; done) | (simp; omega)) rfl) ?_
      refine WkE.upd rfl (.slice (77000) 0 _ 0 ⟨_, rfl⟩ (by simp) (by simp)) ?_
      refine WkE.upd rfl (.slice (0) 0 _ 0 ⟨_, rfl⟩ (by simp) (by simp)) ?_
      exact WkE.emp
    ·
      refine WkM.flatM rfl (by first | rfl | assumption | simp) (fun _ => rfl) (fun h => h) ?_
      refine WkM.flatM rfl (by first | rfl | assumption | simp) (fun _ => rfl) (fun h => h) ?_
      exact WkM.emp
    ·
      repeat (refine dom_upd_mem (by decide) ?_)
      exact dom_emp
  ·
    rintro mm σ ⟨r, l, ⟨hr, hl2, hbl, hI⟩, rfl, rfl⟩
    refine AW.seq ?_
    refine AW.seqR ?_
    refine AWo.pure (PureOp.move rfl) rfl rfl ?_
    first | refine AWo.pure (PureOp.geP rfl rfl) rfl rfl ?_ | refine AWo.pure (PureOp.geN (b := 0) rfl rfl) rfl rfl ?_ | refine AWo.pure (PureOp.bin rfl rfl rfl) rfl rfl ?_
    refine AWo.nil trivial ?_
    refine AW.cond rfl (fun hb0 => ?_) (fun hb0 => ?_)
    ·
      have hp0 : 0 < r := by simpa using hb0
      obtain ⟨r, rfl⟩ : ∃ q, r = q + 1 := ⟨r - 1, by omega⟩
      rw [vp_succ]
      have hx := bd_getD h (by decide) r
      have hs := ofbI_bd h hl2 (by omega) hI
      refine AW.skip ?_
      refine thenA_normal ?_
      refine AW.seq ?_
      refine AW.block ?_
      refine AW.draw mixed ?_
      refine AWo.pure (PureOp.move rfl) rfl rfl ?_
      refine AWo.pure (PureOp.move rfl) rfl rfl ?_
      first | refine AWo.pure (PureOp.quoN (b := 4) 9223372036854775808 rfl rfl (by decide) (by decide) (by first | decide | omega) (by first | decide | omega)) rfl rfl ?_ | refine AWo.pure (PureOp.quo rfl rfl (by first | decide | omega)) rfl rfl ?_
      refine AWo.pure (PureOp.move rfl) rfl rfl ?_
      refine AWo.pure (PureOp.move rfl) rfl rfl ?_
      first | refine AWo.pure (PureOp.quoN (b := 4) 9223372036854775808 rfl rfl (by decide) (by decide) (by first | decide | omega) (by first | decide | omega)) rfl rfl ?_ | refine AWo.pure (PureOp.quo rfl rfl (by first | decide | omega)) rfl rfl ?_
      first | refine AWo.pure (PureOp.idx1 tbok rfl rfl rfl rfl (by first | decide | omega)) rfl rfl ?_ | refine AWo.pure (PureOp.idx tbok rfl rfl rfl rfl (by first | decide | omega)) rfl rfl ?_
      first | refine AWo.loadM tbok 0 rfl rfl rfl (by first | decide | omega) rfl rfl ?_ | refine AWo.load tbok rfl rfl rfl rfl rfl rfl ?_
      first | refine AWo.pure ((PureOp.mulU (b := 256) 18446744073709551616 rfl rfl rfl rfl).mono (v' := vi .u64 (l.getD (r / 4) 0 * 256)) (by rw [Nat.mod_eq_of_lt (by omega)])) rfl rfl ?_ | refine AWo.pure ((PureOp.bin rfl rfl rfl).mono (v' := vi .u64 (l.getD (r / 4) 0 * 256)) (by rw [Nat.mod_eq_of_lt (by omega)])) rfl rfl ?_
      refine AWo.pure (PureOp.move rfl) rfl rfl ?_
      refine AWo.pure (PureOp.move rfl) rfl rfl ?_
      first | refine AWo.pure (PureOp.idx1 tbok rfl rfl rfl rfl (by first | decide | omega)) rfl rfl ?_ | refine AWo.pure (PureOp.idx tbok rfl rfl rfl rfl (by first | decide | omega)) rfl rfl ?_
      first | refine AWo.loadM tbok 0 rfl rfl rfl (by first | decide | omega) rfl rfl ?_ | refine AWo.load tbok rfl rfl rfl rfl rfl rfl ?_
      first | refine AWo.pure (PureOp.cvtN tbok 18446744073709551616 rfl rfl rfl (by decide) (by decide) (by first | decide | omega)) rfl rfl ?_ | refine AWo.pure (PureOp.cvtU tbok 18446744073709551616 rfl rfl rfl rfl rfl) rfl rfl ?_ | refine AWo.pure (PureOp.cvt tbok rfl rfl rfl) rfl rfl ?_
      first | refine AWo.pure ((PureOp.addU 18446744073709551616 rfl rfl rfl rfl).mono (v' := vi .u64 (l.getD (r / 4) 0 * 256 + a.getD r 0)) (by rw [Nat.mod_eq_of_lt (by omega)])) rfl rfl ?_ | refine AWo.pure ((PureOp.bin rfl rfl rfl).mono (v' := vi .u64 (l.getD (r / 4) 0 * 256 + a.getD r 0)) (by rw [Nat.mod_eq_of_lt (by omega)])) rfl rfl ?_
      first | refine AWo.pure (PureOp.idx1 tbok rfl rfl rfl rfl (by first | decide | omega)) rfl rfl ?_ | refine AWo.pure (PureOp.idx tbok rfl rfl rfl rfl (by first | decide | omega)) rfl rfl ?_
      first | refine AWo.storeM (f := (vi .u64)) tbok rfl rfl rfl rfl (by first | decide | omega) rfl rfl ?_ | refine AWo.store tbok rfl rfl rfl rfl rfl (by first | decide | (simp; omega)) rfl rfl rfl ?_
      refine AWo.nil (by kernel_rfl) ?_
      refine inBlockA_normal ?_
      refine thenA_normal ?_
      refine AW.region ?_
      refine AWo.pure (PureOp.move rfl) rfl rfl ?_
      first | refine AWo.pure (PureOp.subI (b := 1) rfl rfl (by first | decide | omega) (by first | decide | omega)) rfl rfl ?_ | refine AWo.pure (PureOp.subP rfl rfl (by first | decide | omega)) rfl rfl ?_ | refine AWo.pure (PureOp.bin rfl rfl rfl) rfl rfl ?_
      refine AWo.pure (PureOp.assign rfl) rfl rfl ?_
      refine AWo.nil trivial ?_
      refine thenA_normal ?_
      refine ⟨1 * r, [], _, by omega, ?_, r, l.set (r / 4) (l.getD (r / 4) 0 * 256 + a.getD r 0), ⟨by omega, by simp [hl2], bd_set hbl hs, ofbI_step h hl2 (by omega) hI⟩, rfl, rfl⟩
      refine Wk.of [0, 77000] ?_ ?_ ?_ (by decide) rfl
      ·
        refine WkE.upd rfl (by first | exact VR.flat _ rfl | exact VR.eqv (vp_succ _) rfl | exact VR.eqv (vp_succ _).symm rfl | exact VR.eqv (by first | rfl | (congr 1; omega) | (simp; done) | (simp; omega)) rfl) ?_
        refine WkE.upd rfl (.slice (77000) 0 _ 0 ⟨_, rfl⟩ (by simp) (by simp)) ?_
        refine WkE.upd rfl (.slice (0) 0 _ 0 ⟨_, rfl⟩ (by simp) (by simp)) ?_
        exact WkE.emp
      ·
        refine WkM.flatM rfl (by first | rfl | assumption | simp) (fun _ => rfl) (fun h => h) ?_
        refine WkM.flatM rfl (by first | rfl | assumption | simp) (fun _ => rfl) (fun h => h) ?_
        exact WkM.emp
      ·
        repeat (refine dom_upd_mem (by decide) ?_)
        exact dom_emp
    ·
      obtain rfl : r = 0 := by simpa using hb0
      have hv := ofbI_end h hl2 hI
      refine AW.exit ?_
      refine thenA_exit ?_
      refine thenA_exit ?_
      refine inBlockA_hit ?_
      refine thenA_normal ?_
      refine AW.seqR ?_
      refine AWo.pure (PureOp.move rfl) rfl rfl ?_
      refine AWo.callX (trim_ctr (a := l) hbl hv hl2 (by omega)) bd118 [(77000, 0)] [] rfl (.cons rfl .nil) rfl (.cons rfl rfl .nil) (.flat rfl (by first | exact flatM flat_vi | exact flatM flat_bool | (simp [flatV, flat_vi]; done)) (by intro h; first | exact h | rfl) .nil) rfl (.keep rfl .nil) frN (by decide) (.cons rfl rfl .nil) rfl rfl rfl rfl ?_
      refine AWo.pure (PureOp.assign rfl) rfl rfl ?_
      refine AWo.nil trivial ?_
      refine AW.ret ?_
      refine RetQ.gc [_] [77000] [.tmp 2] (.inl rfl) rfl (.tmp rfl .nil) rfl (.cons rfl rfl .nil) (OutL.flat rfl (by first | exact flatM flat_vi | exact flatM flat_bool | (simp [flatV, flat_vi]; done)) (by intro h; first | rfl | exact h.elim id fun h => absurd h.1 (by simp)) (OutL.part rfl (dpart (by decide) hbl hv) (flatM flat_vi) (fun _ => rfl) (dpart_len (by decide) hbl hv) trivial)) (by decide) rfl
end Go.Proofs.Ytiikffiembcboaa
