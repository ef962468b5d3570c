/- How many bits words have; copies. -/
import Derived.Test.YtiikffiembcboaaLimb2
import Derived.Test.YtiikffiembcboaaSim24
namespace Go.Proofs.Ytiikffiembcboaa
open Go Sim

theorem blen_half {x k : Nat} (h : x / 2 ^ k ≠ 0) : blen x = k + blen (x / 2 ^ k) := blen_shift h

theorem blen_lt {x k : Nat} (h : x < 2 ^ k) : blen x ≤ k := by
  simp only [blen]
  split
  · omega
  · rename_i h0
    have := Nat.log2_lt h0 |>.2 h
    omega

theorem blen_le {x : Nat} {b : Nat} (h : x < b) : blen x ≤ b := by
  simp only [blen]
  split
  · omega
  · rename_i h0
    have := Nat.log2_self_le h0
    have h2 : x.log2 < 2 ^ x.log2 := Nat.lt_two_pow_self
    omega

def lenTabOk (s : ByteArray) : Bool := (List.range 256).all fun j => s[j]? == some (UInt8.ofNat (blen j))

theorem lenTab {P : Program} {E : Env} {t : TypeId} {x : Operand} {s : ByteArray} {y : Nat} (ht : P.underlying t = some .string) (hx : aev E (.const (.string s)) = some (.string s)) (hy : aev E x = some (vi .u8 y)) (hlt : y < 256) (hs : lenTabOk s = true) :
    PureOp P (.index t (.const (.string s)) x) E (vi .u8 (blen y)) := by
  have h := List.all_eq_true.1 hs y (List.mem_range.2 hlt)
  refine (PureOp.idxStr hx hy ht (eq_of_beq h)).mono (congrArg (vi .u8) ?_)
  have h8 : blen y ≤ 8 := blen_lt (k := 8) hlt
  simp
  omega

theorem word_next {a : List Nat} {r : Nat} (h : bd 18446744073709551616 a) (hlt : num 18446744073709551616 a < 18446744073709551616 ^ (r + 1)) (hz : a.getD r 0 = 0) : num 18446744073709551616 a < 18446744073709551616 ^ r := by
  rw [num_getD h (by decide)] at hz
  have hp : 0 < 18446744073709551616 ^ r := Nat.pow_pos (by decide)
  have h1 : num 18446744073709551616 a / 18446744073709551616 ^ r < 18446744073709551616 := by rw [Nat.div_lt_iff_lt_mul hp, Nat.mul_comm, ← Nat.pow_succ]; exact hlt
  rw [Nat.mod_eq_of_lt h1] at hz
  rcases Nat.div_eq_zero_iff.1 hz with h3 | h3
  · omega
  · exact h3

theorem word_top {a : List Nat} {r : Nat} (h : bd 18446744073709551616 a) (hlt : num 18446744073709551616 a < 18446744073709551616 ^ (r + 1)) (hz : a.getD r 0 ≠ 0) : blen (num 18446744073709551616 a) = 64 * r + blen (a.getD r 0) := by
  rw [num_getD h (by decide)] at hz ⊢
  have hp : 0 < 18446744073709551616 ^ r := Nat.pow_pos (by decide)
  have h1 : num 18446744073709551616 a / 18446744073709551616 ^ r < 18446744073709551616 := by rw [Nat.div_lt_iff_lt_mul hp, Nat.mul_comm, ← Nat.pow_succ]; exact hlt
  rw [Nat.mod_eq_of_lt h1] at hz ⊢
  have e : (18446744073709551616 : Nat) ^ r = 2 ^ (64 * r) := by rw [Nat.pow_mul]
  rw [e] at hz ⊢
  exact blen_shift hz

set_option maxRecDepth 10000 in
theorem len64_ctr {x : Nat} (hx : x < 18446744073709551616) : GC Try.prog 130 [vi .u64 (x)] [] [vi .i64 (blen x)] [] := by
  refine GC.intro Try.func130 rfl (by show 1 ≤ 25; decide) (by first | exact Nat.le_refl _ | decide | simp) ?_
  refine AW.seqR ?_
  refine AWo.pure (PureOp.assign rfl) rfl rfl ?_
  refine AWo.nil trivial ?_
  refine AW.seq ?_
  refine AW.seqR ?_
  refine AWo.pure (PureOp.move rfl) rfl rfl ?_
  first | refine AWo.pure (PureOp.geN (b := 4294967296) rfl rfl) rfl rfl ?_ | refine AWo.pure (PureOp.bin rfl rfl rfl) rfl rfl ?_
  refine AWo.nil trivial ?_
  refine AW.joinT (fun σ => ∃ m, ∃ y, (blen x = m + blen y ∧ y < 4294967296 ∧ m ≤ 32) ∧ σ = ⟨(upd (upd emp 0 (vi .u64 y)) 2 (vi .i64 m)), emp⟩) ?_ ?_
  ·
    refine AW.cond rfl (fun hb0 => ?_) (fun hb0 => ?_)
    ·
      have hge : 4294967296 ≤ x := by simpa using hb0
      refine AW.seqR ?_
      refine AWo.pure (PureOp.move rfl) rfl rfl ?_
      first | refine AWo.pure (PureOp.shrN (b := 32) 64 rfl rfl rfl (by first | decide | omega)) rfl rfl ?_ | refine AWo.pure (PureOp.shr rfl rfl (by first | decide | omega)) rfl rfl ?_
      refine AWo.pure (PureOp.assign rfl) rfl rfl ?_
      refine AWo.nil trivial ?_
      refine AW.region ?_
      refine AWo.pure (PureOp.assign rfl) rfl rfl ?_
      refine AWo.nil trivial ?_
      refine thenA_normal ?_
      refine ⟨[], _, ?_, (by first | exact ⟨32, x / 2 ^ 32, ⟨blen_half (by omega), by omega, by omega⟩, rfl⟩ | exact ⟨0, x, ⟨by omega, by omega, by omega⟩, rfl⟩)⟩
      refine Wk.of [] ?_ ?_ ?_ (by decide) rfl
      ·
        refine WkE.upd rfl (by first | exact VR.flat _ rfl | exact VR.eqv (vp_succ _) rfl | exact VR.eqv (vp_succ _).symm rfl | exact VR.eqv (by first | rfl | (congr 1; omega) | (simp; done) | (simp; omega)) rfl) ?_
        refine WkE.upd rfl (by first | exact VR.flat _ rfl | exact VR.eqv (vp_succ _) rfl | exact VR.eqv (vp_succ _).symm rfl | exact VR.eqv (by first | rfl | (congr 1; omega) | (simp; done) | (simp; omega)) rfl) ?_
        exact WkE.emp
      ·
        exact WkM.emp
      ·
        repeat (refine dom_upd_mem (by decide) ?_)
        exact dom_emp
    ·
      have hge : ¬ 4294967296 ≤ x := by simpa using hb0
      refine AW.skip ?_
      refine thenA_normal ?_
      refine ⟨[], _, ?_, (by first | exact ⟨32, x / 2 ^ 32, ⟨blen_half (by omega), by omega, by omega⟩, rfl⟩ | exact ⟨0, x, ⟨by omega, by omega, by omega⟩, rfl⟩)⟩
      refine Wk.of [] ?_ ?_ ?_ (by decide) rfl
      ·
        refine WkE.upd rfl (by first | exact VR.flat _ rfl | exact VR.eqv (vp_succ _) rfl | exact VR.eqv (vp_succ _).symm rfl | exact VR.eqv (by first | rfl | (congr 1; omega) | (simp; done) | (simp; omega)) rfl) ?_
        refine WkE.upd rfl (by first | exact VR.flat _ rfl | exact VR.eqv (vp_succ _) rfl | exact VR.eqv (vp_succ _).symm rfl | exact VR.eqv (by first | rfl | (congr 1; omega) | (simp; done) | (simp; omega)) rfl) ?_
        exact WkE.emp
      ·
        exact WkM.emp
      ·
        repeat (refine dom_upd_mem (by decide) ?_)
        exact dom_emp
  ·
    rintro σ ⟨m, y, ⟨he, hy, hm⟩, rfl⟩
    refine AW.seq ?_
    refine AW.seqR ?_
    refine AWo.pure (PureOp.move rfl) rfl rfl ?_
    first | refine AWo.pure (PureOp.geN (b := 65536) rfl rfl) rfl rfl ?_ | refine AWo.pure (PureOp.bin rfl rfl rfl) rfl rfl ?_
    refine AWo.nil trivial ?_
    refine AW.joinT (fun σ => ∃ m, ∃ y, (blen x = m + blen y ∧ y < 65536 ∧ m ≤ 48) ∧ σ = ⟨(upd (upd emp 0 (vi .u64 y)) 2 (vi .i64 m)), emp⟩) ?_ ?_
    ·
      refine AW.cond rfl (fun hb1 => ?_) (fun hb1 => ?_)
      ·
        have hge : 65536 ≤ y := by simpa using hb1
        refine AW.seqR ?_
        refine AWo.pure (PureOp.move rfl) rfl rfl ?_
        first | refine AWo.pure (PureOp.shrN (b := 16) 64 rfl rfl rfl (by first | decide | omega)) rfl rfl ?_ | refine AWo.pure (PureOp.shr rfl rfl (by first | decide | omega)) rfl rfl ?_
        refine AWo.pure (PureOp.assign rfl) rfl rfl ?_
        refine AWo.nil trivial ?_
        refine AW.region ?_
        refine AWo.pure (PureOp.move rfl) rfl rfl ?_
        first | refine AWo.pure (PureOp.addI (b := 16) rfl rfl (by first | decide | omega)) rfl rfl ?_ | refine AWo.pure (PureOp.bin rfl rfl rfl) rfl rfl ?_
        refine AWo.pure (PureOp.assign rfl) rfl rfl ?_
        refine AWo.nil trivial ?_
        refine thenA_normal ?_
        refine ⟨[], _, ?_, (by first | exact ⟨m + 16, y / 2 ^ 16, ⟨by rw [he, blen_half (k := 16) (by omega)]; omega, by omega, by omega⟩, rfl⟩ | exact ⟨m, y, ⟨by omega, by omega, by omega⟩, rfl⟩)⟩
        refine Wk.of [] ?_ ?_ ?_ (by decide) rfl
        ·
          refine WkE.upd rfl (by first | exact VR.flat _ rfl | exact VR.eqv (vp_succ _) rfl | exact VR.eqv (vp_succ _).symm rfl | exact VR.eqv (by first | rfl | (congr 1; omega) | (simp; done) | (simp; omega)) rfl) ?_
          refine WkE.upd rfl (by first | exact VR.flat _ rfl | exact VR.eqv (vp_succ _) rfl | exact VR.eqv (vp_succ _).symm rfl | exact VR.eqv (by first | rfl | (congr 1; omega) | (simp; done) | (simp; omega)) rfl) ?_
          exact WkE.emp
        ·
          exact WkM.emp
        ·
          repeat (refine dom_upd_mem (by decide) ?_)
          exact dom_emp
      ·
        have hge : ¬ 65536 ≤ y := by simpa using hb1
        refine AW.skip ?_
        refine thenA_normal ?_
        refine ⟨[], _, ?_, (by first | exact ⟨m + 16, y / 2 ^ 16, ⟨by rw [he, blen_half (k := 16) (by omega)]; omega, by omega, by omega⟩, rfl⟩ | exact ⟨m, y, ⟨by omega, by omega, by omega⟩, rfl⟩)⟩
        refine Wk.of [] ?_ ?_ ?_ (by decide) rfl
        ·
          refine WkE.upd rfl (by first | exact VR.flat _ rfl | exact VR.eqv (vp_succ _) rfl | exact VR.eqv (vp_succ _).symm rfl | exact VR.eqv (by first | rfl | (congr 1; omega) | (simp; done) | (simp; omega)) rfl) ?_
          refine WkE.upd rfl (by first | exact VR.flat _ rfl | exact VR.eqv (vp_succ _) rfl | exact VR.eqv (vp_succ _).symm rfl | exact VR.eqv (by first | rfl | (congr 1; omega) | (simp; done) | (simp; omega)) rfl) ?_
          exact WkE.emp
        ·
          exact WkM.emp
        ·
          repeat (refine dom_upd_mem (by decide) ?_)
          exact dom_emp
    ·
      rintro σ ⟨m, y, ⟨he, hy, hm⟩, rfl⟩
      refine AW.seq ?_
      refine AW.seqR ?_
      refine AWo.pure (PureOp.move rfl) rfl rfl ?_
      first | refine AWo.pure (PureOp.geN (b := 256) rfl rfl) rfl rfl ?_ | refine AWo.pure (PureOp.bin rfl rfl rfl) rfl rfl ?_
      refine AWo.nil trivial ?_
      refine AW.joinT (fun σ => ∃ m, ∃ y, (blen x = m + blen y ∧ y < 256 ∧ m ≤ 56) ∧ σ = ⟨(upd (upd emp 0 (vi .u64 y)) 2 (vi .i64 m)), emp⟩) ?_ ?_
      ·
        refine AW.cond rfl (fun hb2 => ?_) (fun hb2 => ?_)
        ·
          have hge : 256 ≤ y := by simpa using hb2
          refine AW.seqR ?_
          refine AWo.pure (PureOp.move rfl) rfl rfl ?_
          first | refine AWo.pure (PureOp.shrN (b := 8) 64 rfl rfl rfl (by first | decide | omega)) rfl rfl ?_ | refine AWo.pure (PureOp.shr rfl rfl (by first | decide | omega)) rfl rfl ?_
          refine AWo.pure (PureOp.assign rfl) rfl rfl ?_
          refine AWo.nil trivial ?_
          refine AW.region ?_
          refine AWo.pure (PureOp.move rfl) rfl rfl ?_
          first | refine AWo.pure (PureOp.addI (b := 8) rfl rfl (by first | decide | omega)) rfl rfl ?_ | refine AWo.pure (PureOp.bin rfl rfl rfl) rfl rfl ?_
          refine AWo.pure (PureOp.assign rfl) rfl rfl ?_
          refine AWo.nil trivial ?_
          refine thenA_normal ?_
          refine ⟨[], _, ?_, (by first | exact ⟨m + 8, y / 2 ^ 8, ⟨by rw [he, blen_half (k := 8) (by omega)]; omega, by omega, by omega⟩, rfl⟩ | exact ⟨m, y, ⟨by omega, by omega, by omega⟩, rfl⟩)⟩
          refine Wk.of [] ?_ ?_ ?_ (by decide) rfl
          ·
            refine WkE.upd rfl (by first | exact VR.flat _ rfl | exact VR.eqv (vp_succ _) rfl | exact VR.eqv (vp_succ _).symm rfl | exact VR.eqv (by first | rfl | (congr 1; omega) | (simp; done) | (simp; omega)) rfl) ?_
            refine WkE.upd rfl (by first | exact VR.flat _ rfl | exact VR.eqv (vp_succ _) rfl | exact VR.eqv (vp_succ _).symm rfl | exact VR.eqv (by first | rfl | (congr 1; omega) | (simp; done) | (simp; omega)) rfl) ?_
            exact WkE.emp
          ·
            exact WkM.emp
          ·
            repeat (refine dom_upd_mem (by decide) ?_)
            exact dom_emp
        ·
          have hge : ¬ 256 ≤ y := by simpa using hb2
          refine AW.skip ?_
          refine thenA_normal ?_
          refine ⟨[], _, ?_, (by first | exact ⟨m + 8, y / 2 ^ 8, ⟨by rw [he, blen_half (k := 8) (by omega)]; omega, by omega, by omega⟩, rfl⟩ | exact ⟨m, y, ⟨by omega, by omega, by omega⟩, rfl⟩)⟩
          refine Wk.of [] ?_ ?_ ?_ (by decide) rfl
          ·
            refine WkE.upd rfl (by first | exact VR.flat _ rfl | exact VR.eqv (vp_succ _) rfl | exact VR.eqv (vp_succ _).symm rfl | exact VR.eqv (by first | rfl | (congr 1; omega) | (simp; done) | (simp; omega)) rfl) ?_
            refine WkE.upd rfl (by first | exact VR.flat _ rfl | exact VR.eqv (vp_succ _) rfl | exact VR.eqv (vp_succ _).symm rfl | exact VR.eqv (by first | rfl | (congr 1; omega) | (simp; done) | (simp; omega)) rfl) ?_
            exact WkE.emp
          ·
            exact WkM.emp
          ·
            repeat (refine dom_upd_mem (by decide) ?_)
            exact dom_emp
      ·
        rintro σ ⟨m, y, ⟨he, hy, hm⟩, rfl⟩
        refine AW.seqR ?_
        refine AWo.pure (PureOp.move rfl) rfl rfl ?_
        refine AWo.pure (PureOp.move rfl) rfl rfl ?_
        refine AWo.pure ((PureOp.cvtU tbok 256 rfl rfl rfl rfl rfl).mono (v' := vi .u8 y) (congrArg (vi .u8) (Nat.mod_eq_of_lt hy))) rfl rfl ?_
        refine AWo.pure (lenTab Try.underlying9 rfl rfl hy (by kernel_rfl)) rfl rfl ?_
        refine AWo.pure (PureOp.cvtN tbok 9223372036854775808 rfl rfl rfl (by decide) (by decide) (by have := blen_le hy; omega)) rfl rfl ?_
        refine AWo.pure ((PureOp.addI rfl rfl (by have := blen_le hy; omega)).mono (v' := vi .i64 (blen x)) (congrArg (vi .i64) he.symm)) rfl rfl ?_
        refine AWo.pure (PureOp.assign rfl) rfl rfl ?_
        refine AWo.nil trivial ?_
        refine AW.ret ?_
        refine RetQ.gc [_] [] [.tmp 2] (.inl rfl) rfl (.tmp rfl .nil) rfl (.cons rfl rfl .nil) trivial (by decide) rfl

set_option maxRecDepth 10000 in
theorem lbits_ctr {a : List Nat} (h : bd 18446744073709551616 a) (hl : a.length < 100000000) : GC Try.prog 66 [.slice (some ⟨0, 0, none⟩) a.length 0] [⟨a.map (vi .u64), false, 1⟩] [vi .i64 (blen (num 18446744073709551616 a))] [⟨a.map (vi .u64), false, 1⟩] := by
  refine GC.intro Try.func66 rfl (by show 1 ≤ 24; decide) (by first | exact Nat.le_refl _ | decide | simp) ?_
  refine AW.seqR ?_
  refine AWo.pure (PureOp.assign rfl) rfl rfl ?_
  refine AWo.nil trivial ?_
  refine AW.seq ?_
  refine AW.seqR ?_
  refine AWo.pure (PureOp.move rfl) rfl rfl ?_
  refine AWo.pure (PureOp.lenS tbok rfl rfl) rfl rfl ?_
  first | refine AWo.pure ((PureOp.subI (b := 1) rfl rfl (by first | decide | omega) (by first | decide | omega)).mono (v' := vp a.length) (by first | rfl | (simp only [vp, vi]; congr 1; omega))) rfl rfl ?_ | refine AWo.pure ((PureOp.subP rfl rfl (by first | decide | omega)).mono (v' := vp a.length) (by first | rfl | (simp only [vp, vi]; congr 1; omega))) rfl rfl ?_ | refine AWo.pure ((PureOp.bin rfl rfl rfl).mono (v' := vp a.length) (by first | rfl | (simp only [vp, vi]; congr 1; omega))) rfl rfl ?_
  refine AWo.pure (PureOp.assign rfl) rfl rfl ?_
  refine AWo.nil trivial ?_
  refine AW.block ?_
  refine AW.loopw (fun mm σ => ∃ r, (r ≤ a.length ∧ num 18446744073709551616 a < 18446744073709551616 ^ r) ∧ mm = 1 * r ∧ σ = ⟨(upd (upd emp 0 (.slice (some ⟨0, 0, none⟩) a.length 0)) 3 (vp r)), (upd emp 0 ⟨a.map (vi .u64), false, 1⟩)⟩) (fm := []) ?_ ⟨a.length, ⟨Nat.le_refl _, num_lt h⟩, rfl, rfl⟩ ?_
  ·
    refine Wk.of [0] ?_ ?_ ?_ (by decide) rfl
    ·
      refine WkE.upd rfl (by first | exact VR.flat _ rfl | exact VR.eqv (vp_succ _) rfl | exact VR.eqv (vp_succ _).symm rfl | exact VR.eqv (by first | rfl | (congr 1; omega) | (simp; done) | (simp; omega)) rfl) ?_
      refine WkE.upd rfl (.slice (0) 0 _ 0 ⟨_, rfl⟩ (by simp) (by simp)) ?_
      exact WkE.emp
    ·
      refine WkM.flatM rfl (by first | rfl | assumption | simp) (fun _ => rfl) (fun h => h) ?_
      exact WkM.emp
    ·
      repeat (refine dom_upd_mem (by decide) ?_)
      exact dom_emp
  ·
    rintro mm σ ⟨r, ⟨hr, hlt⟩, rfl, rfl⟩
    refine AW.seq ?_
    refine AW.seqR ?_
    refine AWo.pure (PureOp.move rfl) rfl rfl ?_
    first | refine AWo.pure (PureOp.geP rfl rfl) rfl rfl ?_ | refine AWo.pure (PureOp.geN (b := 0) rfl rfl) rfl rfl ?_ | refine AWo.pure (PureOp.bin rfl rfl rfl) rfl rfl ?_
    refine AWo.nil trivial ?_
    refine AW.cond rfl (fun hb0 => ?_) (fun hb0 => ?_)
    ·
      have hp0 : 0 < r := by simpa using hb0
      obtain ⟨r, rfl⟩ : ∃ q, r = q + 1 := ⟨r - 1, by omega⟩
      rw [vp_succ]
      refine AW.skip ?_
      refine thenA_normal ?_
      refine AW.seq ?_
      refine AW.block ?_
      refine AW.seqR ?_
      refine AWo.pure (PureOp.move rfl) rfl rfl ?_
      refine AWo.pure (PureOp.move rfl) rfl rfl ?_
      first | refine AWo.pure (PureOp.idx1 tbok rfl rfl rfl rfl (by first | decide | omega)) rfl rfl ?_ | refine AWo.pure (PureOp.idx tbok rfl rfl rfl rfl (by first | decide | omega)) rfl rfl ?_
      first | refine AWo.loadM tbok 0 rfl rfl rfl (by first | decide | omega) rfl rfl ?_ | refine AWo.load tbok rfl rfl rfl rfl rfl rfl ?_
      first | refine AWo.pure (PureOp.neN (b := 0) rfl rfl) rfl rfl ?_ | refine AWo.pure (PureOp.bin rfl rfl rfl) rfl rfl ?_
      refine AWo.nil trivial ?_
      refine AW.cond rfl (fun hb1 => ?_) (fun hb1 => ?_)
      ·
        have hnz : a.getD r 0 ≠ 0 := by simpa using hb1
        refine AW.seqR ?_
        refine AWo.pure (PureOp.move rfl) rfl rfl ?_
        refine AWo.pure (PureOp.mulI (a := 64) rfl rfl (by omega)) rfl rfl ?_
        refine AWo.pure (PureOp.move rfl) rfl rfl ?_
        refine AWo.pure (PureOp.move rfl) rfl rfl ?_
        first | refine AWo.pure (PureOp.idx1 tbok rfl rfl rfl rfl (by first | decide | omega)) rfl rfl ?_ | refine AWo.pure (PureOp.idx tbok rfl rfl rfl rfl (by first | decide | omega)) rfl rfl ?_
        first | refine AWo.loadM tbok 0 rfl rfl rfl (by first | decide | omega) rfl rfl ?_ | refine AWo.load tbok rfl rfl rfl rfl rfl rfl ?_
        refine AWo.callX (len64_ctr (x := a.getD r 0) (bd_getD h (by decide) r)) bd130 [] [] rfl (.cons rfl .nil) rfl (.cons rfl rfl .nil) .nil rfl .nil frN (by decide) (.cons rfl rfl .nil) rfl rfl rfl rfl ?_
        refine AWo.pure ((PureOp.addI rfl rfl (by have := blen_lt (k := 64) (bd_getD h (by decide) r); omega)).mono (v' := vi .i64 (blen (num 18446744073709551616 a))) (congrArg (vi .i64) (word_top h hlt hnz).symm)) rfl rfl ?_
        refine AWo.pure (PureOp.assign rfl) rfl rfl ?_
        refine AWo.nil trivial ?_
        refine AW.ret ?_
        refine inBlockA_ret ?_
        refine thenA_ret ?_
        refine thenA_ret ?_
        refine inBlockA_ret ?_
        refine thenA_ret ?_
        refine RetQ.gc [_] [] [.tmp 2] (.inl rfl) rfl (.tmp rfl .nil) rfl (.cons rfl (by first | rfl | exact congrArg (vi .i64) (by rw [hz0]; rfl)) .nil) (OutL.flat rfl (flatM flat_vi) (by intro h; exact h.elim id fun h => absurd h.1 (by simp)) trivial) (by decide) rfl
      ·
        have hz : a.getD r 0 = 0 := by simpa using hb1
        refine AW.skip ?_
        refine inBlockA_normal ?_
        refine thenA_normal ?_
        refine AW.region ?_
        refine AWo.pure (PureOp.move rfl) rfl rfl ?_
        first | refine AWo.pure (PureOp.subI (b := 1) rfl rfl (by first | decide | omega) (by first | decide | omega)) rfl rfl ?_ | refine AWo.pure (PureOp.subP rfl rfl (by first | decide | omega)) rfl rfl ?_ | refine AWo.pure (PureOp.bin rfl rfl rfl) rfl rfl ?_
        refine AWo.pure (PureOp.assign rfl) rfl rfl ?_
        refine AWo.nil trivial ?_
        refine thenA_normal ?_
        refine ⟨1 * r, [], _, by omega, ?_, r, ⟨by omega, word_next h hlt hz⟩, rfl, rfl⟩
        refine Wk.of [0] ?_ ?_ ?_ (by decide) rfl
        ·
          refine WkE.upd rfl (by first | exact VR.flat _ rfl | exact VR.eqv (vp_succ _) rfl | exact VR.eqv (vp_succ _).symm rfl | exact VR.eqv (by first | rfl | (congr 1; omega) | (simp; done) | (simp; omega)) rfl) ?_
          refine WkE.upd rfl (.slice (0) 0 _ 0 ⟨_, rfl⟩ (by simp) (by simp)) ?_
          exact WkE.emp
        ·
          refine WkM.flatM rfl (by first | rfl | assumption | simp) (fun _ => rfl) (fun h => h) ?_
          exact WkM.emp
        ·
          repeat (refine dom_upd_mem (by decide) ?_)
          exact dom_emp
    ·
      obtain rfl : r = 0 := by simpa using hb0
      have hz0 : num 18446744073709551616 a = 0 := by simpa using hlt
      refine AW.exit ?_
      refine thenA_exit ?_
      refine thenA_exit ?_
      refine inBlockA_hit ?_
      refine thenA_normal ?_
      refine AW.seqR ?_
      refine AWo.pure (PureOp.assign rfl) rfl rfl ?_
      refine AWo.nil trivial ?_
      refine AW.ret ?_
      refine RetQ.gc [_] [] [.tmp 2] (.inl rfl) rfl (.tmp rfl .nil) rfl (.cons rfl (by first | rfl | exact congrArg (vi .i64) (by rw [hz0]; rfl)) .nil) (OutL.flat rfl (flatM flat_vi) (by intro h; exact h.elim id fun h => absurd h.1 (by simp)) trivial) (by decide) rfl

set_option maxRecDepth 10000 in
theorem clone_ctr {a : List Nat} (h0 : 0 < a.length) (hl : a.length < 100000000) : GC Try.prog 119 [.slice (some ⟨0, 0, none⟩) a.length 0] [⟨a.map (vi .u64), false, 1⟩] [.slice (some ⟨1, 0, none⟩) a.length 0] [⟨a.map (vi .u64), false, 1⟩, ⟨a.map (vi .u64), true, 1⟩] := by
  refine GC.intro Try.func119 rfl (by show 1 ≤ 8; decide) (by first | exact Nat.le_refl _ | decide | simp) ?_
  refine AW.seqR ?_
  refine AWo.pure (PureOp.assign rfl) rfl rfl ?_
  refine AWo.nil trivial ?_
  refine AW.seq ?_
  refine AW.seqR ?_
  refine AWo.pure (PureOp.move rfl) rfl rfl ?_
  refine AWo.pure (PureOp.slEqNil Try.underlying43 rfl (by omega)) rfl rfl ?_
  refine AWo.nil trivial ?_
  refine AW.condF rfl ?_
  refine AW.skip ?_
  refine thenA_normal ?_
  refine AW.seqR ?_
  refine AWo.buildSlice tbok 6000 [] (out := []) rfl rfl (by decide) rfl rfl rfl (by decide) rfl rfl rfl rfl rfl ?_
  refine AWo.pure (PureOp.move rfl) rfl rfl ?_
  refine AWo.append tbok (all := a.map (vi .u64)) (news := a.map (vi .u64)) 8000 rfl rfl rfl rfl rfl (by show List.take _ (List.drop 0 _) = _; rw [List.drop_zero]; exact List.take_of_length_le (by simp)) (by first | decide | (simp; done) | (simp; omega)) (by decide) rfl rfl rfl (by decide) rfl rfl rfl (by first | decide | omega) (by first | decide | omega) (by first | exact oneM (fun _ => rfl) _ | (simp; done)) rfl rfl rfl ?_
  refine AWo.pure (PureOp.assign rfl) rfl rfl ?_
  refine AWo.nil trivial ?_
  refine AW.ret ?_
  refine RetQ.gc [_] [8000] [.tmp 2] (.inl rfl) rfl (.tmp rfl .nil) rfl (.cons rfl (by simp [ren, ren1, hmap]) .nil) (OutL.flat rfl (by first | exact flatM flat_vi | exact flatM flat_bool | (simp [flatV, flat_vi]; done)) (by intro h; first | rfl | exact h.elim id fun h => absurd h.1 (by simp)) (OutL.flat rfl (flatM flat_vi) (fun _ => rfl) trivial)) (by decide) rfl
end Go.Proofs.Ytiikffiembcboaa
