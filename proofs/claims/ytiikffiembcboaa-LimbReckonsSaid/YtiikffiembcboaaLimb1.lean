/- The program's words: sums, differences, products, which is the greater one. -/
import Derived.Test.YtiikffiembcboaaRef2
namespace Go.Proofs.Ytiikffiembcboaa
open Go Sim
section
variable {B : Nat}

theorem take_set_succ {l : List Nat} {i v : Nat} (h : i < l.length) : (l.set i v).take (i + 1) = l.take i ++ [v] := by
  rw [List.take_succ_eq_append_getElem (by simpa using h), List.take_set_of_le (Nat.le_refl _)]
  simp

theorem sumL_end (hB : 0 < B) {l : List Nat} {n a b c : Nat} (hl : bd B l) (hln : l.length = n) (h : num B (l.take n) + B ^ n * c = a % B ^ n + b % B ^ n) (ha : a < B ^ n) (hb : b < B ^ n) :
    l = digs B n (a + b) ∧ c = (a + b) / B ^ n := by
  have h1 := num_lt hl
  rw [hln] at h1
  rw [← hln, take_all, hln, Nat.mod_eq_of_lt ha, Nat.mod_eq_of_lt hb] at h
  have hp : 0 < B ^ n := by omega
  have h2 : (a + b) / B ^ n = c := by rw [← h, Nat.add_mul_div_left _ _ hp, Nat.div_eq_of_lt h1, Nat.zero_add]
  refine ⟨?_, h2.symm⟩
  refine num_inj hl (digs_bd hB _ _) (by rw [digs_len, hln]) ?_
  rw [num_digs, ← h, Nat.add_mul_mod_self_left, Nat.mod_eq_of_lt h1]

theorem dif_step {l : List Nat} {i a b c x y : Nat} (hl : l.length = i) (h : num B l + b % B ^ i = a % B ^ i + B ^ i * c) (hx : x = a / B ^ i % B) (hy : y = b / B ^ i % B) (hxB : x < B) (hyB : y < B) (hc : c ≤ 1) :
    num B (l ++ [(x + B - y - c) % B]) + b % B ^ (i + 1) = a % B ^ (i + 1) + B ^ (i + 1) * (if x < y + c then 1 else 0) := by
  have h1 := sub_step hl h hx hy hyB hc
  rw [show x + B - y - c = B + x - y - c by omega, h1]
  congr 2
  split
  · rw [Nat.div_eq_of_lt (by omega)]
  · rw [Nat.div_eq_of_lt_le (k := 1)] <;> omega

theorem difL_end (hB : 0 < B) {l : List Nat} {n a b c : Nat} (hl : bd B l) (hln : l.length = n) (h : num B (l.take n) + b % B ^ n = a % B ^ n + B ^ n * c) (ha : a < B ^ n) (hb : b < B ^ n) (hc : c ≤ 1) :
    l = digs B n (a + B ^ n - b) ∧ c = if a < b then 1 else 0 := by
  have h1 := num_lt hl
  rw [hln] at h1
  rw [← hln, take_all, hln, Nat.mod_eq_of_lt ha, Nat.mod_eq_of_lt hb] at h
  rcases (by omega : c = 0 ∨ c = 1) with rfl | rfl
  · refine ⟨num_inj hl (digs_bd hB _ _) (by rw [digs_len, hln]) ?_, by rw [if_neg (by omega)]⟩
    rw [num_digs, show a + B ^ n - b = num B l + B ^ n by omega, Nat.add_mod_right, Nat.mod_eq_of_lt h1]
  · refine ⟨num_inj hl (digs_bd hB _ _) (by rw [digs_len, hln]) ?_, by rw [if_pos (by omega)]⟩
    rw [num_digs, show a + B ^ n - b = num B l by omega, Nat.mod_eq_of_lt h1]

theorem cmpI_eq {x y : Nat} (h : cmpI x y = 0) : x = y := by
  simp only [cmpI] at h
  split at h
  · omega
  · split at h <;> omega

theorem cmpI_top {a c r x y : Nat} (h : a / B ^ (r + 1) = c / B ^ (r + 1)) (hx : x = a / B ^ r % B) (hy : y = c / B ^ r % B) (hne : cmpI x y ≠ 0) : cmpI x y = cmpI a c := by
  have key : x < y → a < c := fun h1 => top_lt h (by rw [← hx, ← hy]; exact h1)
  have key2 : y < x → c < a := fun h1 => top_lt h.symm (by rw [← hx, ← hy]; exact h1)
  simp only [cmpI] at hne ⊢
  by_cases h1 : x < y
  · rw [if_pos h1, if_pos (key h1)]
  · by_cases h2 : y < x
    · have := key2 h2
      rw [if_neg h1, if_pos h2, if_neg (by omega), if_pos this]
    · rw [if_neg h1, if_neg h2] at hne; exact absurd rfl hne
end

set_option maxRecDepth 10000 in
theorem at_ctr {a : List Nat} {i : Nat} : GC Try.prog 125 [.slice (some ⟨0, 0, none⟩) a.length 0, vi .i64 (i)] [⟨a.map (vi .u64), false, 1⟩] [vi .u64 (a.getD i 0)] [⟨a.map (vi .u64), false, 1⟩] := by
  refine GC.intro Try.func125 rfl (by show 2 ≤ 13; decide) (by first | exact Nat.le_refl _ | decide | simp) ?_
  refine AW.seqR ?_
  refine AWo.pure (PureOp.assign rfl) rfl rfl ?_
  refine AWo.nil trivial ?_
  refine AW.seq ?_
  refine AW.seqR ?_
  refine AWo.pure (PureOp.move rfl) rfl rfl ?_
  refine AWo.pure (PureOp.move rfl) rfl rfl ?_
  refine AWo.pure (PureOp.lenS tbok rfl rfl) rfl rfl ?_
  first | refine AWo.pure (PureOp.ltN rfl rfl) rfl rfl ?_ | refine AWo.pure (PureOp.bin rfl rfl rfl) rfl rfl ?_
  refine AWo.nil trivial ?_
  refine AW.cond rfl (fun hb0 => ?_) (fun hb0 => ?_)
  ·
    have hi : i < a.length := by simpa using hb0
    refine AW.seqR ?_
    refine AWo.pure (PureOp.move rfl) rfl rfl ?_
    refine AWo.pure (PureOp.move rfl) rfl rfl ?_
    first | refine AWo.pure (PureOp.idx1 tbok rfl rfl rfl rfl (by first | decide | omega)) rfl rfl ?_ | refine AWo.pure (PureOp.idx tbok rfl rfl rfl rfl (by first | decide | omega)) rfl rfl ?_
    first | refine AWo.loadM tbok 0 rfl rfl rfl (by first | decide | omega) rfl rfl ?_ | refine AWo.load tbok rfl rfl rfl rfl rfl rfl ?_
    refine AWo.pure (PureOp.assign rfl) rfl rfl ?_
    refine AWo.nil trivial ?_
    refine AW.ret ?_
    refine thenA_ret ?_
    refine RetQ.gc [_] [] [.tmp 4] (.inl rfl) rfl (.tmp rfl .nil) rfl (.cons rfl (by first | rfl | exact congrArg (vi .u64) (getD_ge hi)) .nil) (OutL.flat rfl (flatM flat_vi) (by intro h; exact h.elim id fun h => absurd h.1 (by simp)) trivial) (by decide) rfl
  ·
    have hi : a.length ≤ i := by simpa using hb0
    refine AW.skip ?_
    refine thenA_normal ?_
    refine AW.seqR ?_
    refine AWo.pure (PureOp.assign rfl) rfl rfl ?_
    refine AWo.nil trivial ?_
    refine AW.ret ?_
    refine RetQ.gc [_] [] [.tmp 4] (.inl rfl) rfl (.tmp rfl .nil) rfl (.cons rfl (by first | rfl | exact congrArg (vi .u64) (getD_ge hi)) .nil) (OutL.flat rfl (flatM flat_vi) (by intro h; exact h.elim id fun h => absurd h.1 (by simp)) trivial) (by decide) rfl

set_option maxRecDepth 10000 in
theorem step_ctr {a x y c : Nat} (ha : a < 18446744073709551616) (hx : x < 18446744073709551616) (hy : y < 18446744073709551616) (hc : c < 18446744073709551616) : GC Try.prog 128 [vi .u64 (a), vi .u64 (x), vi .u64 (y), vi .u64 (c)] [] [vi .u64 ((a + x * y + c) % 18446744073709551616), vi .u64 ((a + x * y + c) / 18446744073709551616)] [] := by
  refine GC.intro Try.func128 rfl (by show 4 ≤ 38; decide) (by first | exact Nat.le_refl _ | decide | simp) ?_
  have hp : x * y ≤ 18446744073709551615 * 18446744073709551615 := Nat.mul_le_mul (by omega) (by omega)
  refine AW.seqR ?_
  refine AWo.pure (PureOp.assign rfl) rfl rfl ?_
  refine AWo.pure (PureOp.assign rfl) rfl rfl ?_
  refine AWo.nil trivial ?_
  refine AW.seqR ?_
  refine AWo.pure (PureOp.move rfl) rfl rfl ?_
  refine AWo.pure (PureOp.move rfl) rfl rfl ?_
  refine AWo.callX (mul64 (by first | assumption | omega) (by first | assumption | omega)) bd146 [] [] rfl (.cons rfl (.cons rfl .nil)) rfl (.cons rfl rfl (.cons rfl rfl .nil)) .nil rfl .nil frN (by decide) (.cons rfl rfl (.cons rfl rfl .nil)) rfl rfl rfl rfl ?_
  refine AWo.pure (PureOp.move rfl) rfl rfl ?_
  refine AWo.pure (PureOp.extract rfl rfl) rfl rfl ?_
  refine AWo.pure (PureOp.extract rfl rfl) rfl rfl ?_
  refine AWo.pure (PureOp.assign rfl) rfl rfl ?_
  refine AWo.pure (PureOp.assign rfl) rfl rfl ?_
  refine AWo.nil trivial ?_
  refine AW.seqR ?_
  refine AWo.pure (PureOp.move rfl) rfl rfl ?_
  refine AWo.pure (PureOp.move rfl) rfl rfl ?_
  refine AWo.pure (add64 (c := 0) rfl rfl (by first | decide | omega)) rfl rfl ?_
  refine AWo.pure (PureOp.move rfl) rfl rfl ?_
  refine AWo.pure (PureOp.extract rfl rfl) rfl rfl ?_
  refine AWo.pure (PureOp.extract rfl rfl) rfl rfl ?_
  refine AWo.pure (PureOp.assign rfl) rfl rfl ?_
  refine AWo.pure (PureOp.assign rfl) rfl rfl ?_
  refine AWo.nil trivial ?_
  refine AW.seqR ?_
  refine AWo.pure (PureOp.move rfl) rfl rfl ?_
  refine AWo.pure (PureOp.move rfl) rfl rfl ?_
  first | refine AWo.pure ((PureOp.addU 18446744073709551616 rfl rfl rfl rfl).mono (v' := vi .u64 (x * y / 18446744073709551616 + (x * y % 18446744073709551616 + a + 0) / 18446744073709551616)) (by congr 1; omega)) rfl rfl ?_ | refine AWo.pure ((PureOp.bin rfl rfl rfl).mono (v' := vi .u64 (x * y / 18446744073709551616 + (x * y % 18446744073709551616 + a + 0) / 18446744073709551616)) (by congr 1; omega)) rfl rfl ?_
  refine AWo.pure (PureOp.assign rfl) rfl rfl ?_
  refine AWo.nil trivial ?_
  refine AW.seqR ?_
  refine AWo.pure (PureOp.move rfl) rfl rfl ?_
  refine AWo.pure (PureOp.move rfl) rfl rfl ?_
  refine AWo.pure (add64 (c := 0) rfl rfl (by first | decide | omega)) rfl rfl ?_
  refine AWo.pure (PureOp.move rfl) rfl rfl ?_
  refine AWo.pure (PureOp.extract rfl rfl) rfl rfl ?_
  refine AWo.pure (PureOp.extract rfl rfl) rfl rfl ?_
  refine AWo.pure (PureOp.assign rfl) rfl rfl ?_
  refine AWo.pure (PureOp.assign rfl) rfl rfl ?_
  refine AWo.nil trivial ?_
  refine AW.seqR ?_
  first | refine AWo.pure ((PureOp.move rfl).mono (v' := vi .u64 ((a + x * y + c) % 18446744073709551616)) (congrArg (vi .u64) (by omega))) rfl rfl ?_
  refine AWo.pure (PureOp.move rfl) rfl rfl ?_
  refine AWo.pure (PureOp.move rfl) rfl rfl ?_
  first | refine AWo.pure ((PureOp.addU 18446744073709551616 rfl rfl rfl rfl).mono (v' := vi .u64 ((a + x * y + c) / 18446744073709551616)) (by congr 1; omega)) rfl rfl ?_ | refine AWo.pure ((PureOp.bin rfl rfl rfl).mono (v' := vi .u64 ((a + x * y + c) / 18446744073709551616)) (by congr 1; omega)) rfl rfl ?_
  refine AWo.pure (PureOp.assign rfl) rfl rfl ?_
  refine AWo.pure (PureOp.assign rfl) rfl rfl ?_
  refine AWo.nil trivial ?_
  refine AW.ret ?_
  refine RetQ.gc [_, _] [] [.tmp 8, .tmp 9] (.inl rfl) rfl (.tmp rfl (.tmp rfl .nil)) rfl (.cons rfl rfl (.cons rfl rfl .nil)) trivial (by decide) rfl

set_option maxRecDepth 10000 in
theorem line_ctr {a x y c : Nat} (ha : a < 18446744073709551616) (hx : x < 18446744073709551616) (hy : y < 18446744073709551616) (hc : c < 18446744073709551616) : GC Try.prog 151 [vi .u64 (a), vi .u64 (x), vi .u64 (y), vi .u64 (c)] [] [vi .u64 ((a + x * y + c) % 18446744073709551616), vi .u64 ((a + x * y + c) / 18446744073709551616)] [] := by
  refine GC.intro Try.func151 rfl (by show 4 ≤ 38; decide) (by first | exact Nat.le_refl _ | decide | simp) ?_
  have hp : x * y ≤ 18446744073709551615 * 18446744073709551615 := Nat.mul_le_mul (by omega) (by omega)
  refine AW.seqR ?_
  refine AWo.pure (PureOp.assign rfl) rfl rfl ?_
  refine AWo.pure (PureOp.assign rfl) rfl rfl ?_
  refine AWo.nil trivial ?_
  refine AW.seqR ?_
  refine AWo.pure (PureOp.move rfl) rfl rfl ?_
  refine AWo.pure (PureOp.move rfl) rfl rfl ?_
  refine AWo.callX (mul64 (by first | assumption | omega) (by first | assumption | omega)) bd146 [] [] rfl (.cons rfl (.cons rfl .nil)) rfl (.cons rfl rfl (.cons rfl rfl .nil)) .nil rfl .nil frN (by decide) (.cons rfl rfl (.cons rfl rfl .nil)) rfl rfl rfl rfl ?_
  refine AWo.pure (PureOp.move rfl) rfl rfl ?_
  refine AWo.pure (PureOp.extract rfl rfl) rfl rfl ?_
  refine AWo.pure (PureOp.extract rfl rfl) rfl rfl ?_
  refine AWo.pure (PureOp.assign rfl) rfl rfl ?_
  refine AWo.pure (PureOp.assign rfl) rfl rfl ?_
  refine AWo.nil trivial ?_
  refine AW.seqR ?_
  refine AWo.pure (PureOp.move rfl) rfl rfl ?_
  refine AWo.pure (PureOp.move rfl) rfl rfl ?_
  refine AWo.pure (add64 (c := 0) rfl rfl (by first | decide | omega)) rfl rfl ?_
  refine AWo.pure (PureOp.move rfl) rfl rfl ?_
  refine AWo.pure (PureOp.extract rfl rfl) rfl rfl ?_
  refine AWo.pure (PureOp.extract rfl rfl) rfl rfl ?_
  refine AWo.pure (PureOp.assign rfl) rfl rfl ?_
  refine AWo.pure (PureOp.assign rfl) rfl rfl ?_
  refine AWo.nil trivial ?_
  refine AW.seqR ?_
  refine AWo.pure (PureOp.move rfl) rfl rfl ?_
  refine AWo.pure (PureOp.move rfl) rfl rfl ?_
  first | refine AWo.pure ((PureOp.addU 18446744073709551616 rfl rfl rfl rfl).mono (v' := vi .u64 (x * y / 18446744073709551616 + (x * y % 18446744073709551616 + a + 0) / 18446744073709551616)) (by congr 1; omega)) rfl rfl ?_ | refine AWo.pure ((PureOp.bin rfl rfl rfl).mono (v' := vi .u64 (x * y / 18446744073709551616 + (x * y % 18446744073709551616 + a + 0) / 18446744073709551616)) (by congr 1; omega)) rfl rfl ?_
  refine AWo.pure (PureOp.assign rfl) rfl rfl ?_
  refine AWo.nil trivial ?_
  refine AW.seqR ?_
  refine AWo.pure (PureOp.move rfl) rfl rfl ?_
  refine AWo.pure (PureOp.move rfl) rfl rfl ?_
  refine AWo.pure (add64 (c := 0) rfl rfl (by first | decide | omega)) rfl rfl ?_
  refine AWo.pure (PureOp.move rfl) rfl rfl ?_
  refine AWo.pure (PureOp.extract rfl rfl) rfl rfl ?_
  refine AWo.pure (PureOp.extract rfl rfl) rfl rfl ?_
  refine AWo.pure (PureOp.assign rfl) rfl rfl ?_
  refine AWo.pure (PureOp.assign rfl) rfl rfl ?_
  refine AWo.nil trivial ?_
  refine AW.seqR ?_
  first | refine AWo.pure ((PureOp.move rfl).mono (v' := vi .u64 ((a + x * y + c) % 18446744073709551616)) (congrArg (vi .u64) (by omega))) rfl rfl ?_
  refine AWo.pure (PureOp.move rfl) rfl rfl ?_
  refine AWo.pure (PureOp.move rfl) rfl rfl ?_
  first | refine AWo.pure ((PureOp.addU 18446744073709551616 rfl rfl rfl rfl).mono (v' := vi .u64 ((a + x * y + c) / 18446744073709551616)) (by congr 1; omega)) rfl rfl ?_ | refine AWo.pure ((PureOp.bin rfl rfl rfl).mono (v' := vi .u64 ((a + x * y + c) / 18446744073709551616)) (by congr 1; omega)) rfl rfl ?_
  refine AWo.pure (PureOp.assign rfl) rfl rfl ?_
  refine AWo.pure (PureOp.assign rfl) rfl rfl ?_
  refine AWo.nil trivial ?_
  refine AW.ret ?_
  refine RetQ.gc [_, _] [] [.tmp 8, .tmp 9] (.inl rfl) rfl (.tmp rfl (.tmp rfl .nil)) rfl (.cons rfl rfl (.cons rfl rfl .nil)) trivial (by decide) rfl

set_option maxRecDepth 10000 in
theorem eachA_ctr {a b : List Nat} (ha : bd 18446744073709551616 a) (hb : bd 18446744073709551616 b) (hla : a.length < 100000000) (hlb : b.length < 100000000) : GC Try.prog 126 [.slice (some ⟨0, 0, none⟩) a.length 0, .slice (some ⟨1, 0, none⟩) b.length 0, .func (.func 127) #[] #[]] [⟨a.map (vi .u64), false, 1⟩, ⟨b.map (vi .u64), false, 1⟩] [.slice (some ⟨2, 0, none⟩) (Nat.max a.length b.length) 0, vi .u64 ((num 18446744073709551616 a + num 18446744073709551616 b) / 18446744073709551616 ^ (Nat.max a.length b.length))] [⟨a.map (vi .u64), false, 1⟩, ⟨b.map (vi .u64), false, 1⟩, ⟨(digs 18446744073709551616 (Nat.max a.length b.length) (num 18446744073709551616 a + num 18446744073709551616 b)).map (vi .u64), true, 1⟩] := by
  refine GC.intro Try.func126 rfl (by show 3 ≤ 40; decide) (by first | exact Nat.le_refl _ | decide | simp) ?_
  have hM : Nat.max a.length b.length < 1000000000 := Nat.max_lt.2 ⟨by omega, by omega⟩
  have hM1 : a.length ≤ Nat.max a.length b.length := Nat.le_max_left _ _
  have hM2 : b.length ≤ Nat.max a.length b.length := Nat.le_max_right _ _
  refine AW.seqR ?_
  refine AWo.pure (PureOp.assign rfl) rfl rfl ?_
  refine AWo.pure (PureOp.assign rfl) rfl rfl ?_
  refine AWo.nil trivial ?_
  refine AW.seqR ?_
  refine AWo.pure (PureOp.move rfl) rfl rfl ?_
  refine AWo.pure (PureOp.lenS tbok rfl rfl) rfl rfl ?_
  refine AWo.pure (PureOp.move rfl) rfl rfl ?_
  refine AWo.pure (PureOp.lenS tbok rfl rfl) rfl rfl ?_
  first | refine AWo.pure (PureOp.maxN rfl rfl) rfl rfl ?_ | refine AWo.pure (PureOp.max rfl rfl) rfl rfl ?_
  refine AWo.makeI tbok 17000 rfl rfl rfl rfl rfl rfl (by first | decide | omega) (by first | decide | omega) rfl rfl rfl ?_
  refine AWo.pure (PureOp.assign rfl) rfl rfl ?_
  refine AWo.nil trivial ?_
  refine AW.seqR ?_
  refine AWo.pure (PureOp.assign rfl) rfl rfl ?_
  refine AWo.nil trivial ?_
  refine AW.seq ?_
  refine AW.seqR ?_
  refine AWo.pure (PureOp.move rfl) rfl rfl ?_
  refine AWo.pure (PureOp.lenS tbok rfl rfl) rfl rfl ?_
  refine AWo.pure (PureOp.move rfl) rfl rfl ?_
  refine AWo.nil trivial ?_
  refine AW.block ?_
  refine AW.loopw (fun mm σ => ∃ i, ∃ (l : List Nat), ∃ c, (i ≤ (Nat.max a.length b.length) ∧ l.length = (Nat.max a.length b.length) ∧ bd 18446744073709551616 l ∧ c ≤ 1 ∧ num 18446744073709551616 (l.take i) + 18446744073709551616 ^ i * c = num 18446744073709551616 a % 18446744073709551616 ^ i + num 18446744073709551616 b % 18446744073709551616 ^ i) ∧ mm = (Nat.max a.length b.length) - i ∧ σ = ⟨(upd (upd (upd (upd (upd (upd (upd emp 0 (.slice (some ⟨0, 0, none⟩) a.length 0)) 1 (.slice (some ⟨1, 0, none⟩) b.length 0)) 2 (.func (.func 127) #[] #[])) 8 (.slice (some ⟨77000, 0, none⟩) (Nat.max a.length b.length) 0)) 18 (vi .i64 (Nat.max a.length b.length))) 19 (vi .i64 i)) 9 (vi .u64 c)), (upd (upd (upd emp 0 ⟨a.map (vi .u64), false, 1⟩) 1 ⟨b.map (vi .u64), false, 1⟩) 77000 ⟨l.map (vi .u64), true, 1⟩)⟩) (fm := [(77000, 17000)]) ?_ ⟨0, List.replicate (Nat.max a.length b.length) 0, 0, ⟨Nat.zero_le _, by simp, bd_replicate (by decide) _, by omega, by simp [num, Nat.mod_one]⟩, rfl, rfl⟩ ?_
  ·
    refine Wk.of [0, 1, 77000] ?_ ?_ ?_ (by decide) rfl
    ·
      refine WkE.upd rfl (by first | exact VR.flat _ rfl | exact VR.eqv (vp_succ _) rfl | exact VR.eqv (vp_succ _).symm rfl | exact VR.eqv (by first | rfl | (congr 1; omega) | (simp; done) | (simp; omega)) rfl) ?_
      refine WkE.upd rfl (by first | exact VR.flat _ rfl | exact VR.eqv (vp_succ _) rfl | exact VR.eqv (vp_succ _).symm rfl | exact VR.eqv (by first | rfl | (congr 1; omega) | (simp; done) | (simp; omega)) rfl) ?_
      refine WkE.upd rfl (by first | exact VR.flat _ rfl | exact VR.eqv (vp_succ _) rfl | exact VR.eqv (vp_succ _).symm rfl | exact VR.eqv (by first | rfl | (congr 1; omega) | (simp; done) | (simp; omega)) rfl) ?_
      refine WkE.upd rfl (.slice (77000) 0 _ 0 ⟨_, rfl⟩ (by simp) (by simp)) ?_
      refine WkE.upd rfl (by first | exact VR.flat _ rfl | exact VR.eqv (vp_succ _) rfl | exact VR.eqv (vp_succ _).symm rfl | exact VR.eqv (by first | rfl | (congr 1; omega) | (simp; done) | (simp; omega)) rfl) ?_
      refine WkE.upd rfl (.slice (1) 0 _ 0 ⟨_, rfl⟩ (by simp) (by simp)) ?_
      refine WkE.upd rfl (.slice (0) 0 _ 0 ⟨_, rfl⟩ (by simp) (by simp)) ?_
      exact WkE.emp
    ·
      refine WkM.flatM rfl (by first | rfl | assumption | simp) (fun _ => rfl) (fun h => h) ?_
      refine WkM.flatM rfl (by first | rfl | assumption | simp) (fun _ => rfl) (fun h => h) ?_
      refine WkM.flatM rfl (by first | rfl | assumption | simp) (fun _ => rfl) (fun h => h) ?_
      exact WkM.emp
    ·
      repeat (refine dom_upd_mem (by decide) ?_)
      exact dom_emp
  ·
    rintro mm σ ⟨i, l, c, ⟨hi0, hl2, hbl, hc, hnl⟩, rfl, rfl⟩
    have hx := bd_getD ha (by decide) i
    have hy := bd_getD hb (by decide) i
    refine AW.seqR ?_
    first | refine AWo.pure (PureOp.ltN rfl rfl) rfl rfl ?_ | refine AWo.pure (PureOp.bin rfl rfl rfl) rfl rfl ?_
    refine AWo.nil trivial ?_
    refine AW.seq ?_
    refine AW.cond rfl (fun hb0 => ?_) (fun hb0 => ?_)
    ·
      have hi : i < (Nat.max a.length b.length) := by simpa using hb0
      refine AW.skip ?_
      refine thenA_normal ?_
      refine AW.seq ?_
      refine AW.block ?_
      refine AW.seqR ?_
      refine AWo.pure (PureOp.move rfl) rfl rfl ?_
      refine AWo.pure (PureOp.assign rfl) rfl rfl ?_
      refine AWo.nil trivial ?_
      refine AW.region ?_
      refine AWo.pure (PureOp.move rfl) rfl rfl ?_
      refine AWo.pure (PureOp.move rfl) rfl rfl ?_
      refine AWo.pure (PureOp.move rfl) rfl rfl ?_
      refine AWo.pure (PureOp.move rfl) rfl rfl ?_
      refine AWo.pure (PureOp.move rfl) rfl rfl ?_
      refine AWo.callX (at_ctr) bd125 [(0, 0)] [] rfl (.cons rfl (.cons rfl .nil)) rfl (.cons rfl rfl (.cons rfl rfl .nil)) (.flat rfl (by first | exact flatM flat_vi | exact flatM flat_bool | (simp [flatV, flat_vi]; done)) (by intro h; first | exact h | rfl) .nil) rfl (.keep rfl .nil) frN (by decide) (.cons rfl rfl .nil) rfl rfl rfl rfl ?_
      refine AWo.pure (PureOp.move rfl) rfl rfl ?_
      refine AWo.pure (PureOp.move rfl) rfl rfl ?_
      refine AWo.callX (at_ctr) bd125 [(1, 0)] [] rfl (.cons rfl (.cons rfl .nil)) rfl (.cons rfl rfl (.cons rfl rfl .nil)) (.flat rfl (by first | exact flatM flat_vi | exact flatM flat_bool | (simp [flatV, flat_vi]; done)) (by intro h; first | exact h | rfl) .nil) rfl (.keep rfl .nil) frN (by decide) (.cons rfl rfl .nil) rfl rfl rfl rfl ?_
      refine AWo.pure (PureOp.move rfl) rfl rfl ?_
      refine AWo.pure (add64 rfl rfl (by first | decide | omega)) rfl rfl ?_
      refine AWo.pure (PureOp.move rfl) rfl rfl ?_
      refine AWo.pure (PureOp.extract rfl rfl) rfl rfl ?_
      refine AWo.pure (PureOp.extract rfl rfl) rfl rfl ?_
      first | refine AWo.pure (PureOp.idx1 tbok rfl rfl rfl rfl (by first | decide | omega)) rfl rfl ?_ | refine AWo.pure (PureOp.idx tbok rfl rfl rfl rfl (by first | decide | omega)) rfl rfl ?_
      first | refine AWo.storeM (f := (vi .u64)) tbok rfl rfl rfl rfl (by first | decide | omega) rfl rfl ?_ | refine AWo.store tbok rfl rfl rfl rfl rfl (by first | decide | (simp; omega)) rfl rfl rfl ?_
      refine AWo.pure (PureOp.assign rfl) rfl rfl ?_
      refine AWo.nil trivial ?_
      refine inBlockA_normal ?_
      refine thenA_normal ?_
      refine AW.region ?_
      first | refine AWo.pure (PureOp.addI (b := 1) rfl rfl (by first | decide | omega)) rfl rfl ?_ | refine AWo.pure (PureOp.bin rfl rfl rfl) rfl rfl ?_
      refine AWo.pure (PureOp.move rfl) rfl rfl ?_
      refine AWo.nil trivial ?_
      refine thenA_normal ?_
      refine ⟨(Nat.max a.length b.length) - (i + 1), [], _, by omega, ?_, i + 1, l.set i ((a.getD i 0 + b.getD i 0 + c) % 18446744073709551616), (a.getD i 0 + b.getD i 0 + c) / 18446744073709551616, ⟨by omega, by simp [hl2], bd_set hbl (Nat.mod_lt _ (by decide)), by omega, by rw [take_set_succ (by omega)]; exact add_step (by simp [hl2]; omega) hnl (num_getD ha (by decide) i) (num_getD hb (by decide) i)⟩, rfl, rfl⟩
      refine Wk.of [0, 1, 77000] ?_ ?_ ?_ (by decide) rfl
      ·
        refine WkE.upd rfl (by first | exact VR.flat _ rfl | exact VR.eqv (vp_succ _) rfl | exact VR.eqv (vp_succ _).symm rfl | exact VR.eqv (by first | rfl | (congr 1; omega) | (simp; done) | (simp; omega)) rfl) ?_
        refine WkE.upd rfl (by first | exact VR.flat _ rfl | exact VR.eqv (vp_succ _) rfl | exact VR.eqv (vp_succ _).symm rfl | exact VR.eqv (by first | rfl | (congr 1; omega) | (simp; done) | (simp; omega)) rfl) ?_
        refine WkE.upd rfl (by first | exact VR.flat _ rfl | exact VR.eqv (vp_succ _) rfl | exact VR.eqv (vp_succ _).symm rfl | exact VR.eqv (by first | rfl | (congr 1; omega) | (simp; done) | (simp; omega)) rfl) ?_
        refine WkE.upd rfl (.slice (77000) 0 _ 0 ⟨_, rfl⟩ (by simp) (by simp)) ?_
        refine WkE.upd rfl (by first | exact VR.flat _ rfl | exact VR.eqv (vp_succ _) rfl | exact VR.eqv (vp_succ _).symm rfl | exact VR.eqv (by first | rfl | (congr 1; omega) | (simp; done) | (simp; omega)) rfl) ?_
        refine WkE.upd rfl (.slice (1) 0 _ 0 ⟨_, rfl⟩ (by simp) (by simp)) ?_
        refine WkE.upd rfl (.slice (0) 0 _ 0 ⟨_, rfl⟩ (by simp) (by simp)) ?_
        exact WkE.emp
      ·
        refine WkM.flatM rfl (by first | rfl | assumption | simp) (fun _ => rfl) (fun h => h) ?_
        refine WkM.flatM rfl (by first | rfl | assumption | simp) (fun _ => rfl) (fun h => h) ?_
        refine WkM.flatM rfl (by first | rfl | assumption | simp) (fun _ => rfl) (fun h => h) ?_
        exact WkM.emp
      ·
        repeat (refine dom_upd_mem (by decide) ?_)
        exact dom_emp
    ·
      obtain rfl : i = (Nat.max a.length b.length) := by simp at hb0; omega
      obtain ⟨e1, e2⟩ := sumL_end (by decide) hbl hl2 hnl (num_lt_pow ha (by decide) hM1) (num_lt_pow hb (by decide) hM2)
      subst e1; subst e2
      refine AW.exit ?_
      refine thenA_exit ?_
      refine thenA_exit ?_
      refine inBlockA_hit ?_
      refine thenA_normal ?_
      refine AW.seqR ?_
      refine AWo.pure (PureOp.move rfl) rfl rfl ?_
      refine AWo.pure (PureOp.move rfl) rfl rfl ?_
      refine AWo.pure (PureOp.assign rfl) rfl rfl ?_
      refine AWo.pure (PureOp.assign rfl) rfl rfl ?_
      refine AWo.nil trivial ?_
      refine AW.ret ?_
      refine RetQ.gc [_, _] [77000] [.tmp 6, .tmp 7] (.inl rfl) rfl (.tmp rfl (.tmp rfl .nil)) rfl (.cons rfl rfl (.cons rfl rfl .nil)) (OutL.flat rfl (by first | exact flatM flat_vi | exact flatM flat_bool | (simp [flatV, flat_vi]; done)) (by intro h; first | rfl | exact h.elim id fun h => absurd h.1 (by simp)) (OutL.flat rfl (by first | exact flatM flat_vi | exact flatM flat_bool | (simp [flatV, flat_vi]; done)) (by intro h; first | rfl | exact h.elim id fun h => absurd h.1 (by simp)) (OutL.flat rfl (flatM flat_vi) (fun _ => rfl) trivial))) (by decide) rfl

set_option maxRecDepth 10000 in
theorem eachS_ctr {a b : List Nat} (ha : bd 18446744073709551616 a) (hb : bd 18446744073709551616 b) (hla : a.length < 100000000) (hlb : b.length < 100000000) : GC Try.prog 126 [.slice (some ⟨0, 0, none⟩) a.length 0, .slice (some ⟨1, 0, none⟩) b.length 0, .func (.func 129) #[] #[]] [⟨a.map (vi .u64), false, 1⟩, ⟨b.map (vi .u64), false, 1⟩] [.slice (some ⟨2, 0, none⟩) (Nat.max a.length b.length) 0, vi .u64 (if num 18446744073709551616 a < num 18446744073709551616 b then 1 else 0)] [⟨a.map (vi .u64), false, 1⟩, ⟨b.map (vi .u64), false, 1⟩, ⟨(digs 18446744073709551616 (Nat.max a.length b.length) (num 18446744073709551616 a + 18446744073709551616 ^ (Nat.max a.length b.length) - num 18446744073709551616 b)).map (vi .u64), true, 1⟩] := by
  refine GC.intro Try.func126 rfl (by show 3 ≤ 40; decide) (by first | exact Nat.le_refl _ | decide | simp) ?_
  have hM : Nat.max a.length b.length < 1000000000 := Nat.max_lt.2 ⟨by omega, by omega⟩
  have hM1 : a.length ≤ Nat.max a.length b.length := Nat.le_max_left _ _
  have hM2 : b.length ≤ Nat.max a.length b.length := Nat.le_max_right _ _
  refine AW.seqR ?_
  refine AWo.pure (PureOp.assign rfl) rfl rfl ?_
  refine AWo.pure (PureOp.assign rfl) rfl rfl ?_
  refine AWo.nil trivial ?_
  refine AW.seqR ?_
  refine AWo.pure (PureOp.move rfl) rfl rfl ?_
  refine AWo.pure (PureOp.lenS tbok rfl rfl) rfl rfl ?_
  refine AWo.pure (PureOp.move rfl) rfl rfl ?_
  refine AWo.pure (PureOp.lenS tbok rfl rfl) rfl rfl ?_
  first | refine AWo.pure (PureOp.maxN rfl rfl) rfl rfl ?_ | refine AWo.pure (PureOp.max rfl rfl) rfl rfl ?_
  refine AWo.makeI tbok 17000 rfl rfl rfl rfl rfl rfl (by first | decide | omega) (by first | decide | omega) rfl rfl rfl ?_
  refine AWo.pure (PureOp.assign rfl) rfl rfl ?_
  refine AWo.nil trivial ?_
  refine AW.seqR ?_
  refine AWo.pure (PureOp.assign rfl) rfl rfl ?_
  refine AWo.nil trivial ?_
  refine AW.seq ?_
  refine AW.seqR ?_
  refine AWo.pure (PureOp.move rfl) rfl rfl ?_
  refine AWo.pure (PureOp.lenS tbok rfl rfl) rfl rfl ?_
  refine AWo.pure (PureOp.move rfl) rfl rfl ?_
  refine AWo.nil trivial ?_
  refine AW.block ?_
  refine AW.loopw (fun mm σ => ∃ i, ∃ (l : List Nat), ∃ c, (i ≤ (Nat.max a.length b.length) ∧ l.length = (Nat.max a.length b.length) ∧ bd 18446744073709551616 l ∧ c ≤ 1 ∧ num 18446744073709551616 (l.take i) + num 18446744073709551616 b % 18446744073709551616 ^ i = num 18446744073709551616 a % 18446744073709551616 ^ i + 18446744073709551616 ^ i * c) ∧ mm = (Nat.max a.length b.length) - i ∧ σ = ⟨(upd (upd (upd (upd (upd (upd (upd emp 0 (.slice (some ⟨0, 0, none⟩) a.length 0)) 1 (.slice (some ⟨1, 0, none⟩) b.length 0)) 2 (.func (.func 129) #[] #[])) 8 (.slice (some ⟨77000, 0, none⟩) (Nat.max a.length b.length) 0)) 18 (vi .i64 (Nat.max a.length b.length))) 19 (vi .i64 i)) 9 (vi .u64 c)), (upd (upd (upd emp 0 ⟨a.map (vi .u64), false, 1⟩) 1 ⟨b.map (vi .u64), false, 1⟩) 77000 ⟨l.map (vi .u64), true, 1⟩)⟩) (fm := [(77000, 17000)]) ?_ ⟨0, List.replicate (Nat.max a.length b.length) 0, 0, ⟨Nat.zero_le _, by simp, bd_replicate (by decide) _, by omega, by simp [num, Nat.mod_one]⟩, rfl, rfl⟩ ?_
  ·
    refine Wk.of [0, 1, 77000] ?_ ?_ ?_ (by decide) rfl
    ·
      refine WkE.upd rfl (by first | exact VR.flat _ rfl | exact VR.eqv (vp_succ _) rfl | exact VR.eqv (vp_succ _).symm rfl | exact VR.eqv (by first | rfl | (congr 1; omega) | (simp; done) | (simp; omega)) rfl) ?_
      refine WkE.upd rfl (by first | exact VR.flat _ rfl | exact VR.eqv (vp_succ _) rfl | exact VR.eqv (vp_succ _).symm rfl | exact VR.eqv (by first | rfl | (congr 1; omega) | (simp; done) | (simp; omega)) rfl) ?_
      refine WkE.upd rfl (by first | exact VR.flat _ rfl | exact VR.eqv (vp_succ _) rfl | exact VR.eqv (vp_succ _).symm rfl | exact VR.eqv (by first | rfl | (congr 1; omega) | (simp; done) | (simp; omega)) rfl) ?_
      refine WkE.upd rfl (.slice (77000) 0 _ 0 ⟨_, rfl⟩ (by simp) (by simp)) ?_
      refine WkE.upd rfl (by first | exact VR.flat _ rfl | exact VR.eqv (vp_succ _) rfl | exact VR.eqv (vp_succ _).symm rfl | exact VR.eqv (by first | rfl | (congr 1; omega) | (simp; done) | (simp; omega)) rfl) ?_
      refine WkE.upd rfl (.slice (1) 0 _ 0 ⟨_, rfl⟩ (by simp) (by simp)) ?_
      refine WkE.upd rfl (.slice (0) 0 _ 0 ⟨_, rfl⟩ (by simp) (by simp)) ?_
      exact WkE.emp
    ·
      refine WkM.flatM rfl (by first | rfl | assumption | simp) (fun _ => rfl) (fun h => h) ?_
      refine WkM.flatM rfl (by first | rfl | assumption | simp) (fun _ => rfl) (fun h => h) ?_
      refine WkM.flatM rfl (by first | rfl | assumption | simp) (fun _ => rfl) (fun h => h) ?_
      exact WkM.emp
    ·
      repeat (refine dom_upd_mem (by decide) ?_)
      exact dom_emp
  ·
    rintro mm σ ⟨i, l, c, ⟨hi0, hl2, hbl, hc, hnl⟩, rfl, rfl⟩
    have hx := bd_getD ha (by decide) i
    have hy := bd_getD hb (by decide) i
    refine AW.seqR ?_
    first | refine AWo.pure (PureOp.ltN rfl rfl) rfl rfl ?_ | refine AWo.pure (PureOp.bin rfl rfl rfl) rfl rfl ?_
    refine AWo.nil trivial ?_
    refine AW.seq ?_
    refine AW.cond rfl (fun hb0 => ?_) (fun hb0 => ?_)
    ·
      have hi : i < (Nat.max a.length b.length) := by simpa using hb0
      refine AW.skip ?_
      refine thenA_normal ?_
      refine AW.seq ?_
      refine AW.block ?_
      refine AW.seqR ?_
      refine AWo.pure (PureOp.move rfl) rfl rfl ?_
      refine AWo.pure (PureOp.assign rfl) rfl rfl ?_
      refine AWo.nil trivial ?_
      refine AW.region ?_
      refine AWo.pure (PureOp.move rfl) rfl rfl ?_
      refine AWo.pure (PureOp.move rfl) rfl rfl ?_
      refine AWo.pure (PureOp.move rfl) rfl rfl ?_
      refine AWo.pure (PureOp.move rfl) rfl rfl ?_
      refine AWo.pure (PureOp.move rfl) rfl rfl ?_
      refine AWo.callX (at_ctr) bd125 [(0, 0)] [] rfl (.cons rfl (.cons rfl .nil)) rfl (.cons rfl rfl (.cons rfl rfl .nil)) (.flat rfl (by first | exact flatM flat_vi | exact flatM flat_bool | (simp [flatV, flat_vi]; done)) (by intro h; first | exact h | rfl) .nil) rfl (.keep rfl .nil) frN (by decide) (.cons rfl rfl .nil) rfl rfl rfl rfl ?_
      refine AWo.pure (PureOp.move rfl) rfl rfl ?_
      refine AWo.pure (PureOp.move rfl) rfl rfl ?_
      refine AWo.callX (at_ctr) bd125 [(1, 0)] [] rfl (.cons rfl (.cons rfl .nil)) rfl (.cons rfl rfl (.cons rfl rfl .nil)) (.flat rfl (by first | exact flatM flat_vi | exact flatM flat_bool | (simp [flatV, flat_vi]; done)) (by intro h; first | exact h | rfl) .nil) rfl (.keep rfl .nil) frN (by decide) (.cons rfl rfl .nil) rfl rfl rfl rfl ?_
      refine AWo.pure (PureOp.move rfl) rfl rfl ?_
      refine AWo.pure (sub64 rfl rfl (by first | decide | omega)) rfl rfl ?_
      refine AWo.pure (PureOp.move rfl) rfl rfl ?_
      refine AWo.pure (PureOp.extract rfl rfl) rfl rfl ?_
      refine AWo.pure (PureOp.extract rfl rfl) rfl rfl ?_
      first | refine AWo.pure (PureOp.idx1 tbok rfl rfl rfl rfl (by first | decide | omega)) rfl rfl ?_ | refine AWo.pure (PureOp.idx tbok rfl rfl rfl rfl (by first | decide | omega)) rfl rfl ?_
      first | refine AWo.storeM (f := (vi .u64)) tbok rfl rfl rfl rfl (by first | decide | omega) rfl rfl ?_ | refine AWo.store tbok rfl rfl rfl rfl rfl (by first | decide | (simp; omega)) rfl rfl rfl ?_
      refine AWo.pure (PureOp.assign rfl) rfl rfl ?_
      refine AWo.nil trivial ?_
      refine inBlockA_normal ?_
      refine thenA_normal ?_
      refine AW.region ?_
      first | refine AWo.pure (PureOp.addI (b := 1) rfl rfl (by first | decide | omega)) rfl rfl ?_ | refine AWo.pure (PureOp.bin rfl rfl rfl) rfl rfl ?_
      refine AWo.pure (PureOp.move rfl) rfl rfl ?_
      refine AWo.nil trivial ?_
      refine thenA_normal ?_
      refine ⟨(Nat.max a.length b.length) - (i + 1), [], _, by omega, ?_, i + 1, l.set i ((a.getD i 0 + 18446744073709551616 - b.getD i 0 - c) % 18446744073709551616), (if a.getD i 0 < b.getD i 0 + c then 1 else 0), ⟨by omega, by simp [hl2], bd_set hbl (Nat.mod_lt _ (by decide)), by split <;> omega, by rw [take_set_succ (by omega)]; exact dif_step (by simp [hl2]; omega) hnl (num_getD ha (by decide) i) (num_getD hb (by decide) i) hx hy hc⟩, rfl, rfl⟩
      refine Wk.of [0, 1, 77000] ?_ ?_ ?_ (by decide) rfl
      ·
        refine WkE.upd rfl (by first | exact VR.flat _ rfl | exact VR.eqv (vp_succ _) rfl | exact VR.eqv (vp_succ _).symm rfl | exact VR.eqv (by first | rfl | (congr 1; omega) | (simp; done) | (simp; omega)) rfl) ?_
        refine WkE.upd rfl (by first | exact VR.flat _ rfl | exact VR.eqv (vp_succ _) rfl | exact VR.eqv (vp_succ _).symm rfl | exact VR.eqv (by first | rfl | (congr 1; omega) | (simp; done) | (simp; omega)) rfl) ?_
        refine WkE.upd rfl (by first | exact VR.flat _ rfl | exact VR.eqv (vp_succ _) rfl | exact VR.eqv (vp_succ _).symm rfl | exact VR.eqv (by first | rfl | (congr 1; omega) | (simp; done) | (simp; omega)) rfl) ?_
        refine WkE.upd rfl (.slice (77000) 0 _ 0 ⟨_, rfl⟩ (by simp) (by simp)) ?_
        refine WkE.upd rfl (by first | exact VR.flat _ rfl | exact VR.eqv (vp_succ _) rfl | exact VR.eqv (vp_succ _).symm rfl | exact VR.eqv (by first | rfl | (congr 1; omega) | (simp; done) | (simp; omega)) rfl) ?_
        refine WkE.upd rfl (.slice (1) 0 _ 0 ⟨_, rfl⟩ (by simp) (by simp)) ?_
        refine WkE.upd rfl (.slice (0) 0 _ 0 ⟨_, rfl⟩ (by simp) (by simp)) ?_
        exact WkE.emp
      ·
        refine WkM.flatM rfl (by first | rfl | assumption | simp) (fun _ => rfl) (fun h => h) ?_
        refine WkM.flatM rfl (by first | rfl | assumption | simp) (fun _ => rfl) (fun h => h) ?_
        refine WkM.flatM rfl (by first | rfl | assumption | simp) (fun _ => rfl) (fun h => h) ?_
        exact WkM.emp
      ·
        repeat (refine dom_upd_mem (by decide) ?_)
        exact dom_emp
    ·
      obtain rfl : i = (Nat.max a.length b.length) := by simp at hb0; omega
      obtain ⟨e1, e2⟩ := difL_end (by decide) hbl hl2 hnl (num_lt_pow ha (by decide) hM1) (num_lt_pow hb (by decide) hM2) hc
      subst e1; subst e2
      refine AW.exit ?_
      refine thenA_exit ?_
      refine thenA_exit ?_
      refine inBlockA_hit ?_
      refine thenA_normal ?_
      refine AW.seqR ?_
      refine AWo.pure (PureOp.move rfl) rfl rfl ?_
      refine AWo.pure (PureOp.move rfl) rfl rfl ?_
      refine AWo.pure (PureOp.assign rfl) rfl rfl ?_
      refine AWo.pure (PureOp.assign rfl) rfl rfl ?_
      refine AWo.nil trivial ?_
      refine AW.ret ?_
      refine RetQ.gc [_, _] [77000] [.tmp 6, .tmp 7] (.inl rfl) rfl (.tmp rfl (.tmp rfl .nil)) rfl (.cons rfl rfl (.cons rfl rfl .nil)) (OutL.flat rfl (by first | exact flatM flat_vi | exact flatM flat_bool | (simp [flatV, flat_vi]; done)) (by intro h; first | rfl | exact h.elim id fun h => absurd h.1 (by simp)) (OutL.flat rfl (by first | exact flatM flat_vi | exact flatM flat_bool | (simp [flatV, flat_vi]; done)) (by intro h; first | rfl | exact h.elim id fun h => absurd h.1 (by simp)) (OutL.flat rfl (flatM flat_vi) (fun _ => rfl) trivial))) (by decide) rfl

set_option maxRecDepth 10000 in
theorem ladd_ctr {a b : List Nat} (ha : bd 18446744073709551616 a) (hb : bd 18446744073709551616 b) (hla : a.length < 100000000) (hlb : b.length < 100000000) : GC Try.prog 63 [.slice (some ⟨0, 0, none⟩) a.length 0, .slice (some ⟨1, 0, none⟩) b.length 0] [⟨a.map (vi .u64), false, 1⟩, ⟨b.map (vi .u64), false, 1⟩] [.slice (some ⟨2, 0, none⟩) (Nat.max a.length b.length) 0, vi .u64 ((num 18446744073709551616 a + num 18446744073709551616 b) / 18446744073709551616 ^ (Nat.max a.length b.length))] [⟨a.map (vi .u64), false, 1⟩, ⟨b.map (vi .u64), false, 1⟩, ⟨(digs 18446744073709551616 (Nat.max a.length b.length) (num 18446744073709551616 a + num 18446744073709551616 b)).map (vi .u64), true, 1⟩] := by
  refine GC.intro Try.func63 rfl (by show 2 ≤ 11; decide) (by first | exact Nat.le_refl _ | decide | simp) ?_
  refine AW.seqR ?_
  refine AWo.pure (PureOp.assign rfl) rfl rfl ?_
  refine AWo.pure (PureOp.assign rfl) rfl rfl ?_
  refine AWo.nil trivial ?_
  refine AW.seqR ?_
  refine AWo.pure (PureOp.move rfl) rfl rfl ?_
  refine AWo.pure (PureOp.move rfl) rfl rfl ?_
  refine AWo.callX (eachA_ctr (by assumption) (by assumption) (by first | assumption | omega) (by first | assumption | omega)) bd126 [(0, 0), (1, 0)] [9000] rfl (.cons rfl (.cons rfl (.cons rfl .nil))) rfl (.cons rfl rfl (.cons rfl rfl (.cons rfl rfl .nil))) (.flat rfl (by first | exact flatM flat_vi | exact flatM flat_bool | (simp [flatV, flat_vi]; done)) (by intro h; first | exact h | rfl) (.flat rfl (by first | exact flatM flat_vi | exact flatM flat_bool | (simp [flatV, flat_vi]; done)) (by intro h; first | exact h | rfl) .nil)) rfl (.keep rfl (.keep rfl (.new (flat_map_ren (by first | exact flatM flat_vi | exact flatM flat_bool | (simp [flatV, flat_vi]; done))) (OkL.flat (by first | exact flatM flat_vi | exact flatM flat_bool | (simp [flatV, flat_vi]; done))) .nil))) (frC rfl frN) (by decide) (.cons rfl rfl (.cons rfl rfl .nil)) rfl rfl rfl rfl ?_
  refine AWo.pure (PureOp.extract rfl rfl) rfl rfl ?_
  refine AWo.pure (PureOp.extract rfl rfl) rfl rfl ?_
  refine AWo.pure (PureOp.assign rfl) rfl rfl ?_
  refine AWo.pure (PureOp.assign rfl) rfl rfl ?_
  refine AWo.nil trivial ?_
  refine AW.ret ?_
  refine RetQ.gc [_, _] [9000] [.tmp 4, .tmp 5] (.inl rfl) rfl (.tmp rfl (.tmp rfl .nil)) rfl (.cons rfl rfl (.cons rfl rfl .nil)) (OutL.flat rfl (by first | exact flatM flat_vi | exact flatM flat_bool | (simp [flatV, flat_vi]; done)) (by intro h; first | rfl | exact h.elim id fun h => absurd h.1 (by simp)) (OutL.flat rfl (by first | exact flatM flat_vi | exact flatM flat_bool | (simp [flatV, flat_vi]; done)) (by intro h; first | rfl | exact h.elim id fun h => absurd h.1 (by simp)) (OutL.flat rfl (flatM flat_vi) (fun _ => rfl) trivial))) (by decide) rfl

set_option maxRecDepth 10000 in
theorem lsub_ctr {a b : List Nat} (ha : bd 18446744073709551616 a) (hb : bd 18446744073709551616 b) (hla : a.length < 100000000) (hlb : b.length < 100000000) : GC Try.prog 65 [.slice (some ⟨0, 0, none⟩) a.length 0, .slice (some ⟨1, 0, none⟩) b.length 0] [⟨a.map (vi .u64), false, 1⟩, ⟨b.map (vi .u64), false, 1⟩] [.slice (some ⟨2, 0, none⟩) (Nat.max a.length b.length) 0, vi .u64 (if num 18446744073709551616 a < num 18446744073709551616 b then 1 else 0)] [⟨a.map (vi .u64), false, 1⟩, ⟨b.map (vi .u64), false, 1⟩, ⟨(digs 18446744073709551616 (Nat.max a.length b.length) (num 18446744073709551616 a + 18446744073709551616 ^ (Nat.max a.length b.length) - num 18446744073709551616 b)).map (vi .u64), true, 1⟩] := by
  refine GC.intro Try.func65 rfl (by show 2 ≤ 11; decide) (by first | exact Nat.le_refl _ | decide | simp) ?_
  refine AW.seqR ?_
  refine AWo.pure (PureOp.assign rfl) rfl rfl ?_
  refine AWo.pure (PureOp.assign rfl) rfl rfl ?_
  refine AWo.nil trivial ?_
  refine AW.seqR ?_
  refine AWo.pure (PureOp.move rfl) rfl rfl ?_
  refine AWo.pure (PureOp.move rfl) rfl rfl ?_
  refine AWo.callX (eachS_ctr (by assumption) (by assumption) (by first | assumption | omega) (by first | assumption | omega)) bd126 [(0, 0), (1, 0)] [9000] rfl (.cons rfl (.cons rfl (.cons rfl .nil))) rfl (.cons rfl rfl (.cons rfl rfl (.cons rfl rfl .nil))) (.flat rfl (by first | exact flatM flat_vi | exact flatM flat_bool | (simp [flatV, flat_vi]; done)) (by intro h; first | exact h | rfl) (.flat rfl (by first | exact flatM flat_vi | exact flatM flat_bool | (simp [flatV, flat_vi]; done)) (by intro h; first | exact h | rfl) .nil)) rfl (.keep rfl (.keep rfl (.new (flat_map_ren (by first | exact flatM flat_vi | exact flatM flat_bool | (simp [flatV, flat_vi]; done))) (OkL.flat (by first | exact flatM flat_vi | exact flatM flat_bool | (simp [flatV, flat_vi]; done))) .nil))) (frC rfl frN) (by decide) (.cons rfl rfl (.cons rfl rfl .nil)) rfl rfl rfl rfl ?_
  refine AWo.pure (PureOp.extract rfl rfl) rfl rfl ?_
  refine AWo.pure (PureOp.extract rfl rfl) rfl rfl ?_
  refine AWo.pure (PureOp.assign rfl) rfl rfl ?_
  refine AWo.pure (PureOp.assign rfl) rfl rfl ?_
  refine AWo.nil trivial ?_
  refine AW.ret ?_
  refine RetQ.gc [_, _] [9000] [.tmp 4, .tmp 5] (.inl rfl) rfl (.tmp rfl (.tmp rfl .nil)) rfl (.cons rfl rfl (.cons rfl rfl .nil)) (OutL.flat rfl (by first | exact flatM flat_vi | exact flatM flat_bool | (simp [flatV, flat_vi]; done)) (by intro h; first | rfl | exact h.elim id fun h => absurd h.1 (by simp)) (OutL.flat rfl (by first | exact flatM flat_vi | exact flatM flat_bool | (simp [flatV, flat_vi]; done)) (by intro h; first | rfl | exact h.elim id fun h => absurd h.1 (by simp)) (OutL.flat rfl (flatM flat_vi) (fun _ => rfl) trivial))) (by decide) rfl

set_option maxRecDepth 10000 in
theorem isnan_ctr {x : Nat} : GC Try.prog 145 [vi .u64 (x)] [] [.bool false] [] := by
  refine GC.intro Try.func145 rfl (by show 1 ≤ 6; decide) (by first | exact Nat.le_refl _ | decide | simp) ?_
  refine AW.seqR ?_
  refine AWo.pure (PureOp.assign rfl) rfl rfl ?_
  refine AWo.nil trivial ?_
  refine AW.seqR ?_
  refine AWo.pure (PureOp.move rfl) rfl rfl ?_
  refine AWo.pure (PureOp.move rfl) rfl rfl ?_
  first | refine AWo.pure ((PureOp.neN rfl rfl).mono (v' := .bool false) (by simp)) rfl rfl ?_ | refine AWo.pure ((PureOp.bin rfl rfl rfl).mono (v' := .bool false) (by simp)) rfl rfl ?_
  refine AWo.pure (PureOp.assign rfl) rfl rfl ?_
  refine AWo.nil trivial ?_
  refine AW.ret ?_
  refine RetQ.gc [_] [] [.tmp 2] (.inl rfl) rfl (.tmp rfl .nil) rfl (.cons rfl rfl .nil) trivial (by decide) rfl

set_option maxRecDepth 10000 in
theorem compare_ctr {x y : Nat} : GC Try.prog 124 [vi .u64 (x), vi .u64 (y)] [] [.int .i64 (cmpI x y)] [] := by
  refine GC.intro Try.func124 rfl (by show 2 ≤ 20; decide) (by first | exact Nat.le_refl _ | decide | simp) ?_
  refine AW.seqR ?_
  refine AWo.pure (PureOp.assign rfl) rfl rfl ?_
  refine AWo.nil trivial ?_
  refine AW.seqR ?_
  refine AWo.pure (PureOp.move rfl) rfl rfl ?_
  refine AWo.callX (isnan_ctr) bd145 [] [] rfl (.cons rfl .nil) rfl (.cons rfl rfl .nil) .nil rfl .nil frN (by decide) (.cons rfl rfl .nil) rfl rfl rfl rfl ?_
  refine AWo.pure (PureOp.assign rfl) rfl rfl ?_
  refine AWo.nil trivial ?_
  refine AW.seqR ?_
  refine AWo.pure (PureOp.move rfl) rfl rfl ?_
  refine AWo.callX (isnan_ctr) bd145 [] [] rfl (.cons rfl .nil) rfl (.cons rfl rfl .nil) .nil rfl .nil frN (by decide) (.cons rfl rfl .nil) rfl rfl rfl rfl ?_
  refine AWo.pure (PureOp.assign rfl) rfl rfl ?_
  refine AWo.nil trivial ?_
  refine AW.seq ?_
  refine AW.seqR ?_
  refine AWo.pure (PureOp.move rfl) rfl rfl ?_
  refine AWo.nil trivial ?_
  refine AW.condF rfl ?_
  refine AW.skip ?_
  refine thenA_normal ?_
  refine AW.seq ?_
  refine AW.seqR ?_
  refine AWo.pure (PureOp.move rfl) rfl rfl ?_
  refine AWo.nil trivial ?_
  refine AW.condF rfl ?_
  refine AW.skip ?_
  refine thenA_normal ?_
  refine AW.seq ?_
  refine AW.seqR ?_
  refine AWo.pure (PureOp.move rfl) rfl rfl ?_
  refine AWo.pure (PureOp.move rfl) rfl rfl ?_
  first | refine AWo.pure (PureOp.ltN rfl rfl) rfl rfl ?_ | refine AWo.pure (PureOp.bin rfl rfl rfl) rfl rfl ?_
  refine AWo.nil trivial ?_
  refine AW.cond rfl (fun hb0 => ?_) (fun hb0 => ?_)
  ·
    have hxy : x < y := by simpa using hb0
    refine AW.seqR ?_
    refine AWo.pure (PureOp.assign rfl) rfl rfl ?_
    refine AWo.nil trivial ?_
    refine AW.ret ?_
    refine thenA_ret ?_
    refine RetQ.gc [_] [] [.tmp 4] (.inl rfl) rfl (.tmp rfl .nil) rfl (.cons rfl (congrArg (Value.int .i64) (by simp only [cmpI]; split <;> (try split) <;> omega)) .nil) trivial (by decide) rfl
  ·
    have hxy : ¬ x < y := by simpa using hb0
    refine AW.skip ?_
    refine thenA_normal ?_
    refine AW.seq ?_
    refine AW.seqR ?_
    refine AWo.pure (PureOp.move rfl) rfl rfl ?_
    refine AWo.pure (PureOp.move rfl) rfl rfl ?_
    first | refine AWo.pure (PureOp.gtN rfl rfl) rfl rfl ?_ | refine AWo.pure (PureOp.bin rfl rfl rfl) rfl rfl ?_
    refine AWo.nil trivial ?_
    refine AW.cond rfl (fun hb1 => ?_) (fun hb1 => ?_)
    ·
      have hyx : y < x := by simpa using hb1
      refine AW.seqR ?_
      refine AWo.pure (PureOp.assign rfl) rfl rfl ?_
      refine AWo.nil trivial ?_
      refine AW.ret ?_
      refine thenA_ret ?_
      refine RetQ.gc [_] [] [.tmp 4] (.inl rfl) rfl (.tmp rfl .nil) rfl (.cons rfl (congrArg (Value.int .i64) (by simp only [cmpI]; split <;> (try split) <;> omega)) .nil) trivial (by decide) rfl
    ·
      have hyx : ¬ y < x := by simpa using hb1
      refine AW.skip ?_
      refine thenA_normal ?_
      refine AW.seqR ?_
      refine AWo.pure (PureOp.assign rfl) rfl rfl ?_
      refine AWo.nil trivial ?_
      refine AW.ret ?_
      refine RetQ.gc [_] [] [.tmp 4] (.inl rfl) rfl (.tmp rfl .nil) rfl (.cons rfl (congrArg (Value.int .i64) (by simp only [cmpI]; split <;> (try split) <;> omega)) .nil) trivial (by decide) rfl

set_option maxRecDepth 10000 in
theorem lcmp_ctr {a b : List Nat} (ha : bd 18446744073709551616 a) (hb : bd 18446744073709551616 b) (hla : a.length < 100000000) (hlb : b.length < 100000000) : GC Try.prog 62 [.slice (some ⟨0, 0, none⟩) a.length 0, .slice (some ⟨1, 0, none⟩) b.length 0] [⟨a.map (vi .u64), false, 1⟩, ⟨b.map (vi .u64), false, 1⟩] [.int .i64 (cmpI (num 18446744073709551616 a) (num 18446744073709551616 b))] [⟨a.map (vi .u64), false, 1⟩, ⟨b.map (vi .u64), false, 1⟩] := by
  refine GC.intro Try.func62 rfl (by show 2 ≤ 27; decide) (by first | exact Nat.le_refl _ | decide | simp) ?_
  have hM : Nat.max a.length b.length < 1000000000 := Nat.max_lt.2 ⟨by omega, by omega⟩
  have hM1 : a.length ≤ Nat.max a.length b.length := Nat.le_max_left _ _
  have hM2 : b.length ≤ Nat.max a.length b.length := Nat.le_max_right _ _
  have ea := div_big ha (by decide) hM1
  have eb := div_big hb (by decide) hM2
  refine AW.seqR ?_
  refine AWo.pure (PureOp.assign rfl) rfl rfl ?_
  refine AWo.nil trivial ?_
  refine AW.seq ?_
  refine AW.seqR ?_
  refine AWo.pure (PureOp.move rfl) rfl rfl ?_
  refine AWo.pure (PureOp.lenS tbok rfl rfl) rfl rfl ?_
  refine AWo.pure (PureOp.move rfl) rfl rfl ?_
  refine AWo.pure (PureOp.lenS tbok rfl rfl) rfl rfl ?_
  first | refine AWo.pure (PureOp.maxN rfl rfl) rfl rfl ?_ | refine AWo.pure (PureOp.max rfl rfl) rfl rfl ?_
  first | refine AWo.pure ((PureOp.subI (b := 1) rfl rfl (by first | decide | omega) (by first | decide | omega)).mono (v' := vp (Nat.max a.length b.length)) (by first | rfl | (simp only [vp, vi]; congr 1; omega))) rfl rfl ?_ | refine AWo.pure ((PureOp.subP rfl rfl (by first | decide | omega)).mono (v' := vp (Nat.max a.length b.length)) (by first | rfl | (simp only [vp, vi]; congr 1; omega))) rfl rfl ?_ | refine AWo.pure ((PureOp.bin rfl rfl rfl).mono (v' := vp (Nat.max a.length b.length)) (by first | rfl | (simp only [vp, vi]; congr 1; omega))) rfl rfl ?_
  refine AWo.pure (PureOp.assign rfl) rfl rfl ?_
  refine AWo.nil trivial ?_
  refine AW.block ?_
  refine AW.loopw (fun mm σ => ∃ r, (r ≤ Nat.max a.length b.length ∧ num 18446744073709551616 a / 18446744073709551616 ^ r = num 18446744073709551616 b / 18446744073709551616 ^ r) ∧ mm = 1 * r ∧ σ = ⟨(upd (upd (upd emp 0 (.slice (some ⟨0, 0, none⟩) a.length 0)) 1 (.slice (some ⟨1, 0, none⟩) b.length 0)) 5 (vp r)), (upd (upd emp 0 ⟨a.map (vi .u64), false, 1⟩) 1 ⟨b.map (vi .u64), false, 1⟩)⟩) (fm := []) ?_ ⟨Nat.max a.length b.length, ⟨Nat.le_refl _, ea.trans eb.symm⟩, rfl, rfl⟩ ?_
  ·
    refine Wk.of [0, 1] ?_ ?_ ?_ (by decide) rfl
    ·
      refine WkE.upd rfl (by first | exact VR.flat _ rfl | exact VR.eqv (vp_succ _) rfl | exact VR.eqv (vp_succ _).symm rfl | exact VR.eqv (by first | rfl | (congr 1; omega) | (simp; done) | (simp; omega)) rfl) ?_
      refine WkE.upd rfl (.slice (1) 0 _ 0 ⟨_, rfl⟩ (by simp) (by simp)) ?_
      refine WkE.upd rfl (.slice (0) 0 _ 0 ⟨_, rfl⟩ (by simp) (by simp)) ?_
      exact WkE.emp
    ·
      refine WkM.flatM rfl (by first | rfl | assumption | simp) (fun _ => rfl) (fun h => h) ?_
      refine WkM.flatM rfl (by first | rfl | assumption | simp) (fun _ => rfl) (fun h => h) ?_
      exact WkM.emp
    ·
      repeat (refine dom_upd_mem (by decide) ?_)
      exact dom_emp
  ·
    rintro mm σ ⟨r, ⟨hr, he⟩, rfl, rfl⟩
    refine AW.seq ?_
    refine AW.seqR ?_
    refine AWo.pure (PureOp.move rfl) rfl rfl ?_
    first | refine AWo.pure (PureOp.geP rfl rfl) rfl rfl ?_ | refine AWo.pure (PureOp.geN (b := 0) rfl rfl) rfl rfl ?_ | refine AWo.pure (PureOp.bin rfl rfl rfl) rfl rfl ?_
    refine AWo.nil trivial ?_
    refine AW.cond rfl (fun hb0 => ?_) (fun hb0 => ?_)
    ·
      have hp0 : 0 < r := by simpa using hb0
      obtain ⟨r, rfl⟩ : ∃ q, r = q + 1 := ⟨r - 1, by omega⟩
      rw [vp_succ]
      have da := num_getD ha (by decide) r
      have db := num_getD hb (by decide) r
      refine AW.skip ?_
      refine thenA_normal ?_
      refine AW.seq ?_
      refine AW.block ?_
      refine AW.seqR ?_
      refine AWo.pure (PureOp.move rfl) rfl rfl ?_
      refine AWo.pure (PureOp.move rfl) rfl rfl ?_
      refine AWo.callX (at_ctr) bd125 [(0, 0)] [] rfl (.cons rfl (.cons rfl .nil)) rfl (.cons rfl rfl (.cons rfl rfl .nil)) (.flat rfl (by first | exact flatM flat_vi | exact flatM flat_bool | (simp [flatV, flat_vi]; done)) (by intro h; first | exact h | rfl) .nil) rfl (.keep rfl .nil) frN (by decide) (.cons rfl rfl .nil) rfl rfl rfl rfl ?_
      refine AWo.pure (PureOp.move rfl) rfl rfl ?_
      refine AWo.pure (PureOp.move rfl) rfl rfl ?_
      refine AWo.callX (at_ctr) bd125 [(1, 0)] [] rfl (.cons rfl (.cons rfl .nil)) rfl (.cons rfl rfl (.cons rfl rfl .nil)) (.flat rfl (by first | exact flatM flat_vi | exact flatM flat_bool | (simp [flatV, flat_vi]; done)) (by intro h; first | exact h | rfl) .nil) rfl (.keep rfl .nil) frN (by decide) (.cons rfl rfl .nil) rfl rfl rfl rfl ?_
      refine AWo.callX (compare_ctr) bd124 [] [] rfl (.cons rfl (.cons rfl .nil)) rfl (.cons rfl rfl (.cons rfl rfl .nil)) .nil rfl .nil frN (by decide) (.cons rfl rfl .nil) rfl rfl rfl rfl ?_
      refine AWo.pure (PureOp.assign rfl) rfl rfl ?_
      refine AWo.nil trivial ?_
      refine AW.seqR ?_
      refine AWo.pure (PureOp.move rfl) rfl rfl ?_
      first | refine AWo.pure (PureOp.neN (b := 0) rfl rfl) rfl rfl ?_ | refine AWo.pure (PureOp.bin rfl rfl rfl) rfl rfl ?_
      refine AWo.nil trivial ?_
      refine AW.cond rfl (fun hb1 => ?_) (fun hb1 => ?_)
      ·
        have hne : cmpI (a.getD r 0) (b.getD r 0) ≠ 0 := by simpa using hb1
        have hres := cmpI_top he da db hne
        refine AW.seqR ?_
        refine AWo.pure (PureOp.move rfl) rfl rfl ?_
        refine AWo.pure (PureOp.assign rfl) rfl rfl ?_
        refine AWo.nil trivial ?_
        refine AW.ret ?_
        refine inBlockA_ret ?_
        refine thenA_ret ?_
        refine thenA_ret ?_
        refine inBlockA_ret ?_
        refine thenA_ret ?_
        refine RetQ.gc [_] [] [.tmp 4] (.inl rfl) rfl (.tmp rfl .nil) rfl (.cons rfl (congrArg (Value.int .i64) (by first | exact hres.symm | exact hres | (rw [he]; simp [cmpI]))) .nil) (OutL.flat rfl (flatM flat_vi) (by intro h; exact h.elim id fun h => absurd h.1 (by simp)) (OutL.flat rfl (flatM flat_vi) (by intro h; exact h.elim id fun h => absurd h.1 (by simp)) trivial)) (by decide) rfl
      ·
        have hdd : num 18446744073709551616 a / 18446744073709551616 ^ r % 18446744073709551616 = num 18446744073709551616 b / 18446744073709551616 ^ r % 18446744073709551616 := by
          have hz : cmpI (a.getD r 0) (b.getD r 0) = 0 := by simpa using hb1
          rw [← da, ← db]; exact cmpI_eq hz
        refine AW.skip ?_
        refine inBlockA_normal ?_
        refine thenA_normal ?_
        refine AW.region ?_
        refine AWo.pure (PureOp.move rfl) rfl rfl ?_
        first | refine AWo.pure (PureOp.subI (b := 1) rfl rfl (by first | decide | omega) (by first | decide | omega)) rfl rfl ?_ | refine AWo.pure (PureOp.subP rfl rfl (by first | decide | omega)) rfl rfl ?_ | refine AWo.pure (PureOp.bin rfl rfl rfl) rfl rfl ?_
        refine AWo.pure (PureOp.assign rfl) rfl rfl ?_
        refine AWo.nil trivial ?_
        refine thenA_normal ?_
        refine ⟨1 * r, [], _, by omega, ?_, r, ⟨by omega, top_eq he hdd⟩, rfl, rfl⟩
        refine Wk.of [0, 1] ?_ ?_ ?_ (by decide) rfl
        ·
          refine WkE.upd rfl (by first | exact VR.flat _ rfl | exact VR.eqv (vp_succ _) rfl | exact VR.eqv (vp_succ _).symm rfl | exact VR.eqv (by first | rfl | (congr 1; omega) | (simp; done) | (simp; omega)) rfl) ?_
          refine WkE.upd rfl (.slice (1) 0 _ 0 ⟨_, rfl⟩ (by simp) (by simp)) ?_
          refine WkE.upd rfl (.slice (0) 0 _ 0 ⟨_, rfl⟩ (by simp) (by simp)) ?_
          exact WkE.emp
        ·
          refine WkM.flatM rfl (by first | rfl | assumption | simp) (fun _ => rfl) (fun h => h) ?_
          refine WkM.flatM rfl (by first | rfl | assumption | simp) (fun _ => rfl) (fun h => h) ?_
          exact WkM.emp
        ·
          repeat (refine dom_upd_mem (by decide) ?_)
          exact dom_emp
    ·
      obtain rfl : r = 0 := by simpa using hb0
      rw [Nat.pow_zero, Nat.div_one, Nat.div_one] at he
      refine AW.exit ?_
      refine thenA_exit ?_
      refine thenA_exit ?_
      refine inBlockA_hit ?_
      refine thenA_normal ?_
      refine AW.seqR ?_
      refine AWo.pure (PureOp.assign rfl) rfl rfl ?_
      refine AWo.nil trivial ?_
      refine AW.ret ?_
      refine RetQ.gc [_] [] [.tmp 4] (.inl rfl) rfl (.tmp rfl .nil) rfl (.cons rfl (congrArg (Value.int .i64) (by first | exact hres.symm | exact hres | (rw [he]; simp [cmpI]))) .nil) (OutL.flat rfl (flatM flat_vi) (by intro h; exact h.elim id fun h => absurd h.1 (by simp)) (OutL.flat rfl (flatM flat_vi) (by intro h; exact h.elim id fun h => absurd h.1 (by simp)) trivial)) (by decide) rfl

set_option maxRecDepth 10000 in
theorem lmul_ctr {a b : List Nat} (ha : bd 18446744073709551616 a) (hb : bd 18446744073709551616 b) (hla : a.length < 100000000) (hlb : b.length < 100000000) : GC Try.prog 64 [.slice (some ⟨0, 0, none⟩) a.length 0, .slice (some ⟨1, 0, none⟩) b.length 0] [⟨a.map (vi .u64), false, 1⟩, ⟨b.map (vi .u64), false, 1⟩] [.slice (some ⟨2, 0, none⟩) (a.length + b.length) 0] [⟨a.map (vi .u64), false, 1⟩, ⟨b.map (vi .u64), false, 1⟩, ⟨(digs 18446744073709551616 (a.length + b.length) (num 18446744073709551616 a * num 18446744073709551616 b)).map (vi .u64), true, 1⟩] := by
  refine GC.intro Try.func64 rfl (by show 2 ≤ 59; decide) (by first | exact Nat.le_refl _ | decide | simp) ?_
  refine AW.seqR ?_
  refine AWo.pure (PureOp.assign rfl) rfl rfl ?_
  refine AWo.nil trivial ?_
  refine AW.seqR ?_
  refine AWo.pure (PureOp.move rfl) rfl rfl ?_
  refine AWo.pure (PureOp.lenS tbok rfl rfl) rfl rfl ?_
  refine AWo.pure (PureOp.move rfl) rfl rfl ?_
  refine AWo.pure (PureOp.lenS tbok rfl rfl) rfl rfl ?_
  first | refine AWo.pure (PureOp.addI rfl rfl (by first | decide | omega)) rfl rfl ?_ | refine AWo.pure (PureOp.bin rfl rfl rfl) rfl rfl ?_
  refine AWo.makeI tbok 17000 rfl rfl rfl rfl rfl rfl (by first | decide | omega) (by first | decide | omega) rfl rfl rfl ?_
  refine AWo.pure (PureOp.assign rfl) rfl rfl ?_
  refine AWo.nil trivial ?_
  refine AW.seq ?_
  refine AW.seqR ?_
  refine AWo.pure (PureOp.move rfl) rfl rfl ?_
  refine AWo.pure (PureOp.lenS tbok rfl rfl) rfl rfl ?_
  refine AWo.pure (PureOp.move rfl) rfl rfl ?_
  refine AWo.nil trivial ?_
  refine AW.block ?_
  refine AW.loopw (fun mm σ => ∃ i, ∃ (l : List Nat), (i ≤ a.length ∧ l.length = a.length + b.length ∧ bd 18446744073709551616 l ∧ num 18446744073709551616 l = num 18446744073709551616 (a.take i) * num 18446744073709551616 b ∧ (∀ k, i + b.length ≤ k → l.getD k 0 = 0)) ∧ mm = a.length - i ∧ σ = ⟨(upd (upd (upd (upd (upd (upd emp 0 (.slice (some ⟨0, 0, none⟩) a.length 0)) 1 (.slice (some ⟨1, 0, none⟩) b.length 0)) 17 (.slice (some ⟨0, 0, none⟩) a.length 0)) 18 (vi .i64 a.length)) 5 (.slice (some ⟨77000, 0, none⟩) (a.length + b.length) 0)) 19 (vi .i64 i)), (upd (upd (upd emp 0 ⟨a.map (vi .u64), false, 1⟩) 1 ⟨b.map (vi .u64), false, 1⟩) 77000 ⟨l.map (vi .u64), true, 1⟩)⟩) (fm := [(77000, 17000)]) ?_ ⟨0, List.replicate (a.length + b.length) 0, ⟨by omega, by simp, bd_replicate (by decide) _, by simp [num, num_replicate], fun k _ => rep_getD _ _⟩, rfl, rfl⟩ ?_
  ·
    refine Wk.of [0, 1, 77000] ?_ ?_ ?_ (by decide) rfl
    ·
      refine WkE.upd rfl (by first | exact VR.flat _ rfl | exact VR.eqv (vp_succ _) rfl | exact VR.eqv (vp_succ _).symm rfl | exact VR.eqv (by first | rfl | (congr 1; omega) | (simp; done) | (simp; omega)) rfl) ?_
      refine WkE.upd rfl (.slice (77000) 0 _ 0 ⟨_, rfl⟩ (by simp) (by simp)) ?_
      refine WkE.upd rfl (by first | exact VR.flat _ rfl | exact VR.eqv (vp_succ _) rfl | exact VR.eqv (vp_succ _).symm rfl | exact VR.eqv (by first | rfl | (congr 1; omega) | (simp; done) | (simp; omega)) rfl) ?_
      refine WkE.upd rfl (.slice (0) 0 _ 0 ⟨_, rfl⟩ (by simp) (by simp)) ?_
      refine WkE.upd rfl (.slice (1) 0 _ 0 ⟨_, rfl⟩ (by simp) (by simp)) ?_
      refine WkE.upd rfl (.slice (0) 0 _ 0 ⟨_, rfl⟩ (by simp) (by simp)) ?_
      exact WkE.emp
    ·
      refine WkM.flatM rfl (by first | rfl | assumption | simp) (fun _ => rfl) (fun h => h) ?_
      refine WkM.flatM rfl (by first | rfl | assumption | simp) (fun _ => rfl) (fun h => h) ?_
      refine WkM.flatM rfl (by first | rfl | assumption | simp) (fun _ => rfl) (fun h => h) ?_
      exact WkM.emp
    ·
      repeat (refine dom_upd_mem (by decide) ?_)
      exact dom_emp
  ·
    rintro mm σ ⟨i, l, ⟨hi0, hl2, hbl, hnl, hz⟩, rfl, rfl⟩
    refine AW.seqR ?_
    first | refine AWo.pure (PureOp.ltN rfl rfl) rfl rfl ?_ | refine AWo.pure (PureOp.bin rfl rfl rfl) rfl rfl ?_
    refine AWo.nil trivial ?_
    refine AW.seq ?_
    refine AW.cond rfl (fun hb0 => ?_) (fun hb0 => ?_)
    ·
      have hi : i < a.length := by simpa using hb0
      refine AW.skip ?_
      refine thenA_normal ?_
      refine AW.seq ?_
      refine AW.block ?_
      refine AW.seqR ?_
      refine AWo.pure (PureOp.move rfl) rfl rfl ?_
      first | refine AWo.pure (PureOp.idx1 tbok rfl rfl rfl rfl (by first | decide | omega)) rfl rfl ?_ | refine AWo.pure (PureOp.idx tbok rfl rfl rfl rfl (by first | decide | omega)) rfl rfl ?_
      first | refine AWo.loadM tbok 0 rfl rfl rfl (by first | decide | omega) rfl rfl ?_ | refine AWo.load tbok rfl rfl rfl rfl rfl rfl ?_
      refine AWo.pure (PureOp.assign rfl) rfl rfl ?_
      refine AWo.pure (PureOp.assign rfl) rfl rfl ?_
      refine AWo.nil trivial ?_
      refine AW.seqR ?_
      refine AWo.pure (PureOp.assign rfl) rfl rfl ?_
      refine AWo.nil trivial ?_
      refine AW.seq ?_
      refine AW.seqR ?_
      refine AWo.pure (PureOp.move rfl) rfl rfl ?_
      refine AWo.pure (PureOp.lenS tbok rfl rfl) rfl rfl ?_
      refine AWo.pure (PureOp.move rfl) rfl rfl ?_
      refine AWo.nil trivial ?_
      refine AW.block ?_
      refine AW.loopw (fun mm σ => ∃ j, ∃ (l2 : List Nat), ∃ c, (j ≤ b.length ∧ l2.length = a.length + b.length ∧ bd 18446744073709551616 l2 ∧ c < 18446744073709551616 ∧ num 18446744073709551616 l2 + c * 18446744073709551616 ^ (i + j) = num 18446744073709551616 (a.take i) * num 18446744073709551616 b + a.getD i 0 * num 18446744073709551616 (b.take j) * 18446744073709551616 ^ i ∧ (∀ k, i + b.length ≤ k → l2.getD k 0 = 0)) ∧ mm = b.length - j ∧ σ = ⟨(upd (upd (upd (upd (upd (upd (upd (upd (upd (upd (upd (upd emp 0 (.slice (some ⟨0, 0, none⟩) a.length 0)) 1 (.slice (some ⟨1, 0, none⟩) b.length 0)) 17 (.slice (some ⟨0, 0, none⟩) a.length 0)) 18 (vi .i64 a.length)) 24 (.slice (some ⟨1, 0, none⟩) b.length 0)) 25 (vi .i64 b.length)) 5 (.slice (some ⟨77000, 0, none⟩) (a.length + b.length) 0)) 19 (vi .i64 i)) 6 (vi .i64 i)) 7 (vi .u64 (a.getD i 0))) 8 (vi .u64 c)) 26 (vi .i64 j)), (upd (upd (upd emp 0 ⟨a.map (vi .u64), false, 1⟩) 1 ⟨b.map (vi .u64), false, 1⟩) 77000 ⟨l2.map (vi .u64), true, 1⟩)⟩) (fm := []) ?_ ⟨0, l, 0, ⟨by omega, hl2, hbl, by decide, by simp [num, hnl], hz⟩, rfl, rfl⟩ ?_
      ·
        refine Wk.of [0, 1, 77000] ?_ ?_ ?_ (by decide) rfl
        ·
          refine WkE.upd rfl (by first | exact VR.flat _ rfl | exact VR.eqv (vp_succ _) rfl | exact VR.eqv (vp_succ _).symm rfl | exact VR.eqv (by first | rfl | (congr 1; omega) | (simp; done) | (simp; omega)) rfl) ?_
          refine WkE.upd rfl (by first | exact VR.flat _ rfl | exact VR.eqv (vp_succ _) rfl | exact VR.eqv (vp_succ _).symm rfl | exact VR.eqv (by first | rfl | (congr 1; omega) | (simp; done) | (simp; omega)) rfl) ?_
          refine WkE.upd rfl (by first | exact VR.flat _ rfl | exact VR.eqv (vp_succ _) rfl | exact VR.eqv (vp_succ _).symm rfl | exact VR.eqv (by first | rfl | (congr 1; omega) | (simp; done) | (simp; omega)) rfl) ?_
          refine WkE.upd rfl (by first | exact VR.flat _ rfl | exact VR.eqv (vp_succ _) rfl | exact VR.eqv (vp_succ _).symm rfl | exact VR.eqv (by first | rfl | (congr 1; omega) | (simp; done) | (simp; omega)) rfl) ?_
          refine WkE.upd rfl (by first | exact VR.flat _ rfl | exact VR.eqv (vp_succ _) rfl | exact VR.eqv (vp_succ _).symm rfl | exact VR.eqv (by first | rfl | (congr 1; omega) | (simp; done) | (simp; omega)) rfl) ?_
          refine WkE.upd rfl (.slice (77000) 0 _ 0 ⟨_, rfl⟩ (by simp) (by simp)) ?_
          refine WkE.upd rfl (by first | exact VR.flat _ rfl | exact VR.eqv (vp_succ _) rfl | exact VR.eqv (vp_succ _).symm rfl | exact VR.eqv (by first | rfl | (congr 1; omega) | (simp; done) | (simp; omega)) rfl) ?_
          refine WkE.upd rfl (.slice (1) 0 _ 0 ⟨_, rfl⟩ (by simp) (by simp)) ?_
          refine WkE.upd rfl (by first | exact VR.flat _ rfl | exact VR.eqv (vp_succ _) rfl | exact VR.eqv (vp_succ _).symm rfl | exact VR.eqv (by first | rfl | (congr 1; omega) | (simp; done) | (simp; omega)) rfl) ?_
          refine WkE.upd rfl (.slice (0) 0 _ 0 ⟨_, rfl⟩ (by simp) (by simp)) ?_
          refine WkE.upd rfl (.slice (1) 0 _ 0 ⟨_, rfl⟩ (by simp) (by simp)) ?_
          refine WkE.upd rfl (.slice (0) 0 _ 0 ⟨_, rfl⟩ (by simp) (by simp)) ?_
          exact WkE.emp
        ·
          refine WkM.flatM rfl (by first | rfl | assumption | simp) (fun _ => rfl) (fun h => h) ?_
          refine WkM.flatM rfl (by first | rfl | assumption | simp) (fun _ => rfl) (fun h => h) ?_
          refine WkM.flatM rfl (by first | rfl | assumption | simp) (fun _ => rfl) (fun h => h) ?_
          exact WkM.emp
        ·
          repeat (refine dom_upd_mem (by decide) ?_)
          exact dom_emp
      ·
        rintro mm σ ⟨j, l2, c, ⟨hj0, hk2, hbk, hc, hnk, hzk⟩, rfl, rfl⟩
        have hx := bd_getD ha (by decide) i
        have hy := bd_getD hb (by decide) j
        have he := bd_getD hbk (by decide) (i + j)
        have hlt := mad_lt he hx hy hc
        refine AW.seqR ?_
        first | refine AWo.pure (PureOp.ltN rfl rfl) rfl rfl ?_ | refine AWo.pure (PureOp.bin rfl rfl rfl) rfl rfl ?_
        refine AWo.nil trivial ?_
        refine AW.seq ?_
        refine AW.cond rfl (fun hb1 => ?_) (fun hb1 => ?_)
        ·
          have hj : j < b.length := by simpa using hb1
          refine AW.skip ?_
          refine thenA_normal ?_
          refine AW.seq ?_
          refine AW.block ?_
          refine AW.seqR ?_
          refine AWo.pure (PureOp.move rfl) rfl rfl ?_
          first | refine AWo.pure (PureOp.idx1 tbok rfl rfl rfl rfl (by first | decide | omega)) rfl rfl ?_ | refine AWo.pure (PureOp.idx tbok rfl rfl rfl rfl (by first | decide | omega)) rfl rfl ?_
          first | refine AWo.loadM tbok 0 rfl rfl rfl (by first | decide | omega) rfl rfl ?_ | refine AWo.load tbok rfl rfl rfl rfl rfl rfl ?_
          refine AWo.pure (PureOp.assign rfl) rfl rfl ?_
          refine AWo.pure (PureOp.assign rfl) rfl rfl ?_
          refine AWo.nil trivial ?_
          refine AW.region ?_
          refine AWo.pure (PureOp.move rfl) rfl rfl ?_
          refine AWo.pure (PureOp.move rfl) rfl rfl ?_
          refine AWo.pure (PureOp.move rfl) rfl rfl ?_
          first | refine AWo.pure (PureOp.addI rfl rfl (by first | decide | omega)) rfl rfl ?_ | refine AWo.pure (PureOp.bin rfl rfl rfl) rfl rfl ?_
          refine AWo.pure (PureOp.move rfl) rfl rfl ?_
          refine AWo.pure (PureOp.move rfl) rfl rfl ?_
          refine AWo.pure (PureOp.move rfl) rfl rfl ?_
          first | refine AWo.pure (PureOp.addI rfl rfl (by first | decide | omega)) rfl rfl ?_ | refine AWo.pure (PureOp.bin rfl rfl rfl) rfl rfl ?_
          first | refine AWo.pure (PureOp.idx1 tbok rfl rfl rfl rfl (by first | decide | omega)) rfl rfl ?_ | refine AWo.pure (PureOp.idx tbok rfl rfl rfl rfl (by first | decide | omega)) rfl rfl ?_
          first | refine AWo.loadM tbok 0 rfl rfl rfl (by first | decide | omega) rfl rfl ?_ | refine AWo.load tbok rfl rfl rfl rfl rfl rfl ?_
          refine AWo.pure (PureOp.move rfl) rfl rfl ?_
          refine AWo.pure (PureOp.move rfl) rfl rfl ?_
          refine AWo.pure (PureOp.move rfl) rfl rfl ?_
          refine AWo.callX (step_ctr (by first | assumption | omega) (by first | assumption | omega) (by first | assumption | omega) (by first | assumption | omega)) bd128 [] [] rfl (.cons rfl (.cons rfl (.cons rfl (.cons rfl .nil)))) rfl (.cons rfl rfl (.cons rfl rfl (.cons rfl rfl (.cons rfl rfl .nil)))) .nil rfl .nil frN (by decide) (.cons rfl rfl (.cons rfl rfl .nil)) rfl rfl rfl rfl ?_
          refine AWo.pure (PureOp.move rfl) rfl rfl ?_
          refine AWo.pure (PureOp.extract rfl rfl) rfl rfl ?_
          refine AWo.pure (PureOp.extract rfl rfl) rfl rfl ?_
          first | refine AWo.pure (PureOp.idx1 tbok rfl rfl rfl rfl (by first | decide | omega)) rfl rfl ?_ | refine AWo.pure (PureOp.idx tbok rfl rfl rfl rfl (by first | decide | omega)) rfl rfl ?_
          first | refine AWo.storeM (f := (vi .u64)) tbok rfl rfl rfl rfl (by first | decide | omega) rfl rfl ?_ | refine AWo.store tbok rfl rfl rfl rfl rfl (by first | decide | (simp; omega)) rfl rfl rfl ?_
          refine AWo.pure (PureOp.assign rfl) rfl rfl ?_
          refine AWo.nil trivial ?_
          refine inBlockA_normal ?_
          refine thenA_normal ?_
          refine AW.region ?_
          first | refine AWo.pure (PureOp.addI (b := 1) rfl rfl (by first | decide | omega)) rfl rfl ?_ | refine AWo.pure (PureOp.bin rfl rfl rfl) rfl rfl ?_
          refine AWo.pure (PureOp.move rfl) rfl rfl ?_
          refine AWo.nil trivial ?_
          refine thenA_normal ?_
          refine ⟨b.length - (j + 1), [], _, by omega, ?_, j + 1, l2.set (i + j) ((l2.getD (i + j) 0 + a.getD i 0 * b.getD j 0 + c) % 18446744073709551616), (l2.getD (i + j) 0 + a.getD i 0 * b.getD j 0 + c) / 18446744073709551616, ⟨by omega, by simp [hk2], bd_set hbk (Nat.mod_lt _ (by decide)), Nat.div_lt_of_lt_mul hlt, mul_step (by omega) hnk rfl, fun k hk => by rw [getD_set (by omega)]; exact hzk k hk⟩, rfl, rfl⟩
          refine Wk.of [0, 1, 77000] ?_ ?_ ?_ (by decide) rfl
          ·
            refine WkE.upd rfl (by first | exact VR.flat _ rfl | exact VR.eqv (vp_succ _) rfl | exact VR.eqv (vp_succ _).symm rfl | exact VR.eqv (by first | rfl | (congr 1; omega) | (simp; done) | (simp; omega)) rfl) ?_
            refine WkE.upd rfl (by first | exact VR.flat _ rfl | exact VR.eqv (vp_succ _) rfl | exact VR.eqv (vp_succ _).symm rfl | exact VR.eqv (by first | rfl | (congr 1; omega) | (simp; done) | (simp; omega)) rfl) ?_
            refine WkE.upd rfl (by first | exact VR.flat _ rfl | exact VR.eqv (vp_succ _) rfl | exact VR.eqv (vp_succ _).symm rfl | exact VR.eqv (by first | rfl | (congr 1; omega) | (simp; done) | (simp; omega)) rfl) ?_
            refine WkE.upd rfl (by first | exact VR.flat _ rfl | exact VR.eqv (vp_succ _) rfl | exact VR.eqv (vp_succ _).symm rfl | exact VR.eqv (by first | rfl | (congr 1; omega) | (simp; done) | (simp; omega)) rfl) ?_
            refine WkE.upd rfl (by first | exact VR.flat _ rfl | exact VR.eqv (vp_succ _) rfl | exact VR.eqv (vp_succ _).symm rfl | exact VR.eqv (by first | rfl | (congr 1; omega) | (simp; done) | (simp; omega)) rfl) ?_
            refine WkE.upd rfl (.slice (77000) 0 _ 0 ⟨_, rfl⟩ (by simp) (by simp)) ?_
            refine WkE.upd rfl (by first | exact VR.flat _ rfl | exact VR.eqv (vp_succ _) rfl | exact VR.eqv (vp_succ _).symm rfl | exact VR.eqv (by first | rfl | (congr 1; omega) | (simp; done) | (simp; omega)) rfl) ?_
            refine WkE.upd rfl (.slice (1) 0 _ 0 ⟨_, rfl⟩ (by simp) (by simp)) ?_
            refine WkE.upd rfl (by first | exact VR.flat _ rfl | exact VR.eqv (vp_succ _) rfl | exact VR.eqv (vp_succ _).symm rfl | exact VR.eqv (by first | rfl | (congr 1; omega) | (simp; done) | (simp; omega)) rfl) ?_
            refine WkE.upd rfl (.slice (0) 0 _ 0 ⟨_, rfl⟩ (by simp) (by simp)) ?_
            refine WkE.upd rfl (.slice (1) 0 _ 0 ⟨_, rfl⟩ (by simp) (by simp)) ?_
            refine WkE.upd rfl (.slice (0) 0 _ 0 ⟨_, rfl⟩ (by simp) (by simp)) ?_
            exact WkE.emp
          ·
            refine WkM.flatM rfl (by first | rfl | assumption | simp) (fun _ => rfl) (fun h => h) ?_
            refine WkM.flatM rfl (by first | rfl | assumption | simp) (fun _ => rfl) (fun h => h) ?_
            refine WkM.flatM rfl (by first | rfl | assumption | simp) (fun _ => rfl) (fun h => h) ?_
            exact WkM.emp
          ·
            repeat (refine dom_upd_mem (by decide) ?_)
            exact dom_emp
        ·
          have hj : j = b.length := by simp at hb1; omega
          subst hj
          rw [take_all] at hnk
          refine AW.exit ?_
          refine thenA_exit ?_
          refine thenA_exit ?_
          refine inBlockA_hit ?_
          refine thenA_normal ?_
          refine AW.region ?_
          refine AWo.pure (PureOp.move rfl) rfl rfl ?_
          refine AWo.pure (PureOp.move rfl) rfl rfl ?_
          refine AWo.pure (PureOp.move rfl) rfl rfl ?_
          refine AWo.pure (PureOp.lenS tbok rfl rfl) rfl rfl ?_
          first | refine AWo.pure (PureOp.addI rfl rfl (by first | decide | omega)) rfl rfl ?_ | refine AWo.pure (PureOp.bin rfl rfl rfl) rfl rfl ?_
          refine AWo.pure (PureOp.move rfl) rfl rfl ?_
          first | refine AWo.pure (PureOp.idx1 tbok rfl rfl rfl rfl (by first | decide | omega)) rfl rfl ?_ | refine AWo.pure (PureOp.idx tbok rfl rfl rfl rfl (by first | decide | omega)) rfl rfl ?_
          first | refine AWo.storeM (f := (vi .u64)) tbok rfl rfl rfl rfl (by first | decide | omega) rfl rfl ?_ | refine AWo.store tbok rfl rfl rfl rfl rfl (by first | decide | (simp; omega)) rfl rfl rfl ?_
          refine AWo.nil trivial ?_
          refine inBlockA_normal ?_
          refine thenA_normal ?_
          refine AW.region ?_
          first | refine AWo.pure (PureOp.addI (b := 1) rfl rfl (by first | decide | omega)) rfl rfl ?_ | refine AWo.pure (PureOp.bin rfl rfl rfl) rfl rfl ?_
          refine AWo.pure (PureOp.move rfl) rfl rfl ?_
          refine AWo.nil trivial ?_
          refine thenA_normal ?_
          refine ⟨a.length - (i + 1), [], _, by omega, ?_, i + 1, l2.set (i + b.length) c, ⟨by omega, by simp [hk2], bd_set hbk hc, mul_out (by omega) hnk (hzk _ (Nat.le_refl _)), fun k hk => by rw [getD_set (by omega)]; exact hzk k (by omega)⟩, rfl, rfl⟩
          refine Wk.of [0, 1, 77000] ?_ ?_ ?_ (by decide) rfl
          ·
            refine WkE.upd rfl (by first | exact VR.flat _ rfl | exact VR.eqv (vp_succ _) rfl | exact VR.eqv (vp_succ _).symm rfl | exact VR.eqv (by first | rfl | (congr 1; omega) | (simp; done) | (simp; omega)) rfl) ?_
            refine WkE.upd rfl (.slice (77000) 0 _ 0 ⟨_, rfl⟩ (by simp) (by simp)) ?_
            refine WkE.upd rfl (by first | exact VR.flat _ rfl | exact VR.eqv (vp_succ _) rfl | exact VR.eqv (vp_succ _).symm rfl | exact VR.eqv (by first | rfl | (congr 1; omega) | (simp; done) | (simp; omega)) rfl) ?_
            refine WkE.upd rfl (.slice (0) 0 _ 0 ⟨_, rfl⟩ (by simp) (by simp)) ?_
            refine WkE.upd rfl (.slice (1) 0 _ 0 ⟨_, rfl⟩ (by simp) (by simp)) ?_
            refine WkE.upd rfl (.slice (0) 0 _ 0 ⟨_, rfl⟩ (by simp) (by simp)) ?_
            exact WkE.emp
          ·
            refine WkM.flatM rfl (by first | rfl | assumption | simp) (fun _ => rfl) (fun h => h) ?_
            refine WkM.flatM rfl (by first | rfl | assumption | simp) (fun _ => rfl) (fun h => h) ?_
            refine WkM.flatM rfl (by first | rfl | assumption | simp) (fun _ => rfl) (fun h => h) ?_
            exact WkM.emp
          ·
            repeat (refine dom_upd_mem (by decide) ?_)
            exact dom_emp
    ·
      have hi : i = a.length := by simp at hb0; omega
      subst hi
      rw [take_all] at hnl
      obtain rfl : l = digs 18446744073709551616 (a.length + b.length) (num 18446744073709551616 a * num 18446744073709551616 b) := by rw [← hnl, ← hl2, digs_num hbl]
      refine AW.exit ?_
      refine thenA_exit ?_
      refine thenA_exit ?_
      refine inBlockA_hit ?_
      refine thenA_normal ?_
      refine AW.seqR ?_
      refine AWo.pure (PureOp.move rfl) rfl rfl ?_
      refine AWo.pure (PureOp.assign rfl) rfl rfl ?_
      refine AWo.nil trivial ?_
      refine AW.ret ?_
      refine RetQ.gc [_] [77000] [.tmp 4] (.inl rfl) rfl (.tmp rfl .nil) rfl (.cons rfl rfl .nil) (OutL.flat rfl (by first | exact flatM flat_vi | exact flatM flat_bool | (simp [flatV, flat_vi]; done)) (by intro h; first | rfl | exact h.elim id fun h => absurd h.1 (by simp)) (OutL.flat rfl (by first | exact flatM flat_vi | exact flatM flat_bool | (simp [flatV, flat_vi]; done)) (by intro h; first | rfl | exact h.elim id fun h => absurd h.1 (by simp)) (OutL.flat rfl (flatM flat_vi) (fun _ => rfl) trivial))) (by decide) rfl
end Go.Proofs.Ytiikffiembcboaa
