/- Montgomery's step, for whichever modulus. -/
import Derived.Test.YtiikffiembcboaaMod2
namespace Go.Proofs.Ytiikffiembcboaa
open Go Sim
theorem fitPre {h : Rho} {n : Nat} {M : Mem} {c c' : List Value} {rw : Bool} {es id : Nat} {r : List Blk} {g : List (Nat × Nat)} (h1 : M id = some ⟨c', true, es⟩) (h2 : c'.take c.length = c)
    (h3 : ∀ x ∈ c, flatV x = true) (h4 : c.length ≤ c'.length) (hr : FitL h n M r g) : FitL h n M (⟨c, rw, es⟩ :: r) ((id, 0) :: g) :=
  .cons h1 (by rw [flat_map_ren h3]; exact h2) (OkL.flat h3) (by simpa using h4) rfl (fun _ => ⟨rfl, rfl⟩) hr

section
variable {B : Nat}

theorem mad_stepT {l b : List Nat} {j c p x s m : Nat} (hj : j < m) (hm : m ≤ l.length) (h : num B (l.take m) + c * B ^ j = p + x * num B (b.take j)) (hs : s = l.getD j 0 + x * b.getD j 0 + c) :
    num B ((l.set j (s % B)).take m) + s / B * B ^ (j + 1) = p + x * num B (b.take (j + 1)) := by
  have e : (l.take m).getD j 0 = l.getD j 0 := by rw [List.getD_eq_getElem?_getD, List.getElem?_take, if_pos hj, ← List.getD_eq_getElem?_getD]
  rw [List.take_set]
  exact mad_step (by simp; omega) h (by rw [e]; exact hs)

theorem top_two {l : List Nat} {n c : Nat} (hl : l.length = n + 2) : num B ((l.set n ((l.getD n 0 + c) % B)).set (n + 1) ((l.getD n 0 + c) / B)) = num B (l.take (n + 1)) + c * B ^ n := by
  have hl2 : ((l.set n ((l.getD n 0 + c) % B)).set (n + 1) ((l.getD n 0 + c) / B)).length = n + 1 + 1 := by simp [hl]
  have e : (l.set n ((l.getD n 0 + c) % B)).set (n + 1) ((l.getD n 0 + c) / B) = l.take n ++ [(l.getD n 0 + c) % B, (l.getD n 0 + c) / B] := by
    rw [← List.take_of_length_le (Nat.le_of_eq hl2), take_set_succ (by simp [hl]), take_set_succ (by omega), List.append_assoc]
    rfl
  rw [e, num_append, List.length_take, Nat.min_eq_left (by omega), num_take_succ]
  simp only [num, Nat.mul_zero, Nat.add_zero]
  rw [Nat.mod_add_div]
  generalize l.getD n 0 = x
  generalize B ^ n = w
  grind

theorem red_end2 {u : List Nat} {n c k t N : Nat} (hu : u.length = n + 2) (hn : 0 < n) (h : B * num B (u.take (n - 1)) + c * B ^ n = t % B ^ n + k * N) (h1 : u.getD n 0 = t / B ^ n % B) (h2 : u.getD (n + 1) 0 = t / B ^ (n + 1) % B) (ht : t < B ^ (n + 2)) :
    B * num B (((u.set (n - 1) ((u.getD n 0 + c) % B)).set n (u.getD (n + 1) 0 + (u.getD n 0 + c) / B)).take (n + 1)) = t + k * N := by
  obtain ⟨m, rfl⟩ : ∃ m, n = m + 1 := ⟨n - 1, by omega⟩
  simp only [Nat.add_sub_cancel] at h ⊢
  rw [take_set_succ (by simp; omega), take_set_succ (by omega), List.append_assoc, num_append, List.length_take, Nat.min_eq_left (by omega)]
  simp only [List.singleton_append, num, Nat.mul_zero, Nat.add_zero]
  have hB : 0 < B := by
    rcases Nat.eq_zero_or_pos B with h0 | h0
    · subst h0; simp at ht
    · exact h0
  have e2 : t / B ^ (m + 1 + 1) < B := by
    rw [Nat.div_lt_iff_lt_mul (Nat.pow_pos hB), Nat.mul_comm, ← Nat.pow_succ]; exact ht
  rw [Nat.mod_eq_of_lt e2] at h2
  have e3 := Nat.mod_add_div t (B ^ (m + 1))
  have e4 : t / B ^ (m + 1) = u.getD (m + 1) 0 + B * u.getD (m + 1 + 1) 0 := by
    rw [h1, h2, Nat.pow_succ B (m + 1), ← Nat.div_div_eq_div_mul, Nat.mod_add_div]
  rw [e4] at e3
  have e5 := Nat.mod_add_div (u.getD (m + 1) 0 + c) B
  generalize (u.getD (m + 1) 0 + c) % B = r at *
  generalize (u.getD (m + 1) 0 + c) / B = q at *
  generalize u.getD (m + 1) 0 = x at *
  generalize u.getD (m + 1 + 1) 0 = y at *
  generalize t % B ^ (m + 1) = z at *
  generalize num B (u.take m) = a at *
  rw [Nat.pow_succ] at h e3
  generalize B ^ m = w at *
  have e6 : w * B * (r + B * q) = w * B * (x + c) := by rw [e5]
  grind

theorem top_small {l : List Nat} {n v N : Nat} (hl : n < l.length) (h : num B ((l.set n v).take (n + 1)) < 2 * N) (hN : N < B ^ n) : v < 2 := by
  rw [take_set_succ hl, num_append, List.length_take, Nat.min_eq_left (by omega)] at h
  simp only [num, Nat.mul_zero, Nat.add_zero] at h
  rcases Nat.lt_or_ge v 2 with h1 | h1
  · exact h1
  · have := Nat.mul_le_mul_left (B ^ n) h1
    omega

theorem cop_pow {N iv : Nat} (h : (N * iv + 1) % B = 0) (n : Nat) : Nat.Coprime (B ^ n) N := by
  apply Nat.Coprime.pow_left
  have h1 : B ∣ N * iv + 1 := Nat.dvd_of_mod_eq_zero h
  have h2 : Nat.gcd B N ∣ 1 := (Nat.dvd_add_right (Nat.dvd_trans (Nat.gcd_dvd_right B N) (Nat.dvd_mul_right N iv))).1 (Nat.dvd_trans (Nat.gcd_dvd_left B N) h1)
  exact Nat.dvd_one.1 h2

theorem mont_initG {l q : List Nat} {k iv : Nat} (hl : bd 18446744073709551616 l) (hq : bd 18446744073709551616 q) (hi : (num 18446744073709551616 q * iv + 1) % 18446744073709551616 = 0) (hk : k = l.getD 0 0 * iv % 18446744073709551616) :
    18446744073709551616 * num 18446744073709551616 (l.take (1 - 1)) + (l.getD 0 0 + k * q.getD 0 0 + 0) / 18446744073709551616 * 18446744073709551616 ^ 1 = num 18446744073709551616 l % 18446744073709551616 ^ 1 + k * num 18446744073709551616 (q.take 1) := by
  have e1 : l.getD 0 0 = num 18446744073709551616 l % 18446744073709551616 := by rw [num_getD hl (by decide)]; simp
  have e2 : q.getD 0 0 = num 18446744073709551616 q % 18446744073709551616 := by rw [num_getD hq (by decide)]; simp
  have e3 : num 18446744073709551616 (q.take 1) = num 18446744073709551616 q % 18446744073709551616 := by rw [num_take hq, Nat.pow_one]
  have h := mont_low (by decide) hi (t := num 18446744073709551616 l) (k := k) (by rw [hk, e1])
  rw [e3, e1, e2, Nat.pow_one, Nat.add_zero]
  have h2 := Nat.mod_add_div (num 18446744073709551616 l % 18446744073709551616 + k * (num 18446744073709551616 q % 18446744073709551616)) 18446744073709551616
  rw [h, Nat.zero_add] at h2
  simp only [Nat.sub_self, List.take_zero, num, Nat.mul_zero, Nat.zero_add]
  rw [Nat.mul_comm]
  exact h2
end

set_option maxRecDepth 10000 in
theorem shrink_ctr {mw sq a b : List Nat} {iv r ns : Nat} (hM : MwOk mw) (ha : bd 18446744073709551616 a) (hb : bd 18446744073709551616 b) (hla : a.length = mw.length) (hlb : b.length = mw.length) (hpb : num 18446744073709551616 b < num 18446744073709551616 mw) (hiv : (num 18446744073709551616 mw * iv + 1) % 18446744073709551616 = 0) (hr : r < num 18446744073709551616 mw)
    (h : r * 18446744073709551616 ^ mw.length % num 18446744073709551616 mw = num 18446744073709551616 a * num 18446744073709551616 b % num 18446744073709551616 mw) : GC Try.prog 121 [.pointer (some ⟨0, 0, none⟩), .slice (some ⟨3, 0, none⟩) mw.length 0, .slice (some ⟨4, 0, none⟩) mw.length 0] [⟨[.slice (some ⟨1, 0, none⟩) mw.length 0, vi .u64 iv, .slice (some ⟨2, 0, none⟩) ns 0], false, 1⟩, ⟨(mw).map (vi .u64), false, 1⟩, ⟨(sq).map (vi .u64), false, 1⟩, ⟨a.map (vi .u64), false, 1⟩, ⟨b.map (vi .u64), false, 1⟩] [.slice (some ⟨5, 0, none⟩) mw.length 0] [⟨[.slice (some ⟨1, 0, none⟩) mw.length 0, vi .u64 iv, .slice (some ⟨2, 0, none⟩) ns 0], false, 1⟩, ⟨(mw).map (vi .u64), false, 1⟩, ⟨(sq).map (vi .u64), false, 1⟩, ⟨a.map (vi .u64), false, 1⟩, ⟨b.map (vi .u64), false, 1⟩, ⟨(digs 18446744073709551616 mw.length (r)).map (vi .u64), true, 1⟩] := by
  refine GC.intro Try.func121 rfl (by show 3 ≤ 151; decide) (by first | exact Nat.le_refl _ | decide | simp) ?_
  obtain ⟨hbm, hm0, hml, hN⟩ := hM
  have hNW := num_lt hbm
  have hcop := cop_pow hiv mw.length
  refine AW.seqR ?_
  refine AWo.pure (PureOp.assign rfl) rfl rfl ?_
  refine AWo.nil trivial ?_
  refine AW.seqR ?_
  refine AWo.pure (PureOp.move rfl) rfl rfl ?_
  refine AWo.pure (PureOp.nilCheck rfl) rfl rfl ?_
  refine AWo.pure (PureOp.fld tbok rfl rfl rfl (by decide)) rfl rfl ?_
  refine AWo.load tbok rfl rfl rfl rfl rfl rfl ?_
  refine AWo.pure (PureOp.lenS tbok rfl rfl) rfl rfl ?_
  refine AWo.pure (PureOp.assign rfl) rfl rfl ?_
  refine AWo.nil trivial ?_
  refine AW.seqR ?_
  refine AWo.pure (PureOp.move rfl) rfl rfl ?_
  first | refine AWo.pure (PureOp.addI (b := 2) rfl rfl (by first | decide | omega)) rfl rfl ?_ | refine AWo.pure (PureOp.bin rfl rfl rfl) rfl rfl ?_
  refine AWo.makeI tbok 25000 rfl rfl rfl rfl rfl rfl (by first | decide | omega) (by first | decide | omega) rfl rfl rfl ?_
  refine AWo.pure (PureOp.assign rfl) rfl rfl ?_
  refine AWo.nil trivial ?_
  refine AW.seq ?_
  refine AW.seqR ?_
  refine AWo.pure (PureOp.move rfl) rfl rfl ?_
  refine AWo.pure (PureOp.lenS tbok rfl rfl) rfl rfl ?_
  refine AWo.pure (PureOp.move rfl) rfl rfl ?_
  refine AWo.nil trivial ?_
  refine AW.block ?_
  refine AW.loopw (fun mm σ => ∃ i, ∃ (l : List Nat), (i ≤ mw.length ∧ l.length = mw.length + 2 ∧ bd 18446744073709551616 l ∧ num 18446744073709551616 (l.take (mw.length + 1)) < 2 * num 18446744073709551616 mw ∧ num 18446744073709551616 (l.take (mw.length + 1)) * 18446744073709551616 ^ i % num 18446744073709551616 mw = num 18446744073709551616 (a.take i) * num 18446744073709551616 b % num 18446744073709551616 mw) ∧ mm = mw.length - i ∧ σ = ⟨(upd (upd (upd (upd (upd (upd (upd emp 0 (.pointer (some ⟨0, 0, none⟩))) 2 (.slice (some ⟨4, 0, none⟩) mw.length 0)) 7 (vi .i64 mw.length)) 8 (.slice (some ⟨25000, 0, none⟩) (mw.length + 2) 0)) 25 (.slice (some ⟨3, 0, none⟩) mw.length 0)) 26 (vi .i64 mw.length)) 27 (vi .i64 i)), (upd (upd (upd (upd (upd (upd emp 0 ⟨[.slice (some ⟨1, 0, none⟩) mw.length 0, vi .u64 iv, .slice (some ⟨2, 0, none⟩) ns 0], false, 1⟩) 1 ⟨mw.map (vi .u64), false, 1⟩) 2 ⟨sq.map (vi .u64), false, 1⟩) 3 ⟨a.map (vi .u64), false, 1⟩) 4 ⟨b.map (vi .u64), false, 1⟩) 25000 ⟨l.map (vi .u64), true, 1⟩)⟩) (fm := []) ?_ ⟨0, List.replicate (mw.length + 2) 0, ⟨Nat.zero_le _, by simp, bd_replicate (by decide) _, by rw [List.take_replicate, num_replicate]; omega, by simp [List.take_replicate, num, num_replicate]⟩, rfl, rfl⟩ ?_
  ·
    refine Wk.of [0, 1, 2, 3, 4, 25000] ?_ ?_ ?_ (by decide) rfl
    ·
      refine WkE.upd rfl (by first | exact VR.flat _ rfl | exact VR.eqv (vp_succ _) rfl | exact VR.eqv (vp_succ _).symm rfl | exact VR.eqv (by first | rfl | (congr 1; omega) | (simp; done) | (simp; omega)) rfl) ?_
      refine WkE.upd rfl (by first | exact VR.flat _ rfl | exact VR.eqv (vp_succ _) rfl | exact VR.eqv (vp_succ _).symm rfl | exact VR.eqv (by first | rfl | (congr 1; omega) | (simp; done) | (simp; omega)) rfl) ?_
      refine WkE.upd rfl (.slice (3) 0 _ 0 ⟨_, rfl⟩ (by simp) (by simp)) ?_
      refine WkE.upd rfl (.slice (25000) 0 _ 0 ⟨_, rfl⟩ (by simp) (by simp)) ?_
      refine WkE.upd rfl (by first | exact VR.flat _ rfl | exact VR.eqv (vp_succ _) rfl | exact VR.eqv (vp_succ _).symm rfl | exact VR.eqv (by first | rfl | (congr 1; omega) | (simp; done) | (simp; omega)) rfl) ?_
      refine WkE.upd rfl (.slice (4) 0 _ 0 ⟨_, rfl⟩ (by simp) (by simp)) ?_
      refine WkE.upd rfl (.ptr (0) 0 ⟨_, rfl⟩) ?_
      exact WkE.emp
    ·
      refine WkM.flatM rfl (by first | rfl | assumption | simp) (fun _ => rfl) (fun h => h) ?_
      refine WkM.flatM rfl (by first | rfl | assumption | simp) (fun _ => rfl) (fun h => h) ?_
      refine WkM.flatM rfl (by first | rfl | assumption | simp) (fun _ => rfl) (fun h => h) ?_
      refine WkM.flatM rfl (by first | rfl | assumption | simp) (fun _ => rfl) (fun h => h) ?_
      refine WkM.flatM rfl (by first | rfl | assumption | simp) (fun _ => rfl) (fun h => h) ?_
      refine WkM.ren [1, 2] rfl rfl rfl (dom_all rfl) (fun h => h) ?_
      exact WkM.emp
    ·
      repeat (refine dom_upd_mem (by decide) ?_)
      exact dom_emp
  ·
    rintro mm σ ⟨i, l, ⟨hi0, hl2, hbl, hT, hTm⟩, rfl, rfl⟩
    refine AW.seqR ?_
    first | refine AWo.pure (PureOp.ltN rfl rfl) rfl rfl ?_ | refine AWo.pure (PureOp.bin rfl rfl rfl) rfl rfl ?_
    refine AWo.nil trivial ?_
    refine AW.seq ?_
    refine AW.cond rfl (fun hb0 => ?_) (fun hb0 => ?_)
    ·
      have hi : i < mw.length := by simpa using hb0
      have hxa := bd_getD ha (by decide) i
      refine AW.skip ?_
      refine thenA_normal ?_
      refine AW.seq ?_
      refine AW.block ?_
      refine AW.seqR ?_
      first | refine AWo.pure (PureOp.idx1 tbok rfl rfl rfl rfl (by first | decide | omega)) rfl rfl ?_ | refine AWo.pure (PureOp.idx tbok rfl rfl rfl rfl (by first | decide | omega)) rfl rfl ?_
      refine AWo.loadM tbok 0 rfl rfl rfl (by omega) rfl rfl ?_
      refine AWo.pure (PureOp.assign rfl) rfl rfl ?_
      refine AWo.nil trivial ?_
      refine AW.seqR ?_
      refine AWo.pure (PureOp.assign rfl) rfl rfl ?_
      refine AWo.pure (PureOp.assign rfl) rfl rfl ?_
      refine AWo.nil trivial ?_
      refine AW.seq ?_
      refine AW.seqR ?_
      refine AWo.pure (PureOp.move rfl) rfl rfl ?_
      refine AWo.pure (PureOp.lenS tbok rfl rfl) rfl rfl ?_
      refine AWo.pure (PureOp.move rfl) rfl rfl ?_
      refine AWo.nil trivial ?_
      refine AW.block ?_
      refine AW.loopw (fun mm σ => ∃ j, ∃ (l2 : List Nat), ∃ c, (j ≤ mw.length ∧ l2.length = mw.length + 2 ∧ bd 18446744073709551616 l2 ∧ c < 18446744073709551616 ∧ num 18446744073709551616 (l2.take (mw.length + 1)) + c * 18446744073709551616 ^ j = num 18446744073709551616 (l.take (mw.length + 1)) + a.getD i 0 * num 18446744073709551616 (b.take j)) ∧ mm = mw.length - j ∧ σ = ⟨(upd (upd (upd (upd (upd (upd (upd (upd (upd (upd (upd (upd emp 0 (.pointer (some ⟨0, 0, none⟩))) 2 (.slice (some ⟨4, 0, none⟩) mw.length 0)) 7 (vi .i64 mw.length)) 8 (.slice (some ⟨25000, 0, none⟩) (mw.length + 2) 0)) 25 (.slice (some ⟨3, 0, none⟩) mw.length 0)) 26 (vi .i64 mw.length)) 27 (vi .i64 i)) 10 (vi .u64 (a.getD i 0))) 11 (vi .u64 c)) 31 (.slice (some ⟨4, 0, none⟩) mw.length 0)) 32 (vi .i64 mw.length)) 33 (vi .i64 j)), (upd (upd (upd (upd (upd (upd emp 0 ⟨[.slice (some ⟨1, 0, none⟩) mw.length 0, vi .u64 iv, .slice (some ⟨2, 0, none⟩) ns 0], false, 1⟩) 1 ⟨mw.map (vi .u64), false, 1⟩) 2 ⟨sq.map (vi .u64), false, 1⟩) 3 ⟨a.map (vi .u64), false, 1⟩) 4 ⟨b.map (vi .u64), false, 1⟩) 25000 ⟨l2.map (vi .u64), true, 1⟩)⟩) (fm := []) ?_ ⟨0, l, 0, ⟨by omega, hl2, hbl, by decide, by simp [num]⟩, rfl, rfl⟩ ?_
      ·
        refine Wk.of [0, 1, 2, 3, 4, 25000] ?_ ?_ ?_ (by decide) rfl
        ·
          refine WkE.upd rfl (by first | exact VR.flat _ rfl | exact VR.eqv (vp_succ _) rfl | exact VR.eqv (vp_succ _).symm rfl | exact VR.eqv (by first | rfl | (congr 1; omega) | (simp; done) | (simp; omega)) rfl) ?_
          refine WkE.upd rfl (by first | exact VR.flat _ rfl | exact VR.eqv (vp_succ _) rfl | exact VR.eqv (vp_succ _).symm rfl | exact VR.eqv (by first | rfl | (congr 1; omega) | (simp; done) | (simp; omega)) rfl) ?_
          refine WkE.upd rfl (.slice (4) 0 _ 0 ⟨_, rfl⟩ (by simp) (by simp)) ?_
          refine WkE.upd rfl (by first | exact VR.flat _ rfl | exact VR.eqv (vp_succ _) rfl | exact VR.eqv (vp_succ _).symm rfl | exact VR.eqv (by first | rfl | (congr 1; omega) | (simp; done) | (simp; omega)) rfl) ?_
          refine WkE.upd rfl (by first | exact VR.flat _ rfl | exact VR.eqv (vp_succ _) rfl | exact VR.eqv (vp_succ _).symm rfl | exact VR.eqv (by first | rfl | (congr 1; omega) | (simp; done) | (simp; omega)) rfl) ?_
          refine WkE.upd rfl (by first | exact VR.flat _ rfl | exact VR.eqv (vp_succ _) rfl | exact VR.eqv (vp_succ _).symm rfl | exact VR.eqv (by first | rfl | (congr 1; omega) | (simp; done) | (simp; omega)) rfl) ?_
          refine WkE.upd rfl (by first | exact VR.flat _ rfl | exact VR.eqv (vp_succ _) rfl | exact VR.eqv (vp_succ _).symm rfl | exact VR.eqv (by first | rfl | (congr 1; omega) | (simp; done) | (simp; omega)) rfl) ?_
          refine WkE.upd rfl (.slice (3) 0 _ 0 ⟨_, rfl⟩ (by simp) (by simp)) ?_
          refine WkE.upd rfl (.slice (25000) 0 _ 0 ⟨_, rfl⟩ (by simp) (by simp)) ?_
          refine WkE.upd rfl (by first | exact VR.flat _ rfl | exact VR.eqv (vp_succ _) rfl | exact VR.eqv (vp_succ _).symm rfl | exact VR.eqv (by first | rfl | (congr 1; omega) | (simp; done) | (simp; omega)) rfl) ?_
          refine WkE.upd rfl (.slice (4) 0 _ 0 ⟨_, rfl⟩ (by simp) (by simp)) ?_
          refine WkE.upd rfl (.ptr (0) 0 ⟨_, rfl⟩) ?_
          exact WkE.emp
        ·
          refine WkM.flatM rfl (by first | rfl | assumption | simp) (fun _ => rfl) (fun h => h) ?_
          refine WkM.flatM rfl (by first | rfl | assumption | simp) (fun _ => rfl) (fun h => h) ?_
          refine WkM.flatM rfl (by first | rfl | assumption | simp) (fun _ => rfl) (fun h => h) ?_
          refine WkM.flatM rfl (by first | rfl | assumption | simp) (fun _ => rfl) (fun h => h) ?_
          refine WkM.flatM rfl (by first | rfl | assumption | simp) (fun _ => rfl) (fun h => h) ?_
          refine WkM.ren [1, 2] rfl rfl rfl (dom_all rfl) (fun h => h) ?_
          exact WkM.emp
        ·
          repeat (refine dom_upd_mem (by decide) ?_)
          exact dom_emp
      ·
        rintro mm σ ⟨j, l2, c, ⟨hj0, hk2, hbk, hc, hnk⟩, rfl, rfl⟩
        have hx := bd_getD ha (by decide) i
        have hy := bd_getD hb (by decide) j
        have he := bd_getD hbk (by decide) j
        have hlt := mad_lt he hx hy hc
        refine AW.seqR ?_
        first | refine AWo.pure (PureOp.ltN rfl rfl) rfl rfl ?_ | refine AWo.pure (PureOp.bin rfl rfl rfl) rfl rfl ?_
        refine AWo.nil trivial ?_
        refine AW.seq ?_
        refine AW.cond rfl (fun hb1 => ?_) (fun hb1 => ?_)
        ·
          have hj : j < mw.length := by simpa using hb1
          refine AW.skip ?_
          refine thenA_normal ?_
          refine AW.seq ?_
          refine AW.block ?_
          refine AW.seqR ?_
          refine AWo.pure (PureOp.move rfl) rfl rfl ?_
          first | refine AWo.pure (PureOp.idx1 tbok rfl rfl rfl rfl (by first | decide | omega)) rfl rfl ?_ | refine AWo.pure (PureOp.idx tbok rfl rfl rfl rfl (by first | decide | omega)) rfl rfl ?_
          refine AWo.loadM tbok 0 rfl rfl rfl (by first | omega | (simp; omega)) rfl rfl ?_
          refine AWo.pure (PureOp.assign rfl) rfl rfl ?_
          refine AWo.pure (PureOp.assign rfl) rfl rfl ?_
          refine AWo.nil trivial ?_
          refine AW.region ?_
          refine AWo.pure (PureOp.move rfl) rfl rfl ?_
          refine AWo.pure (PureOp.move rfl) rfl rfl ?_
          refine AWo.pure (PureOp.move rfl) rfl rfl ?_
          refine AWo.pure (PureOp.move rfl) rfl rfl ?_
          first | refine AWo.pure (PureOp.idx1 tbok rfl rfl rfl rfl (by first | decide | omega)) rfl rfl ?_ | refine AWo.pure (PureOp.idx tbok rfl rfl rfl rfl (by first | decide | omega)) rfl rfl ?_
          refine AWo.loadM tbok 0 rfl rfl rfl (by first | omega | (simp; omega)) rfl rfl ?_
          refine AWo.pure (PureOp.move rfl) rfl rfl ?_
          refine AWo.pure (PureOp.move rfl) rfl rfl ?_
          refine AWo.pure (PureOp.move rfl) rfl rfl ?_
          refine AWo.callX (step_ctr (by first | assumption | omega) (by first | assumption | omega) (by first | assumption | omega) (by first | assumption | omega)) bd128 [] [] rfl (.cons rfl (.cons rfl (.cons rfl (.cons rfl .nil)))) rfl (.cons rfl rfl (.cons rfl rfl (.cons rfl rfl (.cons rfl rfl .nil)))) .nil rfl .nil frN (by decide) (.cons rfl rfl (.cons rfl rfl .nil)) rfl rfl rfl rfl ?_
          refine AWo.pure (PureOp.move rfl) rfl rfl ?_
          refine AWo.pure (PureOp.extract rfl rfl) rfl rfl ?_
          refine AWo.pure (PureOp.extract rfl rfl) rfl rfl ?_
          first | refine AWo.pure (PureOp.idx1 tbok rfl rfl rfl rfl (by first | decide | omega)) rfl rfl ?_ | refine AWo.pure (PureOp.idx tbok rfl rfl rfl rfl (by first | decide | omega)) rfl rfl ?_
          refine AWo.storeM (f := (vi .u64)) tbok rfl rfl rfl rfl (by first | omega | (simp; omega)) rfl rfl ?_
          refine AWo.pure (PureOp.assign rfl) rfl rfl ?_
          refine AWo.nil trivial ?_
          refine inBlockA_normal ?_
          refine thenA_normal ?_
          refine AW.region ?_
          first | refine AWo.pure (PureOp.addI (b := 1) rfl rfl (by first | decide | omega)) rfl rfl ?_ | refine AWo.pure (PureOp.bin rfl rfl rfl) rfl rfl ?_
          refine AWo.pure (PureOp.move rfl) rfl rfl ?_
          refine AWo.nil trivial ?_
          refine thenA_normal ?_
          refine ⟨mw.length - (j + 1), [], _, by omega, ?_, j + 1, l2.set j ((l2.getD j 0 + a.getD i 0 * b.getD j 0 + c) % 18446744073709551616), (l2.getD j 0 + a.getD i 0 * b.getD j 0 + c) / 18446744073709551616, ⟨by omega, by simp [hk2], bd_set hbk (Nat.mod_lt _ (by decide)), Nat.div_lt_of_lt_mul hlt, mad_stepT (by omega) (by omega) hnk rfl⟩, rfl, rfl⟩
          refine Wk.of [0, 1, 2, 3, 4, 25000] ?_ ?_ ?_ (by decide) rfl
          ·
            refine WkE.upd rfl (by first | exact VR.flat _ rfl | exact VR.eqv (vp_succ _) rfl | exact VR.eqv (vp_succ _).symm rfl | exact VR.eqv (by first | rfl | (congr 1; omega) | (simp; done) | (simp; omega)) rfl) ?_
            refine WkE.upd rfl (by first | exact VR.flat _ rfl | exact VR.eqv (vp_succ _) rfl | exact VR.eqv (vp_succ _).symm rfl | exact VR.eqv (by first | rfl | (congr 1; omega) | (simp; done) | (simp; omega)) rfl) ?_
            refine WkE.upd rfl (.slice (4) 0 _ 0 ⟨_, rfl⟩ (by simp) (by simp)) ?_
            refine WkE.upd rfl (by first | exact VR.flat _ rfl | exact VR.eqv (vp_succ _) rfl | exact VR.eqv (vp_succ _).symm rfl | exact VR.eqv (by first | rfl | (congr 1; omega) | (simp; done) | (simp; omega)) rfl) ?_
            refine WkE.upd rfl (by first | exact VR.flat _ rfl | exact VR.eqv (vp_succ _) rfl | exact VR.eqv (vp_succ _).symm rfl | exact VR.eqv (by first | rfl | (congr 1; omega) | (simp; done) | (simp; omega)) rfl) ?_
            refine WkE.upd rfl (by first | exact VR.flat _ rfl | exact VR.eqv (vp_succ _) rfl | exact VR.eqv (vp_succ _).symm rfl | exact VR.eqv (by first | rfl | (congr 1; omega) | (simp; done) | (simp; omega)) rfl) ?_
            refine WkE.upd rfl (by first | exact VR.flat _ rfl | exact VR.eqv (vp_succ _) rfl | exact VR.eqv (vp_succ _).symm rfl | exact VR.eqv (by first | rfl | (congr 1; omega) | (simp; done) | (simp; omega)) rfl) ?_
            refine WkE.upd rfl (.slice (3) 0 _ 0 ⟨_, rfl⟩ (by simp) (by simp)) ?_
            refine WkE.upd rfl (.slice (25000) 0 _ 0 ⟨_, rfl⟩ (by simp) (by simp)) ?_
            refine WkE.upd rfl (by first | exact VR.flat _ rfl | exact VR.eqv (vp_succ _) rfl | exact VR.eqv (vp_succ _).symm rfl | exact VR.eqv (by first | rfl | (congr 1; omega) | (simp; done) | (simp; omega)) rfl) ?_
            refine WkE.upd rfl (.slice (4) 0 _ 0 ⟨_, rfl⟩ (by simp) (by simp)) ?_
            refine WkE.upd rfl (.ptr (0) 0 ⟨_, rfl⟩) ?_
            exact WkE.emp
          ·
            refine WkM.flatM rfl (by first | rfl | assumption | simp) (fun _ => rfl) (fun h => h) ?_
            refine WkM.flatM rfl (by first | rfl | assumption | simp) (fun _ => rfl) (fun h => h) ?_
            refine WkM.flatM rfl (by first | rfl | assumption | simp) (fun _ => rfl) (fun h => h) ?_
            refine WkM.flatM rfl (by first | rfl | assumption | simp) (fun _ => rfl) (fun h => h) ?_
            refine WkM.flatM rfl (by first | rfl | assumption | simp) (fun _ => rfl) (fun h => h) ?_
            refine WkM.ren [1, 2] rfl rfl rfl (dom_all rfl) (fun h => h) ?_
            exact WkM.emp
          ·
            repeat (refine dom_upd_mem (by decide) ?_)
            exact dom_emp
        ·
          have hj : j = mw.length := by simp at hb1; omega
          subst hj
          rw [show b.take mw.length = b from List.take_of_length_le (by omega)] at hnk
          refine AW.exit ?_
          refine thenA_exit ?_
          refine thenA_exit ?_
          refine inBlockA_hit ?_
          refine thenA_normal ?_
          refine AW.seqR ?_
          refine AWo.pure (PureOp.move rfl) rfl rfl ?_
          refine AWo.pure (PureOp.move rfl) rfl rfl ?_
          refine AWo.pure (PureOp.move rfl) rfl rfl ?_
          refine AWo.pure (PureOp.move rfl) rfl rfl ?_
          first | refine AWo.pure (PureOp.idx1 tbok rfl rfl rfl rfl (by first | decide | omega)) rfl rfl ?_ | refine AWo.pure (PureOp.idx tbok rfl rfl rfl rfl (by first | decide | omega)) rfl rfl ?_
          refine AWo.loadM tbok 0 rfl rfl rfl (by first | omega | (simp; omega)) rfl rfl ?_
          refine AWo.pure (PureOp.move rfl) rfl rfl ?_
          refine AWo.pure ((add64 (c := 0) rfl rfl (by decide)).mono (v' := .tuple #[vi .u64 ((l2.getD mw.length 0 + c) % 18446744073709551616), vi .u64 ((l2.getD mw.length 0 + c) / 18446744073709551616)]) rfl) rfl rfl ?_
          refine AWo.pure (PureOp.move rfl) rfl rfl ?_
          refine AWo.pure (PureOp.extract rfl rfl) rfl rfl ?_
          refine AWo.pure (PureOp.extract rfl rfl) rfl rfl ?_
          first | refine AWo.pure (PureOp.idx1 tbok rfl rfl rfl rfl (by first | decide | omega)) rfl rfl ?_ | refine AWo.pure (PureOp.idx tbok rfl rfl rfl rfl (by first | decide | omega)) rfl rfl ?_
          refine AWo.storeM (f := (vi .u64)) tbok rfl rfl rfl rfl (by first | omega | (simp; omega)) rfl rfl ?_
          refine AWo.pure (PureOp.assign rfl) rfl rfl ?_
          refine AWo.nil trivial ?_
          refine AW.seqR ?_
          refine AWo.pure (PureOp.move rfl) rfl rfl ?_
          refine AWo.pure (PureOp.move rfl) rfl rfl ?_
          first | refine AWo.pure (PureOp.addI (b := 1) rfl rfl (by first | decide | omega)) rfl rfl ?_ | refine AWo.pure (PureOp.bin rfl rfl rfl) rfl rfl ?_
          refine AWo.pure (PureOp.move rfl) rfl rfl ?_
          first | refine AWo.pure (PureOp.idx1 tbok rfl rfl rfl rfl (by first | decide | omega)) rfl rfl ?_ | refine AWo.pure (PureOp.idx tbok rfl rfl rfl rfl (by first | decide | omega)) rfl rfl ?_
          refine AWo.storeM (f := (vi .u64)) tbok rfl rfl rfl rfl (by first | omega | (simp; omega)) rfl rfl ?_
          refine AWo.nil trivial ?_
          obtain ⟨l3, hl3⟩ : ∃ l3, l3 = (l2.set mw.length ((l2.getD mw.length 0 + c) % 18446744073709551616)).set (mw.length + 1) ((l2.getD mw.length 0 + c) / 18446744073709551616) := ⟨_, rfl⟩
          rw [← hl3]
          have hb3 : bd 18446744073709551616 l3 := by rw [hl3]; exact bd_set (bd_set hbk (Nat.mod_lt _ (by decide))) (Nat.div_lt_of_lt_mul (Nat.lt_of_lt_of_le (Nat.add_lt_add (bd_getD hbk (by decide) _) hc) (by decide)))
          have hk3 : l3.length = mw.length + 2 := by rw [hl3]; simp [hk2]
          have hS : num 18446744073709551616 l3 = num 18446744073709551616 (l.take (mw.length + 1)) + a.getD i 0 * num 18446744073709551616 b := by
            rw [hl3, top_two hk2]; exact hnk
          refine AW.seqD mixed ?_
          refine AWo.pure (PureOp.move rfl) rfl rfl ?_
          first | refine AWo.pure (PureOp.idx1 (j := 0) tbok rfl rfl rfl rfl (by first | decide | omega)) rfl rfl ?_ | refine AWo.pure (PureOp.idx (j := 0) tbok rfl rfl rfl rfl (by first | decide | omega)) rfl rfl ?_
          refine AWo.loadM tbok 0 rfl rfl rfl (by first | omega | (simp; omega)) rfl rfl ?_
          refine AWo.pure (PureOp.move rfl) rfl rfl ?_
          refine AWo.pure (PureOp.nilCheck rfl) rfl rfl ?_
          refine AWo.pure (PureOp.fld tbok rfl rfl rfl (by decide)) rfl rfl ?_
          first | refine AWo.loadM tbok 0 rfl rfl rfl (by first | decide | omega) rfl rfl ?_ | refine AWo.load tbok rfl rfl rfl rfl rfl rfl ?_
          refine AWo.pure (PureOp.mulU 18446744073709551616 rfl rfl rfl rfl) rfl rfl ?_
          refine AWo.pure (PureOp.assign rfl) rfl rfl ?_
          refine AWo.nil (by kernel_rfl) ?_
          obtain ⟨k, hkk⟩ : ∃ k, k = l3.getD 0 0 * iv % 18446744073709551616 := ⟨_, rfl⟩
          rw [← hkk]
          have hk : k < 18446744073709551616 := by rw [hkk]; exact Nat.mod_lt _ (by decide)
          refine AW.seqD mixed ?_
          refine AWo.pure (PureOp.move rfl) rfl rfl ?_
          first | refine AWo.pure (PureOp.idx1 (j := 0) tbok rfl rfl rfl rfl (by first | decide | omega)) rfl rfl ?_ | refine AWo.pure (PureOp.idx (j := 0) tbok rfl rfl rfl rfl (by first | decide | omega)) rfl rfl ?_
          refine AWo.loadM tbok 0 rfl rfl rfl (by first | omega | (simp; omega)) rfl rfl ?_
          refine AWo.pure (PureOp.move rfl) rfl rfl ?_
          refine AWo.pure (PureOp.move rfl) rfl rfl ?_
          refine AWo.pure (PureOp.nilCheck rfl) rfl rfl ?_
          refine AWo.pure (PureOp.fld tbok rfl rfl rfl (by decide)) rfl rfl ?_
          refine AWo.load tbok rfl rfl rfl rfl rfl rfl ?_
          first | refine AWo.pure (PureOp.idx1 (j := 0) tbok rfl rfl rfl rfl (by first | decide | omega)) rfl rfl ?_ | refine AWo.pure (PureOp.idx (j := 0) tbok rfl rfl rfl rfl (by first | decide | omega)) rfl rfl ?_
          refine AWo.loadM tbok 0 rfl rfl rfl (by first | omega | (simp; omega)) rfl rfl ?_
          refine AWo.callX (step_ctr (c := 0) (bd_getD hb3 (by decide) 0) hk (bd_getD hbm (by decide) 0) (by decide)) bd128 [] [] rfl (.cons rfl (.cons rfl (.cons rfl (.cons rfl .nil)))) rfl (.cons rfl rfl (.cons rfl rfl (.cons rfl rfl (.cons rfl rfl .nil)))) .nil rfl .nil frN (by decide) (.cons rfl rfl (.cons rfl rfl .nil)) rfl rfl rfl rfl ?_
          refine AWo.pure (PureOp.move rfl) rfl rfl ?_
          refine AWo.pure (PureOp.extract rfl rfl) rfl rfl ?_
          refine AWo.pure (PureOp.extract rfl rfl) rfl rfl ?_
          refine AWo.pure (PureOp.assign rfl) rfl rfl ?_
          refine AWo.nil (by kernel_rfl) ?_
          refine AW.seq ?_
          refine AW.seqR ?_
          refine AWo.pure (PureOp.assign rfl) rfl rfl ?_
          refine AWo.nil trivial ?_
          refine AW.block ?_
          refine AW.loopw (fun mm σ => ∃ j, ∃ (u : List Nat), ∃ c, ((1 ≤ j ∧ j ≤ mw.length) ∧ u.length = mw.length + 2 ∧ bd 18446744073709551616 u ∧ c < 18446744073709551616 ∧ 18446744073709551616 * num 18446744073709551616 (u.take (j - 1)) + c * 18446744073709551616 ^ j = num 18446744073709551616 l3 % 18446744073709551616 ^ j + k * num 18446744073709551616 (mw.take j) ∧ (∀ m, j ≤ m → u.getD m 0 = num 18446744073709551616 l3 / 18446744073709551616 ^ m % 18446744073709551616)) ∧ mm = mw.length - j ∧ σ = ⟨(upd (upd (upd (upd (upd (upd (upd (upd (upd (upd emp 0 (.pointer (some ⟨0, 0, none⟩))) 2 (.slice (some ⟨4, 0, none⟩) mw.length 0)) 7 (vi .i64 mw.length)) 8 (.slice (some ⟨25000, 0, none⟩) (mw.length + 2) 0)) 25 (.slice (some ⟨3, 0, none⟩) mw.length 0)) 26 (vi .i64 mw.length)) 27 (vi .i64 i)) 11 (vi .u64 c)) 15 (vi .u64 k)) 16 (vi .i64 j)), (upd (upd (upd (upd (upd (upd emp 0 ⟨[.slice (some ⟨1, 0, none⟩) mw.length 0, vi .u64 iv, .slice (some ⟨2, 0, none⟩) ns 0], false, 1⟩) 1 ⟨mw.map (vi .u64), false, 1⟩) 2 ⟨sq.map (vi .u64), false, 1⟩) 3 ⟨a.map (vi .u64), false, 1⟩) 4 ⟨b.map (vi .u64), false, 1⟩) 25000 ⟨u.map (vi .u64), true, 1⟩)⟩) (fm := []) ?_ ⟨1, l3, (l3.getD 0 0 + k * mw.getD 0 0 + 0) / 18446744073709551616, ⟨⟨by omega, by omega⟩, hk3, hb3, Nat.div_lt_of_lt_mul (mad_lt (bd_getD hb3 (by decide) 0) hk (bd_getD hbm (by decide) 0) (by decide)), mont_initG hb3 hbm hiv hkk, fun m _ => num_getD hb3 (by decide) m⟩, rfl, rfl⟩ ?_
          ·
            refine Wk.of [0, 1, 2, 3, 4, 25000] ?_ ?_ ?_ (by decide) rfl
            ·
              refine WkE.upd rfl (by first | exact VR.flat _ rfl | exact VR.eqv (vp_succ _) rfl | exact VR.eqv (vp_succ _).symm rfl | exact VR.eqv (by first | rfl | (congr 1; omega) | (simp; done) | (simp; omega)) rfl) ?_
              refine WkE.upd rfl (by first | exact VR.flat _ rfl | exact VR.eqv (vp_succ _) rfl | exact VR.eqv (vp_succ _).symm rfl | exact VR.eqv (by first | rfl | (congr 1; omega) | (simp; done) | (simp; omega)) rfl) ?_
              refine WkE.upd rfl (by first | exact VR.flat _ rfl | exact VR.eqv (vp_succ _) rfl | exact VR.eqv (vp_succ _).symm rfl | exact VR.eqv (by first | rfl | (congr 1; omega) | (simp; done) | (simp; omega)) rfl) ?_
              refine WkE.upd rfl (by first | exact VR.flat _ rfl | exact VR.eqv (vp_succ _) rfl | exact VR.eqv (vp_succ _).symm rfl | exact VR.eqv (by first | rfl | (congr 1; omega) | (simp; done) | (simp; omega)) rfl) ?_
              refine WkE.upd rfl (by first | exact VR.flat _ rfl | exact VR.eqv (vp_succ _) rfl | exact VR.eqv (vp_succ _).symm rfl | exact VR.eqv (by first | rfl | (congr 1; omega) | (simp; done) | (simp; omega)) rfl) ?_
              refine WkE.upd rfl (.slice (3) 0 _ 0 ⟨_, rfl⟩ (by simp) (by simp)) ?_
              refine WkE.upd rfl (.slice (25000) 0 _ 0 ⟨_, rfl⟩ (by simp) (by simp)) ?_
              refine WkE.upd rfl (by first | exact VR.flat _ rfl | exact VR.eqv (vp_succ _) rfl | exact VR.eqv (vp_succ _).symm rfl | exact VR.eqv (by first | rfl | (congr 1; omega) | (simp; done) | (simp; omega)) rfl) ?_
              refine WkE.upd rfl (.slice (4) 0 _ 0 ⟨_, rfl⟩ (by simp) (by simp)) ?_
              refine WkE.upd rfl (.ptr (0) 0 ⟨_, rfl⟩) ?_
              exact WkE.emp
            ·
              refine WkM.flatM rfl (by first | rfl | assumption | simp) (fun _ => rfl) (fun h => h) ?_
              refine WkM.flatM rfl (by first | rfl | assumption | simp) (fun _ => rfl) (fun h => h) ?_
              refine WkM.flatM rfl (by first | rfl | assumption | simp) (fun _ => rfl) (fun h => h) ?_
              refine WkM.flatM rfl (by first | rfl | assumption | simp) (fun _ => rfl) (fun h => h) ?_
              refine WkM.flatM rfl (by first | rfl | assumption | simp) (fun _ => rfl) (fun h => h) ?_
              refine WkM.ren [1, 2] rfl rfl rfl (dom_all rfl) (fun h => h) ?_
              exact WkM.emp
            ·
              repeat (refine dom_upd_mem (by decide) ?_)
              exact dom_emp
          ·
            rintro mm σ ⟨j, u, c, ⟨⟨hj1, hj0⟩, hku, hbu, hc, hred, hum⟩, rfl, rfl⟩
            have he := bd_getD hbu (by decide) j
            have hq := bd_getD hbm (by decide) j
            have hlt2 := mad_lt he hk hq hc
            have hun := bd_getD hbu (by decide) mw.length
            refine AW.seq ?_
            refine AW.seqR ?_
            refine AWo.pure (PureOp.move rfl) rfl rfl ?_
            refine AWo.pure (PureOp.move rfl) rfl rfl ?_
            first | refine AWo.pure (PureOp.ltN rfl rfl) rfl rfl ?_ | refine AWo.pure (PureOp.bin rfl rfl rfl) rfl rfl ?_
            refine AWo.nil trivial ?_
            refine AW.cond rfl (fun hb2 => ?_) (fun hb2 => ?_)
            ·
              have hj : j < mw.length := by simpa using hb2
              refine AW.skip ?_
              refine thenA_normal ?_
              refine AW.seq ?_
              refine AW.block ?_
              refine AW.draw mixed ?_
              refine AWo.pure (PureOp.move rfl) rfl rfl ?_
              refine AWo.pure (PureOp.move rfl) rfl rfl ?_
              first | refine AWo.pure (PureOp.subI (b := 1) rfl rfl (by first | decide | omega) (by first | decide | omega)) rfl rfl ?_ | refine AWo.pure (PureOp.subP rfl rfl (by first | decide | omega)) rfl rfl ?_ | refine AWo.pure (PureOp.bin rfl rfl rfl) rfl rfl ?_
              refine AWo.pure (PureOp.move rfl) rfl rfl ?_
              refine AWo.pure (PureOp.move rfl) rfl rfl ?_
              first | refine AWo.pure (PureOp.idx1 tbok rfl rfl rfl rfl (by first | decide | omega)) rfl rfl ?_ | refine AWo.pure (PureOp.idx tbok rfl rfl rfl rfl (by first | decide | omega)) rfl rfl ?_
              refine AWo.loadM tbok 0 rfl rfl rfl (by first | omega | (simp; omega)) rfl rfl ?_
              refine AWo.pure (PureOp.move rfl) rfl rfl ?_
              refine AWo.pure (PureOp.move rfl) rfl rfl ?_
              refine AWo.pure (PureOp.nilCheck rfl) rfl rfl ?_
              refine AWo.pure (PureOp.fld tbok rfl rfl rfl (by decide)) rfl rfl ?_
              refine AWo.load tbok rfl rfl rfl rfl rfl rfl ?_
              refine AWo.pure (PureOp.move rfl) rfl rfl ?_
              first | refine AWo.pure (PureOp.idx1 tbok rfl rfl rfl rfl (by first | decide | omega)) rfl rfl ?_ | refine AWo.pure (PureOp.idx tbok rfl rfl rfl rfl (by first | decide | omega)) rfl rfl ?_
              refine AWo.loadM tbok 0 rfl rfl rfl (by first | omega | (simp; omega)) rfl rfl ?_
              refine AWo.pure (PureOp.move rfl) rfl rfl ?_
              refine AWo.callX (step_ctr (by first | assumption | omega) (by first | assumption | omega) (by first | assumption | omega) (by first | assumption | omega)) bd128 [] [] rfl (.cons rfl (.cons rfl (.cons rfl (.cons rfl .nil)))) rfl (.cons rfl rfl (.cons rfl rfl (.cons rfl rfl (.cons rfl rfl .nil)))) .nil rfl .nil frN (by decide) (.cons rfl rfl (.cons rfl rfl .nil)) rfl rfl rfl rfl ?_
              refine AWo.pure (PureOp.move rfl) rfl rfl ?_
              refine AWo.pure (PureOp.extract rfl rfl) rfl rfl ?_
              refine AWo.pure (PureOp.extract rfl rfl) rfl rfl ?_
              first | refine AWo.pure (PureOp.idx1 tbok rfl rfl rfl rfl (by first | decide | omega)) rfl rfl ?_ | refine AWo.pure (PureOp.idx tbok rfl rfl rfl rfl (by first | decide | omega)) rfl rfl ?_
              refine AWo.storeM (f := (vi .u64)) tbok rfl rfl rfl rfl (by first | omega | (simp; omega)) rfl rfl ?_
              refine AWo.pure (PureOp.assign rfl) rfl rfl ?_
              refine AWo.nil (by kernel_rfl) ?_
              refine inBlockA_normal ?_
              refine thenA_normal ?_
              refine AW.region ?_
              refine AWo.pure (PureOp.move rfl) rfl rfl ?_
              first | refine AWo.pure (PureOp.addI (b := 1) rfl rfl (by first | decide | omega)) rfl rfl ?_ | refine AWo.pure (PureOp.bin rfl rfl rfl) rfl rfl ?_
              refine AWo.pure (PureOp.assign rfl) rfl rfl ?_
              refine AWo.nil trivial ?_
              refine thenA_normal ?_
              refine ⟨mw.length - (j + 1), [], _, by omega, ?_, j + 1, u.set (j - 1) ((u.getD j 0 + k * mw.getD j 0 + c) % 18446744073709551616), (u.getD j 0 + k * mw.getD j 0 + c) / 18446744073709551616, ⟨⟨by omega, by omega⟩, by simp [hku], bd_set hbu (Nat.mod_lt _ (by decide)), Nat.div_lt_of_lt_mul hlt2, red_step (by omega) (by omega) hred rfl (hum j (Nat.le_refl _)), fun m hm => by rw [getD_set (by omega)]; exact hum m (by omega)⟩, rfl, rfl⟩
              refine Wk.of [0, 1, 2, 3, 4, 25000] ?_ ?_ ?_ (by decide) rfl
              ·
                refine WkE.upd rfl (by first | exact VR.flat _ rfl | exact VR.eqv (vp_succ _) rfl | exact VR.eqv (vp_succ _).symm rfl | exact VR.eqv (by first | rfl | (congr 1; omega) | (simp; done) | (simp; omega)) rfl) ?_
                refine WkE.upd rfl (by first | exact VR.flat _ rfl | exact VR.eqv (vp_succ _) rfl | exact VR.eqv (vp_succ _).symm rfl | exact VR.eqv (by first | rfl | (congr 1; omega) | (simp; done) | (simp; omega)) rfl) ?_
                refine WkE.upd rfl (by first | exact VR.flat _ rfl | exact VR.eqv (vp_succ _) rfl | exact VR.eqv (vp_succ _).symm rfl | exact VR.eqv (by first | rfl | (congr 1; omega) | (simp; done) | (simp; omega)) rfl) ?_
                refine WkE.upd rfl (by first | exact VR.flat _ rfl | exact VR.eqv (vp_succ _) rfl | exact VR.eqv (vp_succ _).symm rfl | exact VR.eqv (by first | rfl | (congr 1; omega) | (simp; done) | (simp; omega)) rfl) ?_
                refine WkE.upd rfl (by first | exact VR.flat _ rfl | exact VR.eqv (vp_succ _) rfl | exact VR.eqv (vp_succ _).symm rfl | exact VR.eqv (by first | rfl | (congr 1; omega) | (simp; done) | (simp; omega)) rfl) ?_
                refine WkE.upd rfl (.slice (3) 0 _ 0 ⟨_, rfl⟩ (by simp) (by simp)) ?_
                refine WkE.upd rfl (.slice (25000) 0 _ 0 ⟨_, rfl⟩ (by simp) (by simp)) ?_
                refine WkE.upd rfl (by first | exact VR.flat _ rfl | exact VR.eqv (vp_succ _) rfl | exact VR.eqv (vp_succ _).symm rfl | exact VR.eqv (by first | rfl | (congr 1; omega) | (simp; done) | (simp; omega)) rfl) ?_
                refine WkE.upd rfl (.slice (4) 0 _ 0 ⟨_, rfl⟩ (by simp) (by simp)) ?_
                refine WkE.upd rfl (.ptr (0) 0 ⟨_, rfl⟩) ?_
                exact WkE.emp
              ·
                refine WkM.flatM rfl (by first | rfl | assumption | simp) (fun _ => rfl) (fun h => h) ?_
                refine WkM.flatM rfl (by first | rfl | assumption | simp) (fun _ => rfl) (fun h => h) ?_
                refine WkM.flatM rfl (by first | rfl | assumption | simp) (fun _ => rfl) (fun h => h) ?_
                refine WkM.flatM rfl (by first | rfl | assumption | simp) (fun _ => rfl) (fun h => h) ?_
                refine WkM.flatM rfl (by first | rfl | assumption | simp) (fun _ => rfl) (fun h => h) ?_
                refine WkM.ren [1, 2] rfl rfl rfl (dom_all rfl) (fun h => h) ?_
                exact WkM.emp
              ·
                repeat (refine dom_upd_mem (by decide) ?_)
                exact dom_emp
            ·
              have hj : j = mw.length := by simp at hb2; omega
              subst hj
              rw [take_all] at hred
              refine AW.exit ?_
              refine thenA_exit ?_
              refine thenA_exit ?_
              refine inBlockA_hit ?_
              refine thenA_normal ?_
              have hfin := red_end2 hku hm0 hred (hum mw.length (Nat.le_refl _)) (hum (mw.length + 1) (by omega)) (by have := num_lt hb3; rwa [hk3] at this)
              rw [hS] at hfin
              have hT2 := mont_lt hfin hT hxa hpb hk
              have htop := top_small (by simp [hku]) hT2 hNW
              refine AW.seqR ?_
              refine AWo.pure (PureOp.move rfl) rfl rfl ?_
              refine AWo.pure (PureOp.move rfl) rfl rfl ?_
              first | refine AWo.pure (PureOp.subI (b := 1) rfl rfl (by first | decide | omega) (by first | decide | omega)) rfl rfl ?_ | refine AWo.pure (PureOp.subP rfl rfl (by first | decide | omega)) rfl rfl ?_ | refine AWo.pure (PureOp.bin rfl rfl rfl) rfl rfl ?_
              refine AWo.pure (PureOp.move rfl) rfl rfl ?_
              refine AWo.pure (PureOp.move rfl) rfl rfl ?_
              first | refine AWo.pure (PureOp.idx1 tbok rfl rfl rfl rfl (by first | decide | omega)) rfl rfl ?_ | refine AWo.pure (PureOp.idx tbok rfl rfl rfl rfl (by first | decide | omega)) rfl rfl ?_
              refine AWo.loadM tbok 0 rfl rfl rfl (by first | omega | (simp; omega)) rfl rfl ?_
              refine AWo.pure (PureOp.move rfl) rfl rfl ?_
              refine AWo.pure ((add64 (c := 0) rfl rfl (by decide)).mono (v' := .tuple #[vi .u64 ((u.getD mw.length 0 + c) % 18446744073709551616), vi .u64 ((u.getD mw.length 0 + c) / 18446744073709551616)]) rfl) rfl rfl ?_
              refine AWo.pure (PureOp.move rfl) rfl rfl ?_
              refine AWo.pure (PureOp.extract rfl rfl) rfl rfl ?_
              refine AWo.pure (PureOp.extract rfl rfl) rfl rfl ?_
              first | refine AWo.pure (PureOp.idx1 tbok rfl rfl rfl rfl (by first | decide | omega)) rfl rfl ?_ | refine AWo.pure (PureOp.idx tbok rfl rfl rfl rfl (by first | decide | omega)) rfl rfl ?_
              refine AWo.storeM (f := (vi .u64)) tbok rfl rfl rfl rfl (by first | omega | (simp; omega)) rfl rfl ?_
              refine AWo.pure (PureOp.assign rfl) rfl rfl ?_
              refine AWo.nil trivial ?_
              refine AW.region ?_
              refine AWo.pure (PureOp.move rfl) rfl rfl ?_
              refine AWo.pure (PureOp.move rfl) rfl rfl ?_
              refine AWo.pure (PureOp.move rfl) rfl rfl ?_
              refine AWo.pure (PureOp.move rfl) rfl rfl ?_
              first | refine AWo.pure (PureOp.addI (b := 1) rfl rfl (by first | decide | omega)) rfl rfl ?_ | refine AWo.pure (PureOp.bin rfl rfl rfl) rfl rfl ?_
              first | refine AWo.pure (PureOp.idx1 tbok rfl rfl rfl rfl (by first | decide | omega)) rfl rfl ?_ | refine AWo.pure (PureOp.idx tbok rfl rfl rfl rfl (by first | decide | omega)) rfl rfl ?_
              refine AWo.loadM tbok 0 rfl rfl rfl (by first | omega | (simp; omega)) rfl rfl ?_
              refine AWo.pure (PureOp.move rfl) rfl rfl ?_
              first | refine AWo.pure ((PureOp.addU 18446744073709551616 rfl rfl rfl rfl).mono (v' := vi .u64 (u.getD (mw.length + 1) 0 + (u.getD mw.length 0 + c) / 18446744073709551616)) (by rw [getD_set (by omega), Nat.mod_eq_of_lt (Nat.lt_of_lt_of_le htop (by decide))])) rfl rfl ?_ | refine AWo.pure ((PureOp.bin rfl rfl rfl).mono (v' := vi .u64 (u.getD (mw.length + 1) 0 + (u.getD mw.length 0 + c) / 18446744073709551616)) (by rw [getD_set (by omega), Nat.mod_eq_of_lt (Nat.lt_of_lt_of_le htop (by decide))])) rfl rfl ?_
              first | refine AWo.pure (PureOp.idx1 tbok rfl rfl rfl rfl (by first | decide | omega)) rfl rfl ?_ | refine AWo.pure (PureOp.idx tbok rfl rfl rfl rfl (by first | decide | omega)) rfl rfl ?_
              refine AWo.storeM (f := (vi .u64)) (y := u.getD (mw.length + 1) 0 + (u.getD mw.length 0 + c) / 18446744073709551616) tbok rfl rfl rfl rfl (by simp; omega) rfl rfl ?_
              refine AWo.nil trivial ?_
              refine inBlockA_normal ?_
              refine thenA_normal ?_
              refine AW.region ?_
              first | refine AWo.pure (PureOp.addI (b := 1) rfl rfl (by first | decide | omega)) rfl rfl ?_ | refine AWo.pure (PureOp.bin rfl rfl rfl) rfl rfl ?_
              refine AWo.pure (PureOp.move rfl) rfl rfl ?_
              refine AWo.nil trivial ?_
              refine thenA_normal ?_
              refine ⟨mw.length - (i + 1), [], _, by omega, ?_, i + 1, (u.set (mw.length - 1) ((u.getD mw.length 0 + c) % 18446744073709551616)).set mw.length (u.getD (mw.length + 1) 0 + (u.getD mw.length 0 + c) / 18446744073709551616), ⟨by omega, by simp [hku], bd_set (bd_set hbu (Nat.mod_lt _ (by decide))) (Nat.lt_of_lt_of_le htop (by decide)), hT2, by rw [num_take_succ a i]; exact mont_mod hfin hTm⟩, rfl, rfl⟩
              refine Wk.of [0, 1, 2, 3, 4, 25000] ?_ ?_ ?_ (by decide) rfl
              ·
                refine WkE.upd rfl (by first | exact VR.flat _ rfl | exact VR.eqv (vp_succ _) rfl | exact VR.eqv (vp_succ _).symm rfl | exact VR.eqv (by first | rfl | (congr 1; omega) | (simp; done) | (simp; omega)) rfl) ?_
                refine WkE.upd rfl (by first | exact VR.flat _ rfl | exact VR.eqv (vp_succ _) rfl | exact VR.eqv (vp_succ _).symm rfl | exact VR.eqv (by first | rfl | (congr 1; omega) | (simp; done) | (simp; omega)) rfl) ?_
                refine WkE.upd rfl (.slice (3) 0 _ 0 ⟨_, rfl⟩ (by simp) (by simp)) ?_
                refine WkE.upd rfl (.slice (25000) 0 _ 0 ⟨_, rfl⟩ (by simp) (by simp)) ?_
                refine WkE.upd rfl (by first | exact VR.flat _ rfl | exact VR.eqv (vp_succ _) rfl | exact VR.eqv (vp_succ _).symm rfl | exact VR.eqv (by first | rfl | (congr 1; omega) | (simp; done) | (simp; omega)) rfl) ?_
                refine WkE.upd rfl (.slice (4) 0 _ 0 ⟨_, rfl⟩ (by simp) (by simp)) ?_
                refine WkE.upd rfl (.ptr (0) 0 ⟨_, rfl⟩) ?_
                exact WkE.emp
              ·
                refine WkM.flatM rfl (by first | rfl | assumption | simp) (fun _ => rfl) (fun h => h) ?_
                refine WkM.flatM rfl (by first | rfl | assumption | simp) (fun _ => rfl) (fun h => h) ?_
                refine WkM.flatM rfl (by first | rfl | assumption | simp) (fun _ => rfl) (fun h => h) ?_
                refine WkM.flatM rfl (by first | rfl | assumption | simp) (fun _ => rfl) (fun h => h) ?_
                refine WkM.flatM rfl (by first | rfl | assumption | simp) (fun _ => rfl) (fun h => h) ?_
                refine WkM.ren [1, 2] rfl rfl rfl (dom_all rfl) (fun h => h) ?_
                exact WkM.emp
              ·
                repeat (refine dom_upd_mem (by decide) ?_)
                exact dom_emp
    ·
      have hi : i = mw.length := by simp at hb0; omega
      subst hi
      refine AW.exit ?_
      refine thenA_exit ?_
      refine thenA_exit ?_
      refine inBlockA_hit ?_
      refine thenA_normal ?_
      have hT4 : num 18446744073709551616 (l.take mw.length) + l.getD mw.length 0 * 18446744073709551616 ^ mw.length = num 18446744073709551616 (l.take (mw.length + 1)) := (num_take_succ _ _).symm
      have hres : (num 18446744073709551616 (l.take mw.length) + l.getD mw.length 0 * 18446744073709551616 ^ mw.length) % num 18446744073709551616 mw = r := by
        rw [hT4]
        refine mont_uniq (R := 18446744073709551616 ^ mw.length) hcop (Nat.mod_lt _ hN) hr ?_
        rw [Nat.mod_mul_mod, hTm, h, ← hla, take_all]
      refine AW.seqD mixed ?_
      refine AWo.pure (PureOp.move rfl) rfl rfl ?_
      refine AWo.pure (PureOp.move rfl) rfl rfl ?_
      refine AWo.pure (PureOp.move rfl) rfl rfl ?_
      refine AWo.sliceS tbok rfl .none (.some rfl) rfl rfl rfl rfl (by first | decide | omega | (simp; done) | (simp; omega)) (by first | decide | omega | (simp; done) | (simp; omega)) (.inl rfl) rfl rfl rfl ?_
      refine AWo.pure (PureOp.move rfl) rfl rfl ?_
      refine AWo.pure (PureOp.move rfl) rfl rfl ?_
      first | refine AWo.pure (PureOp.idx1 tbok rfl rfl rfl rfl (by first | decide | omega)) rfl rfl ?_ | refine AWo.pure (PureOp.idx tbok rfl rfl rfl rfl (by first | decide | omega)) rfl rfl ?_
      first | refine AWo.loadM tbok 0 rfl rfl rfl (by first | decide | omega) rfl rfl ?_ | refine AWo.load tbok rfl rfl rfl rfl rfl rfl ?_
      refine AWo.callX (less_ctr (a := l.take mw.length) (c := l.getD mw.length 0) ⟨hbm, hm0, hml, hN⟩ (bd_take hbl _) (by rw [List.length_take]; omega) (by rw [hT4]; exact hT)) bd123 [(0, 0), (1, 0), (2, 0), (25000, 0)] [151000] rfl (.cons rfl (.cons rfl (.cons rfl .nil))) rfl (.cons rfl rfl (.cons rfl rfl (.cons rfl rfl .nil))) (.whole rfl rfl (OkL.all rfl) (by intro h; first | exact h | rfl) (.flat rfl (flatM flat_vi) (by intro h; first | exact h | rfl) (.flat rfl (flatM flat_vi) (by intro h; first | exact h | rfl) (fitPre rfl (by rw [List.length_map, List.length_take, ← List.map_take, Nat.min_eq_left (by omega)]) (flatM flat_vi) (by simp; omega) .nil)))) rfl (.keep rfl (.keep rfl (.keep rfl (.gone rfl rfl (OkL.flat (by simp)) (.new (flat_map_ren (by first | exact flatM flat_vi | exact flatM flat_bool | (simp [flatV, flat_vi]; done))) (OkL.flat (by first | exact flatM flat_vi | exact flatM flat_bool | (simp [flatV, flat_vi]; done))) .nil))))) (frC rfl frN) (by decide) (.cons rfl rfl .nil) rfl rfl rfl rfl ?_
      refine AWo.pure (PureOp.assign rfl) rfl rfl ?_
      refine AWo.nil (by kernel_rfl) ?_
      refine AW.ret ?_
      rw [hres]
      refine RetQ.gc [_] [151000] [.tmp 6] (.inl rfl) rfl (.tmp rfl .nil) rfl (.cons rfl rfl .nil) (OutL.whole rfl rfl (OkL.all rfl) (by intro h; first | rfl | exact h.elim id fun h => absurd h.1 (by simp)) (OutL.flat rfl (flatM flat_vi) (by intro h; first | rfl | exact h.elim id fun h => absurd h.1 (by simp)) (OutL.flat rfl (flatM flat_vi) (by intro h; first | rfl | exact h.elim id fun h => absurd h.1 (by simp)) (OutL.flat rfl (by first | exact flatM flat_vi | exact flatM flat_bool | (simp [flatV, flat_vi]; done)) (by intro h; first | rfl | exact h.elim id fun h => absurd h.1 (by simp)) (OutL.flat rfl (by first | exact flatM flat_vi | exact flatM flat_bool | (simp [flatV, flat_vi]; done)) (by intro h; first | rfl | exact h.elim id fun h => absurd h.1 (by simp)) (OutL.flat rfl (by first | exact flatM flat_vi | exact flatM flat_bool | (simp [flatV, flat_vi]; done)) (by intro h; first | rfl | exact h.elim id fun h => absurd h.1 (by simp)) trivial)))))) (by decide) rfl
end Go.Proofs.Ytiikffiembcboaa
