/- The document's source, as contracts. -/
import Derived.Test.YtiikffiembcboaaGrain7
namespace Go.Proofs.Ytiikffiembcboaa
open Go Sim

def inb (n a b : Int) : Bool := decide (a ≤ n) && decide (n ≤ b)

theorem lay_push {l : List Bool} {n bits i : Nat} (hi : i < bits) : (l ++ (layL n bits).take i).map Value.bool ++ [.bool (n / 2 ^ (bits - 1 - i) % 2 == 1)] = (l ++ (layL n bits).take (i + 1)).map Value.bool := by
  rw [List.take_succ_eq_append_getElem (by rw [layL_len]; exact hi), ← List.append_assoc, List.map_append (l₁ := l ++ (layL n bits).take i)]
  simp [layL]

theorem copy_set {l : List Bool} {i : Nat} (hi : i < 80) (hl : l.length = 80) : l.take (i + 1) ++ List.replicate (80 - (i + 1)) false = (l.take i ++ List.replicate (80 - i) false).set i (l.getD i false) := by
  rw [List.set_append_right _ _ (by simp; omega), List.length_take, hl, Nat.min_eq_left (by omega), Nat.sub_self]
  obtain ⟨q, hq⟩ : ∃ q, 80 - i = q + 1 := ⟨80 - i - 1, by omega⟩
  rw [hq, List.replicate_succ, List.set_cons_zero, show 80 - (i + 1) = q by omega, List.take_succ_eq_append_getElem (by omega), List.append_assoc, List.getD_eq_getElem?_getD, List.getElem?_eq_getElem (by omega)]
  rfl

theorem copy80 (b w f p : Nat) : (iniL b w f p).take 80 ++ List.replicate (80 - 80) false = refl (git 0 (gini b w f p)) := by
  rw [git, refl_gini, List.take_of_length_le (by rw [iniL_len]; exact Nat.le_refl _)]
  simp

set_option maxRecDepth 10000 in
theorem in_ctr {n a b : Int} : GC Try.prog 111 [.int .i64 n, .int .i64 a, .int .i64 b] [] [.bool (inb n a b)] [] := by
  refine GC.intro Try.func111 rfl (by show 3 ≤ 15; decide) (by first | exact Nat.le_refl _ | decide | simp) ?_
  refine AW.seqR ?_
  refine AWo.pure (PureOp.assign rfl) rfl rfl ?_
  refine AWo.nil trivial ?_
  refine AW.seqR ?_
  refine AWo.pure (PureOp.move rfl) rfl rfl ?_
  refine AWo.pure (PureOp.move rfl) rfl rfl ?_
  first | refine AWo.pureB (PureOp.geN rfl rfl) rfl rfl (fun hb0 => ?_) (fun hb0 => ?_) | refine AWo.pureB (PureOp.bin rfl rfl rfl) rfl rfl (fun hb0 => ?_) (fun hb0 => ?_)
  ·
    refine AWo.pure (PureOp.move rfl) rfl rfl ?_
    refine AWo.pure (PureOp.move rfl) rfl rfl ?_
    refine AWo.pure (PureOp.move rfl) rfl rfl ?_
    first | refine AWo.pure (PureOp.leN rfl rfl) rfl rfl ?_ | refine AWo.pure (PureOp.bin rfl rfl rfl) rfl rfl ?_
    refine AWo.pure (PureOp.pickT rfl rfl) rfl rfl ?_
    refine AWo.pure (PureOp.assign rfl) rfl rfl ?_
    refine AWo.nil trivial ?_
    refine AW.ret ?_
    refine RetQ.gc [_] [] [.tmp 6] (.inl rfl) rfl (.tmp rfl .nil) rfl (.cons rfl (congrArg Value.bool (by simp [inb] at hb0 ⊢ <;> omega)) .nil) trivial (by decide) rfl
  ·
    refine AWo.pure (PureOp.move rfl) rfl rfl ?_
    refine AWo.skipped rfl rfl ?_
    refine AWo.skipped rfl rfl ?_
    refine AWo.skipped rfl rfl ?_
    refine AWo.pure (PureOp.pickF rfl rfl) rfl rfl ?_
    refine AWo.pure (PureOp.assign rfl) rfl rfl ?_
    refine AWo.nil trivial ?_
    refine AW.ret ?_
    refine RetQ.gc [_] [] [.tmp 6] (.inl rfl) rfl (.tmp rfl .nil) rfl (.cons rfl (congrArg Value.bool (by simp [inb] at hb0 ⊢ <;> omega)) .nil) trivial (by decide) rfl

set_option maxRecDepth 10000 in
theorem layr_ctr {l : List Bool} {n bits : Nat} (hn : n < 9223372036854775808) (hb : bits ≤ 64) (hl : l.length ≤ 100) : GC Try.prog 112 [.slice (some ⟨0, 0, none⟩) l.length 0, vi .i64 n, vi .i64 bits] [⟨l.map (Value.bool), true, 1⟩] [.slice (some ⟨1, 0, none⟩) (l ++ layL n bits).length 0] [⟨[], false, 1⟩, ⟨(l ++ layL n bits).map (Value.bool), true, 1⟩] := by
  refine GC.intro Try.func112 rfl (by show 3 ≤ 31; decide) (by first | exact Nat.le_refl _ | decide | simp) ?_
  refine AW.move 0 77000 0 rfl rfl rfl ?_
  refine AW.seqR ?_
  refine AWo.pure (PureOp.assign rfl) rfl rfl ?_
  refine AWo.nil trivial ?_
  refine AW.seq ?_
  refine AW.seqR ?_
  refine AWo.pure (PureOp.move rfl) rfl rfl ?_
  first | refine AWo.pure ((PureOp.subI (b := 1) rfl rfl (by first | decide | omega) (by first | decide | omega)).mono (v' := .int .i64 ((bits : Nat) - 1 - (0 : Nat))) (by rw [IntWalk.i64_in _ (by omega)]; congr 1; omega)) rfl rfl ?_ | refine AWo.pure ((PureOp.bin rfl rfl rfl).mono (v' := .int .i64 ((bits : Nat) - 1 - (0 : Nat))) (by rw [IntWalk.i64_in _ (by omega)]; congr 1; omega)) rfl rfl ?_
  refine AWo.pure (PureOp.assign rfl) rfl rfl ?_
  refine AWo.nil trivial ?_
  refine AW.block ?_
  refine AW.loopw (fun mm σ => ∃ i, (i ≤ bits) ∧ mm = bits - i ∧ σ = ⟨(upd (upd (upd emp 7 (.int .i64 ((bits : Nat) - 1 - (i : Nat)))) 0 (.slice (some ⟨77000, 0, none⟩) (l.length + i) 0)) 1 (vi .i64 n)), (upd (upd emp 0 ⟨[], false, 1⟩) 77000 ⟨(l ++ (layL n bits).take i).map Value.bool, true, 1⟩)⟩) (fm := []) ?_ ⟨0, Nat.zero_le _, rfl, rfl⟩ ?_
  ·
    refine Wk.of [0, 77000] ?_ ?_ ?_ (by decide) rfl
    ·
      refine WkE.upd rfl (by first | exact VR.flat _ rfl | exact VR.eqv (by first | rfl | (congr 1; omega) | (simp; done) | (simp; omega)) rfl) ?_
      refine WkE.upd rfl (.slice (77000) 0 _ 0 ⟨_, rfl⟩ (by simp) (by simp)) ?_
      refine WkE.upd rfl (by first | exact VR.flat _ rfl | exact VR.eqv (by first | rfl | (congr 1; omega) | (simp; done) | (simp; omega)) rfl) ?_
      exact WkE.emp
    ·
      refine WkM.flatM rfl (by first | rfl | assumption | simp) (fun _ => rfl) (fun h => h) ?_
      refine WkM.flat rfl (by simp [flatV, flat_vi]) (fun h => h) ?_
      exact WkM.emp
    ·
      repeat (refine dom_upd_mem (by decide) ?_)
      exact dom_emp
  ·
    rintro mm σ ⟨i, hinv, rfl, rfl⟩
    have hlen : ((layL n bits).take i).length = i := by rw [List.length_take, layL_len, Nat.min_eq_left hinv]
    refine AW.seq ?_
    refine AW.seqR ?_
    refine AWo.pure (PureOp.move rfl) rfl rfl ?_
    first | refine AWo.pure ((PureOp.geN (b := 0) rfl rfl).mono (v' := .bool (decide (i < bits))) (by congr 1; rw [Bool.eq_iff_iff]; simp; omega)) rfl rfl ?_ | refine AWo.pure ((PureOp.bin rfl rfl rfl).mono (v' := .bool (decide (i < bits))) (by congr 1; rw [Bool.eq_iff_iff]; simp; omega)) rfl rfl ?_
    refine AWo.nil trivial ?_
    refine AW.cond rfl (fun hb0 => ?_) (fun hb0 => ?_)
    ·
      have hi : i < bits := by simpa using hb0
      refine AW.skip ?_
      refine thenA_normal ?_
      refine AW.seq ?_
      refine AW.block ?_
      refine AW.seqR ?_
      refine AWo.pure (PureOp.move rfl) rfl rfl ?_
      refine AWo.pure (PureOp.assign rfl) rfl rfl ?_
      refine AWo.nil trivial ?_
      refine AW.seq ?_
      refine AW.seqR ?_
      refine AWo.pure (PureOp.assign rfl) rfl rfl ?_
      refine AWo.nil trivial ?_
      refine AW.block ?_
      refine AW.loopw (fun mm σ => ∃ j, (j ≤ bits - 1 - i) ∧ mm = bits - 1 - i - j ∧ σ = ⟨(upd (upd (upd (upd (upd emp 8 (vi .i64 (n / 2 ^ j))) 9 (vi .i64 j)) 7 (vi .i64 (bits - 1 - i))) 0 (.slice (some ⟨77000, 0, none⟩) (l.length + i) 0)) 1 (vi .i64 n)), (upd (upd emp 0 ⟨[], false, 1⟩) 77000 ⟨(l ++ (layL n bits).take i).map Value.bool, true, 1⟩)⟩) (fm := []) ?_ ⟨0, Nat.zero_le _, rfl, rfl⟩ ?_
      ·
        refine Wk.of [0, 77000] ?_ ?_ ?_ (by decide) rfl
        ·
          refine WkE.upd rfl (by first | exact VR.flat _ rfl | exact VR.eqv (by first | rfl | (congr 1; omega) | (simp; done) | (simp; omega)) rfl) ?_
          refine WkE.upd rfl (.slice (77000) 0 _ 0 ⟨_, rfl⟩ (by simp) (by simp)) ?_
          refine WkE.upd rfl (VR.eqv (by first | rfl | (simp only [vi]; congr 1; omega)) rfl) ?_
          refine WkE.upd rfl (by first | exact VR.flat _ rfl | exact VR.eqv (by first | rfl | (congr 1; omega) | (simp; done) | (simp; omega)) rfl) ?_
          refine WkE.upd rfl (VR.eqv (by simp [Nat.pow_succ, Nat.div_div_eq_div_mul]) rfl) ?_
          exact WkE.emp
        ·
          refine WkM.flatM rfl (by first | rfl | assumption | simp) (fun _ => rfl) (fun h => h) ?_
          refine WkM.flat rfl (by simp [flatV, flat_vi]) (fun h => h) ?_
          exact WkM.emp
        ·
          repeat (refine dom_upd_mem (by decide) ?_)
          exact dom_emp
      ·
        rintro mm σ ⟨j, hj, rfl, rfl⟩
        refine AW.seq ?_
        refine AW.seqR ?_
        refine AWo.pure (PureOp.move rfl) rfl rfl ?_
        refine AWo.pure (PureOp.move rfl) rfl rfl ?_
        first | refine AWo.pure (PureOp.ltN rfl rfl) rfl rfl ?_ | refine AWo.pure (PureOp.bin rfl rfl rfl) rfl rfl ?_
        refine AWo.nil trivial ?_
        refine AW.cond rfl (fun hb1 => ?_) (fun hb1 => ?_)
        ·
          have hj2 : j < bits - 1 - i := by simpa using hb1
          refine AW.skip ?_
          refine thenA_normal ?_
          refine AW.seq ?_
          refine AW.block ?_
          refine AW.region ?_
          refine AWo.pure (PureOp.move rfl) rfl rfl ?_
          refine AWo.pure (PureOp.quoN (b := 2) 9223372036854775808 rfl rfl (by decide) (by decide) (by decide) (Nat.lt_of_le_of_lt (Nat.div_le_self _ _) (by omega))) rfl rfl ?_
          refine AWo.pure (PureOp.assign rfl) rfl rfl ?_
          refine AWo.nil trivial ?_
          refine inBlockA_normal ?_
          refine thenA_normal ?_
          refine AW.region ?_
          refine AWo.pure (PureOp.move rfl) rfl rfl ?_
          first | refine AWo.pure (PureOp.addI (b := 1) rfl rfl (by first | decide | omega)) rfl rfl ?_ | refine AWo.pure (PureOp.bin rfl rfl rfl) rfl rfl ?_
          refine AWo.pure (PureOp.assign rfl) rfl rfl ?_
          refine AWo.nil trivial ?_
          refine thenA_normal ?_
          refine ⟨bits - 1 - i - (j + 1), [], _, by omega, ?_, j + 1, by omega, rfl, rfl⟩
          refine Wk.of [0, 77000] ?_ ?_ ?_ (by decide) rfl
          ·
            refine WkE.upd rfl (by first | exact VR.flat _ rfl | exact VR.eqv (by first | rfl | (congr 1; omega) | (simp; done) | (simp; omega)) rfl) ?_
            refine WkE.upd rfl (.slice (77000) 0 _ 0 ⟨_, rfl⟩ (by simp) (by simp)) ?_
            refine WkE.upd rfl (VR.eqv (by first | rfl | (simp only [vi]; congr 1; omega)) rfl) ?_
            refine WkE.upd rfl (by first | exact VR.flat _ rfl | exact VR.eqv (by first | rfl | (congr 1; omega) | (simp; done) | (simp; omega)) rfl) ?_
            refine WkE.upd rfl (VR.eqv (by simp [Nat.pow_succ, Nat.div_div_eq_div_mul]) rfl) ?_
            exact WkE.emp
          ·
            refine WkM.flatM rfl (by first | rfl | assumption | simp) (fun _ => rfl) (fun h => h) ?_
            refine WkM.flat rfl (by simp [flatV, flat_vi]) (fun h => h) ?_
            exact WkM.emp
          ·
            repeat (refine dom_upd_mem (by decide) ?_)
            exact dom_emp
        ·
          have hj2 : j = bits - 1 - i := by simp at hb1; omega
          subst hj2
          refine AW.exit ?_
          refine thenA_exit ?_
          refine thenA_exit ?_
          refine inBlockA_hit ?_
          refine thenA_normal ?_
          refine AW.region ?_
          refine AWo.pure (PureOp.move rfl) rfl rfl ?_
          refine AWo.pure (PureOp.move rfl) rfl rfl ?_
          first | refine AWo.pure (PureOp.remN (b := 2) rfl rfl (by first | decide | omega)) rfl rfl ?_ | refine AWo.pure (PureOp.rem rfl rfl (by first | decide | omega)) rfl rfl ?_
          first | refine AWo.pure (PureOp.eqN (b := 1) rfl rfl) rfl rfl ?_ | refine AWo.pure (PureOp.bin rfl rfl rfl) rfl rfl ?_
          refine AWo.buildSlice tbok 29000 [(0, .bool (n / 2 ^ (bits - 1 - i) % 2 == 1))] (out := [.bool (n / 2 ^ (bits - 1 - i) % 2 == 1)]) rfl rfl (by decide) rfl rfl rfl (by decide) rfl rfl rfl rfl rfl ?_
          refine AWo.append tbok (all := (l ++ (layL n bits).take (i + 1)).map Value.bool) 30000 rfl rfl rfl rfl (by rw [List.length_map, List.length_append, hlen, Nat.mul_one]) rfl (by first | decide | (simp; done) | (simp; omega)) (by decide) rfl rfl rfl (by decide) rfl rfl rfl (by first | decide | omega) (by first | decide | omega) rfl (lay_push hi) rfl rfl ?_
          refine AWo.pure (PureOp.assign rfl) rfl rfl ?_
          refine AWo.nil trivial ?_
          refine inBlockA_normal ?_
          refine thenA_normal ?_
          refine AW.region ?_
          refine AWo.pure (PureOp.move rfl) rfl rfl ?_
          first | refine AWo.pure ((PureOp.subI (b := 1) rfl rfl (by first | decide | omega) (by first | decide | omega)).mono (v' := .int .i64 ((bits : Nat) - 1 - (i + 1 : Nat))) (by rw [IntWalk.i64_in _ (by omega)]; congr 1; omega)) rfl rfl ?_ | refine AWo.pure ((PureOp.bin rfl rfl rfl).mono (v' := .int .i64 ((bits : Nat) - 1 - (i + 1 : Nat))) (by rw [IntWalk.i64_in _ (by omega)]; congr 1; omega)) rfl rfl ?_
          refine AWo.pure (PureOp.assign rfl) rfl rfl ?_
          refine AWo.nil trivial ?_
          refine thenA_normal ?_
          refine ⟨bits - (i + 1), [(77000, 30000)], _, by omega, ?_, i + 1, by omega, rfl, rfl⟩
          refine Wk.of [0, 77000] ?_ ?_ ?_ (by decide) rfl
          ·
            refine WkE.upd rfl (by first | exact VR.flat _ rfl | exact VR.eqv (by first | rfl | (congr 1; omega) | (simp; done) | (simp; omega)) rfl) ?_
            refine WkE.upd rfl (.slice (77000) 0 _ 0 ⟨_, rfl⟩ (by simp) (by simp)) ?_
            refine WkE.upd rfl (by first | exact VR.flat _ rfl | exact VR.eqv (by first | rfl | (congr 1; omega) | (simp; done) | (simp; omega)) rfl) ?_
            exact WkE.emp
          ·
            refine WkM.flatM rfl (by first | rfl | assumption | simp) (fun _ => rfl) (fun h => h) ?_
            refine WkM.flat rfl (by simp [flatV, flat_vi]) (fun h => h) ?_
            exact WkM.emp
          ·
            repeat (refine dom_upd_mem (by decide) ?_)
            exact dom_emp
    ·
      have hi : i = bits := by simp at hb0; omega
      subst hi
      refine AW.exit ?_
      refine thenA_exit ?_
      refine thenA_exit ?_
      refine inBlockA_hit ?_
      refine thenA_normal ?_
      refine AW.seqR ?_
      refine AWo.pure (PureOp.move rfl) rfl rfl ?_
      refine AWo.pure (PureOp.assign rfl) rfl rfl ?_
      refine AWo.nil trivial ?_
      refine AW.ret ?_
      rw [List.take_of_length_le (by rw [layL_len]; exact Nat.le_refl _)]
      refine RetQ.gc [_] [77000] [.tmp 6] (.inl rfl) rfl (.tmp rfl .nil) rfl (.cons rfl (by simp [ren, ren1, hmap, layL_len]) .nil) (OutL.husk rfl rfl (OutL.flat rfl (by first | exact flatM flat_vi | exact flatM flat_bool | exact srcC_flat | exact flatM (fun _ => rfl)) (by intro h; first | rfl | (rcases h with h | h; · exact h; · exact absurd h.1 (by decide))) trivial)) (by decide) rfl

set_option maxRecDepth 10000 in
theorem bitr_ctr {k : Nat} {s : GS} {p : GS × Bool} (hv : GV s) (hp : gN k s = some p) : GC Try.prog 30 [.agg ((refl s).map Value.bool).toArray] [] [.agg ((refl p.1).map Value.bool).toArray, .bool p.2] [] := by
  refine GC.intro Try.func30 rfl (by show 1 ≤ 22; decide) (by first | exact Nat.le_refl _ | decide | simp) ?_
  refine AW.seqR ?_
  refine AWo.box 2000 1 ((refl s).map Value.bool) rfl rfl rfl rfl rfl ?_
  refine AWo.alloc tbok 3000 1 ((List.replicate 80 false).map Value.bool) rfl rfl rfl rfl rfl rfl ?_
  refine AWo.pure (PureOp.assign rfl) rfl rfl ?_
  refine AWo.nil trivial ?_
  refine AW.block ?_
  refine AW.loopw (fun mm σ => ∃ k, ∃ (s : GS), (GV s ∧ gN k s = some p) ∧ mm = 1 * k ∧ σ = ⟨(upd (upd emp 1 (.pointer (some ⟨2000, 0, none⟩))) 2 (.pointer (some ⟨3000, 0, none⟩))), (upd (upd emp 2000 ⟨(refl s).map Value.bool, true, 1⟩) 3000 ⟨(List.replicate 80 false).map Value.bool, true, 1⟩)⟩) (fm := []) ?_ ⟨k, s, ⟨hv, hp⟩, rfl, rfl⟩ ?_
  ·
    refine Wk.of [2000, 3000] ?_ ?_ ?_ (by decide) rfl
    ·
      refine WkE.upd rfl (.ptr (3000) 0 ⟨_, rfl⟩) ?_
      refine WkE.upd rfl (.ptr (2000) 0 ⟨_, rfl⟩) ?_
      exact WkE.emp
    ·
      refine WkM.flatM rfl (by first | rfl | assumption | simp) (fun _ => rfl) (fun h => h) ?_
      refine WkM.flatM rfl (by first | rfl | assumption | simp) (fun _ => rfl) (fun h => h) ?_
      exact WkM.emp
    ·
      repeat (refine dom_upd_mem (by decide) ?_)
      exact dom_emp
  ·
    rintro mm σ ⟨k, s, ⟨hv, hp⟩, rfl, rfl⟩
    have hl0 := refl_len s
    have hl1 := refl_len (gst s)
    have hl2 := refl_len (gst (gst s))
    obtain ⟨k, rfl⟩ : ∃ k', k = k' + 1 := by cases k with | zero => cases hp | succ k => exact ⟨k, rfl⟩
    refine AW.block ?_
    refine AW.seqR ?_
    first | refine AWo.loadAll tbok rfl rfl rfl rfl (by first | (simp [*]; done) | rfl) rfl rfl ?_ | refine AWo.loadAgg tbok rfl rfl rfl rfl (by first | decide | omega) rfl rfl rfl ?_
    refine AWo.callX (turnr_ctr hv) bd113 [] [] rfl (.cons rfl .nil) rfl (.pure (by first | rfl | exact pure_aggM flat_vi | exact pure_aggM flat_bool) .nil) .nil rfl .nil frN (by decide) (.pure (by first | rfl | exact pure_aggM flat_vi | exact pure_aggM flat_bool) (.cons rfl rfl .nil)) rfl rfl rfl rfl ?_
    refine AWo.pure (PureOp.move rfl) rfl rfl ?_
    refine AWo.pure (PureOp.extract rfl rfl) rfl rfl ?_
    refine AWo.pure (PureOp.extract rfl rfl) rfl rfl ?_
    refine AWo.alloc tbok 5000 1 ((List.replicate 80 false).map Value.bool) rfl rfl rfl rfl rfl rfl ?_
    refine AWo.storeAllN tbok rfl rfl rfl rfl (by first | (simp [*]; done) | rfl) (by first | (simp [*]; done) | rfl) (by first | exact oneM (fun _ => rfl) _ | rfl | (simp; done)) rfl ?_
    refine AWo.pure (PureOp.assign rfl) rfl rfl ?_
    refine AWo.nil trivial ?_
    refine AW.seqR ?_
    first | refine AWo.loadAll tbok rfl rfl rfl rfl (by first | (simp [*]; done) | rfl) rfl rfl ?_ | refine AWo.loadAgg tbok rfl rfl rfl rfl (by first | decide | omega) rfl rfl rfl ?_
    refine AWo.callX (turnr_ctr hv.gst) bd113 [] [] rfl (.cons rfl .nil) rfl (.pure (by first | rfl | exact pure_aggM flat_vi | exact pure_aggM flat_bool) .nil) .nil rfl .nil frN (by decide) (.pure (by first | rfl | exact pure_aggM flat_vi | exact pure_aggM flat_bool) (.cons rfl rfl .nil)) rfl rfl rfl rfl ?_
    refine AWo.pure (PureOp.move rfl) rfl rfl ?_
    refine AWo.pure (PureOp.extract rfl rfl) rfl rfl ?_
    refine AWo.pure (PureOp.extract rfl rfl) rfl rfl ?_
    refine AWo.alloc tbok 7000 1 ((List.replicate 80 false).map Value.bool) rfl rfl rfl rfl rfl rfl ?_
    refine AWo.storeAllN tbok rfl rfl rfl rfl (by first | (simp [*]; done) | rfl) (by first | (simp [*]; done) | rfl) (by first | exact oneM (fun _ => rfl) _ | rfl | (simp; done)) rfl ?_
    refine AWo.pure (PureOp.assign rfl) rfl rfl ?_
    refine AWo.nil trivial ?_
    refine AW.seqR ?_
    first | refine AWo.loadAll tbok rfl rfl rfl rfl (by first | (simp [*]; done) | rfl) rfl rfl ?_ | refine AWo.loadAgg tbok rfl rfl rfl rfl (by first | decide | omega) rfl rfl rfl ?_
    refine AWo.storeAllN tbok rfl rfl rfl rfl (by first | (simp [*]; done) | rfl) (by first | (simp [*]; done) | rfl) (by first | exact oneM (fun _ => rfl) _ | rfl | (simp; done)) rfl ?_
    refine AWo.nil trivial ?_
    refine AW.seqR ?_
    refine AWo.pure (PureOp.move rfl) rfl rfl ?_
    refine AWo.nil trivial ?_
    refine AW.cond rfl (fun hb0 => ?_) (fun hb0 => ?_)
    ·
      have hg : gbit s = true := by simpa using hb0
      rw [gN, if_pos hg] at hp
      cases hp
      refine AW.seqR ?_
      first | refine AWo.loadAll tbok rfl rfl rfl rfl (by first | (simp [*]; done) | rfl) rfl rfl ?_ | refine AWo.loadAgg tbok rfl rfl rfl rfl (by first | decide | omega) rfl rfl rfl ?_
      refine AWo.pure (PureOp.move rfl) rfl rfl ?_
      refine AWo.storeAllN tbok rfl rfl rfl rfl (by first | (simp [*]; done) | rfl) (by first | (simp [*]; done) | rfl) (by first | exact oneM (fun _ => rfl) _ | rfl | (simp; done)) rfl ?_
      refine AWo.pure (PureOp.assign rfl) rfl rfl ?_
      refine AWo.nil trivial ?_
      refine AW.ret ?_
      refine inBlockA_ret ?_
      refine thenA_ret ?_
      refine inBlockA_ret ?_
      refine RetQ.gc [_, _] [] [.cell 2 30, .tmp 3] (.inl rfl) rfl (.val (RVal.cellAll tbok rfl rfl rfl rfl (by first | (simp [*]; done) | rfl)) (.tmp rfl .nil)) rfl (.pure (by first | rfl | exact pure_aggM flat_vi | exact pure_aggM flat_bool) (.cons rfl rfl .nil)) trivial (by decide) rfl
    ·
      refine AW.skip ?_
      refine inBlockA_normal ?_
      refine thenA_normal ?_
      refine ⟨1 * k, [], _, by omega, ?_, k, gst (gst s), ⟨hv.gst.gst, by rw [gN, if_neg (by simpa using hb0)] at hp; exact hp⟩, rfl, rfl⟩
      refine Wk.of [2000, 3000] ?_ ?_ ?_ (by decide) rfl
      ·
        refine WkE.upd rfl (.ptr (3000) 0 ⟨_, rfl⟩) ?_
        refine WkE.upd rfl (.ptr (2000) 0 ⟨_, rfl⟩) ?_
        exact WkE.emp
      ·
        refine WkM.flatM rfl (by first | rfl | assumption | simp) (fun _ => rfl) (fun h => h) ?_
        refine WkM.flatM rfl (by first | rfl | assumption | simp) (fun _ => rfl) (fun h => h) ?_
        exact WkM.emp
      ·
        repeat (refine dom_upd_mem (by decide) ?_)
        exact dom_emp

set_option maxRecDepth 10000 in
theorem newr_ctr {b w f p : Nat} (hb : 1 ≤ b ∧ b ≤ 4095) (hw : 1 ≤ w ∧ w ≤ 4095) (hf : f ≤ 1023) (hp : p ≤ 1023) : GC Try.prog 29 [vi .i64 b, vi .i64 w, vi .i64 f, vi .i64 p] [] [.agg ((refl (gnew b w f p)).map Value.bool).toArray, .int .i64 0] [] := by
  refine GC.intro Try.func29 rfl (by show 4 ≤ 67; decide) (by first | exact Nat.le_refl _ | decide | simp) ?_
  refine AW.seqR ?_
  refine AWo.alloc tbok 9000 1 ((List.replicate 80 false).map Value.bool) rfl rfl rfl rfl rfl rfl ?_
  refine AWo.pure (PureOp.assign rfl) rfl rfl ?_
  refine AWo.nil trivial ?_
  refine AW.seq ?_
  refine AW.seqR ?_
  refine AWo.pure (PureOp.move rfl) rfl rfl ?_
  refine AWo.callX (in_ctr) bd111 [] [] rfl (.cons rfl (.cons rfl (.cons rfl .nil))) rfl (.cons rfl rfl (.cons rfl rfl (.cons rfl rfl .nil))) .nil rfl .nil frN (by decide) (.cons rfl rfl .nil) rfl rfl rfl rfl ?_
  first | refine AWo.pure ((PureOp.not rfl).mono (v' := .bool false) (by simp [inb]; omega)) rfl rfl ?_
  refine AWo.pure (PureOp.move rfl) rfl rfl ?_
  refine AWo.pure (PureOp.move rfl) rfl rfl ?_
  refine AWo.callX (in_ctr) bd111 [] [] rfl (.cons rfl (.cons rfl (.cons rfl .nil))) rfl (.cons rfl rfl (.cons rfl rfl (.cons rfl rfl .nil))) .nil rfl .nil frN (by decide) (.cons rfl rfl .nil) rfl rfl rfl rfl ?_
  first | refine AWo.pure ((PureOp.not rfl).mono (v' := .bool false) (by simp [inb]; omega)) rfl rfl ?_
  refine AWo.pure (PureOp.pickF rfl rfl) rfl rfl ?_
  refine AWo.pure (PureOp.move rfl) rfl rfl ?_
  refine AWo.pure (PureOp.move rfl) rfl rfl ?_
  refine AWo.callX (in_ctr) bd111 [] [] rfl (.cons rfl (.cons rfl (.cons rfl .nil))) rfl (.cons rfl rfl (.cons rfl rfl (.cons rfl rfl .nil))) .nil rfl .nil frN (by decide) (.cons rfl rfl .nil) rfl rfl rfl rfl ?_
  first | refine AWo.pure ((PureOp.not rfl).mono (v' := .bool false) (by simp [inb]; omega)) rfl rfl ?_
  refine AWo.pure (PureOp.pickF rfl rfl) rfl rfl ?_
  refine AWo.pure (PureOp.move rfl) rfl rfl ?_
  refine AWo.pure (PureOp.move rfl) rfl rfl ?_
  refine AWo.callX (in_ctr) bd111 [] [] rfl (.cons rfl (.cons rfl (.cons rfl .nil))) rfl (.cons rfl rfl (.cons rfl rfl (.cons rfl rfl .nil))) .nil rfl .nil frN (by decide) (.cons rfl rfl .nil) rfl rfl rfl rfl ?_
  first | refine AWo.pure ((PureOp.not rfl).mono (v' := .bool false) (by simp [inb]; omega)) rfl rfl ?_
  refine AWo.pure (PureOp.pickF rfl rfl) rfl rfl ?_
  refine AWo.nil trivial ?_
  refine AW.condF rfl ?_
  refine AW.skip ?_
  refine thenA_normal ?_
  refine AW.ghost 5000 1 rfl ?_
  refine AW.seqR ?_
  refine AWo.callX (layr_ctr (l := []) (by decide) (by decide) (by decide)) bd112 [(5000, 0)] [34000] rfl (.cons rfl (.cons rfl (.cons rfl .nil))) rfl (.nilS (.cons rfl rfl (.cons rfl rfl .nil))) (.flat rfl (by first | exact flatM flat_vi | exact flatM flat_bool | exact srcC_flat | exact flatM (fun _ => rfl)) (by intro h; first | exact h | rfl) .nil) rfl (.gone rfl rfl (OkL.flat (by simp)) (.new (flat_map_ren (by first | exact flatM flat_vi | exact flatM flat_bool | exact srcC_flat | exact flatM (fun _ => rfl))) (OkL.flat (by first | exact flatM flat_vi | exact flatM flat_bool | exact srcC_flat | exact flatM (fun _ => rfl))) .nil)) (frC rfl frN) (by decide) (.cons rfl rfl .nil) rfl rfl rfl rfl ?_
  refine AWo.callX (layr_ctr (by first | decide | omega) (by decide) (by simp [layL_len])) bd112 [(34000, 0)] [35000] rfl (.cons rfl (.cons rfl (.cons rfl .nil))) rfl (.cons rfl rfl (.cons rfl rfl (.cons rfl rfl .nil))) (.flat rfl (by first | exact flatM flat_vi | exact flatM flat_bool | exact srcC_flat | exact flatM (fun _ => rfl)) (by intro h; first | exact h | rfl) .nil) rfl (.gone rfl rfl (OkL.flat (by simp)) (.new (flat_map_ren (by first | exact flatM flat_vi | exact flatM flat_bool | exact srcC_flat | exact flatM (fun _ => rfl))) (OkL.flat (by first | exact flatM flat_vi | exact flatM flat_bool | exact srcC_flat | exact flatM (fun _ => rfl))) .nil)) (frC rfl frN) (by decide) (.cons rfl rfl .nil) rfl rfl rfl rfl ?_
  refine AWo.pure (PureOp.move rfl) rfl rfl ?_
  refine AWo.callX (layr_ctr (by first | decide | omega) (by decide) (by simp [layL_len])) bd112 [(35000, 0)] [37000] rfl (.cons rfl (.cons rfl (.cons rfl .nil))) rfl (.cons rfl rfl (.cons rfl rfl (.cons rfl rfl .nil))) (.flat rfl (by first | exact flatM flat_vi | exact flatM flat_bool | exact srcC_flat | exact flatM (fun _ => rfl)) (by intro h; first | exact h | rfl) .nil) rfl (.gone rfl rfl (OkL.flat (by simp)) (.new (flat_map_ren (by first | exact flatM flat_vi | exact flatM flat_bool | exact srcC_flat | exact flatM (fun _ => rfl))) (OkL.flat (by first | exact flatM flat_vi | exact flatM flat_bool | exact srcC_flat | exact flatM (fun _ => rfl))) .nil)) (frC rfl frN) (by decide) (.cons rfl rfl .nil) rfl rfl rfl rfl ?_
  refine AWo.pure (PureOp.assign rfl) rfl rfl ?_
  refine AWo.nil trivial ?_
  refine AW.seqR ?_
  refine AWo.pure (PureOp.move rfl) rfl rfl ?_
  refine AWo.pure (PureOp.move rfl) rfl rfl ?_
  refine AWo.callX (layr_ctr (by first | decide | omega) (by decide) (by simp [layL_len])) bd112 [(37000, 0)] [40000] rfl (.cons rfl (.cons rfl (.cons rfl .nil))) rfl (.cons rfl rfl (.cons rfl rfl (.cons rfl rfl .nil))) (.flat rfl (by first | exact flatM flat_vi | exact flatM flat_bool | exact srcC_flat | exact flatM (fun _ => rfl)) (by intro h; first | exact h | rfl) .nil) rfl (.gone rfl rfl (OkL.flat (by simp)) (.new (flat_map_ren (by first | exact flatM flat_vi | exact flatM flat_bool | exact srcC_flat | exact flatM (fun _ => rfl))) (OkL.flat (by first | exact flatM flat_vi | exact flatM flat_bool | exact srcC_flat | exact flatM (fun _ => rfl))) .nil)) (frC rfl frN) (by decide) (.cons rfl rfl .nil) rfl rfl rfl rfl ?_
  refine AWo.pure (PureOp.move rfl) rfl rfl ?_
  refine AWo.callX (layr_ctr (by first | decide | omega) (by decide) (by simp [layL_len])) bd112 [(40000, 0)] [42000] rfl (.cons rfl (.cons rfl (.cons rfl .nil))) rfl (.cons rfl rfl (.cons rfl rfl (.cons rfl rfl .nil))) (.flat rfl (by first | exact flatM flat_vi | exact flatM flat_bool | exact srcC_flat | exact flatM (fun _ => rfl)) (by intro h; first | exact h | rfl) .nil) rfl (.gone rfl rfl (OkL.flat (by simp)) (.new (flat_map_ren (by first | exact flatM flat_vi | exact flatM flat_bool | exact srcC_flat | exact flatM (fun _ => rfl))) (OkL.flat (by first | exact flatM flat_vi | exact flatM flat_bool | exact srcC_flat | exact flatM (fun _ => rfl))) .nil)) (frC rfl frN) (by decide) (.cons rfl rfl .nil) rfl rfl rfl rfl ?_
  refine AWo.pure (PureOp.move rfl) rfl rfl ?_
  refine AWo.callX (layr_ctr (by first | decide | omega) (by decide) (by simp [layL_len])) bd112 [(42000, 0)] [44000] rfl (.cons rfl (.cons rfl (.cons rfl .nil))) rfl (.cons rfl rfl (.cons rfl rfl (.cons rfl rfl .nil))) (.flat rfl (by first | exact flatM flat_vi | exact flatM flat_bool | exact srcC_flat | exact flatM (fun _ => rfl)) (by intro h; first | exact h | rfl) .nil) rfl (.gone rfl rfl (OkL.flat (by simp)) (.new (flat_map_ren (by first | exact flatM flat_vi | exact flatM flat_bool | exact srcC_flat | exact flatM (fun _ => rfl))) (OkL.flat (by first | exact flatM flat_vi | exact flatM flat_bool | exact srcC_flat | exact flatM (fun _ => rfl))) .nil)) (frC rfl frN) (by decide) (.cons rfl rfl .nil) rfl rfl rfl rfl ?_
  refine AWo.pure (PureOp.assign rfl) rfl rfl ?_
  refine AWo.nil trivial ?_
  refine AW.seqR ?_
  refine AWo.pure (PureOp.move rfl) rfl rfl ?_
  refine AWo.callX (layr_ctr (by first | decide | omega) (by decide) (by simp [layL_len])) bd112 [(44000, 0)] [46000] rfl (.cons rfl (.cons rfl (.cons rfl .nil))) rfl (.cons rfl rfl (.cons rfl rfl (.cons rfl rfl .nil))) (.flat rfl (by first | exact flatM flat_vi | exact flatM flat_bool | exact srcC_flat | exact flatM (fun _ => rfl)) (by intro h; first | exact h | rfl) .nil) rfl (.gone rfl rfl (OkL.flat (by simp)) (.new (flat_map_ren (by first | exact flatM flat_vi | exact flatM flat_bool | exact srcC_flat | exact flatM (fun _ => rfl))) (OkL.flat (by first | exact flatM flat_vi | exact flatM flat_bool | exact srcC_flat | exact flatM (fun _ => rfl))) .nil)) (frC rfl frN) (by decide) (.cons rfl rfl .nil) rfl rfl rfl rfl ?_
  refine AWo.pure (PureOp.assign rfl) rfl rfl ?_
  refine AWo.nil trivial ?_
  refine AW.seqR ?_
  refine AWo.pure ((PureOp.buildArr tbok [] rfl rfl rfl (by decide) rfl rfl).mono (v' := .agg ((List.replicate 80 false).map Value.bool).toArray) rfl) rfl rfl ?_
  refine AWo.alloc tbok 12000 1 ((List.replicate 80 false).map Value.bool) rfl rfl rfl rfl rfl rfl ?_
  refine AWo.storeAllN tbok rfl rfl rfl rfl (by first | (simp [*]; done) | rfl) (by first | (simp [*]; done) | rfl) (by first | exact oneM (fun _ => rfl) _ | rfl | (simp; done)) rfl ?_
  refine AWo.nil trivial ?_
  refine AW.seq ?_
  have hil := iniL_len b w f p
  refine AW.seqR ?_
  refine AWo.pure (PureOp.assign rfl) rfl rfl ?_
  refine AWo.nil trivial ?_
  refine AW.block ?_
  refine AW.loopw (fun mm σ => ∃ i, (i ≤ 80) ∧ mm = 80 - i ∧ σ = ⟨(upd (upd (upd (upd emp 8 (.pointer (some ⟨9000, 0, none⟩))) 11 (.pointer (some ⟨12000, 0, none⟩))) 10 (.slice (some ⟨46000, 0, none⟩) (iniL b w f p).length 0)) 12 (vi .i64 i)), (upd (upd (upd emp 9000 ⟨(List.replicate 80 false).map Value.bool, true, 1⟩) 12000 ⟨((iniL b w f p).take i ++ List.replicate (80 - i) false).map Value.bool, true, 1⟩) 46000 ⟨(iniL b w f p).map Value.bool, true, 1⟩)⟩) (fm := []) ?_ ⟨0, Nat.zero_le _, rfl, rfl⟩ ?_
  ·
    refine Wk.of [9000, 12000, 46000] ?_ ?_ ?_ (by decide) rfl
    ·
      refine WkE.upd rfl (by first | exact VR.flat _ rfl | exact VR.eqv (by first | rfl | (congr 1; omega) | (simp; done) | (simp; omega)) rfl) ?_
      refine WkE.upd rfl (.slice (46000) 0 _ 0 ⟨_, rfl⟩ (by simp) (by simp)) ?_
      refine WkE.upd rfl (.ptr (12000) 0 ⟨_, rfl⟩) ?_
      refine WkE.upd rfl (.ptr (9000) 0 ⟨_, rfl⟩) ?_
      exact WkE.emp
    ·
      refine WkM.flatM rfl (by first | rfl | assumption | simp) (fun _ => rfl) (fun h => h) ?_
      refine WkM.flatM rfl (by first | rfl | exact copy_set hi hil) flat_bool (fun h => h) ?_
      refine WkM.flatM rfl (by first | rfl | assumption | simp) (fun _ => rfl) (fun h => h) ?_
      exact WkM.emp
    ·
      repeat (refine dom_upd_mem (by decide) ?_)
      exact dom_emp
  ·
    rintro mm σ ⟨i, hinv, rfl, rfl⟩
    have hlc : ((iniL b w f p).take i ++ List.replicate (80 - i) false).length = 80 := by simp [hil]; omega
    refine AW.seq ?_
    refine AW.seqR ?_
    refine AWo.pure (PureOp.move rfl) rfl rfl ?_
    first | refine AWo.pure (PureOp.ltN (b := 80) rfl rfl) rfl rfl ?_ | refine AWo.pure (PureOp.bin rfl rfl rfl) rfl rfl ?_
    refine AWo.nil trivial ?_
    refine AW.cond rfl (fun hb0 => ?_) (fun hb0 => ?_)
    ·
      have hi : i < 80 := by simpa using hb0
      refine AW.skip ?_
      refine thenA_normal ?_
      refine AW.seq ?_
      refine AW.block ?_
      refine AW.region ?_
      refine AWo.pure (PureOp.move rfl) rfl rfl ?_
      refine AWo.pure (PureOp.move rfl) rfl rfl ?_
      refine AWo.pure (PureOp.move rfl) rfl rfl ?_
      refine AWo.pure (PureOp.idx1 tbok rfl rfl rfl rfl (by rw [hil]; exact hi)) rfl rfl ?_
      refine AWo.loadM tbok false rfl rfl rfl (by rw [hil]; exact hi) rfl rfl ?_
      refine AWo.pure (PureOp.arr1 tbok rfl rfl rfl rfl hi) rfl rfl ?_
      refine AWo.storeM (f := Value.bool) tbok rfl rfl rfl rfl (by rw [hlc]; exact hi) rfl rfl ?_
      refine AWo.nil trivial ?_
      refine inBlockA_normal ?_
      refine thenA_normal ?_
      refine AW.region ?_
      refine AWo.pure (PureOp.move rfl) rfl rfl ?_
      first | refine AWo.pure (PureOp.addI (b := 1) rfl rfl (by first | decide | omega)) rfl rfl ?_ | refine AWo.pure (PureOp.bin rfl rfl rfl) rfl rfl ?_
      refine AWo.pure (PureOp.assign rfl) rfl rfl ?_
      refine AWo.nil trivial ?_
      refine thenA_normal ?_
      refine ⟨80 - (i + 1), [], _, by omega, ?_, i + 1, by omega, rfl, rfl⟩
      refine Wk.of [9000, 12000, 46000] ?_ ?_ ?_ (by decide) rfl
      ·
        refine WkE.upd rfl (by first | exact VR.flat _ rfl | exact VR.eqv (by first | rfl | (congr 1; omega) | (simp; done) | (simp; omega)) rfl) ?_
        refine WkE.upd rfl (.slice (46000) 0 _ 0 ⟨_, rfl⟩ (by simp) (by simp)) ?_
        refine WkE.upd rfl (.ptr (12000) 0 ⟨_, rfl⟩) ?_
        refine WkE.upd rfl (.ptr (9000) 0 ⟨_, rfl⟩) ?_
        exact WkE.emp
      ·
        refine WkM.flatM rfl (by first | rfl | assumption | simp) (fun _ => rfl) (fun h => h) ?_
        refine WkM.flatM rfl (by first | rfl | exact copy_set hi hil) flat_bool (fun h => h) ?_
        refine WkM.flatM rfl (by first | rfl | assumption | simp) (fun _ => rfl) (fun h => h) ?_
        exact WkM.emp
      ·
        repeat (refine dom_upd_mem (by decide) ?_)
        exact dom_emp
    ·
      have hi : i = 80 := by simp at hb0; omega
      subst hi
      refine AW.exit ?_
      refine thenA_exit ?_
      refine thenA_exit ?_
      refine inBlockA_hit ?_
      refine thenA_normal ?_
      refine AW.seq ?_
      rw [copy80 b w f p]
      refine AW.seqR ?_
      refine AWo.pure (PureOp.assign rfl) rfl rfl ?_
      refine AWo.nil trivial ?_
      refine AW.block ?_
      refine AW.loopw (fun mm σ => ∃ i, (i ≤ 160) ∧ mm = 160 - i ∧ σ = ⟨(upd (upd (upd emp 8 (.pointer (some ⟨9000, 0, none⟩))) 11 (.pointer (some ⟨12000, 0, none⟩))) 13 (vi .i64 i)), (upd (upd emp 9000 ⟨(List.replicate 80 false).map Value.bool, true, 1⟩) 12000 ⟨(refl (git i (gini b w f p))).map Value.bool, true, 1⟩)⟩) (fm := []) ?_ ⟨0, Nat.zero_le _, rfl, rfl⟩ ?_
      ·
        refine Wk.of [9000, 12000] ?_ ?_ ?_ (by decide) rfl
        ·
          refine WkE.upd rfl (by first | exact VR.flat _ rfl | exact VR.eqv (by first | rfl | (congr 1; omega) | (simp; done) | (simp; omega)) rfl) ?_
          refine WkE.upd rfl (.ptr (12000) 0 ⟨_, rfl⟩) ?_
          refine WkE.upd rfl (.ptr (9000) 0 ⟨_, rfl⟩) ?_
          exact WkE.emp
        ·
          refine WkM.flatM rfl (by first | rfl | exact (congrArg refl (git_gst i _)).trans rfl) flat_bool (fun h => h) ?_
          refine WkM.flatM rfl (by first | rfl | assumption | simp) (fun _ => rfl) (fun h => h) ?_
          exact WkM.emp
        ·
          repeat (refine dom_upd_mem (by decide) ?_)
          exact dom_emp
      ·
        rintro mm σ ⟨i, hinv, rfl, rfl⟩
        have hl0 := refl_len (git i (gini b w f p))
        have hl1 := refl_len (gst (git i (gini b w f p)))
        refine AW.seq ?_
        refine AW.seqR ?_
        refine AWo.pure (PureOp.move rfl) rfl rfl ?_
        first | refine AWo.pure (PureOp.ltN (b := 160) rfl rfl) rfl rfl ?_ | refine AWo.pure (PureOp.bin rfl rfl rfl) rfl rfl ?_
        refine AWo.nil trivial ?_
        refine AW.cond rfl (fun hb1 => ?_) (fun hb1 => ?_)
        ·
          have hi : i < 160 := by simpa using hb1
          refine AW.skip ?_
          refine thenA_normal ?_
          refine AW.seq ?_
          refine AW.block ?_
          refine AW.region ?_
          first | refine AWo.loadAll tbok rfl rfl rfl rfl (by first | (simp [*]; done) | rfl) rfl rfl ?_ | refine AWo.loadAgg tbok rfl rfl rfl rfl (by first | decide | omega) rfl rfl rfl ?_
          refine AWo.callX (turnr_ctr ((gini_gv b w f p).git i)) bd113 [] [] rfl (.cons rfl .nil) rfl (.pure (by first | rfl | exact pure_aggM flat_vi | exact pure_aggM flat_bool) .nil) .nil rfl .nil frN (by decide) (.pure (by first | rfl | exact pure_aggM flat_vi | exact pure_aggM flat_bool) (.cons rfl rfl .nil)) rfl rfl rfl rfl ?_
          refine AWo.pure (PureOp.move rfl) rfl rfl ?_
          refine AWo.pure (PureOp.extract rfl rfl) rfl rfl ?_
          refine AWo.pure (PureOp.extract rfl rfl) rfl rfl ?_
          refine AWo.storeAllN tbok rfl rfl rfl rfl (by first | (simp [*]; done) | rfl) (by first | (simp [*]; done) | rfl) (by first | exact oneM (fun _ => rfl) _ | rfl | (simp; done)) rfl ?_
          refine AWo.nil trivial ?_
          refine inBlockA_normal ?_
          refine thenA_normal ?_
          refine AW.region ?_
          refine AWo.pure (PureOp.move rfl) rfl rfl ?_
          first | refine AWo.pure (PureOp.addI (b := 1) rfl rfl (by first | decide | omega)) rfl rfl ?_ | refine AWo.pure (PureOp.bin rfl rfl rfl) rfl rfl ?_
          refine AWo.pure (PureOp.assign rfl) rfl rfl ?_
          refine AWo.nil trivial ?_
          refine thenA_normal ?_
          refine ⟨160 - (i + 1), [], _, by omega, ?_, i + 1, by omega, rfl, rfl⟩
          refine Wk.of [9000, 12000] ?_ ?_ ?_ (by decide) rfl
          ·
            refine WkE.upd rfl (by first | exact VR.flat _ rfl | exact VR.eqv (by first | rfl | (congr 1; omega) | (simp; done) | (simp; omega)) rfl) ?_
            refine WkE.upd rfl (.ptr (12000) 0 ⟨_, rfl⟩) ?_
            refine WkE.upd rfl (.ptr (9000) 0 ⟨_, rfl⟩) ?_
            exact WkE.emp
          ·
            refine WkM.flatM rfl (by first | rfl | exact (congrArg refl (git_gst i _)).trans rfl) flat_bool (fun h => h) ?_
            refine WkM.flatM rfl (by first | rfl | assumption | simp) (fun _ => rfl) (fun h => h) ?_
            exact WkM.emp
          ·
            repeat (refine dom_upd_mem (by decide) ?_)
            exact dom_emp
        ·
          have hi : i = 160 := by simp at hb1; omega
          subst hi
          refine AW.exit ?_
          refine thenA_exit ?_
          refine thenA_exit ?_
          refine inBlockA_hit ?_
          refine thenA_normal ?_
          refine AW.seqR ?_
          first | refine AWo.loadAll tbok rfl rfl rfl rfl (by first | (simp [*]; done) | rfl) rfl rfl ?_ | refine AWo.loadAgg tbok rfl rfl rfl rfl (by first | decide | omega) rfl rfl rfl ?_
          refine AWo.storeAllN tbok rfl rfl rfl rfl (by first | (simp [*]; done) | rfl) (by first | (simp [*]; done) | rfl) (by first | exact oneM (fun _ => rfl) _ | rfl | (simp; done)) rfl ?_
          refine AWo.pure (PureOp.assign rfl) rfl rfl ?_
          refine AWo.nil trivial ?_
          refine AW.ret ?_
          refine RetQ.gc [_, _] [] [.cell 8 30, .tmp 9] (.inl rfl) rfl (.val (RVal.cellAll tbok rfl rfl rfl rfl (by first | (simp [*]; done) | rfl)) (.tmp rfl .nil)) rfl (.pure (by first | rfl | exact pure_aggM flat_vi | exact pure_aggM flat_bool) (.cons rfl rfl .nil)) trivial (by decide) rfl

set_option maxRecDepth 10000 in
theorem newrbad_ctr {b w f p : Int} (hbad : ¬ (1 ≤ b ∧ b ≤ 4095 ∧ 1 ≤ w ∧ w ≤ 4095 ∧ 0 ≤ f ∧ f ≤ 1023 ∧ 0 ≤ p ∧ p ≤ 1023)) : GC Try.prog 29 [.int .i64 b, .int .i64 w, .int .i64 f, .int .i64 p] [] [.agg ((List.replicate 80 false).map Value.bool).toArray, .int .i64 1] [] := by
  refine GC.intro Try.func29 rfl (by show 4 ≤ 67; decide) (by first | exact Nat.le_refl _ | decide | simp) ?_
  refine AW.seqR ?_
  refine AWo.alloc tbok 9000 1 ((List.replicate 80 false).map Value.bool) rfl rfl rfl rfl rfl rfl ?_
  refine AWo.pure (PureOp.assign rfl) rfl rfl ?_
  refine AWo.nil trivial ?_
  refine AW.seq ?_
  refine AW.seqR ?_
  refine AWo.pure (PureOp.move rfl) rfl rfl ?_
  refine AWo.callX (in_ctr) bd111 [] [] rfl (.cons rfl (.cons rfl (.cons rfl .nil))) rfl (.cons rfl rfl (.cons rfl rfl (.cons rfl rfl .nil))) .nil rfl .nil frN (by decide) (.cons rfl rfl .nil) rfl rfl rfl rfl ?_
  refine AWo.pure (PureOp.not rfl) rfl rfl ?_
  first | refine AWo.pureB (PureOp.move rfl) rfl rfl (fun hb0 => ?_) (fun hb0 => ?_)
  ·
    refine AWo.skipped rfl rfl ?_
    refine AWo.skipped rfl rfl ?_
    refine AWo.skipped rfl rfl ?_
    refine AWo.pure (PureOp.pickT rfl rfl) rfl rfl ?_
    refine AWo.pure (PureOp.move rfl) rfl rfl ?_
    refine AWo.skipped rfl rfl ?_
    refine AWo.skipped rfl rfl ?_
    refine AWo.skipped rfl rfl ?_
    refine AWo.pure (PureOp.pickT rfl rfl) rfl rfl ?_
    refine AWo.pure (PureOp.move rfl) rfl rfl ?_
    refine AWo.skipped rfl rfl ?_
    refine AWo.skipped rfl rfl ?_
    refine AWo.skipped rfl rfl ?_
    refine AWo.pure (PureOp.pickT rfl rfl) rfl rfl ?_
    refine AWo.nil trivial ?_
    refine AW.condT rfl ?_
    refine AW.seqR ?_
    refine AWo.pure ((PureOp.buildArr tbok [] rfl rfl rfl (by decide) rfl rfl).mono (v' := .agg ((List.replicate 80 false).map Value.bool).toArray) rfl) rfl rfl ?_
    refine AWo.storeAllN tbok rfl rfl rfl rfl (by first | (simp [*]; done) | rfl) (by first | (simp [*]; done) | rfl) (by first | exact oneM (fun _ => rfl) _ | rfl | (simp; done)) rfl ?_
    refine AWo.pure (PureOp.assign rfl) rfl rfl ?_
    refine AWo.nil trivial ?_
    refine AW.ret ?_
    refine thenA_ret ?_
    refine RetQ.gc [_, _] [] [.cell 8 30, .tmp 9] (.inl rfl) rfl (.val (RVal.cellAll tbok rfl rfl rfl rfl (by first | (simp [*]; done) | rfl)) (.tmp rfl .nil)) rfl (.pure (by first | rfl | exact pure_aggM flat_vi | exact pure_aggM flat_bool) (.cons rfl rfl .nil)) trivial (by decide) rfl
  ·
    refine AWo.pure (PureOp.move rfl) rfl rfl ?_
    refine AWo.callX (in_ctr) bd111 [] [] rfl (.cons rfl (.cons rfl (.cons rfl .nil))) rfl (.cons rfl rfl (.cons rfl rfl (.cons rfl rfl .nil))) .nil rfl .nil frN (by decide) (.cons rfl rfl .nil) rfl rfl rfl rfl ?_
    refine AWo.pure (PureOp.not rfl) rfl rfl ?_
    refine AWo.pure (PureOp.pickF rfl rfl) rfl rfl ?_
    first | refine AWo.pureB (PureOp.move rfl) rfl rfl (fun hb1 => ?_) (fun hb1 => ?_)
    ·
      refine AWo.skipped rfl rfl ?_
      refine AWo.skipped rfl rfl ?_
      refine AWo.skipped rfl rfl ?_
      refine AWo.pure (PureOp.pickT rfl rfl) rfl rfl ?_
      refine AWo.pure (PureOp.move rfl) rfl rfl ?_
      refine AWo.skipped rfl rfl ?_
      refine AWo.skipped rfl rfl ?_
      refine AWo.skipped rfl rfl ?_
      refine AWo.pure (PureOp.pickT rfl rfl) rfl rfl ?_
      refine AWo.nil trivial ?_
      refine AW.condT rfl ?_
      refine AW.seqR ?_
      refine AWo.pure ((PureOp.buildArr tbok [] rfl rfl rfl (by decide) rfl rfl).mono (v' := .agg ((List.replicate 80 false).map Value.bool).toArray) rfl) rfl rfl ?_
      refine AWo.storeAllN tbok rfl rfl rfl rfl (by first | (simp [*]; done) | rfl) (by first | (simp [*]; done) | rfl) (by first | exact oneM (fun _ => rfl) _ | rfl | (simp; done)) rfl ?_
      refine AWo.pure (PureOp.assign rfl) rfl rfl ?_
      refine AWo.nil trivial ?_
      refine AW.ret ?_
      refine thenA_ret ?_
      refine RetQ.gc [_, _] [] [.cell 8 30, .tmp 9] (.inl rfl) rfl (.val (RVal.cellAll tbok rfl rfl rfl rfl (by first | (simp [*]; done) | rfl)) (.tmp rfl .nil)) rfl (.pure (by first | rfl | exact pure_aggM flat_vi | exact pure_aggM flat_bool) (.cons rfl rfl .nil)) trivial (by decide) rfl
    ·
      refine AWo.pure (PureOp.move rfl) rfl rfl ?_
      refine AWo.callX (in_ctr) bd111 [] [] rfl (.cons rfl (.cons rfl (.cons rfl .nil))) rfl (.cons rfl rfl (.cons rfl rfl (.cons rfl rfl .nil))) .nil rfl .nil frN (by decide) (.cons rfl rfl .nil) rfl rfl rfl rfl ?_
      refine AWo.pure (PureOp.not rfl) rfl rfl ?_
      refine AWo.pure (PureOp.pickF rfl rfl) rfl rfl ?_
      first | refine AWo.pureB (PureOp.move rfl) rfl rfl (fun hb2 => ?_) (fun hb2 => ?_)
      ·
        refine AWo.skipped rfl rfl ?_
        refine AWo.skipped rfl rfl ?_
        refine AWo.skipped rfl rfl ?_
        refine AWo.pure (PureOp.pickT rfl rfl) rfl rfl ?_
        refine AWo.nil trivial ?_
        refine AW.condT rfl ?_
        refine AW.seqR ?_
        refine AWo.pure ((PureOp.buildArr tbok [] rfl rfl rfl (by decide) rfl rfl).mono (v' := .agg ((List.replicate 80 false).map Value.bool).toArray) rfl) rfl rfl ?_
        refine AWo.storeAllN tbok rfl rfl rfl rfl (by first | (simp [*]; done) | rfl) (by first | (simp [*]; done) | rfl) (by first | exact oneM (fun _ => rfl) _ | rfl | (simp; done)) rfl ?_
        refine AWo.pure (PureOp.assign rfl) rfl rfl ?_
        refine AWo.nil trivial ?_
        refine AW.ret ?_
        refine thenA_ret ?_
        refine RetQ.gc [_, _] [] [.cell 8 30, .tmp 9] (.inl rfl) rfl (.val (RVal.cellAll tbok rfl rfl rfl rfl (by first | (simp [*]; done) | rfl)) (.tmp rfl .nil)) rfl (.pure (by first | rfl | exact pure_aggM flat_vi | exact pure_aggM flat_bool) (.cons rfl rfl .nil)) trivial (by decide) rfl
      ·
        refine AWo.pure (PureOp.move rfl) rfl rfl ?_
        refine AWo.callX (in_ctr) bd111 [] [] rfl (.cons rfl (.cons rfl (.cons rfl .nil))) rfl (.cons rfl rfl (.cons rfl rfl (.cons rfl rfl .nil))) .nil rfl .nil frN (by decide) (.cons rfl rfl .nil) rfl rfl rfl rfl ?_
        refine AWo.pure (PureOp.not rfl) rfl rfl ?_
        refine AWo.pure (PureOp.pickF rfl rfl) rfl rfl ?_
        refine AWo.nil trivial ?_
        refine AW.cond rfl (fun hb3 => ?_) (fun hb3 => ?_)
        ·
          refine AW.seqR ?_
          refine AWo.pure ((PureOp.buildArr tbok [] rfl rfl rfl (by decide) rfl rfl).mono (v' := .agg ((List.replicate 80 false).map Value.bool).toArray) rfl) rfl rfl ?_
          refine AWo.storeAllN tbok rfl rfl rfl rfl (by first | (simp [*]; done) | rfl) (by first | (simp [*]; done) | rfl) (by first | exact oneM (fun _ => rfl) _ | rfl | (simp; done)) rfl ?_
          refine AWo.pure (PureOp.assign rfl) rfl rfl ?_
          refine AWo.nil trivial ?_
          refine AW.ret ?_
          refine thenA_ret ?_
          refine RetQ.gc [_, _] [] [.cell 8 30, .tmp 9] (.inl rfl) rfl (.val (RVal.cellAll tbok rfl rfl rfl rfl (by first | (simp [*]; done) | rfl)) (.tmp rfl .nil)) rfl (.pure (by first | rfl | exact pure_aggM flat_vi | exact pure_aggM flat_bool) (.cons rfl rfl .nil)) trivial (by decide) rfl
        ·
          exfalso
          apply hbad
          clear hbad
          simp [inb] at *
          omega
end Go.Proofs.Ytiikffiembcboaa
