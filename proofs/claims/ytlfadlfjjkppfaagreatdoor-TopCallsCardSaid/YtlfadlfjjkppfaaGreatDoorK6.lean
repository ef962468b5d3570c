/- What the proof stands on, part 6: the walk of each function, and plain laws of numbers. -/
import Derived.Test.YtlfadlfjjkppfaaGreatDoorK5
namespace Go.Proofs.YtlfadlfjjkppfaaGreatDoor
open Go Sim
set_option maxRecDepth 10000
theorem rotl_ctr {x k : Nat} (hx : x < 18446744073709551616) (hk : k < 9223372036854775808) : GC Tryz.prog 187 [vi .u64 (x), vi .i64 k] [] [vi .u64 (rotl x k)] [] := by
 refine gi Tryz.func187 ?_
 refine zS ?_
 refine yA ?_
 refine zN (zS ?_)
 refine yM ?_
 refine yP ((PureOp.cvtN tbok 18446744073709551616 rfl rfl rfl (by decide) (by decide) (by omega)).mono (v' := vi .u64 k) (by rfl)) ?_
 refine yP ((PureOp.andN (b := 63) 18446744073709551616 rfl rfl (by decide) (by decide) (by omega) (by decide)).mono (v' := vi .u64 (k % 64)) (congrArg (vi .u64) (Nat.and_two_pow_sub_one_eq_mod k 6))) ?_
 refine yA ?_
 refine zN (zS ?_)
 refine yM ?_
 refine yM ?_
 refine yP (PureOp.shlUge 18446744073709551616 rfl rfl rfl rfl) ?_
 refine yM ?_
 refine yM ?_
 refine yP ((PureOp.subU (a := 64) 18446744073709551616 rfl rfl rfl rfl (by omega)).mono (v' := vi .u64 (64 - k % 64)) (congrArg (vi .u64) (by omega))) ?_
 refine yP (PureOp.shrN 64 rfl rfl rfl (by omega)) ?_
 refine yP (PureOp.orN 18446744073709551616 rfl rfl (by decide) (by decide) (Nat.mod_lt _ (by decide)) (Nat.lt_of_le_of_lt (Nat.div_le_self _ _) hx)) ?_
 refine yA ?_
 refine zN (zE ?_)
 exact rq [] [.tmp 4]
set_option maxRecDepth 10000 in
theorem theta_ctr {s : List Nat} (hs : KS s) : GC Tryz.prog 182 [.agg ((s).map (vi .u64)).toArray] [] [.agg ((kth s).map (vi .u64)).toArray] [] := by
 refine gi Tryz.func182 ?_
 have hl0 := hs.1
 have hl2 := (kth_ok hs).1
 refine zS ?_
 refine yO 2000 1 ((s).map (vi .u64)) ?_
 refine yN 3000 1 ((List.replicate 25 0).map (vi .u64)) ?_
 refine zN (zS ?_)
 refine yN 4000 1 ((List.replicate 5 0).map (vi .u64)) ?_
 refine zN (zQ (zS ?_))
 refine yLA ?_
 refine yM ?_
 refine zN (zB ?_)
 refine AW.loopw (fun mm σ => ∃ i, (i ≤ 25) ∧ mm = 25 - i ∧ σ = ⟨(upd (upd (upd (upd (upd emp 1 (.pointer (some ⟨2000, 0, none⟩))) 2 (.pointer (some ⟨3000, 0, none⟩))) 3 (.pointer (some ⟨4000, 0, none⟩))) 8 (.agg (s.map (vi .u64)).toArray)) 9 (vi .i64 i)), (upd (upd (upd emp 2000 ⟨(s).map (vi .u64), true, 1⟩) 3000 ⟨((List.replicate 25 0)).map (vi .u64), true, 1⟩) 4000 ⟨(kcol s i).map (vi .u64), true, 1⟩)⟩) (fm := []) (wk [2000, 3000, 4000]) ⟨0, Nat.zero_le _, rfl, rfl⟩ ?_
 rintro mm σ ⟨i, hinv, rfl, rfl⟩
 have hC := kcol_ok hs i
 have hl1 := hC.1
 refine zS ?_
 refine yP (pLt (b := 25)) ?_
 refine zN (zQ ?_)
 refine zA (fun hb0 => ?_) (fun hb0 => ?_)
 ·
  have hi : i < 25 := by simpa using hb0
  refine zK (zT (zQ (zB (zS ?_))))
  refine yM ?_
  refine yP (PureOp.idxVM tbok 0 rfl rfl rfl rfl rfl (by omega) (by (simp [*]; done))) ?_
  refine yA ?_
  refine yA ?_
  refine zN (zR ?_)
  refine yM ?_
  refine yP ((PureOp.remN (b := 5) rfl rfl (by decide)).mono (v' := vi .i64 (i % 5)) rfl) ?_
  refine yP pA ?_
  refine yL 0 ?_
  refine yM ?_
  refine yP (PureOp.xorN 18446744073709551616 rfl rfl (by decide) (by decide) (bd_getD hC.2 (by decide) _) (hs.lt i)) ?_
  refine yP pA ?_
  refine yS (vi .u64) ?_
  refine zN (zL (zT (zR ?_)))
  refine yP (pAdd (b := 1)) ?_
  refine yM ?_
  refine zN (zT ?_)
  exact ⟨25 - (i + 1), [], _, by omega, wk [2000, 3000, 4000], i + 1, by omega, rfl, rfl⟩
 ·
  obtain rfl : i = 25 := by simp at hb0; omega
  refine zX (zV (zV (zH (zT (zQ (zS ?_))))))
  refine yM ?_
  refine zN (zB ?_)
  have hC := (kcol_ok hs 25).2
  have hl1 := (kcol_ok hs 25).1
  refine AW.loopw (fun mm σ => ∃ i, (i ≤ 25) ∧ mm = 25 - i ∧ σ = ⟨(upd (upd (upd (upd emp 1 (.pointer (some ⟨2000, 0, none⟩))) 2 (.pointer (some ⟨3000, 0, none⟩))) 3 (.pointer (some ⟨4000, 0, none⟩))) 21 (vi .i64 i)), (upd (upd (upd emp 2000 ⟨(kthG s (kcol s 25) i).map (vi .u64), true, 1⟩) 3000 ⟨((List.replicate 25 0)).map (vi .u64), true, 1⟩) 4000 ⟨(kcol s 25).map (vi .u64), true, 1⟩)⟩) (fm := []) (wk [2000, 3000, 4000]) ⟨0, Nat.zero_le _, rfl, rfl⟩ ?_
  rintro mm σ ⟨i, hinv, rfl, rfl⟩
  have hl3 := (kthG_ok hs hC i).1
  refine zS ?_
  refine yP (pLt (b := 25)) ?_
  refine zN (zQ ?_)
  refine zA (fun hb1 => ?_) (fun hb1 => ?_)
  ·
   have hi : i < 25 := by simpa using hb1
   refine zK (zT (zQ (zB (zS ?_))))
   refine yM ?_
   refine yA ?_
   refine zN (zS ?_)
   refine yM ?_
   refine yP ((PureOp.remN (b := 5) rfl rfl (by decide)).mono (v' := vi .i64 (i % 5)) rfl) ?_
   refine yA ?_
   refine zN ?_
   refine AW.draw mixed ?_
   refine yM ?_
   refine yP pA ?_
   refine yL 0 ?_
   refine yM ?_
   refine yP ((PureOp.addI (b := 4) rfl rfl (by omega)).mono (v' := vi .i64 (i % 5 + 4)) rfl) ?_
   refine yP ((PureOp.remN (b := 5) rfl rfl (by decide)).mono (v' := vi .i64 ((i % 5 + 4) % 5)) rfl) ?_
   refine yP pA ?_
   refine yL 0 ?_
   refine yM ?_
   refine yP ((PureOp.addI (b := 1) rfl rfl (by omega)).mono (v' := vi .i64 (i % 5 + 1)) rfl) ?_
   refine yP ((PureOp.remN (b := 5) rfl rfl (by decide)).mono (v' := vi .i64 ((i % 5 + 1) % 5)) rfl) ?_
   refine yP pA ?_
   refine yL 0 ?_
   refine yC (rotl_ctr (k := 1) (bd_getD hC (by decide) _) (by decide)) bd187 [] [] ?_
   refine yP (PureOp.xorN 18446744073709551616 rfl rfl (by decide) (by decide) (bd_getD hC (by decide) _) (rotl_lt (bd_getD hC (by decide) _) 1)) ?_
   refine yP (PureOp.xorN 18446744073709551616 rfl rfl (by decide) (by decide) ((kthG_ok hs hC i).lt i) (xor_lt (bd_getD hC (by decide) _) (rotl_lt (bd_getD hC (by decide) _) 1))) ?_
   refine yP pA ?_
   refine yS (vi .u64) ?_
   refine zD (zL (zT (zR ?_)))
   refine yP (pAdd (b := 1)) ?_
   refine yM ?_
   refine zN (zT ?_)
   exact ⟨25 - (i + 1), [], _, by omega, wk [2000, 3000, 4000], i + 1, by omega, rfl, rfl⟩
  ·
   obtain rfl : i = 25 := by simp at hb1; omega
   rw [kth_def s]
   refine zX (zV (zV (zH (zT (zS ?_)))))
   refine yLA ?_
   refine ySA ?_
   refine zN (zE ?_)
   refine RetQ.gc [_] [] [.cell 2 207] (.inl rfl) rfl (.val (RVal.cellAll tbok rfl rfl rfl rfl (by (simp [*]; done))) .nil) rfl (.pure (pure_aggM flat_vi) .nil) trivial (by decide) rfl
end Go.Proofs.YtlfadlfjjkppfaaGreatDoor
namespace Go.Proofs.YtlfadlfjjkppfaaGreatDoor
open Go Sim Go.RowKit
set_option maxRecDepth 10000
def GLw (w : World) : Prop := ∀ d ∈ GLB, ∀ (k : Nat) (v : Value), d.cells[k]? = some v → flatV v = true → w.cell? ⟨d.blk, d.off + k, none⟩ = some v
theorem GC.ofTab {P : Program} {f : FuncId} {vs : List Value} {v : Value} (hv : flatV v = true) (ha : ∀ x ∈ vs, flatV x = true) (h : ∀ w, GLw w → Calls P f vs.toArray w fun e w' => e = .returned v ∧ w' = w) : GC P f vs [] [v] [] := by
  refine ⟨Nat.le_refl _, fun ρ w rargs hm hi hgl hl hr => ?_⟩
  have hw : GLw w := fun d hd k v hk hf => by
    obtain ⟨u, hu, hr⟩ := (hi d (hgl d hd)).cells k v hk
    rw [flat_inv hr hf] at hu
    exact hu
  have : rargs = vs := by
    refine List.ext_getElem? fun k => ?_
    cases hk : vs[k]? with
    | none => exact List.getElem?_eq_none (by have := List.getElem?_eq_none_iff.1 hk; omega)
    | some x =>
      have hkl := (List.getElem?_eq_some_iff.1 hk).1
      obtain ⟨u, hu⟩ : ∃ u, rargs[k]? = some u := ⟨_, List.getElem?_eq_getElem (by omega)⟩
      rw [hu, flat_inv (hr k x u hk hu) (ha x (List.mem_of_getElem? hk))]
  subst this
  refine (h w hw).mono fun e w' ⟨he, hb⟩ => ?_
  subst hb
  exact ⟨v, ρ, he, fun _ _ => rfl, fun i b _ hb => by simp at hb, .flat v hv, hm, Fr.refl _ _, fun d hd => hd, fun d hd => .inl hd, hi⟩
theorem kc_at {w : World} (h : GLw w) {r : Nat} (hr : r < 24) : w.cell? ⟨0, r, none⟩ = some (.int .u64 (kcons.getD r 0 : Nat)) := by
  have hm : (⟨0, 0, kcons.map fun (x : Nat) => Value.int .u64 x⟩ : Imm) ∈ GLB := by
    show _ ∈ [_]
    exact List.mem_singleton.2 rfl
  have := h _ hm r (.int .u64 (kcons.getD r 0 : Nat)) (by
    simp only [List.getElem?_map, List.getD_eq_getElem?_getD]
    rw [List.getElem?_eq_getElem (show r < kcons.length from hr)]
    rfl) rfl
  simpa using this
set_option maxHeartbeats 1000000 in
theorem kconst_core (r : Nat) (c : Int) (w : World) (h1 : decide ((r : Int) < 0) = false) (h2 : decide ((r : Int) ≥ 24) = false) (hr : r < 24) (hcell : w.cell? ⟨0, r, none⟩ = some (.int .u64 c)) :
    Calls Tryz.prog 185 #[.int .i64 r] w fun e w' => e = .returned (.int .u64 c) ∧ w' = w := by
  go_enter Tryz.func185, Tryz.ntmps185
  go_wp2
  go_ret
  exact ⟨rfl, rfl⟩
theorem kconst_ctr {r : Nat} (hr : r < 24) : GC Tryz.prog 185 [vi .i64 r] [] [vi .u64 (kcons.getD r 0)] [] :=
  GC.ofTab rfl (fun y hy => by simp at hy; subst hy; rfl) fun w hw => kconst_core r _ w (by simp) (by simp; omega) hr (kc_at hw hr)
end Go.Proofs.YtlfadlfjjkppfaaGreatDoor
namespace Go.Proofs.YtlfadlfjjkppfaaGreatDoor
open Go Sim
set_option maxRecDepth 10000
set_option maxRecDepth 10000 in
theorem rhopi_ctr {s : List Nat} (hs : KS s) : GC Tryz.prog 183 [.agg ((s).map (vi .u64)).toArray] [] [.agg ((krp s 24).map (vi .u64)).toArray] [] := by
 refine gi Tryz.func183 ?_
 have hl0 := hs.1
 refine zS ?_
 refine yO 2000 1 ((s).map (vi .u64)) ?_
 refine yN 3000 1 ((List.replicate 25 0).map (vi .u64)) ?_
 refine zN (zS ?_)
 refine yP (pA (j := 0)) ?_
 refine yL 0 ?_
 refine yP ((PureOp.buildArr tbok [(0, vi .u64 (s.getD 0 0))] rfl rfl rfl (by decide) rfl rfl).mono (v' := .agg ((krp s 0).map (vi .u64)).toArray) rfl) ?_
 refine yN 4000 1 ((List.replicate 25 0).map (vi .u64)) ?_
 refine ySA ?_
 refine zN (zS ?_)
 refine yA ?_
 refine yA ?_
 refine zN (zQ (zS ?_))
 refine yM ?_
 refine zN (zB ?_)
 refine AW.loopw (fun mm σ => ∃ u, (u ≤ 24) ∧ mm = 24 - u ∧ σ = ⟨(upd (upd (upd (upd (upd (upd emp 1 (.pointer (some ⟨2000, 0, none⟩))) 2 (.pointer (some ⟨3000, 0, none⟩))) 3 (.pointer (some ⟨4000, 0, none⟩))) 4 (vi .i64 (kxy u).1)) 5 (vi .i64 (kxy u).2)) 11 (vi .i64 u)), (upd (upd (upd emp 2000 ⟨(s).map (vi .u64), true, 1⟩) 3000 ⟨((List.replicate 25 0)).map (vi .u64), true, 1⟩) 4000 ⟨(krp s u).map (vi .u64), true, 1⟩)⟩) (fm := []) (wk [2000, 3000, 4000]) ⟨0, Nat.zero_le _, rfl, rfl⟩ ?_
 rintro mm σ ⟨u, hinv, rfl, rfl⟩
 have hl1 := (krp_ok hs u).1
 have hxy := kxy_lt u
 refine zS ?_
 refine yP (pLt (b := 24)) ?_
 refine zN (zQ ?_)
 refine zA (fun hb0 => ?_) (fun hb0 => ?_)
 ·
  have hi : u < 24 := by simpa using hb0
  have hq0 : (u + 1) * (u + 2) ≤ 25 * 26 := Nat.mul_le_mul (by omega) (by omega)
  have hq : (u + 1) * (u + 2) < 9223372036854775808 := by omega
  refine zK (zT (zQ (zB (zS ?_))))
  refine yM ?_
  refine yA ?_
  refine zN (zS ?_)
  refine yM ?_
  refine yP ((PureOp.mulI (a := 2) rfl rfl (by omega)).mono (v' := vi .i64 (2 * (kxy u).1)) rfl) ?_
  refine yM ?_
  refine yP ((PureOp.mulI (a := 3) rfl rfl (by omega)).mono (v' := vi .i64 (3 * (kxy u).2)) rfl) ?_
  refine yP ((PureOp.addI rfl rfl (by omega)).mono (v' := vi .i64 (2 * (kxy u).1 + 3 * (kxy u).2)) rfl) ?_
  refine yP ((PureOp.remN (b := 5) rfl rfl (by decide)).mono (v' := vi .i64 (((2 * (kxy u).1 + 3 * (kxy u).2) % 5))) rfl) ?_
  refine yA ?_
  refine zN (zS ?_)
  refine yM ?_
  refine yM ?_
  refine yP ((PureOp.mulI (a := 5) rfl rfl (by omega)).mono (v' := vi .i64 (5 * ((2 * (kxy u).1 + 3 * (kxy u).2) % 5))) rfl) ?_
  refine yP ((PureOp.addI rfl rfl (by omega)).mono (v' := vi .i64 ((kxy u).2 + 5 * ((2 * (kxy u).1 + 3 * (kxy u).2) % 5))) rfl) ?_
  refine yM ?_
  refine yM ?_
  refine yP ((PureOp.mulI (a := 5) rfl rfl (by omega)).mono (v' := vi .i64 (5 * (kxy u).2)) rfl) ?_
  refine yP ((PureOp.addI rfl rfl (by omega)).mono (v' := vi .i64 ((kxy u).1 + 5 * (kxy u).2)) rfl) ?_
  refine yP pA ?_
  refine yL 0 ?_
  refine yM ?_
  refine yP ((PureOp.addI (b := 1) rfl rfl (by omega)).mono (v' := vi .i64 (u + 1)) rfl) ?_
  refine yM ?_
  refine yP ((PureOp.addI (b := 2) rfl rfl (by omega)).mono (v' := vi .i64 (u + 2)) rfl) ?_
  refine yP (PureOp.mulI rfl rfl hq) ?_
  refine yP ((PureOp.quoN (b := 2) 9223372036854775808 rfl rfl (by decide) (by decide) (by decide) hq).mono (v' := vi .i64 ((u + 1) * (u + 2) / 2)) rfl) ?_
  refine yC (rotl_ctr (k := (u + 1) * (u + 2) / 2) (hs.lt _) (by omega)) bd187 [] [] ?_
  refine yP pA ?_
  refine yS (vi .u64) ?_
  refine zN (zR ?_)
  refine yM ?_
  refine yM ?_
  refine yA ?_
  refine yA ?_
  refine zN (zL (zT (zR ?_)))
  refine yP (pAdd (b := 1)) ?_
  refine yM ?_
  refine zN (zT ?_)
  exact ⟨24 - (u + 1), [], _, by omega, wk [2000, 3000, 4000], u + 1, by omega, rfl, rfl⟩
 ·
  obtain rfl : u = 24 := by simp at hb0; omega
  refine zX (zV (zV (zH (zT (zS ?_)))))
  refine yLA ?_
  refine ySA ?_
  refine zN (zE ?_)
  refine RetQ.gc [_] [] [.cell 2 207] (.inl rfl) rfl (.val (RVal.cellAll tbok rfl rfl rfl rfl (by (simp [*]; done))) .nil) rfl (.pure (pure_aggM flat_vi) .nil) trivial (by decide) rfl
set_option maxRecDepth 10000 in
theorem chi_ctr {s : List Nat} (hs : KS s) : GC Tryz.prog 184 [.agg ((s).map (vi .u64)).toArray] [] [.agg ((kch s 25).map (vi .u64)).toArray] [] := by
 refine gi Tryz.func184 ?_
 have hl0 := hs.1
 refine zS ?_
 refine yO 2000 1 ((s).map (vi .u64)) ?_
 refine yN 3000 1 ((List.replicate 25 0).map (vi .u64)) ?_
 refine zN (zS ?_)
 refine yLA ?_
 refine yN 4000 1 ((List.replicate 25 0).map (vi .u64)) ?_
 refine ySA ?_
 refine zN (zQ (zS ?_))
 refine yM ?_
 refine zN (zB ?_)
 refine AW.loopw (fun mm σ => ∃ i, (i ≤ 25) ∧ mm = 25 - i ∧ σ = ⟨(upd (upd (upd (upd emp 1 (.pointer (some ⟨2000, 0, none⟩))) 2 (.pointer (some ⟨3000, 0, none⟩))) 3 (.pointer (some ⟨4000, 0, none⟩))) 7 (vi .i64 i)), (upd (upd (upd emp 2000 ⟨(s).map (vi .u64), true, 1⟩) 3000 ⟨((List.replicate 25 0)).map (vi .u64), true, 1⟩) 4000 ⟨(kch s i).map (vi .u64), true, 1⟩)⟩) (fm := []) (wk [2000, 3000, 4000]) ⟨0, Nat.zero_le _, rfl, rfl⟩ ?_
 rintro mm σ ⟨i, hinv, rfl, rfl⟩
 have hl1 := (kch_ok hs i).1
 refine zS ?_
 refine yP (pLt (b := 25)) ?_
 refine zN (zQ ?_)
 refine zA (fun hb0 => ?_) (fun hb0 => ?_)
 ·
  have hi : i < 25 := by simpa using hb0
  refine zK (zT (zQ (zB (zS ?_))))
  refine yM ?_
  refine yA ?_
  refine zN (zS ?_)
  refine yM ?_
  refine yM ?_
  refine yP ((PureOp.remN (b := 5) rfl rfl (by decide)).mono (v' := vi .i64 (i % 5)) rfl) ?_
  refine yP ((PureOp.subI rfl rfl (by omega) (by omega)).mono (v' := vi .i64 (i - i % 5)) rfl) ?_
  refine yA ?_
  refine zN ?_
  refine AW.draw mixed ?_
  refine yM ?_
  refine yP pA ?_
  refine yL 0 ?_
  refine yM ?_
  refine yM ?_
  refine yP ((PureOp.addI (b := 2) rfl rfl (by omega)).mono (v' := vi .i64 (i + 2)) rfl) ?_
  refine yP ((PureOp.remN (b := 5) rfl rfl (by decide)).mono (v' := vi .i64 ((i + 2) % 5)) rfl) ?_
  refine yP ((PureOp.addI rfl rfl (by omega)).mono (v' := vi .i64 (i - i % 5 + (i + 2) % 5)) rfl) ?_
  refine yP pA ?_
  refine yL 0 ?_
  refine yM ?_
  refine yM ?_
  refine yP ((PureOp.addI (b := 1) rfl rfl (by omega)).mono (v' := vi .i64 (i + 1)) rfl) ?_
  refine yP ((PureOp.remN (b := 5) rfl rfl (by decide)).mono (v' := vi .i64 ((i + 1) % 5)) rfl) ?_
  refine yP ((PureOp.addI rfl rfl (by omega)).mono (v' := vi .i64 (i - i % 5 + (i + 1) % 5)) rfl) ?_
  refine yP pA ?_
  refine yL 0 ?_
  refine yP (PureOp.andNotN rfl rfl (hs.lt _) (hs.lt _)) ?_
  refine yP (PureOp.xorN 18446744073709551616 rfl rfl (by decide) (by decide) ((kch_ok hs i).lt i) (andn_lt _ (hs.lt _))) ?_
  refine yP pA ?_
  refine yS (vi .u64) ?_
  refine zD (zL (zT (zR ?_)))
  refine yP (pAdd (b := 1)) ?_
  refine yM ?_
  refine zN (zT ?_)
  exact ⟨25 - (i + 1), [], _, by omega, wk [2000, 3000, 4000], i + 1, by omega, rfl, rfl⟩
 ·
  obtain rfl : i = 25 := by simp at hb0; omega
  refine zX (zV (zV (zH (zT (zS ?_)))))
  refine yLA ?_
  refine ySA ?_
  refine zN (zE ?_)
  refine RetQ.gc [_] [] [.cell 2 207] (.inl rfl) rfl (.val (RVal.cellAll tbok rfl rfl rfl rfl (by (simp [*]; done))) .nil) rfl (.pure (pure_aggM flat_vi) .nil) trivial (by decide) rfl
set_option maxRecDepth 10000 in
theorem kround_ctr {s : List Nat} {r : Nat} (hs : KS s) (hr : r < 24) : GC Tryz.prog 174 [.agg ((s).map (vi .u64)).toArray, vi .i64 r] [] [.agg ((kro s r).map (vi .u64)).toArray] [] := by
 refine GC.intro Tryz.func174 rfl (by show 2 ≤ 16; decide) (by exact Nat.le_refl _) ?_
 have hl0 := hs.1
 have h1 := kch_ok (krp_ok (kth_ok hs) 24) 25
 have hl1 := h1.1
 have hl2 := (kro_ok hs r).1
 refine zS ?_
 refine yO 3000 1 ((s).map (vi .u64)) ?_
 refine yN 5000 1 ((List.replicate 25 0).map (vi .u64)) ?_
 refine zN (zS ?_)
 refine yLA ?_
 refine yC (theta_ctr hs) bd182 [] [] ?_
 refine yC (rhopi_ctr (kth_ok hs)) bd183 [] [] ?_
 refine yC (chi_ctr (krp_ok (kth_ok hs) 24)) bd184 [] [] ?_
 refine ySA ?_
 refine zN ?_
 refine AW.seqD mixed ?_
 refine yP (pA (j := 0)) ?_
 refine yL 0 ?_
 refine yM ?_
 refine yC (kconst_ctr hr) bd185 [] [] ?_
 refine yP (PureOp.xorN 18446744073709551616 rfl rfl (by decide) (by decide) (h1.lt 0) (bd_getD kcons_bd (by decide) r)) ?_
 refine yP (pA (j := 0)) ?_
 refine yS (vi .u64) ?_
 refine zD ?_
 rw [kro_def s r]
 refine zS ?_
 refine yLA ?_
 refine ySA ?_
 refine zN (zE ?_)
 refine RetQ.gc [_] [] [.cell 4 207] (.inl rfl) rfl (.val (RVal.cellAll tbok rfl rfl rfl rfl (by (simp [*]; done))) .nil) rfl (.pure (pure_aggM flat_vi) .nil) trivial (by decide) rfl
set_option maxRecDepth 10000 in
theorem kperm_ctr {s : List Nat} (hs : KS s) : GC Tryz.prog 160 [.agg ((s).map (vi .u64)).toArray] [] [.agg ((kecF s).map (vi .u64)).toArray] [] := by
 refine gi Tryz.func160 ?_
 have hl0 := hs.1
 have hl9 := (kecF_ok hs).1
 refine zS ?_
 refine yO 2000 1 ((s).map (vi .u64)) ?_
 refine yN 3000 1 ((List.replicate 25 0).map (vi .u64)) ?_
 refine zN (zQ (zS ?_))
 refine yM ?_
 refine zN (zB ?_)
 refine AW.loopw (fun mm σ => ∃ i, (i ≤ 24) ∧ mm = 24 - i ∧ σ = ⟨(upd (upd (upd emp 1 (.pointer (some ⟨2000, 0, none⟩))) 2 (.pointer (some ⟨3000, 0, none⟩))) 4 (vi .i64 i)), (upd (upd emp 2000 ⟨(kpe s i).map (vi .u64), true, 1⟩) 3000 ⟨((List.replicate 25 0)).map (vi .u64), true, 1⟩)⟩) (fm := []) (wk [2000, 3000]) ⟨0, Nat.zero_le _, rfl, rfl⟩ ?_
 rintro mm σ ⟨i, hinv, rfl, rfl⟩
 have hl1 := (kpe_ok hs i).1
 have hl2 := (kro_ok (kpe_ok hs i) i).1
 refine zS ?_
 refine yP (pLt (b := 24)) ?_
 refine zN (zQ ?_)
 refine zA (fun hb0 => ?_) (fun hb0 => ?_)
 ·
  have hi : i < 24 := by simpa using hb0
  refine zK (zT (zQ (zB (zS ?_))))
  refine yM ?_
  refine yA ?_
  refine zN (zR ?_)
  refine yLA ?_
  refine yM ?_
  refine yC (kround_ctr (kpe_ok hs i) hi) bd174 [] [] ?_
  refine AWo.storeAllN tbok rfl rfl rfl rfl (by (simp [*]; done)) (by (simp [*]; done)) (by exact oneM (fun _ => rfl) _) rfl ?_
  refine zN (zL (zT (zR ?_)))
  refine yP (pAdd (b := 1)) ?_
  refine yM ?_
  refine zN (zT ?_)
  exact ⟨24 - (i + 1), [], _, by omega, wk [2000, 3000], i + 1, by omega, rfl, rfl⟩
 ·
  obtain rfl : i = 24 := by simp at hb0; omega
  rw [kecF_def s]
  refine zX (zV (zV (zH (zT (zS ?_)))))
  refine yLA ?_
  refine ySA ?_
  refine zN (zE ?_)
  refine RetQ.gc [_] [] [.cell 2 207] (.inl rfl) rfl (.val (RVal.cellAll tbok rfl rfl rfl rfl (by (simp [*]; done))) .nil) rfl (.pure (pure_aggM flat_vi) .nil) trivial (by decide) rfl
end Go.Proofs.YtlfadlfjjkppfaaGreatDoor
namespace Go.Proofs.YtlfadlfjjkppfaaGreatDoor
open Go Sim
set_option maxRecDepth 10000
theorem lw200_ctr {b : List Nat} (hb : bd 256 b) (hl : b.length = 200) : GC Tryz.prog 145 [.slice (some ⟨0, 0, none⟩) 200 0] [⟨b.map (vi .u8), false, 1⟩] [.slice (some ⟨1, 0, none⟩) 25 0] [⟨b.map (vi .u8), false, 1⟩, ⟨(digs 18446744073709551616 25 (num 256 b)).map (vi .u64), true, 1⟩] := by
  have h := lwords_ctr hb (by omega)
  rw [hl] at h
  exact h
theorem lb25_ctr {s : List Nat} (hs : KS s) : GC Tryz.prog 63 [.slice (some ⟨0, 0, none⟩) 25 0] [⟨s.map (vi .u64), false, 1⟩] [.slice (some ⟨1, 0, none⟩) 200 0] [⟨s.map (vi .u64), false, 1⟩, ⟨(digs 256 200 (num 18446744073709551616 s)).map (vi .u8), true, 1⟩] := by
  have h := lbytes_ctr hs.2 (by rw [hs.1]; decide)
  rw [hs.1] at h
  exact h
set_option maxRecDepth 10000 in
theorem kofb_ctr {b : List Nat} (hb : bd 256 b) (hl : b.length = 200) : GC Tryz.prog 245 [.slice (some ⟨0, 0, none⟩) 200 0] [⟨b.map (vi .u8), false, 1⟩] [.agg ((digs 18446744073709551616 25 (num 256 b)).map (vi .u64)).toArray, .int .i64 0] [⟨b.map (vi .u8), false, 1⟩] := by
  refine GC.intro Tryz.func245 rfl (by show 1 ≤ 12; decide) (by first | exact Nat.le_refl _ | decide | simp) ?_
  have hl1 := digs_len (B := 18446744073709551616) 25 (num 256 b)
  refine AW.seqR ?_
  refine AWo.alloc tbok 3000 1 ((List.replicate 25 0).map (vi .u64)) rfl rfl rfl rfl rfl rfl ?_
  refine AWo.pure (PureOp.assign rfl) rfl rfl ?_
  refine AWo.nil trivial ?_
  refine AW.seq ?_
  refine AW.seqR ?_
  refine AWo.pure (PureOp.move rfl) rfl rfl ?_
  first | refine AWo.pure (PureOp.lenS tbok rfl rfl) rfl rfl ?_ | refine AWo.pure (PureOp.lenD tbok rfl rfl) rfl rfl ?_
  first | refine AWo.pure (PureOp.neN (b := 200) rfl rfl) rfl rfl ?_ | refine AWo.pure (PureOp.bin rfl rfl rfl) rfl rfl ?_
  refine AWo.nil trivial ?_
  refine AW.condF rfl ?_
  refine AW.skip ?_
  refine thenA_normal ?_
  refine AW.seqR ?_
  refine AWo.pure (PureOp.move rfl) rfl rfl ?_
  refine AWo.callX (lw200_ctr hb hl) bd145 [(0, 0)] [10000] rfl (.cons rfl .nil) rfl (.cons rfl rfl .nil) (.flat rfl (by first | exact flatM flat_vi | exact flatM flat_bool | (simp [flatV, flat_vi]; done)) (by intro h; first | exact h | rfl) .nil) rfl (.keep rfl (.new (flat_map_ren (by first | exact flatM flat_vi | exact flatM flat_bool | (simp [flatV, flat_vi]; done))) (OkL.flat (by first | exact flatM flat_vi | exact flatM flat_bool | (simp [flatV, flat_vi]; done))) .nil)) (frC rfl frN) (by decide) (.cons rfl rfl .nil) rfl rfl rfl rfl ?_
  refine AWo.pure (PureOp.toArrT tbok rfl rfl (by first | decide | omega) (by first | decide | omega)) rfl rfl ?_
  first | refine AWo.loadAll tbok rfl rfl rfl rfl (by first | (simp [*]; done) | rfl) rfl rfl ?_ | refine AWo.loadAgg tbok rfl rfl rfl rfl (by first | decide | omega) rfl rfl rfl ?_
  refine AWo.storeAllN tbok rfl rfl rfl rfl (by first | (simp [*]; done) | rfl) (by first | (simp [*]; done) | rfl) (by first | exact oneM (fun _ => rfl) _ | rfl | (simp; done)) rfl ?_
  refine AWo.pure (PureOp.assign rfl) rfl rfl ?_
  refine AWo.nil trivial ?_
  refine AW.ret ?_
  refine RetQ.gc [_, _] [] [.cell 2 207, .tmp 3] (.inl rfl) rfl (.val (RVal.cellAll tbok rfl rfl rfl rfl (by first | (simp [*]; done) | rfl)) (.tmp rfl .nil)) rfl (.pure (pure_aggM flat_vi) (.cons rfl rfl .nil)) (OutL.flat rfl (by first | exact flatM flat_vi | exact flatM flat_bool | (simp [flatV, flat_vi]; done)) (by intro h; first | rfl | exact h.elim id fun h => absurd h.1 (by simp)) trivial) (by decide) rfl
set_option maxRecDepth 10000 in
theorem kbytes_ctr {s : List Nat} (hs : KS s) : GC Tryz.prog 161 [.agg ((s).map (vi .u64)).toArray] [] [.agg ((digs 256 200 (num 18446744073709551616 s)).map (vi .u8)).toArray] [] := by
  refine GC.intro Tryz.func161 rfl (by show 1 ≤ 7; decide) (by first | exact Nat.le_refl _ | decide | simp) ?_
  have hl0 := hs.1
  have hl1 := digs_len (B := 256) 200 (num 18446744073709551616 s)
  refine AW.seqR ?_
  refine AWo.box 2000 1 ((s).map (vi .u64)) rfl rfl rfl rfl rfl ?_
  refine AWo.alloc tbok 3000 1 ((List.replicate 200 0).map (vi .u8)) rfl rfl rfl rfl rfl rfl ?_
  refine AWo.nil trivial ?_
  refine AW.seqR ?_
  refine AWo.sliceA tbok rfl .none .none rfl rfl rfl rfl (by first | decide | omega | (simp; done) | (simp; omega)) (by first | decide | omega | (simp; done) | (simp; omega)) (.inl rfl) (by first | decide | omega | (simp; done) | (simp; omega)) rfl rfl rfl ?_
  refine AWo.callX (lb25_ctr hs) bd63 [(2000, 0)] [5000] rfl (.cons rfl .nil) rfl (.cons rfl rfl .nil) (.flat rfl (by first | exact flatM flat_vi | exact flatM flat_bool | (simp [flatV, flat_vi]; done)) (by intro h; first | exact h | rfl) .nil) rfl (.keep rfl (.new (flat_map_ren (by first | exact flatM flat_vi | exact flatM flat_bool | (simp [flatV, flat_vi]; done))) (OkL.flat (by first | exact flatM flat_vi | exact flatM flat_bool | (simp [flatV, flat_vi]; done))) .nil)) (frC rfl frN) (by decide) (.cons rfl rfl .nil) rfl rfl rfl rfl ?_
  refine AWo.pure (PureOp.toArrT tbok rfl rfl (by first | decide | omega) (by first | decide | omega)) rfl rfl ?_
  first | refine AWo.loadAll tbok rfl rfl rfl rfl (by first | (simp [*]; done) | rfl) rfl rfl ?_ | refine AWo.loadAgg tbok rfl rfl rfl rfl (by first | decide | omega) rfl rfl rfl ?_
  refine AWo.storeAllN tbok rfl rfl rfl rfl (by first | (simp [*]; done) | rfl) (by first | (simp [*]; done) | rfl) (by first | exact oneM (fun _ => rfl) _ | rfl | (simp; done)) rfl ?_
  refine AWo.nil trivial ?_
  refine AW.ret ?_
  refine RetQ.gc [_] [] [.cell 2 247] (.inl rfl) rfl (.val (RVal.cellAll tbok rfl rfl rfl rfl (by first | (simp [*]; done) | rfl)) .nil) rfl (.pure (pure_aggM flat_vi) .nil) trivial (by decide) rfl
end Go.Proofs.YtlfadlfjjkppfaaGreatDoor
namespace Go.Proofs.YtlfadlfjjkppfaaGreatDoor
open Go Sim
set_option maxRecDepth 10000
theorem duk_ctr : GC Tryz.prog 97 [] [] [.iface 213 (.agg #[])] [] := by
  refine GC.intro Tryz.func97 rfl (by show 0 ≤ 3; decide) (by first | exact Nat.le_refl _ | decide | simp) ?_
  refine AW.seqR ?_
  refine AWo.pure (PureOp.assign rfl) rfl rfl ?_
  refine AWo.nil trivial ?_
  refine AW.seqR ?_
  refine AWo.pure ((PureOp.buildStruct [] pl213.choose_spec.1 zr213 (by decide) pl213.choose_spec.2 rfl rfl).mono (v' := .agg #[]) rfl) rfl rfl ?_
  refine AWo.pure (PureOp.makeI rfl (by decide) (fun _ _ => by kernel_rfl)) rfl rfl ?_
  refine AWo.pure (PureOp.assign rfl) rfl rfl ?_
  refine AWo.nil trivial ?_
  refine AW.ret ?_
  refine RetQ.gc [_] [] [.tmp 0] (.inl rfl) rfl (.tmp rfl .nil) rfl (.cons rfl rfl .nil) trivial (by decide) rfl
theorem lrate_ctr : GC Tryz.prog 243 [.agg #[]] [] [vi .i64 136] [] := by
  refine GC.intro Tryz.func243 rfl (by show 1 ≤ 3; decide) (by first | exact Nat.le_refl _ | decide | simp) ?_
  refine AW.seqR ?_
  refine AWo.box 2000 1 [] rfl rfl rfl rfl rfl ?_
  refine AWo.pure (PureOp.assign rfl) rfl rfl ?_
  refine AWo.nil trivial ?_
  refine AW.seqR ?_
  refine AWo.pure (PureOp.assign rfl) rfl rfl ?_
  refine AWo.nil trivial ?_
  refine AW.ret ?_
  refine RetQ.gc [_] [] [.tmp 2] (.inl rfl) rfl (.tmp rfl .nil) rfl (.cons rfl rfl .nil) trivial (by decide) rfl
theorem lwidth_ctr : GC Tryz.prog 244 [.agg #[]] [] [vi .i64 200] [] := by
  refine GC.intro Tryz.func244 rfl (by show 1 ≤ 3; decide) (by first | exact Nat.le_refl _ | decide | simp) ?_
  refine AW.seqR ?_
  refine AWo.box 2000 1 [] rfl rfl rfl rfl rfl ?_
  refine AWo.pure (PureOp.assign rfl) rfl rfl ?_
  refine AWo.nil trivial ?_
  refine AW.seqR ?_
  refine AWo.pure (PureOp.assign rfl) rfl rfl ?_
  refine AWo.nil trivial ?_
  refine AW.ret ?_
  refine RetQ.gc [_] [] [.tmp 2] (.inl rfl) rfl (.tmp rfl .nil) rfl (.cons rfl rfl .nil) trivial (by decide) rfl
end Go.Proofs.YtlfadlfjjkppfaaGreatDoor
namespace Go.Proofs.YtlfadlfjjkppfaaGreatDoor
open Go Sim
set_option maxRecDepth 10000
theorem setL_atK : ∀ (vs cs pre : List Value), cs.length = vs.length → setL (pre ++ cs) pre.length vs = pre ++ vs
  | [], cs, pre, h => by rw [List.length_eq_zero_iff.1 h]; rfl
  | v :: vs, [], pre, h => by cases h
  | v :: vs, c :: cs, pre, h => by
    have ih := setL_atK vs cs (pre ++ [v]) (by simpa using h)
    rw [List.append_assoc, List.append_assoc] at ih
    show setL ((pre ++ c :: cs).set pre.length v) (pre.length + 1) vs = _
    rw [List.set_append_right _ _ (Nat.le_refl _), Nat.sub_self]
    simpa using ih
theorem setL_whole {cs vs : List Value} (h : cs.length = vs.length) : setL cs 0 vs = vs := setL_atK vs cs [] h
def kecB (b : List Nat) : List Nat := digs 256 200 (num 18446744073709551616 (kecF (digs 18446744073709551616 25 (num 256 b))))
theorem ks_of (b : List Nat) : KS (digs 18446744073709551616 25 (num 256 b)) := ⟨digs_len .., digs_bd (by decide) _ _⟩
set_option maxRecDepth 10000 in
theorem lperm_ctr {b : List Nat} (hb : bd 256 b) (hl : b.length = 200) : GC Tryz.prog 242 [.agg #[], .slice (some ⟨0, 0, none⟩) 200 0] [⟨b.map (vi .u8), true, 1⟩] [] [⟨(kecB b).map (vi .u8), true, 1⟩] := by
  refine GC.intro Tryz.func242 rfl (by show 2 ≤ 20; decide) (by first | exact Nat.le_refl _ | decide | simp) ?_
  have hs := ks_of b
  have hl1 := digs_len (B := 18446744073709551616) 25 (num 256 b)
  have hl2 := digs_len (B := 256) 200 (num 18446744073709551616 (kecF (digs 18446744073709551616 25 (num 256 b))))
  refine AW.seqR ?_
  refine AWo.box 3000 1 [] rfl rfl rfl rfl rfl ?_
  refine AWo.nil trivial ?_
  refine AW.seqR ?_
  refine AWo.pure (PureOp.move rfl) rfl rfl ?_
  refine AWo.callX (kofb_ctr hb hl) bd245 [(0, 0)] [] rfl (.cons rfl .nil) rfl (.cons rfl rfl .nil) (.flat rfl (by first | exact flatM flat_vi | exact flatM flat_bool | (simp [flatV, flat_vi]; done)) (by intro h; first | exact h | rfl) .nil) rfl (.keep rfl .nil) frN (by decide) (.pure (pure_aggM flat_vi) (.cons rfl rfl .nil)) rfl rfl rfl rfl ?_
  refine AWo.pure (PureOp.move rfl) rfl rfl ?_
  refine AWo.pure (PureOp.extract rfl rfl) rfl rfl ?_
  refine AWo.pure (PureOp.extract rfl rfl) rfl rfl ?_
  refine AWo.alloc tbok 5000 1 ((List.replicate 25 0).map (vi .u64)) rfl rfl rfl rfl rfl rfl ?_
  refine AWo.storeAllN tbok rfl rfl rfl rfl (by first | (simp [*]; done) | rfl) (by first | (simp [*]; done) | rfl) (by first | exact oneM (fun _ => rfl) _ | rfl | (simp; done)) rfl ?_
  refine AWo.pure (PureOp.assign rfl) rfl rfl ?_
  refine AWo.nil trivial ?_
  refine AW.seq ?_
  refine AW.seqR ?_
  refine AWo.pure (PureOp.move rfl) rfl rfl ?_
  first | refine AWo.pure (PureOp.neN (b := 0) rfl rfl) rfl rfl ?_ | refine AWo.pure (PureOp.bin rfl rfl rfl) rfl rfl ?_
  refine AWo.nil trivial ?_
  refine AW.condF rfl ?_
  refine AW.skip ?_
  refine thenA_normal ?_
  refine AW.seqR ?_
  first | refine AWo.loadAll tbok rfl rfl rfl rfl (by first | (simp [*]; done) | rfl) rfl rfl ?_ | refine AWo.loadAgg tbok rfl rfl rfl rfl (by first | decide | omega) rfl rfl rfl ?_
  refine AWo.callX (kperm_ctr hs) bd160 [] [] rfl (.cons rfl .nil) rfl (.pure (pure_aggM flat_vi) .nil) .nil rfl .nil frN (by decide) (.pure (pure_aggM flat_vi) .nil) rfl rfl rfl rfl ?_
  refine AWo.callX (kbytes_ctr (kecF_ok hs)) bd161 [] [] rfl (.cons rfl .nil) rfl (.pure (pure_aggM flat_vi) .nil) .nil rfl .nil frN (by decide) (.pure (pure_aggM flat_vi) .nil) rfl rfl rfl rfl ?_
  refine AWo.alloc tbok 7000 1 ((List.replicate 200 0).map (vi .u8)) rfl rfl rfl rfl rfl rfl ?_
  refine AWo.storeAllN tbok rfl rfl rfl rfl (by first | (simp [*]; done) | rfl) (by first | (simp [*]; done) | rfl) (by first | exact oneM (fun _ => rfl) _ | rfl | (simp; done)) rfl ?_
  refine AWo.nil trivial ?_
  refine AW.region ?_
  refine AWo.pure (PureOp.move rfl) rfl rfl ?_
  refine AWo.sliceA tbok rfl .none .none rfl rfl rfl rfl (by first | decide | omega | (simp; done) | (simp; omega)) (by first | decide | omega | (simp; done) | (simp; omega)) (.inl rfl) (by first | decide | omega | (simp; done) | (simp; omega)) rfl rfl rfl ?_
  refine AWo.copy tbok ((kecB b).map (vi .u8)) rfl rfl rfl rfl (by decide) (by rw [List.length_map, hl]; decide) (by show List.take _ (List.drop 0 _) = _; rw [List.drop_zero]; exact List.take_of_length_le (by rw [List.length_map, hl2]; decide)) (by rw [List.length_map, hl2]; exact Nat.le_refl 200) rfl rfl (oneM (fun _ => rfl) _) (setL_whole (by rw [List.length_map, List.length_map, hl]; exact hl2.symm)) rfl rfl ?_
  refine AWo.nil trivial ?_
  refine RetQ.gc [] [] [] (.inr rfl) rfl .nil rfl .nil (OutL.flat rfl (by first | exact flatM flat_vi | exact flatM flat_bool | (simp [flatV, flat_vi]; done)) (by intro h; first | rfl | exact h.elim id fun h => absurd h.1 (by simp)) trivial) (by decide) rfl
end Go.Proofs.YtlfadlfjjkppfaaGreatDoor
namespace Go.Proofs.YtlfadlfjjkppfaaGreatDoor
open Go Sim
set_option maxRecDepth 10000
structure Sp (α : Type) where
  st : List α
  i : Nat
  o : Nat
  c : Nat
namespace Sp
variable {α : Type} (R : Nat) (π : List α → List α) (z : α)
def perm (s : Sp α) : Sp α := ⟨π s.st, 0, s.o, s.c + 1⟩
def rdy (s : Sp α) : Sp α := if s.i = R then s.perm π else s
def take1 (s : Sp α) (u : α) : Sp α := ⟨(s.rdy R π).st.set (s.rdy R π).i u, (s.rdy R π).i + 1, R, (s.rdy R π).c⟩
def takes (s : Sp α) (l : List α) : Sp α := l.foldl (take1 R π) s
def turn (s : Sp α) : Sp α := if s.o = R then ⟨π s.st, 0, 0, s.c + 1⟩ else s
def give1 (s : Sp α) : Sp α := ⟨(s.turn R π).st, (s.turn R π).i, (s.turn R π).o + 1, (s.turn R π).c⟩
def out1 (s : Sp α) : α := (s.turn R π).st.getD (s.turn R π).o z
def gives : Nat → Sp α → Sp α
  | 0, s => s
  | n + 1, s => give1 R π (gives n s)
def outs : Nat → Sp α → List α
  | 0, _ => []
  | n + 1, s => outs n s ++ [out1 R π z (gives R π n s)]
def ratch (s : Sp α) : Sp α := ⟨List.replicate R z ++ (π s.st).drop R, 0, R, s.c + 1⟩
structure Ok (W : Nat) (Q : α → Prop) (s : Sp α) : Prop where
  len : s.st.length = W
  all : ∀ x ∈ s.st, Q x
  i : s.i ≤ R
  o : s.o ≤ R
variable {R π z} {W : Nat} {Q : α → Prop}
structure Turns (R : Nat) (π : List α → List α) (W : Nat) (Q : α → Prop) : Prop where
  pos : 0 < R
  le : R < W
  len : ∀ l, l.length = W → (∀ x ∈ l, Q x) → (π l).length = W
  all : ∀ l, l.length = W → (∀ x ∈ l, Q x) → ∀ x ∈ π l, Q x
theorem Ok.perm (T : Turns R π W Q) {s : Sp α} (h : Ok R W Q s) : Ok R W Q (s.perm π) :=
  ⟨T.len _ h.len h.all, T.all _ h.len h.all, Nat.zero_le _, h.o⟩
theorem Ok.rdy (T : Turns R π W Q) {s : Sp α} (h : Ok R W Q s) : Ok R W Q (s.rdy R π) ∧ (s.rdy R π).i < R := by
  unfold Sp.rdy
  by_cases h1 : s.i = R
  · rw [if_pos h1]; exact ⟨h.perm T, T.pos⟩
  · rw [if_neg h1]; exact ⟨h, by have := h.i; omega⟩
theorem Ok.take1 (T : Turns R π W Q) {s : Sp α} (h : Ok R W Q s) {u : α} (hu : Q u) : Ok R W Q (Sp.take1 R π s u) := by
  obtain ⟨h1, h2⟩ := h.rdy T
  refine ⟨by simp [Sp.take1, h1.len], fun x hx => ?_, h2, Nat.le_refl _⟩
  rcases List.mem_or_eq_of_mem_set hx with hx | rfl
  · exact h1.all x hx
  · exact hu
theorem Ok.takes (T : Turns R π W Q) {l : List α} : ∀ {s : Sp α}, Ok R W Q s → (∀ x ∈ l, Q x) → Ok R W Q (Sp.takes R π s l) := by
  induction l with
  | nil => intro s h _; exact h
  | cons u l ih => intro s h hl; exact ih (h.take1 T (hl u (List.mem_cons_self ..))) fun x hx => hl x (List.mem_cons_of_mem _ hx)
theorem Ok.turn (T : Turns R π W Q) {s : Sp α} (h : Ok R W Q s) : Ok R W Q (s.turn R π) ∧ (s.turn R π).o < R := by
  unfold Sp.turn
  by_cases h1 : s.o = R
  · rw [if_pos h1]; exact ⟨⟨T.len _ h.len h.all, T.all _ h.len h.all, Nat.zero_le _, Nat.zero_le _⟩, T.pos⟩
  · rw [if_neg h1]; exact ⟨h, by have := h.o; omega⟩
theorem Ok.give1 (T : Turns R π W Q) {s : Sp α} (h : Ok R W Q s) : Ok R W Q (s.give1 R π) := by
  obtain ⟨h1, h2⟩ := h.turn T
  exact ⟨h1.len, h1.all, h1.i, h2⟩
theorem Ok.out1 (T : Turns R π W Q) {s : Sp α} (h : Ok R W Q s) : Q (s.out1 R π z) := by
  obtain ⟨h1, h2⟩ := h.turn T
  have hl : (s.turn R π).o < (s.turn R π).st.length := by rw [h1.len]; exact Nat.lt_trans h2 T.le
  unfold Sp.out1
  rw [List.getD_eq_getElem?_getD, List.getElem?_eq_getElem hl]
  exact h1.all _ (List.getElem_mem _)
theorem Ok.gives (T : Turns R π W Q) {s : Sp α} (h : Ok R W Q s) : ∀ n, Ok R W Q (Sp.gives R π n s)
  | 0 => h
  | n + 1 => (Ok.gives T h n).give1 T
theorem Ok.outs (T : Turns R π W Q) {s : Sp α} (h : Ok R W Q s) : ∀ n, ∀ x ∈ Sp.outs R π z n s, Q x
  | 0 => fun x hx => by cases hx
  | n + 1 => fun x hx => by
    rcases List.mem_append.1 hx with hx | hx
    · exact Ok.outs T h n x hx
    · rw [List.mem_singleton.1 hx]; exact (h.gives T n).out1 T
theorem outs_len (s : Sp α) : ∀ n, (Sp.outs R π z n s).length = n
  | 0 => rfl
  | n + 1 => by simp [Sp.outs, outs_len s n]
theorem Ok.ratch (T : Turns R π W Q) {s : Sp α} (h : Ok R W Q s) (hz : Q z) : Ok R W Q (s.ratch R π z) := by
  refine ⟨?_, fun x hx => ?_, Nat.zero_le _, Nat.le_refl _⟩
  · have := T.len _ h.len h.all; have := T.le; simp [Sp.ratch]; omega
  · rcases List.mem_append.1 hx with hx | hx
    · rw [List.eq_of_mem_replicate hx]; exact hz
    · exact T.all _ h.len h.all x (List.mem_of_mem_drop hx)
theorem rdy_c (s : Sp α) : (s.rdy R π).c ≤ s.c + 1 := by unfold Sp.rdy; split <;> simp [Sp.perm]
theorem turn_c (s : Sp α) : (s.turn R π).c ≤ s.c + 1 := by unfold Sp.turn; split <;> simp
theorem take1_c (s : Sp α) (u : α) : (Sp.take1 R π s u).c ≤ s.c + 1 := rdy_c s
theorem give1_c (s : Sp α) : (s.give1 R π).c ≤ s.c + 1 := turn_c s
theorem takes_c : ∀ (l : List α) (s : Sp α), (Sp.takes R π s l).c ≤ s.c + l.length
  | [], _ => Nat.le_refl _
  | u :: l, s => by
    have h1 := takes_c l (Sp.take1 R π s u)
    have h2 := take1_c (R := R) (π := π) s u
    show (Sp.takes R π (Sp.take1 R π s u) l).c ≤ _
    simp only [List.length_cons]; omega
theorem gives_c (s : Sp α) : ∀ n, (Sp.gives R π n s).c ≤ s.c + n
  | 0 => Nat.le_refl _
  | n + 1 => by
    have h1 := gives_c s n
    have h2 := give1_c (R := R) (π := π) (Sp.gives R π n s)
    show (Sp.give1 R π (Sp.gives R π n s)).c ≤ _
    omega
theorem takes_snoc (s : Sp α) (l : List α) (u : α) : Sp.takes R π s (l ++ [u]) = Sp.take1 R π (Sp.takes R π s l) u := by
  simp [Sp.takes]
theorem takes_succ (s : Sp α) {l : List α} {j : Nat} (hj : j < l.length) (d : α) : Sp.takes R π s (l.take (j + 1)) = Sp.take1 R π (Sp.takes R π s (l.take j)) (l.getD j d) := by
  rw [List.take_succ_eq_append_getElem hj, takes_snoc, List.getD_eq_getElem?_getD, List.getElem?_eq_getElem hj, Option.getD_some]
theorem take1_T {s : Sp α} (h : s.i = R) (u : α) : Sp.take1 R π s u = ⟨(π s.st).set 0 u, 0 + 1, R, s.c + 1⟩ := by unfold Sp.take1 Sp.rdy; rw [if_pos h]; rfl
theorem take1_F {s : Sp α} (h : s.i ≠ R) (u : α) : Sp.take1 R π s u = ⟨s.st.set s.i u, s.i + 1, R, s.c⟩ := by unfold Sp.take1 Sp.rdy; rw [if_neg h]
theorem give1_T {s : Sp α} (h : s.o = R) : Sp.give1 R π s = ⟨π s.st, 0, 0 + 1, s.c + 1⟩ := by unfold Sp.give1 Sp.turn; rw [if_pos h]
theorem give1_F {s : Sp α} (h : s.o ≠ R) : Sp.give1 R π s = ⟨s.st, s.i, s.o + 1, s.c⟩ := by unfold Sp.give1 Sp.turn; rw [if_neg h]
theorem out1_T {s : Sp α} (h : s.o = R) : Sp.out1 R π z s = (π s.st).getD 0 z := by unfold Sp.out1 Sp.turn; rw [if_pos h]
theorem out1_F {s : Sp α} (h : s.o ≠ R) : Sp.out1 R π z s = s.st.getD s.o z := by unfold Sp.out1 Sp.turn; rw [if_neg h]
end Sp
def bQ (x : Nat) : Prop := x < 256
theorem turnB : Sp.Turns 136 kecB 200 bQ :=
  ⟨by decide, by decide, fun l _ _ => digs_len .., fun l _ _ x hx => digs_bd (by decide) _ _ x hx⟩
end Go.Proofs.YtlfadlfjjkppfaaGreatDoor
namespace Go.Proofs.YtlfadlfjjkppfaaGreatDoor
open Go Sim
set_option maxRecDepth 10000
theorem m_rate : Meth Tryz.prog 213 "Rate" 243 (.agg #[]) (.agg #[]) := Meth.same (by decide) fun _ _ => by kernel_rfl
theorem m_width : Meth Tryz.prog 213 "Width" 244 (.agg #[]) (.agg #[]) := Meth.same (by decide) fun _ _ => by kernel_rfl
theorem m_perm : Meth Tryz.prog 213 "Permute" 242 (.agg #[]) (.agg #[]) := Meth.same (by decide) fun _ _ => by kernel_rfl
def PermB (π : List Nat → List Nat) : Prop := Sp.Turns 136 π 200 bQ ∧ ∀ b, (∀ x ∈ b, bQ x) → b.length = 200 → GC Tryz.prog 242 [.agg #[], .slice (some ⟨0, 0, none⟩) 200 0] [⟨b.map (vi .u8), true, 1⟩] [] [⟨(π b).map (vi .u8), true, 1⟩]
theorem PermB.ok {π : List Nat → List Nat} (h : PermB π) {b : List Nat} (hl : b.length = 200) (hb : ∀ x ∈ b, bQ x) : (π b).length = 200 ∧ ∀ x ∈ π b, bQ x := ⟨h.1.len b hl hb, h.1.all b hl hb⟩
theorem permB : PermB kecB := ⟨turnB, fun _ hb hl => lperm_ctr hb hl⟩
theorem zeroCells_rep (n : Nat) : (Builtin.zeroCells (vi .u8 0).cells n).toList = (List.replicate n 0).map (vi .u8) := by rw [zeroCells_one rfl, List.map_replicate]
theorem clr_at {l : List Nat} (h : 136 ≤ l.length) : setL (l.map (vi .u8)) 0 ((List.replicate 136 0).map (vi .u8)) = (List.replicate 136 0 ++ l.drop 136).map (vi .u8) := by
 have e : l.map (vi .u8) = (l.take 136).map (vi .u8) ++ (l.drop 136).map (vi .u8) := by rw [← List.map_append, List.take_append_drop]
 rw [e, Sim.setL_head (by simp; omega), List.map_append]
theorem new_at {b : List Nat} (h : b.length = 32) : setL ((List.replicate 200 0).map (vi .u8)) 136 (b.map (vi .u8)) = (List.replicate 136 0 ++ b ++ List.replicate 32 0).map (vi .u8) := by
 have e : (List.replicate 200 0).map (vi .u8) = (List.replicate 136 0).map (vi .u8) ++ (List.replicate 32 0).map (vi .u8) ++ (List.replicate 32 0).map (vi .u8) := by
  rw [← List.map_append, ← List.map_append, List.replicate_append_replicate, List.replicate_append_replicate]
 have e2 := Sim.setL_app (b.map (vi .u8)) ((List.replicate 32 0).map (vi .u8)) ((List.replicate 32 0).map (vi .u8)) ((List.replicate 136 0).map (vi .u8)) (by simp [h])
 rw [e, List.map_append, List.map_append]
 rwa [List.length_map, List.length_replicate] at e2
theorem pmB_ctr {π : List Nat → List Nat} (hπ : PermB π) {st : List Nat} {i o c : Nat} (hl : st.length = 200) (hb : ∀ x ∈ st, bQ x) (hc : c < 9223372036854775807) : GC Tryz.prog 208 [.pointer (some ⟨0, 0, none⟩)] [⟨[.iface 213 (.agg #[]), .slice (some ⟨1, 0, none⟩) 200 0, vi .i64 i, vi .i64 o, vi .i64 c], true, 1⟩, ⟨st.map (vi .u8), true, 1⟩] [] [⟨[.iface 213 (.agg #[]), .slice (some ⟨1, 0, none⟩) 200 0, vi .i64 0, vi .i64 o, vi .i64 (c + 1)], true, 1⟩, ⟨(π st).map (vi .u8), true, 1⟩] := by
 refine GC.intro Tryz.func208 rfl (by show 1 ≤ 23; decide) (by exact Nat.le_refl _) ?_
 have hk := hπ.ok hl hb
 refine AW.seqD mixed ?_
 refine AWo.pure (PureOp.move rfl) rfl rfl ?_
 refine AWo.pure (PureOp.nilCheck rfl) rfl rfl ?_
 refine AWo.pure (PureOp.fld tbok rfl rfl rfl (by decide)) rfl rfl ?_
 refine AWo.load tbok rfl rfl rfl rfl rfl rfl ?_
 refine AWo.pure (PureOp.move rfl) rfl rfl ?_
 refine AWo.pure (PureOp.nilCheck rfl) rfl rfl ?_
 refine AWo.pure (PureOp.fld tbok rfl rfl rfl (by decide)) rfl rfl ?_
 refine AWo.load tbok rfl rfl rfl rfl rfl rfl ?_
 refine AWo.pure (PureOp.nilCheckI rfl (by decide)) rfl rfl ?_
 refine AWo.pure (PureOp.move rfl) rfl rfl ?_
 refine AWo.callI (hπ.2 st hb hl) bd242 (m_perm) [(1, 0)] [] rfl (.cons rfl .nil) (.cons rfl rfl (.cons rfl rfl .nil)) (.flat rfl (by exact flatM flat_vi) (by intro h; exact h) .nil) rfl (.chg rfl rfl (flat_map_ren (by exact flatM flat_vi)) (OkL.flat (by exact flatM flat_vi)) .nil) frN (by decide) .nil rfl rfl rfl rfl ?_
 refine AWo.nil (by kernel_rfl) ?_
 refine AW.seqR ?_
 refine AWo.pure (PureOp.move rfl) rfl rfl ?_
 refine AWo.pure (PureOp.nilCheck rfl) rfl rfl ?_
 refine AWo.pure (PureOp.fld tbok rfl rfl rfl (by decide)) rfl rfl ?_
 refine AWo.load tbok rfl rfl rfl rfl rfl rfl ?_
 refine AWo.pure (PureOp.addI (b := 1) rfl rfl (by omega)) rfl rfl ?_
 refine AWo.pure (PureOp.nilCheck rfl) rfl rfl ?_
 refine AWo.pure (PureOp.fld tbok rfl rfl rfl (by decide)) rfl rfl ?_
 refine AWo.store1 tbok rfl rfl rfl rfl rfl (of_decide_eq_true rfl) rfl rfl ?_
 refine AWo.nil trivial ?_
 refine AW.region ?_
 refine AWo.pure (PureOp.move rfl) rfl rfl ?_
 refine AWo.pure (PureOp.nilCheck rfl) rfl rfl ?_
 refine AWo.pure (PureOp.fld tbok rfl rfl rfl (by decide)) rfl rfl ?_
 refine AWo.store1 tbok rfl rfl rfl rfl rfl (of_decide_eq_true rfl) rfl rfl ?_
 refine AWo.nil trivial ?_
 refine RetQ.gc [] [] [] (.inr rfl) rfl .nil rfl .nil (OutL.whole rfl rfl (OkL.all rfl) (by intro h; rfl) (OutL.flat rfl (flatM flat_vi) (by intro h; rfl) trivial)) (by decide) rfl
set_option maxRecDepth 10000 in
theorem abB_ctr {π : List Nat → List Nat} (hπ : PermB π) {s : Sp Nat} {l : List Nat} (hs : Sp.Ok 136 200 bQ s) (hl : bd 256 l) (hc : s.c + l.length < 9223372036854775807) (hn : l.length < 9223372036854775807) : GC Tryz.prog 215 [.pointer (some ⟨0, 0, none⟩), .slice (some ⟨2, 0, none⟩) l.length 0] [⟨[.iface 213 (.agg #[]), .slice (some ⟨1, 0, none⟩) 200 0, vi .i64 s.i, vi .i64 s.o, vi .i64 s.c], true, 1⟩, ⟨s.st.map (vi .u8), true, 1⟩, ⟨l.map (vi .u8), false, 1⟩] [] [⟨[.iface 213 (.agg #[]), .slice (some ⟨1, 0, none⟩) 200 0, vi .i64 ((Sp.takes 136 π s l).i), vi .i64 ((Sp.takes 136 π s l).o), vi .i64 ((Sp.takes 136 π s l).c)], true, 1⟩, ⟨((Sp.takes 136 π s l).st).map (vi .u8), true, 1⟩, ⟨l.map (vi .u8), false, 1⟩] := by
 refine GC.intro Tryz.func215 rfl (by show 2 ≤ 48; decide) (by exact Nat.le_refl _) ?_
 refine AW.seqR ?_
 refine AWo.pure (PureOp.move rfl) rfl rfl ?_
 refine AWo.pure (PureOp.nilCheck rfl) rfl rfl ?_
 refine AWo.pure (PureOp.fld tbok rfl rfl rfl (by decide)) rfl rfl ?_
 refine AWo.load tbok rfl rfl rfl rfl rfl rfl ?_
 refine AWo.callI (lrate_ctr) bd243 (m_rate) [] [] rfl .nil (.cons rfl rfl .nil) .nil rfl .nil frN (by decide) (.cons rfl rfl .nil) rfl rfl rfl rfl ?_
 refine AWo.pure (PureOp.assign rfl) rfl rfl ?_
 refine AWo.nil trivial ?_
 refine AW.seqR ?_
 refine AWo.pure (PureOp.move rfl) rfl rfl ?_
 refine AWo.pure (PureOp.lenS tbok rfl rfl) rfl rfl ?_
 refine AWo.pure (PureOp.move rfl) rfl rfl ?_
 refine AWo.nil trivial ?_
 refine AW.block ?_
 refine AW.loopw (fun mm σ => ∃ j, ∃ S, (j ≤ l.length ∧ S = Sp.takes 136 π s (l.take j)) ∧ mm = l.length - j ∧ σ = ⟨(upd (upd (upd (upd (upd emp 0 (.pointer (some ⟨0, 0, none⟩))) 4 (vi .i64 136)) 12 (.slice (some ⟨2, 0, none⟩) l.length 0)) 13 (vi .i64 l.length)) 14 (vi .i64 j)), (upd (upd (upd emp 0 ⟨[.iface 213 (.agg #[]), .slice (some ⟨1, 0, none⟩) 200 0, vi .i64 S.i, vi .i64 S.o, vi .i64 S.c], true, 1⟩) 1 ⟨S.st.map (vi .u8), true, 1⟩) 2 ⟨l.map (vi .u8), false, 1⟩)⟩) (fm := []) ?_ ⟨0, s, ⟨Nat.zero_le _, rfl⟩, rfl, rfl⟩ ?_
 ·
  refine Wk.of [0, 1, 2] ?_ ?_ ?_ (by decide) rfl
  ·
   refine WkE.upd rfl (by exact VR.flat _ rfl) ?_
   refine WkE.upd rfl (by exact VR.flat _ rfl) ?_
   refine WkE.upd rfl (.slice (2) 0 _ 0 ⟨_, rfl⟩ (by simp) (by simp)) ?_
   refine WkE.upd rfl (by exact VR.flat _ rfl) ?_
   refine WkE.upd rfl (.ptr (0) 0 ⟨_, rfl⟩) ?_
   exact WkE.emp
  ·
   refine WkM.flatM rfl (by rfl) (fun _ => rfl) (fun h => h) ?_
   refine WkM.flatM rfl (by rfl) (fun _ => rfl) (fun h => h) ?_
   refine WkM.cells [1] rfl rfl rfl (dom_all rfl) (fun h => h) ?_
   exact WkM.emp
  ·
   repeat (refine dom_upd_mem (by decide) ?_)
   exact dom_emp
 ·
  rintro mm σ ⟨j, S, ⟨hj, hSe⟩, rfl, rfl⟩
  have hS : Sp.Ok 136 200 bQ S := by rw [hSe]; exact hs.takes hπ.1 fun x hx => hl x (List.mem_of_mem_take hx)
  have hSc : S.c ≤ s.c + j := by
   have h := Sp.takes_c (R := 136) (π := π) (l.take j) s
   rw [← hSe, List.length_take] at h
   omega
  have hSi := hS.i
  have hSl := hS.len
  have hkl := (hπ.ok hS.len hS.all).1
  refine AW.seqR ?_
  refine AWo.pure (PureOp.ltN rfl rfl) rfl rfl ?_
  refine AWo.nil trivial ?_
  refine AW.seq ?_
  refine AW.cond rfl (fun hb0 => ?_) (fun hb0 => ?_)
  ·
   have hi : j < l.length := by simpa using hb0
   refine AW.skip ?_
   refine thenA_normal ?_
   refine AW.seq ?_
   refine AW.block ?_
   refine AW.seqR ?_
   refine AWo.pure (PureOp.idx1 tbok rfl rfl rfl rfl (by omega)) rfl rfl ?_
   refine AWo.loadM tbok 0 rfl rfl rfl (by omega) rfl rfl ?_
   refine AWo.pure (PureOp.assign rfl) rfl rfl ?_
   refine AWo.nil trivial ?_
   refine AW.seq ?_
   refine AW.seqR ?_
   refine AWo.pure (PureOp.move rfl) rfl rfl ?_
   refine AWo.pure (PureOp.nilCheck rfl) rfl rfl ?_
   refine AWo.pure (PureOp.fld tbok rfl rfl rfl (by decide)) rfl rfl ?_
   refine AWo.load tbok rfl rfl rfl rfl rfl rfl ?_
   refine AWo.pure (PureOp.move rfl) rfl rfl ?_
   refine AWo.pure (PureOp.eqN rfl rfl) rfl rfl ?_
   refine AWo.nil trivial ?_
   refine AW.cond rfl (fun hb1 => ?_) (fun hb1 => ?_)
   ·
    have hx : S.i = 136 := by simpa using hb1
    refine AW.region ?_
    refine AWo.pure (PureOp.move rfl) rfl rfl ?_
    refine AWo.callX (pmB_ctr hπ (st := S.st) (i := S.i) (o := S.o) (c := S.c) hS.len hS.all (by omega)) bd208 [(0, 0), (1, 0)] [] rfl (.cons rfl .nil) rfl (.cons rfl rfl .nil) (.whole rfl rfl (OkL.all rfl) (by intro h; exact h) (.flat rfl (flatM flat_vi) (by intro h; exact h) .nil)) rfl (.chg (cells := [.iface 213 (.agg #[]), .slice (some ⟨1, 0, none⟩) 200 0, vi .i64 _, vi .i64 _, vi .i64 _]) rfl rfl rfl (OkL.all rfl) (.chg rfl rfl (flat_map_ren (flatM flat_vi)) (OkL.flat (flatM flat_vi)) .nil)) frN (by decide) .nil rfl rfl rfl rfl ?_
    refine AWo.nil trivial ?_
    refine thenA_normal ?_
    refine AW.seqD mixed ?_
    refine AWo.pure (PureOp.move rfl) rfl rfl ?_
    refine AWo.pure (PureOp.nilCheck rfl) rfl rfl ?_
    refine AWo.pure (PureOp.fld tbok rfl rfl rfl (by decide)) rfl rfl ?_
    refine AWo.load tbok rfl rfl rfl rfl rfl rfl ?_
    refine AWo.pure (PureOp.move rfl) rfl rfl ?_
    refine AWo.pure (PureOp.nilCheck rfl) rfl rfl ?_
    refine AWo.pure (PureOp.fld tbok rfl rfl rfl (by decide)) rfl rfl ?_
    refine AWo.load tbok rfl rfl rfl rfl rfl rfl ?_
    refine AWo.pure (PureOp.move rfl) rfl rfl ?_
    refine AWo.pure (PureOp.idx1 tbok rfl rfl rfl rfl (by decide)) rfl rfl ?_
    refine AWo.storeM (f := (vi .u8)) tbok rfl rfl rfl rfl (by omega) rfl rfl ?_
    refine AWo.nil (by kernel_rfl) ?_
    refine AW.seqR ?_
    refine AWo.pure (PureOp.move rfl) rfl rfl ?_
    refine AWo.pure (PureOp.nilCheck rfl) rfl rfl ?_
    refine AWo.pure (PureOp.fld tbok rfl rfl rfl (by decide)) rfl rfl ?_
    refine AWo.load tbok rfl rfl rfl rfl rfl rfl ?_
    refine AWo.pure (PureOp.addI (b := 1) rfl rfl (by decide)) rfl rfl ?_
    refine AWo.pure (PureOp.nilCheck rfl) rfl rfl ?_
    refine AWo.pure (PureOp.fld tbok rfl rfl rfl (by decide)) rfl rfl ?_
    refine AWo.store1 tbok rfl rfl rfl rfl rfl (of_decide_eq_true rfl) rfl rfl ?_
    refine AWo.nil trivial ?_
    refine AW.region ?_
    refine AWo.pure (PureOp.move rfl) rfl rfl ?_
    refine AWo.pure (PureOp.move rfl) rfl rfl ?_
    refine AWo.pure (PureOp.nilCheck rfl) rfl rfl ?_
    refine AWo.pure (PureOp.fld tbok rfl rfl rfl (by decide)) rfl rfl ?_
    refine AWo.store1 tbok rfl rfl rfl rfl rfl (of_decide_eq_true rfl) rfl rfl ?_
    refine AWo.nil trivial ?_
    refine inBlockA_normal ?_
    refine thenA_normal ?_
    refine AW.region ?_
    refine AWo.pure (PureOp.addI (b := 1) rfl rfl (by omega)) rfl rfl ?_
    refine AWo.pure (PureOp.move rfl) rfl rfl ?_
    refine AWo.nil trivial ?_
    refine thenA_normal ?_
    refine ⟨l.length - (j + 1), [], _, by omega, ?_, j + 1, ⟨(π S.st).set 0 (l.getD j 0), 0 + 1, 136, S.c + 1⟩, ⟨by omega, by rw [Sp.takes_succ s hi 0, ← hSe, Sp.take1_T hx]⟩, rfl, rfl⟩
    refine Wk.of [0, 1, 2] ?_ ?_ ?_ (by decide) rfl
    ·
     refine WkE.upd rfl (by exact VR.flat _ rfl) ?_
     refine WkE.upd rfl (by exact VR.flat _ rfl) ?_
     refine WkE.upd rfl (.slice (2) 0 _ 0 ⟨_, rfl⟩ (by simp) (by simp)) ?_
     refine WkE.upd rfl (by exact VR.flat _ rfl) ?_
     refine WkE.upd rfl (.ptr (0) 0 ⟨_, rfl⟩) ?_
     exact WkE.emp
    ·
     refine WkM.flatM rfl (by rfl) (fun _ => rfl) (fun h => h) ?_
     refine WkM.flatM rfl (by rfl) (fun _ => rfl) (fun h => h) ?_
     refine WkM.cells [1] rfl rfl rfl (dom_all rfl) (fun h => h) ?_
     exact WkM.emp
    ·
     repeat (refine dom_upd_mem (by decide) ?_)
     exact dom_emp
   ·
    have hx : S.i ≠ 136 := by simpa using hb1
    have hx2 : S.i < 136 := by omega
    refine AW.skip ?_
    refine thenA_normal ?_
    refine AW.seqD mixed ?_
    refine AWo.pure (PureOp.move rfl) rfl rfl ?_
    refine AWo.pure (PureOp.nilCheck rfl) rfl rfl ?_
    refine AWo.pure (PureOp.fld tbok rfl rfl rfl (by decide)) rfl rfl ?_
    refine AWo.load tbok rfl rfl rfl rfl rfl rfl ?_
    refine AWo.pure (PureOp.move rfl) rfl rfl ?_
    refine AWo.pure (PureOp.nilCheck rfl) rfl rfl ?_
    refine AWo.pure (PureOp.fld tbok rfl rfl rfl (by decide)) rfl rfl ?_
    refine AWo.load tbok rfl rfl rfl rfl rfl rfl ?_
    refine AWo.pure (PureOp.move rfl) rfl rfl ?_
    refine AWo.pure (PureOp.idx1 tbok rfl rfl rfl rfl (by omega)) rfl rfl ?_
    refine AWo.storeM (f := (vi .u8)) tbok rfl rfl rfl rfl (by omega) rfl rfl ?_
    refine AWo.nil (by kernel_rfl) ?_
    refine AW.seqR ?_
    refine AWo.pure (PureOp.move rfl) rfl rfl ?_
    refine AWo.pure (PureOp.nilCheck rfl) rfl rfl ?_
    refine AWo.pure (PureOp.fld tbok rfl rfl rfl (by decide)) rfl rfl ?_
    refine AWo.load tbok rfl rfl rfl rfl rfl rfl ?_
    refine AWo.pure (PureOp.addI (b := 1) rfl rfl (by omega)) rfl rfl ?_
    refine AWo.pure (PureOp.nilCheck rfl) rfl rfl ?_
    refine AWo.pure (PureOp.fld tbok rfl rfl rfl (by decide)) rfl rfl ?_
    refine AWo.store1 tbok rfl rfl rfl rfl rfl (of_decide_eq_true rfl) rfl rfl ?_
    refine AWo.nil trivial ?_
    refine AW.region ?_
    refine AWo.pure (PureOp.move rfl) rfl rfl ?_
    refine AWo.pure (PureOp.move rfl) rfl rfl ?_
    refine AWo.pure (PureOp.nilCheck rfl) rfl rfl ?_
    refine AWo.pure (PureOp.fld tbok rfl rfl rfl (by decide)) rfl rfl ?_
    refine AWo.store1 tbok rfl rfl rfl rfl rfl (of_decide_eq_true rfl) rfl rfl ?_
    refine AWo.nil trivial ?_
    refine inBlockA_normal ?_
    refine thenA_normal ?_
    refine AW.region ?_
    refine AWo.pure (PureOp.addI (b := 1) rfl rfl (by omega)) rfl rfl ?_
    refine AWo.pure (PureOp.move rfl) rfl rfl ?_
    refine AWo.nil trivial ?_
    refine thenA_normal ?_
    refine ⟨l.length - (j + 1), [], _, by omega, ?_, j + 1, ⟨S.st.set S.i (l.getD j 0), S.i + 1, 136, S.c⟩, ⟨by omega, by rw [Sp.takes_succ s hi 0, ← hSe, Sp.take1_F hx]⟩, rfl, rfl⟩
    refine Wk.of [0, 1, 2] ?_ ?_ ?_ (by decide) rfl
    ·
     refine WkE.upd rfl (by exact VR.flat _ rfl) ?_
     refine WkE.upd rfl (by exact VR.flat _ rfl) ?_
     refine WkE.upd rfl (.slice (2) 0 _ 0 ⟨_, rfl⟩ (by simp) (by simp)) ?_
     refine WkE.upd rfl (by exact VR.flat _ rfl) ?_
     refine WkE.upd rfl (.ptr (0) 0 ⟨_, rfl⟩) ?_
     exact WkE.emp
    ·
     refine WkM.flatM rfl (by rfl) (fun _ => rfl) (fun h => h) ?_
     refine WkM.flatM rfl (by rfl) (fun _ => rfl) (fun h => h) ?_
     refine WkM.cells [1] rfl rfl rfl (dom_all rfl) (fun h => h) ?_
     exact WkM.emp
    ·
     repeat (refine dom_upd_mem (by decide) ?_)
     exact dom_emp
  ·
   have hi : j = l.length := by simp at hb0; omega
   subst hi
   rw [List.take_length] at hSe
   subst hSe
   refine AW.exit ?_
   refine thenA_exit ?_
   refine thenA_exit ?_
   refine inBlockA_hit ?_
   refine RetQ.gc [] [] [] (.inr rfl) rfl .nil rfl .nil (OutL.whole rfl rfl (OkL.all rfl) (by intro h; rfl) (OutL.flat rfl (flatM flat_vi) (by intro h; rfl) (OutL.flat rfl (by exact flatM flat_vi) (by intro h; exact h.elim id fun h => absurd h.1 (by simp)) trivial))) (by decide) rfl
set_option maxRecDepth 10000 in
theorem sqB_ctr {π : List Nat → List Nat} (hπ : PermB π) {s : Sp Nat} {z : Int} {n : Nat} (hs : Sp.Ok 136 200 bQ s) (hz : (if 0 > z then 0 else z) = (n : Int)) (hc : s.c + n < 9223372036854775807) (hn : n < 100000000000) : GC Tryz.prog 212 [.pointer (some ⟨0, 0, none⟩), .int .i64 z] [⟨[.iface 213 (.agg #[]), .slice (some ⟨1, 0, none⟩) 200 0, vi .i64 s.i, vi .i64 s.o, vi .i64 s.c], true, 1⟩, ⟨s.st.map (vi .u8), true, 1⟩] [.slice (some ⟨2, 0, none⟩) n 0] [⟨[.iface 213 (.agg #[]), .slice (some ⟨1, 0, none⟩) 200 0, vi .i64 ((Sp.gives 136 π n s).i), vi .i64 ((Sp.gives 136 π n s).o), vi .i64 ((Sp.gives 136 π n s).c)], true, 1⟩, ⟨((Sp.gives 136 π n s).st).map (vi .u8), true, 1⟩, ⟨(Sp.outs 136 π 0 n s).map (vi .u8), true, 1⟩] := by
 refine GC.intro Tryz.func212 rfl (by show 2 ≤ 47; decide) (by simp) ?_
 refine AW.seqR ?_
 refine AWo.pure (PureOp.assign rfl) rfl rfl ?_
 refine AWo.nil trivial ?_
 refine AW.seqR ?_
 refine AWo.pure (PureOp.assign rfl) rfl rfl ?_
 refine AWo.nil trivial ?_
 refine AW.seq ?_
 refine AW.seqR ?_
 refine AWo.pure (PureOp.move rfl) rfl rfl ?_
 refine AWo.pure ((PureOp.max rfl rfl).mono (v' := vi .i64 n) (congrArg (Value.int .i64) hz)) rfl rfl ?_
 refine AWo.pure (PureOp.move rfl) rfl rfl ?_
 refine AWo.nil trivial ?_
 refine AW.block ?_
 refine AW.ghost 77000 1 rfl ?_
 refine AW.loopw (fun mm σ => ∃ k, ∃ S, (k ≤ n ∧ S = Sp.gives 136 π k s) ∧ mm = n - k ∧ σ = ⟨(upd (upd (upd (upd emp 0 (.pointer (some ⟨0, 0, none⟩))) 5 (.slice (some ⟨77000, 0, none⟩) k 0)) 7 (vi .i64 n)) 8 (vi .i64 k)), (upd (upd (upd emp 0 ⟨[.iface 213 (.agg #[]), .slice (some ⟨1, 0, none⟩) 200 0, vi .i64 S.i, vi .i64 S.o, vi .i64 S.c], true, 1⟩) 1 ⟨S.st.map (vi .u8), true, 1⟩) 77000 ⟨(Sp.outs 136 π 0 k s).map (vi .u8), true, 1⟩)⟩) (fm := []) ?_ ⟨0, s, ⟨Nat.zero_le _, rfl⟩, rfl, rfl⟩ ?_
 ·
  refine Wk.of [0, 1, 77000] ?_ ?_ ?_ (by decide) rfl
  ·
   refine WkE.upd rfl (by exact VR.flat _ rfl) ?_
   refine WkE.upd rfl (by exact VR.flat _ rfl) ?_
   refine WkE.upd rfl (by exact .nilS _ (by simp)) ?_
   refine WkE.upd rfl (.ptr (0) 0 ⟨_, rfl⟩) ?_
   exact WkE.emp
  ·
   refine WkM.flatM rfl (by rfl) (fun _ => rfl) (fun h => h) ?_
   refine WkM.flatM rfl (by rfl) (fun _ => rfl) (fun h => h) ?_
   refine WkM.cells [1] rfl rfl rfl (dom_all rfl) (fun h => h) ?_
   exact WkM.emp
  ·
   repeat (refine dom_upd_mem (by decide) ?_)
   exact dom_emp
 ·
  rintro mm σ ⟨k, S, ⟨hk, hSe⟩, rfl, rfl⟩
  have hS : Sp.Ok 136 200 bQ S := by rw [hSe]; exact hs.gives hπ.1 k
  have hSc : S.c ≤ s.c + k := by rw [hSe]; exact Sp.gives_c s k
  have hSo := hS.o
  have hSl := hS.len
  have hkl := (hπ.ok hS.len hS.all).1
  have hol := Sp.outs_len (R := 136) (π := π) (z := 0) s k
  refine AW.seqR ?_
  refine AWo.pure (PureOp.ltN rfl rfl) rfl rfl ?_
  refine AWo.nil trivial ?_
  refine AW.seq ?_
  refine AW.cond rfl (fun hb0 => ?_) (fun hb0 => ?_)
  ·
   have hi : k < n := by simpa using hb0
   refine AW.skip ?_
   refine thenA_normal ?_
   refine AW.seq ?_
   refine AW.block ?_
   refine AW.seq ?_
   refine AW.seqD mixed ?_
   refine AWo.pure (PureOp.move rfl) rfl rfl ?_
   refine AWo.pure (PureOp.nilCheck rfl) rfl rfl ?_
   refine AWo.pure (PureOp.fld tbok rfl rfl rfl (by decide)) rfl rfl ?_
   refine AWo.load tbok rfl rfl rfl rfl rfl rfl ?_
   refine AWo.pure (PureOp.move rfl) rfl rfl ?_
   refine AWo.pure (PureOp.nilCheck rfl) rfl rfl ?_
   refine AWo.pure (PureOp.fld tbok rfl rfl rfl (by decide)) rfl rfl ?_
   refine AWo.load tbok rfl rfl rfl rfl rfl rfl ?_
   refine AWo.callI (lrate_ctr) bd243 (m_rate) [] [] rfl .nil (.cons rfl rfl .nil) .nil rfl .nil frN (by decide) (.cons rfl rfl .nil) rfl rfl rfl rfl ?_
   refine AWo.pure (PureOp.eqN rfl rfl) rfl rfl ?_
   refine AWo.nil (by kernel_rfl) ?_
   refine AW.cond rfl (fun hb1 => ?_) (fun hb1 => ?_)
   ·
    have hx : S.o = 136 := by simpa using hb1
    refine AW.seqR ?_
    refine AWo.pure (PureOp.move rfl) rfl rfl ?_
    refine AWo.callX (pmB_ctr hπ (st := S.st) (i := S.i) (o := S.o) (c := S.c) hS.len hS.all (by omega)) bd208 [(0, 0), (1, 0)] [] rfl (.cons rfl .nil) rfl (.cons rfl rfl .nil) (.whole rfl rfl (OkL.all rfl) (by intro h; exact h) (.flat rfl (flatM flat_vi) (by intro h; exact h) .nil)) rfl (.chg (cells := [.iface 213 (.agg #[]), .slice (some ⟨1, 0, none⟩) 200 0, vi .i64 _, vi .i64 _, vi .i64 _]) rfl rfl rfl (OkL.all rfl) (.chg rfl rfl (flat_map_ren (flatM flat_vi)) (OkL.flat (flatM flat_vi)) .nil)) frN (by decide) .nil rfl rfl rfl rfl ?_
    refine AWo.nil trivial ?_
    refine AW.region ?_
    refine AWo.pure (PureOp.move rfl) rfl rfl ?_
    refine AWo.pure (PureOp.nilCheck rfl) rfl rfl ?_
    refine AWo.pure (PureOp.fld tbok rfl rfl rfl (by decide)) rfl rfl ?_
    refine AWo.store1 tbok rfl rfl rfl rfl rfl (of_decide_eq_true rfl) rfl rfl ?_
    refine AWo.nil trivial ?_
    refine thenA_normal ?_
    refine AW.seqD mixed ?_
    refine AWo.pure (PureOp.move rfl) rfl rfl ?_
    refine AWo.pure (PureOp.move rfl) rfl rfl ?_
    refine AWo.pure (PureOp.nilCheck rfl) rfl rfl ?_
    refine AWo.pure (PureOp.fld tbok rfl rfl rfl (by decide)) rfl rfl ?_
    refine AWo.load tbok rfl rfl rfl rfl rfl rfl ?_
    refine AWo.pure (PureOp.move rfl) rfl rfl ?_
    refine AWo.pure (PureOp.nilCheck rfl) rfl rfl ?_
    refine AWo.pure (PureOp.fld tbok rfl rfl rfl (by decide)) rfl rfl ?_
    refine AWo.load tbok rfl rfl rfl rfl rfl rfl ?_
    refine AWo.pure (PureOp.idx1 tbok (j := 0) rfl rfl rfl rfl (by omega)) rfl rfl ?_
    refine AWo.loadM tbok (o := 0) 0 rfl rfl rfl (by omega) rfl rfl ?_
    refine AWo.buildSlice tbok 37000 [(0, vi .u8 ((π S.st).getD 0 0))] (out := [(π S.st).getD 0 0].map (vi .u8)) rfl rfl (by decide) rfl rfl rfl (by decide) rfl rfl rfl rfl rfl ?_
    refine AWo.append tbok (all := (Sp.outs 136 π 0 (k + 1) s).map (vi .u8)) (news := [(π S.st).getD 0 0].map (vi .u8)) 38000 rfl rfl rfl rfl (by rw [List.length_map, Sp.outs_len, Nat.mul_one]) (by show List.take _ (List.drop 0 _) = _; rw [List.drop_zero]; exact List.take_of_length_le (by simp)) (by (simp; done)) (by decide) rfl rfl rfl (by decide) rfl rfl rfl (by omega) (by omega) (by exact oneM (fun _ => rfl) _) (by show _ = (Sp.outs 136 π 0 k s ++ [Sp.out1 136 π 0 (Sp.gives 136 π k s)]).map (vi .u8); rw [← hSe, Sp.out1_T hx, List.map_append]; try rfl) rfl rfl ?_
    refine AWo.pure (PureOp.assign rfl) rfl rfl ?_
    refine AWo.nil (by kernel_rfl) ?_
    refine AW.region ?_
    refine AWo.pure (PureOp.move rfl) rfl rfl ?_
    refine AWo.pure (PureOp.nilCheck rfl) rfl rfl ?_
    refine AWo.pure (PureOp.fld tbok rfl rfl rfl (by decide)) rfl rfl ?_
    refine AWo.load tbok rfl rfl rfl rfl rfl rfl ?_
    refine AWo.pure (PureOp.addI (b := 1) rfl rfl (by decide)) rfl rfl ?_
    refine AWo.pure (PureOp.nilCheck rfl) rfl rfl ?_
    refine AWo.pure (PureOp.fld tbok rfl rfl rfl (by decide)) rfl rfl ?_
    refine AWo.store1 tbok rfl rfl rfl rfl rfl (of_decide_eq_true rfl) rfl rfl ?_
    refine AWo.nil trivial ?_
    refine inBlockA_normal ?_
    refine thenA_normal ?_
    refine AW.region ?_
    refine AWo.pure (PureOp.addI (b := 1) rfl rfl (by omega)) rfl rfl ?_
    refine AWo.pure (PureOp.move rfl) rfl rfl ?_
    refine AWo.nil trivial ?_
    refine thenA_normal ?_
    refine ⟨n - (k + 1), [(77000, 38000)], _, by omega, ?_, k + 1, ⟨π S.st, 0, 0 + 1, S.c + 1⟩, ⟨by omega, by show _ = Sp.give1 136 π (Sp.gives 136 π k s); rw [← hSe, Sp.give1_T hx]⟩, rfl, rfl⟩
    refine Wk.of [0, 1, 77000] ?_ ?_ ?_ (by decide) rfl
    ·
     refine WkE.upd rfl (by exact VR.flat _ rfl) ?_
     refine WkE.upd rfl (by exact VR.flat _ rfl) ?_
     refine WkE.upd rfl (by exact .slice (77000) 0 _ 0 ⟨_, rfl⟩ (by simp) (by simp)) ?_
     refine WkE.upd rfl (.ptr (0) 0 ⟨_, rfl⟩) ?_
     exact WkE.emp
    ·
     refine WkM.flatM rfl (by rfl) (fun _ => rfl) (fun h => h) ?_
     refine WkM.flatM rfl (by rfl) (fun _ => rfl) (fun h => h) ?_
     refine WkM.cells [1] rfl rfl rfl (dom_all rfl) (fun h => h) ?_
     exact WkM.emp
    ·
     repeat (refine dom_upd_mem (by decide) ?_)
     exact dom_emp
   ·
    have hx : S.o ≠ 136 := by simpa using hb1
    have hx2 : S.o < 136 := by omega
    refine AW.skip ?_
    refine thenA_normal ?_
    refine AW.seqD mixed ?_
    refine AWo.pure (PureOp.move rfl) rfl rfl ?_
    refine AWo.pure (PureOp.move rfl) rfl rfl ?_
    refine AWo.pure (PureOp.nilCheck rfl) rfl rfl ?_
    refine AWo.pure (PureOp.fld tbok rfl rfl rfl (by decide)) rfl rfl ?_
    refine AWo.load tbok rfl rfl rfl rfl rfl rfl ?_
    refine AWo.pure (PureOp.move rfl) rfl rfl ?_
    refine AWo.pure (PureOp.nilCheck rfl) rfl rfl ?_
    refine AWo.pure (PureOp.fld tbok rfl rfl rfl (by decide)) rfl rfl ?_
    refine AWo.load tbok rfl rfl rfl rfl rfl rfl ?_
    refine AWo.pure (PureOp.idx1 tbok rfl rfl rfl rfl (by omega)) rfl rfl ?_
    refine AWo.loadM tbok 0 rfl rfl rfl (by omega) rfl rfl ?_
    refine AWo.buildSlice tbok 37000 [(0, vi .u8 (S.st.getD S.o 0))] (out := [S.st.getD S.o 0].map (vi .u8)) rfl rfl (by decide) rfl rfl rfl (by decide) rfl rfl rfl rfl rfl ?_
    refine AWo.append tbok (all := (Sp.outs 136 π 0 (k + 1) s).map (vi .u8)) (news := [S.st.getD S.o 0].map (vi .u8)) 38000 rfl rfl rfl rfl (by rw [List.length_map, Sp.outs_len, Nat.mul_one]) (by show List.take _ (List.drop 0 _) = _; rw [List.drop_zero]; exact List.take_of_length_le (by simp)) (by (simp; done)) (by decide) rfl rfl rfl (by decide) rfl rfl rfl (by omega) (by omega) (by exact oneM (fun _ => rfl) _) (by show _ = (Sp.outs 136 π 0 k s ++ [Sp.out1 136 π 0 (Sp.gives 136 π k s)]).map (vi .u8); rw [← hSe, Sp.out1_F hx, List.map_append]; try rfl) rfl rfl ?_
    refine AWo.pure (PureOp.assign rfl) rfl rfl ?_
    refine AWo.nil (by kernel_rfl) ?_
    refine AW.region ?_
    refine AWo.pure (PureOp.move rfl) rfl rfl ?_
    refine AWo.pure (PureOp.nilCheck rfl) rfl rfl ?_
    refine AWo.pure (PureOp.fld tbok rfl rfl rfl (by decide)) rfl rfl ?_
    refine AWo.load tbok rfl rfl rfl rfl rfl rfl ?_
    refine AWo.pure (PureOp.addI (b := 1) rfl rfl (by omega)) rfl rfl ?_
    refine AWo.pure (PureOp.nilCheck rfl) rfl rfl ?_
    refine AWo.pure (PureOp.fld tbok rfl rfl rfl (by decide)) rfl rfl ?_
    refine AWo.store1 tbok rfl rfl rfl rfl rfl (of_decide_eq_true rfl) rfl rfl ?_
    refine AWo.nil trivial ?_
    refine inBlockA_normal ?_
    refine thenA_normal ?_
    refine AW.region ?_
    refine AWo.pure (PureOp.addI (b := 1) rfl rfl (by omega)) rfl rfl ?_
    refine AWo.pure (PureOp.move rfl) rfl rfl ?_
    refine AWo.nil trivial ?_
    refine thenA_normal ?_
    refine ⟨n - (k + 1), [(77000, 38000)], _, by omega, ?_, k + 1, ⟨S.st, S.i, S.o + 1, S.c⟩, ⟨by omega, by show _ = Sp.give1 136 π (Sp.gives 136 π k s); rw [← hSe, Sp.give1_F hx]⟩, rfl, rfl⟩
    refine Wk.of [0, 1, 77000] ?_ ?_ ?_ (by decide) rfl
    ·
     refine WkE.upd rfl (by exact VR.flat _ rfl) ?_
     refine WkE.upd rfl (by exact VR.flat _ rfl) ?_
     refine WkE.upd rfl (by exact .slice (77000) 0 _ 0 ⟨_, rfl⟩ (by simp) (by simp)) ?_
     refine WkE.upd rfl (.ptr (0) 0 ⟨_, rfl⟩) ?_
     exact WkE.emp
    ·
     refine WkM.flatM rfl (by rfl) (fun _ => rfl) (fun h => h) ?_
     refine WkM.flatM rfl (by rfl) (fun _ => rfl) (fun h => h) ?_
     refine WkM.cells [1] rfl rfl rfl (dom_all rfl) (fun h => h) ?_
     exact WkM.emp
    ·
     repeat (refine dom_upd_mem (by decide) ?_)
     exact dom_emp
  ·
   have hi : k = n := by simp at hb0; omega
   subst hi
   subst hSe
   refine AW.exit ?_
   refine thenA_exit ?_
   refine thenA_exit ?_
   refine inBlockA_hit ?_
   refine thenA_normal ?_
   refine AW.seqR ?_
   refine AWo.pure (PureOp.move rfl) rfl rfl ?_
   refine AWo.pure (PureOp.assign rfl) rfl rfl ?_
   refine AWo.nil trivial ?_
   refine AW.ret ?_
   refine RetQ.gc [_] [77000] [.tmp 4] (.inl rfl) rfl (.tmp rfl .nil) rfl (.cons rfl rfl .nil) (OutL.whole rfl rfl (OkL.all rfl) (by intro h; rfl) (OutL.flat rfl (flatM flat_vi) (by intro h; rfl) (OutL.flat rfl (by exact flatM flat_vi) (by intro h; rfl) trivial))) (by decide) rfl
set_option maxRecDepth 10000 in
theorem raB_ctr {π : List Nat → List Nat} (hπ : PermB π) {s : Sp Nat} (hs : Sp.Ok 136 200 bQ s) (hc : s.c < 9223372036854775807) : GC Tryz.prog 207 [.pointer (some ⟨0, 0, none⟩)] [⟨[.iface 213 (.agg #[]), .slice (some ⟨1, 0, none⟩) 200 0, vi .i64 s.i, vi .i64 s.o, vi .i64 s.c], true, 1⟩, ⟨s.st.map (vi .u8), true, 1⟩] [] [⟨[.iface 213 (.agg #[]), .slice (some ⟨1, 0, none⟩) 200 0, vi .i64 ((Sp.ratch 136 π 0 s).i), vi .i64 ((Sp.ratch 136 π 0 s).o), vi .i64 ((Sp.ratch 136 π 0 s).c)], true, 1⟩, ⟨((Sp.ratch 136 π 0 s).st).map (vi .u8), true, 1⟩] := by
 refine GC.intro Tryz.func207 rfl (by show 1 ≤ 22; decide) (by exact Nat.le_refl _) ?_
 have hkl := (hπ.ok hs.len hs.all).1
 refine AW.seqR ?_
 refine AWo.pure (PureOp.move rfl) rfl rfl ?_
 refine AWo.callX (pmB_ctr hπ (st := s.st) (i := s.i) (o := s.o) (c := s.c) hs.len hs.all (by omega)) bd208 [(0, 0), (1, 0)] [] rfl (.cons rfl .nil) rfl (.cons rfl rfl .nil) (.whole rfl rfl (OkL.all rfl) (by intro h; exact h) (.flat rfl (flatM flat_vi) (by intro h; exact h) .nil)) rfl (.chg (cells := [.iface 213 (.agg #[]), .slice (some ⟨1, 0, none⟩) 200 0, vi .i64 _, vi .i64 _, vi .i64 _]) rfl rfl rfl (OkL.all rfl) (.chg rfl rfl (flat_map_ren (flatM flat_vi)) (OkL.flat (flatM flat_vi)) .nil)) frN (by decide) .nil rfl rfl rfl rfl ?_
 refine AWo.nil trivial ?_
 refine AW.seqD mixed ?_
 refine AWo.pure (PureOp.move rfl) rfl rfl ?_
 refine AWo.pure (PureOp.nilCheck rfl) rfl rfl ?_
 refine AWo.pure (PureOp.fld tbok rfl rfl rfl (by decide)) rfl rfl ?_
 refine AWo.load tbok rfl rfl rfl rfl rfl rfl ?_
 refine AWo.pure (PureOp.move rfl) rfl rfl ?_
 refine AWo.pure (PureOp.nilCheck rfl) rfl rfl ?_
 refine AWo.pure (PureOp.fld tbok rfl rfl rfl (by decide)) rfl rfl ?_
 refine AWo.load tbok rfl rfl rfl rfl rfl rfl ?_
 refine AWo.callI (lrate_ctr) bd243 (m_rate) [] [] rfl .nil (.cons rfl rfl .nil) .nil rfl .nil frN (by decide) (.cons rfl rfl .nil) rfl rfl rfl rfl ?_
 refine AWo.sliceS tbok rfl .none (.some rfl) rfl rfl rfl rfl (by decide) (by decide) (.inl rfl) rfl rfl rfl ?_
 refine AWo.clear tbok ((List.replicate 136 0).map (vi .u8)) ((List.replicate 136 0 ++ (π s.st).drop 136).map (vi .u8)) rfl rfl (by rw [List.length_map, List.length_map, hkl]; simp) (by decide) rfl rfl (zeroCells_rep 136) (flatM flat_vi) (oneM (fun _ => rfl) _) (clr_at (by omega)) rfl rfl ?_
 refine AWo.nil (by kernel_rfl) ?_
 refine AW.region ?_
 refine AWo.pure (PureOp.move rfl) rfl rfl ?_
 refine AWo.pure (PureOp.move rfl) rfl rfl ?_
 refine AWo.pure (PureOp.nilCheck rfl) rfl rfl ?_
 refine AWo.pure (PureOp.fld tbok rfl rfl rfl (by decide)) rfl rfl ?_
 refine AWo.load tbok rfl rfl rfl rfl rfl rfl ?_
 refine AWo.callI (lrate_ctr) bd243 (m_rate) [] [] rfl .nil (.cons rfl rfl .nil) .nil rfl .nil frN (by decide) (.cons rfl rfl .nil) rfl rfl rfl rfl ?_
 refine AWo.pure (PureOp.nilCheck rfl) rfl rfl ?_
 refine AWo.pure (PureOp.fld tbok rfl rfl rfl (by decide)) rfl rfl ?_
 refine AWo.store1 tbok rfl rfl rfl rfl rfl (of_decide_eq_true rfl) rfl rfl ?_
 refine AWo.nil trivial ?_
 refine RetQ.gc [] [] [] (.inr rfl) rfl .nil rfl .nil (OutL.whole rfl rfl (OkL.all rfl) (by intro h; rfl) (OutL.flat rfl (flatM flat_vi) (by intro h; rfl) trivial)) (by decide) rfl
theorem caB_ctr {st : List Nat} {i o c : Nat} : GC Tryz.prog 206 [.pointer (some ⟨0, 0, none⟩)] [⟨[.iface 213 (.agg #[]), .slice (some ⟨1, 0, none⟩) 200 0, vi .i64 i, vi .i64 o, vi .i64 c], false, 1⟩, ⟨st.map (vi .u8), false, 1⟩] [vi .i64 c] [⟨[.iface 213 (.agg #[]), .slice (some ⟨1, 0, none⟩) 200 0, vi .i64 i, vi .i64 o, vi .i64 c], false, 1⟩, ⟨st.map (vi .u8), false, 1⟩] := by
 refine GC.intro Tryz.func206 rfl (by show 1 ≤ 7; decide) (by exact Nat.le_refl _) ?_
 refine AW.seqR ?_
 refine AWo.pure (PureOp.assign rfl) rfl rfl ?_
 refine AWo.nil trivial ?_
 refine AW.seqR ?_
 refine AWo.pure (PureOp.move rfl) rfl rfl ?_
 refine AWo.pure (PureOp.nilCheck rfl) rfl rfl ?_
 refine AWo.pure (PureOp.fld tbok rfl rfl rfl (by decide)) rfl rfl ?_
 refine AWo.load tbok rfl rfl rfl rfl rfl rfl ?_
 refine AWo.pure (PureOp.assign rfl) rfl rfl ?_
 refine AWo.nil trivial ?_
 refine AW.ret ?_
 refine RetQ.gc [_] [] [.tmp 2] (.inl rfl) rfl (.tmp rfl .nil) rfl (.cons rfl rfl .nil) (OutL.whole rfl rfl (OkL.all rfl) (by intro h; exact h.elim id fun h => absurd h.1 (by simp)) (OutL.flat rfl (flatM flat_vi) (by intro h; exact h.elim id fun h => absurd h.1 (by simp)) trivial)) (by decide) rfl
set_option maxRecDepth 10000 in
theorem nwB_ctr {b : List Nat} (hl : b.length = 32) : GC Tryz.prog 126 [.iface 213 (.agg #[]), .slice (some ⟨0, 0, none⟩) 32 0] [⟨b.map (vi .u8), false, 1⟩] [.pointer (some ⟨1, 0, none⟩), vi .i64 0] [⟨b.map (vi .u8), false, 1⟩, ⟨[.iface 213 (.agg #[]), .slice (some ⟨2, 0, none⟩) 200 0, vi .i64 0, vi .i64 136, vi .i64 0], true, 1⟩, ⟨(List.replicate 136 0 ++ b ++ List.replicate 32 0).map (vi .u8), true, 1⟩] := by
 refine GC.intro Tryz.func126 rfl (by show 2 ≤ 33; decide) (by simp) ?_
 refine AW.seqR ?_
 refine AWo.pure (PureOp.assign rfl) rfl rfl ?_
 refine AWo.pure (PureOp.assign rfl) rfl rfl ?_
 refine AWo.nil trivial ?_
 refine AW.seq ?_
 refine AW.seqR ?_
 refine AWo.pure (PureOp.move rfl) rfl rfl ?_
 refine AWo.pure (PureOp.lenS tbok rfl rfl) rfl rfl ?_
 refine AWo.pure (PureOp.move rfl) rfl rfl ?_
 refine AWo.callI (lwidth_ctr) bd244 (m_width) [] [] rfl .nil (.cons rfl rfl .nil) .nil rfl .nil frN (by decide) (.cons rfl rfl .nil) rfl rfl rfl rfl ?_
 refine AWo.pure (PureOp.move rfl) rfl rfl ?_
 refine AWo.callI (lrate_ctr) bd243 (m_rate) [] [] rfl .nil (.cons rfl rfl .nil) .nil rfl .nil frN (by decide) (.cons rfl rfl .nil) rfl rfl rfl rfl ?_
 refine AWo.pure (PureOp.subI rfl rfl (by decide) (by decide)) rfl rfl ?_
 refine AWo.pure ((PureOp.gtN rfl rfl).mono (v' := .bool false) rfl) rfl rfl ?_
 refine AWo.nil trivial ?_
 refine AW.condF rfl ?_
 refine AW.skip ?_
 refine thenA_normal ?_
 refine AW.seqD mixed ?_
 refine AWo.pure (PureOp.move rfl) rfl rfl ?_
 refine AWo.pure (PureOp.move rfl) rfl rfl ?_
 refine AWo.callI (lwidth_ctr) bd244 (m_width) [] [] rfl .nil (.cons rfl rfl .nil) .nil rfl .nil frN (by decide) (.cons rfl rfl .nil) rfl rfl rfl rfl ?_
 refine AWo.makeSliceC (n := 200) tbok 19000 ((List.replicate 200 0).map (vi .u8)) rfl rfl (by decide) rfl rfl (by decide) rfl rfl rfl rfl (by decide) (by decide) (by simp [vi]) rfl rfl rfl ?_
 refine AWo.pure (PureOp.move rfl) rfl rfl ?_
 refine AWo.callI (lrate_ctr) bd243 (m_rate) [] [] rfl .nil (.cons rfl rfl .nil) .nil rfl .nil frN (by decide) (.cons rfl rfl .nil) rfl rfl rfl rfl ?_
 refine AWo.pure ((PureOp.buildStruct [(0, .iface 213 (.agg #[])), (1, .slice (some ⟨19000, 0, none⟩) 200 0), (3, vi .i64 136)] pl250.choose_spec.1 zr250 (by decide) pl250.choose_spec.2 rfl rfl).mono (v' := .agg #[.iface 213 (.agg #[]), .slice (some ⟨19000, 0, none⟩) 200 0, vi .i64 0, vi .i64 136, vi .i64 0]) rfl) rfl rfl ?_
 refine AWo.box 23000 1 _ rfl rfl rfl rfl rfl ?_
 refine AWo.pure (PureOp.assign rfl) rfl rfl ?_
 refine AWo.nil (by kernel_rfl) ?_
 refine AW.seqD mixed ?_
 refine AWo.pure (PureOp.move rfl) rfl rfl ?_
 refine AWo.pure (PureOp.nilCheck rfl) rfl rfl ?_
 refine AWo.pure (PureOp.fld tbok rfl rfl rfl (by decide)) rfl rfl ?_
 refine AWo.load tbok rfl rfl rfl rfl rfl rfl ?_
 refine AWo.pure (PureOp.move rfl) rfl rfl ?_
 refine AWo.callI (lrate_ctr) bd243 (m_rate) [] [] rfl .nil (.cons rfl rfl .nil) .nil rfl .nil frN (by decide) (.cons rfl rfl .nil) rfl rfl rfl rfl ?_
 refine AWo.sliceS tbok rfl (.some rfl) .none rfl rfl rfl rfl (by decide) (by decide) (by (right; decide)) rfl rfl rfl ?_
 refine AWo.pure (PureOp.move rfl) rfl rfl ?_
 refine AWo.copyO tbok ((List.replicate 136 0 ++ b ++ List.replicate 32 0).map (vi .u8)) rfl rfl rfl rfl (by decide) (by simp) (by rw [List.drop_zero]; exact List.take_of_length_le (by rw [List.length_map, hl]; decide)) (by rw [List.length_map, hl]; decide) rfl rfl (oneM (fun _ => rfl) _) (new_at hl) rfl rfl ?_
 refine AWo.nil (by kernel_rfl) ?_
 refine AW.seqR ?_
 refine AWo.pure (PureOp.move rfl) rfl rfl ?_
 refine AWo.pure (PureOp.assign rfl) rfl rfl ?_
 refine AWo.pure (PureOp.assign rfl) rfl rfl ?_
 refine AWo.nil trivial ?_
 refine AW.ret ?_
 refine RetQ.gc [_, _] [23000, 19000] [.tmp 4, .tmp 5] (.inl rfl) rfl (.tmp rfl (.tmp rfl .nil)) rfl (.cons rfl rfl (.cons rfl rfl .nil)) (OutL.flat rfl (by exact flatM flat_vi) (by intro h; exact h.elim id fun h => absurd h.1 (by simp)) (OutL.whole rfl rfl (OkL.all rfl) (fun _ => rfl) (OutL.flat rfl (flatM flat_vi) (fun _ => rfl) trivial))) (by decide) rfl
set_option maxRecDepth 10000 in
theorem beB_ctr {b : List Nat} (hl : b.length = 32) : GC Tryz.prog 96 [.iface 213 (.agg #[]), .slice (some ⟨0, 0, none⟩) 32 0] [⟨b.map (vi .u8), false, 1⟩] [.pointer (some ⟨1, 0, none⟩)] [⟨b.map (vi .u8), false, 1⟩, ⟨[.iface 213 (.agg #[]), .slice (some ⟨2, 0, none⟩) 200 0, vi .i64 0, vi .i64 136, vi .i64 0], true, 1⟩, ⟨(List.replicate 136 0 ++ b ++ List.replicate 32 0).map (vi .u8), true, 1⟩] := by
 refine GC.intro Tryz.func96 rfl (by show 2 ≤ 14; decide) (by simp) ?_
 refine AW.seqR ?_
 refine AWo.pure (PureOp.assign rfl) rfl rfl ?_
 refine AWo.nil trivial ?_
 refine AW.seqR ?_
 refine AWo.pure (PureOp.move rfl) rfl rfl ?_
 refine AWo.pure (PureOp.move rfl) rfl rfl ?_
 refine AWo.callX (nwB_ctr hl) bd126 [(0, 0)] [11000, 11001] rfl (.cons rfl (.cons rfl .nil)) rfl (.cons rfl rfl (.cons rfl rfl .nil)) (.flat rfl (by exact flatM flat_vi) (by intro h; exact h) .nil) rfl (.keep rfl (.new (cells := [.iface 213 (.agg #[]), .slice (some ⟨11001, 0, none⟩) 200 0, vi .i64 _, vi .i64 _, vi .i64 _]) rfl (OkL.all rfl) (.new (flat_map_ren (flatM flat_vi)) (OkL.flat (flatM flat_vi)) .nil))) (frC rfl (frC rfl frN)) (by decide) (.cons rfl rfl (.cons rfl rfl .nil)) rfl rfl rfl rfl ?_
 refine AWo.pure (PureOp.move rfl) rfl rfl ?_
 refine AWo.pure (PureOp.extract rfl rfl) rfl rfl ?_
 refine AWo.pure (PureOp.extract rfl rfl) rfl rfl ?_
 refine AWo.pure (PureOp.assign rfl) rfl rfl ?_
 refine AWo.pure (PureOp.assign rfl) rfl rfl ?_
 refine AWo.nil trivial ?_
 refine AW.seqR ?_
 refine AWo.pure (PureOp.move rfl) rfl rfl ?_
 refine AWo.pure (PureOp.assign rfl) rfl rfl ?_
 refine AWo.nil trivial ?_
 refine AW.ret ?_
 refine RetQ.gc [_] [11000, 11001] [.tmp 4] (.inl rfl) rfl (.tmp rfl .nil) rfl (.cons rfl rfl .nil) (OutL.flat rfl (by exact flatM flat_vi) (by intro h; exact h.elim id fun h => absurd h.1 (by simp)) (OutL.whole rfl rfl (OkL.all rfl) (fun _ => rfl) (OutL.flat rfl (flatM flat_vi) (fun _ => rfl) trivial))) (by decide) rfl
set_option maxRecDepth 10000 in
theorem ofB_ctr' {b : List Nat} (hl : b.length = 32) : GC Tryz.prog 45 [.agg (b.map (vi .u8)).toArray] [] [.pointer (some ⟨0, 0, none⟩)] [⟨[.iface 213 (.agg #[]), .slice (some ⟨1, 0, none⟩) 200 0, vi .i64 0, vi .i64 136, vi .i64 0], true, 1⟩, ⟨(List.replicate 136 0 ++ b ++ List.replicate 32 0).map (vi .u8), true, 1⟩] := by
 refine GC.intro Tryz.func45 rfl (by show 1 ≤ 6; decide) (by simp) ?_
 refine AW.seqR ?_
 refine AWo.box 2000 1 (b.map (vi .u8)) rfl rfl rfl rfl rfl ?_
 refine AWo.pure (PureOp.assign rfl) rfl rfl ?_
 refine AWo.nil trivial ?_
 refine AW.seqD mixed ?_
 refine AWo.callX (duk_ctr) bd97 [] [] rfl .nil rfl .nil .nil rfl .nil frN (by decide) (.cons rfl rfl .nil) rfl rfl rfl rfl ?_
 refine AWo.sliceA tbok rfl .none .none rfl rfl rfl rfl (by decide) (by decide) (.inl rfl) (by (simp; omega)) rfl rfl rfl ?_
 refine AWo.callX (beB_ctr hl) bd96 [(2000, 0)] [6000, 6001] rfl (.cons rfl (.cons rfl .nil)) rfl (.cons rfl rfl (.cons rfl rfl .nil)) (.flat rfl (by exact flatM flat_vi) (by intro h; rfl) .nil) rfl (.keep rfl (.new (cells := [.iface 213 (.agg #[]), .slice (some ⟨6001, 0, none⟩) 200 0, vi .i64 _, vi .i64 _, vi .i64 _]) rfl (OkL.all rfl) (.new (flat_map_ren (flatM flat_vi)) (OkL.flat (flatM flat_vi)) .nil))) (frC rfl (frC rfl frN)) (by decide) (.cons rfl rfl .nil) rfl rfl rfl rfl ?_
 refine AWo.pure (PureOp.assign rfl) rfl rfl ?_
 refine AWo.nil (by kernel_rfl) ?_
 refine AW.ret ?_
 refine RetQ.gc [_] [6000, 6001] [.tmp 2] (.inl rfl) rfl (.tmp rfl .nil) rfl (.cons rfl rfl .nil) (OutL.whole rfl rfl (OkL.all rfl) (fun _ => rfl) (OutL.flat rfl (flatM flat_vi) (fun _ => rfl) trivial)) (by decide) rfl
end Go.Proofs.YtlfadlfjjkppfaaGreatDoor
namespace Go.Proofs.YtlfadlfjjkppfaaGreatDoor
open Go Sim
set_option maxRecDepth 10000
structure Hh where
  st : List Nat
  at' : Nat
def hput (s : List Nat) (i x : Nat) : List Nat := s.set (i / 8) (s.getD (i / 8) 0 ^^^ (x * 2 ^ (8 * (i % 8)) % 18446744073709551616))
def hstep (φ : List Nat → List Nat) (h : Hh) (x : Nat) : Hh := if h.at' + 1 = 136 then ⟨φ (hput h.st h.at' x), 0⟩ else ⟨hput h.st h.at' x, h.at' + 1⟩
def hwr (φ : List Nat → List Nat) (h : Hh) (l : List Nat) : Hh := l.foldl (hstep φ) h
def hsum (φ : List Nat → List Nat) (h : Hh) : List Nat := (digs 256 200 (num 18446744073709551616 (φ (hput (hput h.st h.at' 6) 135 128)))).take 32
def h0 : Hh := ⟨List.replicate 25 0, 0⟩
def hwrs (φ : List Nat → List Nat) (ps : List (List Nat)) : Hh := ps.foldl (hwr φ) h0
def dsum (φ : List Nat → List Nat) (ps : List (List Nat)) : List Nat := hsum φ (hwrs φ ps)
def HOk (h : Hh) : Prop := KS h.st ∧ h.at' < 136
def PermF (φ : List Nat → List Nat) : Prop := (∀ s, KS s → KS (φ s)) ∧ ∀ s, KS s → GC Tryz.prog 160 [.agg ((s).map (vi .u64)).toArray] [] [.agg ((φ s).map (vi .u64)).toArray] []
theorem permF : PermF kecF := ⟨fun _ h => kecF_ok h, fun _ h => kperm_ctr h⟩
theorem hput_ok {s : List Nat} (h : KS s) {i x : Nat} : KS (hput s i x) := h.set _ (xor_lt (h.lt _) (Nat.mod_lt _ (by decide)))
theorem hstep_ok {φ : List Nat → List Nat} (hφ : PermF φ) {h : Hh} (hh : HOk h) (x : Nat) : HOk (hstep φ h x) := by
  unfold hstep
  split
  · exact ⟨hφ.1 _ (hput_ok hh.1), by show 0 < 136; decide⟩
  · exact ⟨hput_ok hh.1, by have := hh.2; simp only; omega⟩
theorem hwr_ok {φ : List Nat → List Nat} (hφ : PermF φ) : ∀ (l : List Nat) {h : Hh}, HOk h → HOk (hwr φ h l)
  | [], _, hh => hh
  | x :: l, _, hh => hwr_ok hφ l (hstep_ok hφ hh x)
theorem h0_ok : HOk h0 := ⟨⟨List.length_replicate .., fun x hx => by rw [List.eq_of_mem_replicate hx]; decide⟩, by decide⟩
theorem hwrs_ok {φ : List Nat → List Nat} (hφ : PermF φ) (ps : List (List Nat)) : HOk (hwrs φ ps) := by
  unfold hwrs
  generalize hg : h0 = g
  have hgo : HOk g := by rw [← hg]; exact h0_ok
  clear hg
  induction ps generalizing g with
  | nil => exact hgo
  | cons p ps ih => exact ih _ (hwr_ok hφ p hgo)
theorem hsum_len (φ : List Nat → List Nat) (h : Hh) : (hsum φ h).length = 32 := by simp [hsum, digs_len]
theorem hsum_bd (φ : List Nat → List Nat) (h : Hh) : bd 256 (hsum φ h) := fun x hx => digs_bd (by decide) _ _ x (List.mem_of_mem_take hx)
theorem hwr_succ (φ : List Nat → List Nat) (h : Hh) {l : List Nat} {j : Nat} (hj : j < l.length) : hwr φ h (l.take (j + 1)) = hstep φ (hwr φ h (l.take j)) (l.getD j 0) := by
  rw [List.take_succ_eq_append_getElem hj, List.getD_eq_getElem?_getD, List.getElem?_eq_getElem hj, Option.getD_some]
  unfold hwr
  rw [List.foldl_append]; rfl
theorem hwrs_succ (φ : List Nat → List Nat) {ps : List (List Nat)} {j : Nat} (hj : j < ps.length) : hwrs φ (ps.take (j + 1)) = hwr φ (hwrs φ (ps.take j)) (ps.getD j []) := by
  rw [List.take_succ_eq_append_getElem hj, List.getD_eq_getElem?_getD, List.getElem?_eq_getElem hj, Option.getD_some]
  unfold hwrs
  rw [List.foldl_append]; rfl
theorem hstep_T {φ : List Nat → List Nat} {h : Hh} (x : Nat) (hx : h.at' + 1 = 136) : hstep φ h x = ⟨φ (hput h.st h.at' x), 0⟩ := if_pos hx
theorem hstep_F {φ : List Nat → List Nat} {h : Hh} (x : Nat) (hx : h.at' + 1 ≠ 136) : hstep φ h x = ⟨hput h.st h.at' x, h.at' + 1⟩ := if_neg hx
def hsC (s : List Nat) (a : Nat) : List Value := s.map (vi .u64) ++ [vi .i64 a]
theorem hsC_flat (s : List Nat) (a : Nat) : ∀ v ∈ hsC s a, flatV v = true := by
  intro v hv
  rcases List.mem_append.1 hv with h | h
  · exact flatM flat_vi v h
  · rw [List.mem_singleton.1 h]; rfl
theorem hsC_len {s : List Nat} (h : s.length = 25) (a : Nat) : (hsC s a).length = 26 := by simp [hsC, h]
theorem hsC_get {s : List Nat} (h : s.length = 25) (a : Nat) {j : Nat} (hj : j < 25) : (hsC s a)[j]? = some (vi .u64 (s.getD j 0)) := by
  unfold hsC
  rw [List.getElem?_append_left (by rw [List.length_map, h]; exact hj), List.getElem?_map, List.getElem?_eq_getElem (by omega), List.getD_eq_getElem?_getD, List.getElem?_eq_getElem (by omega)]
  rfl
theorem hsC_at {s : List Nat} (h : s.length = 25) (a : Nat) : (hsC s a)[25]? = some (vi .i64 a) := by
  unfold hsC
  rw [List.getElem?_append_right (by rw [List.length_map, h]; exact Nat.le_refl _), List.length_map, h]; rfl
theorem hsC_set {s : List Nat} (h : s.length = 25) (a : Nat) {j x : Nat} (hj : j < 25) : (hsC s a).set j (vi .u64 x) = hsC (s.set j x) a := by
  unfold hsC
  rw [List.set_append_left _ _ (by rw [List.length_map, h]; exact hj), List.map_set]
theorem hsC_setat {s : List Nat} (h : s.length = 25) (a b : Nat) : (hsC s a).set 25 (vi .i64 b) = hsC s b := by
  unfold hsC
  rw [List.set_append_right _ _ (by rw [List.length_map, h]; exact Nat.le_refl _), List.length_map, h]; rfl
theorem hsC_take {s : List Nat} (h : s.length = 25) (a : Nat) : ((hsC s a).drop 0).take 25 = s.map (vi .u64) := by
  unfold hsC
  rw [List.drop_zero, List.take_append_of_le_length (by simp [h])]
  exact List.take_of_length_le (by simp [h])
theorem hsC_all {s t : List Nat} (h : s.length = 25) (h' : t.length = 25) (a : Nat) : setL (hsC s a) 0 (t.map (vi .u64)) = hsC t a := Sim.setL_head (by simp [h, h'])
theorem agg_size {t : List Nat} {n : Nat} (h : t.length = n) {k : IntKind} : (Value.agg (t.map (vi k)).toArray).cells.size = n := by simp [Value.cells, h]
end Go.Proofs.YtlfadlfjjkppfaaGreatDoor
namespace Go.Proofs.YtlfadlfjjkppfaaGreatDoor
open Go Sim
set_option maxRecDepth 10000
theorem hsC_one (s : List Nat) (a : Nat) : (hsC s a).all (·.oneCell') = true := by
 rw [List.all_eq_true]
 intro v hv
 rcases List.mem_append.1 hv with h | h
 · obtain ⟨x, _, rfl⟩ := List.mem_map.1 h; rfl
 · rw [List.mem_singleton.1 h]; rfl
set_option maxRecDepth 10000 in
theorem hput_ctr {s : List Nat} {a i x : Nat} (hs : KS s) (hi : i < 200) (hx : x < 256) : GC Tryz.prog 159 [.pointer (some ⟨0, 0, none⟩), vi .i64 i, vi .u8 x] [⟨hsC s a, true, 1⟩] [] [⟨hsC (hput s i x) a, true, 1⟩] := by
 refine gi Tryz.func159 ?_
 have hl := hs.1
 have hlt : i / 8 < 25 := by omega
 have hl2 := hsC_len hl a
 refine AW.draw mixed ?_
 refine yM ?_
 refine yM ?_
 refine yP ((PureOp.quoN (b := 8) 9223372036854775808 rfl rfl (by decide) (by decide) (by decide) (by omega)).mono (v' := vi .i64 (i / 8)) rfl) ?_
 refine yP (PureOp.nilCheck rfl) ?_
 refine yP pF ?_
 refine yP (PureOp.arr1 tbok (j := i / 8) rfl rfl rfl rfl hlt) ?_
 refine AWo.load tbok rfl rfl rfl (hsC_get hl a hlt) rfl rfl ?_
 refine yM ?_
 refine yP (PureOp.cvtN tbok 18446744073709551616 rfl rfl rfl (by decide) (by decide) (by omega)) ?_
 refine yM ?_
 refine yP ((PureOp.remN (b := 8) rfl rfl (by decide)).mono (v' := vi .i64 (i % 8)) rfl) ?_
 refine yP ((PureOp.mulI (a := 8) rfl rfl (by omega)).mono (v' := vi .i64 (8 * (i % 8))) rfl) ?_
 refine yP (PureOp.shlUge 18446744073709551616 rfl rfl rfl rfl) ?_
 refine yP (PureOp.xorN 18446744073709551616 rfl rfl (by decide) (by decide) (hs.lt _) (Nat.mod_lt _ (by decide))) ?_
 refine yP (PureOp.nilCheck rfl) ?_
 refine yP pF ?_
 refine yP (PureOp.arr1 tbok (j := i / 8) rfl rfl rfl rfl hlt) ?_
 refine AWo.store1 tbok rfl rfl rfl rfl rfl (by rw [hl2]; omega) (hsC_set hl a hlt) rfl ?_
 refine zD ?_
 exact rq [] [] (hb := (OutL.flat rfl (hsC_flat _ _) (by intro h; rfl) trivial))
set_option maxRecDepth 10000 in
theorem hwr_ctr {φ : List Nat → List Nat} {h : Hh} {l : List Nat} (hφ : PermF φ) (hh : HOk h) (hb : bd 256 l) (hn : l.length < 9223372036854775807) : GC Tryz.prog 124 [.pointer (some ⟨0, 0, none⟩), .slice (some ⟨1, 0, none⟩) l.length 0] [⟨hsC h.st h.at', true, 1⟩, ⟨l.map (vi .u8), false, 1⟩] [] [⟨hsC ((hwr φ h l).st) (hwr φ h l).at', true, 1⟩, ⟨l.map (vi .u8), false, 1⟩] := by
 have hl := fun j => bd_getD hb (by decide : 0 < 256) j
 refine gi Tryz.func124 ?_
 refine zS ?_
 refine yM ?_
 refine yP pL ?_
 refine yM ?_
 refine zN (zB ?_)
 refine AW.loopw (fun mm σ => ∃ j, ∃ H, (j ≤ l.length ∧ H = hwr φ h (l.take j)) ∧ mm = l.length - j ∧ σ = ⟨(upd (upd (upd (upd emp 0 (.pointer (some ⟨0, 0, none⟩))) 6 (.slice (some ⟨1, 0, none⟩) l.length 0)) 7 (vi .i64 l.length)) 8 (vi .i64 j)), (upd (upd emp 0 ⟨hsC H.st H.at', true, 1⟩) 1 ⟨l.map (vi .u8), false, 1⟩)⟩) (fm := []) ?_ ⟨0, h, ⟨Nat.zero_le _, rfl⟩, rfl, rfl⟩ ?_
 ·
  refine Wk.of [0, 1] ?_ ?_ ?_ (by decide) rfl
  ·
   refine WkE.upd rfl (by exact VR.flat _ rfl) ?_
   refine WkE.upd rfl (by exact VR.flat _ rfl) ?_
   refine WkE.upd rfl (.slice (1) 0 _ 0 ⟨_, rfl⟩ (by simp) (by simp)) ?_
   refine WkE.upd rfl (.ptr (0) 0 ⟨_, rfl⟩) ?_
   exact WkE.emp
  ·
   refine WkM.flatM rfl (by rfl) (fun _ => rfl) (fun h => h) ?_
   refine WkM.flat rfl (hsC_flat _ _) (fun h => h) ?_
   exact WkM.emp
  ·
   repeat (refine dom_upd_mem (by decide) ?_)
   exact dom_emp
 ·
  rintro mm σ ⟨j, H, ⟨hj, hHe⟩, rfl, rfl⟩
  have hH : HOk H := by rw [hHe]; exact hwr_ok hφ _ hh
  have hHa := hH.2
  have hk : KS (hput H.st H.at' (l.getD j 0)) := hput_ok hH.1
  have hk2 := hφ.1 _ hk
  refine zS ?_
  refine yP pLt ?_
  refine zN (zQ ?_)
  refine zA (fun hb0 => ?_) (fun hb0 => ?_)
  ·
   have hi : j < l.length := by simpa using hb0
   refine zK (zT (zQ (zB (zS ?_))))
   refine yP pJ ?_
   refine yL 0 ?_
   refine yA ?_
   refine zN (zS ?_)
   refine yM ?_
   refine yM ?_
   refine yP (PureOp.nilCheck rfl) ?_
   refine yP pF ?_
   refine AWo.load tbok rfl rfl rfl (hsC_at hH.1.1 _) rfl rfl ?_
   refine yM ?_
   refine yC (hput_ctr (s := H.st) (a := H.at') (i := H.at') (x := (l.getD j 0)) hH.1 (by omega) (hl j)) bd159 [(0, 0)] [] ?_ (hfit := (.flat rfl (hsC_flat _ _) (by intro h; exact h) .nil)) (hnew := (.chg rfl rfl (flat_map_ren (hsC_flat _ _)) (OkL.flat (hsC_flat _ _)) .nil))
   refine zN (zS ?_)
   refine yM ?_
   refine yP (PureOp.nilCheck rfl) ?_
   refine yP pF ?_
   refine AWo.load tbok rfl rfl rfl (hsC_at hk.1 _) rfl rfl ?_
   refine yP (pAdd (b := 1)) ?_
   refine yP (PureOp.nilCheck rfl) ?_
   refine yP pF ?_
   refine AWo.store1 tbok (v := vi .i64 (H.at' + 1)) rfl rfl rfl rfl rfl (by rw [hsC_len hk.1]; decide) (hsC_setat hk.1 _ _) rfl ?_
   refine zN (zS ?_)
   refine yM ?_
   refine yP (PureOp.nilCheck rfl) ?_
   refine yP pF ?_
   refine AWo.load tbok rfl rfl rfl (hsC_at hk.1 _) rfl rfl ?_
   refine yP (pEq (b := 136)) ?_
   refine zN ?_
   refine zA (fun hb1 => ?_) (fun hb1 => ?_)
   ·
    have hx : H.at' + 1 = 136 := by simpa using hb1
    refine zR ?_
    refine yM ?_
    refine yM ?_
    refine yM ?_
    refine yP (PureOp.nilCheck rfl) ?_
    refine yP pF ?_
    refine AWo.loadAgg tbok (vs := (hput H.st H.at' (l.getD j 0)).map (vi .u64)) rfl rfl rfl rfl (by show 0 + 25 ≤ (hsC _ _).length; rw [hsC_len hk.1]; decide) (hsC_take hk.1 _) rfl rfl ?_
    refine yC (hφ.2 _ hk) bd160 [] [] ?_
    refine yP (PureOp.nilCheck rfl) ?_
    refine yP pF ?_
    refine AWo.store tbok (v := .agg ((φ (hput H.st H.at' (l.getD j 0))).map (vi .u64)).toArray) rfl rfl rfl rfl (by rw [agg_size hk2.1]; rfl) (by show 0 + _ ≤ (hsC _ _).length; rw [agg_size hk2.1, hsC_len hk.1]; decide) (by exact oneM (fun _ => rfl) _) (hsC_all hk.1 hk2.1 _) rfl ?_
    refine yP (PureOp.nilCheck rfl) ?_
    refine yP pF ?_
    refine AWo.store1 tbok (v := vi .i64 0) rfl rfl rfl rfl rfl (by rw [hsC_len hk2.1]; decide) (hsC_setat hk2.1 _ 0) rfl ?_
    refine zN (zL (zT (zR ?_)))
    refine yP (pAdd (b := 1)) ?_
    refine yM ?_
    refine zN (zT ?_)
    refine ⟨l.length - (j + 1), [], _, by omega, ?_, j + 1, ⟨φ (hput H.st H.at' (l.getD j 0)), 0⟩, ⟨by omega, by rw [hwr_succ φ h hi, ← hHe, hstep_T _ hx]⟩, rfl, rfl⟩
    refine Wk.of [0, 1] ?_ ?_ ?_ (by decide) rfl
    ·
     refine WkE.upd rfl (by exact VR.flat _ rfl) ?_
     refine WkE.upd rfl (by exact VR.flat _ rfl) ?_
     refine WkE.upd rfl (.slice (1) 0 _ 0 ⟨_, rfl⟩ (by simp) (by simp)) ?_
     refine WkE.upd rfl (.ptr (0) 0 ⟨_, rfl⟩) ?_
     exact WkE.emp
    ·
     refine WkM.flatM rfl (by rfl) (fun _ => rfl) (fun h => h) ?_
     refine WkM.flat rfl (hsC_flat _ _) (fun h => h) ?_
     exact WkM.emp
    ·
     repeat (refine dom_upd_mem (by decide) ?_)
     exact dom_emp
   ·
    have hx : H.at' + 1 ≠ 136 := by simpa using hb1
    refine zK (zL (zT (zR ?_)))
    refine yP (pAdd (b := 1)) ?_
    refine yM ?_
    refine zN (zT ?_)
    refine ⟨l.length - (j + 1), [], _, by omega, ?_, j + 1, ⟨(hput H.st H.at' (l.getD j 0)), H.at' + 1⟩, ⟨by omega, by rw [hwr_succ φ h hi, ← hHe, hstep_F _ hx]⟩, rfl, rfl⟩
    refine Wk.of [0, 1] ?_ ?_ ?_ (by decide) rfl
    ·
     refine WkE.upd rfl (by exact VR.flat _ rfl) ?_
     refine WkE.upd rfl (by exact VR.flat _ rfl) ?_
     refine WkE.upd rfl (.slice (1) 0 _ 0 ⟨_, rfl⟩ (by simp) (by simp)) ?_
     refine WkE.upd rfl (.ptr (0) 0 ⟨_, rfl⟩) ?_
     exact WkE.emp
    ·
     refine WkM.flatM rfl (by rfl) (fun _ => rfl) (fun h => h) ?_
     refine WkM.flat rfl (hsC_flat _ _) (fun h => h) ?_
     exact WkM.emp
    ·
     repeat (refine dom_upd_mem (by decide) ?_)
     exact dom_emp
  ·
   have hi : j = l.length := by simp at hb0; omega
   subst hi
   rw [List.take_length] at hHe
   subst hHe
   refine zX (zV (zV (zH ?_)))
   exact rq [] [] (hb := (OutL.flat rfl (hsC_flat _ _) (by intro h; rfl) (OutL.flat rfl (by exact flatM flat_vi) (by intro h; exact h.elim id fun h => absurd h.1 (by simp)) trivial)))
set_option maxRecDepth 10000 in
theorem hsum_ctr {φ : List Nat → List Nat} {h : Hh} (hφ : PermF φ) (hh : HOk h) : GC Tryz.prog 125 [.pointer (some ⟨0, 0, none⟩)] [⟨hsC h.st h.at', false, 1⟩] [.agg ((hsum φ h).map (vi .u8)).toArray] [⟨hsC h.st h.at', false, 1⟩] := by
 refine gi Tryz.func125 ?_
 have hl := hh.1.1
 have ha := hh.2
 have h1 : KS (hput h.st h.at' 6) := hput_ok hh.1
 have h2 : KS (hput (hput h.st h.at' 6) 135 128) := hput_ok h1
 have h3 := hφ.1 _ h2
 have h4 := digs_len (B := 256) 200 (num 18446744073709551616 (φ (hput (hput h.st h.at' 6) 135 128)))
 refine zS ?_
 refine yN 3000 1 ((List.replicate 32 0).map (vi .u8)) ?_
 refine zN (zS ?_)
 refine yM ?_
 refine yP (PureOp.nilCheck rfl) ?_
 refine AWo.loadAll tbok rfl rfl rfl rfl (hsC_len hl _) rfl rfl ?_
 refine yN 4000 1 (hsC (List.replicate 25 0) 0) ?_
 refine AWo.storeAllN (vs := hsC h.st h.at') tbok rfl rfl rfl rfl (hsC_len hl _) (hsC_len (by simp) _) (hsC_one _ _) rfl ?_
 refine zN (zS ?_)
 refine yP pF ?_
 refine AWo.load tbok rfl rfl rfl (hsC_at hl _) rfl rfl ?_
 refine yC (hput_ctr (s := h.st) (a := h.at') (i := h.at') (x := 6) hh.1 (by omega) (by decide)) bd159 [(4000, 0)] [] ?_ (hfit := (.flat rfl (hsC_flat _ _) (by intro h; exact h) .nil)) (hnew := (.chg rfl rfl (flat_map_ren (hsC_flat _ _)) (OkL.flat (hsC_flat _ _)) .nil))
 refine zN (zS ?_)
 refine yC (hput_ctr (s := (hput h.st h.at' 6)) (a := h.at') (i := 135) (x := 128) h1 (by decide) (by decide)) bd159 [(4000, 0)] [] ?_ (hfit := (.flat rfl (hsC_flat _ _) (by intro h; exact h) .nil)) (hnew := (.chg rfl rfl (flat_map_ren (hsC_flat _ _)) (OkL.flat (hsC_flat _ _)) .nil))
 refine zN (zS ?_)
 refine yP pF ?_
 refine AWo.loadAgg tbok (vs := (hput (hput h.st h.at' 6) 135 128).map (vi .u64)) rfl rfl rfl rfl (by show 0 + 25 ≤ (hsC _ _).length; rw [hsC_len h2.1]; decide) (hsC_take h2.1 _) rfl rfl ?_
 refine yC (hφ.2 _ h2) bd160 [] [] ?_
 refine yC (kbytes_ctr h3) bd161 [] [] ?_
 refine yN 5000 1 ((List.replicate 200 0).map (vi .u8)) ?_
 refine AWo.storeAllN (vs := (digs 256 200 (num 18446744073709551616 (φ (hput (hput h.st h.at' 6) 135 128)))).map (vi .u8)) tbok rfl rfl rfl rfl (by rw [List.length_map, h4]) (by rw [List.length_map, List.length_replicate]) (oneM (fun _ => rfl) _) rfl ?_
 refine zN (zS ?_)
 refine AWo.sliceA tbok rfl .none (.some rfl) rfl rfl rfl rfl (by decide) (by decide) (.inl rfl) (by show 0 + 200 * 1 ≤ ((digs 256 200 (num 18446744073709551616 (φ (hput (hput h.st h.at' 6) 135 128)))).map _).length; rw [List.length_map, h4]; exact Nat.le_refl _) rfl rfl rfl ?_
 refine yP (PureOp.toArrT tbok rfl rfl (by decide) (by decide)) ?_
 refine AWo.loadAgg tbok (vs := (hsum φ h).map (vi .u8)) rfl rfl rfl rfl (by show 0 + 32 ≤ ((digs 256 200 (num 18446744073709551616 (φ (hput (hput h.st h.at' 6) 135 128)))).map _).length; rw [List.length_map, h4]; decide) (by show List.take 32 (List.drop 0 ((digs 256 200 (num 18446744073709551616 (φ (hput (hput h.st h.at' 6) 135 128)))).map _)) = _; rw [List.drop_zero, ← List.map_take]; rfl) rfl rfl ?_
 refine AWo.storeAllN (vs := (hsum φ h).map (vi .u8)) tbok rfl rfl rfl rfl (by rw [List.length_map, hsum_len]) (by rw [List.length_map, List.length_replicate]) (oneM (fun _ => rfl) _) rfl ?_
 refine zN (zE ?_)
 exact rq [] [.cell 2 55] (hb := (OutL.flat rfl (hsC_flat _ _) (by intro h; exact h.elim id fun h => absurd h.1 (by simp)) trivial))
set_option maxRecDepth 10000 in
theorem dsum_ctr {φ : List Nat → List Nat} {ps : List (List Nat)} (hφ : PermF φ) (hb : ∀ j, j < ps.length → bd 256 (ps.getD j [])) (hln : ∀ j, j < ps.length → (ps.getD j []).length < 9223372036854775807) (hn : ps.length < 9223372036854775807) : GC Tryz.prog 94 [.slice (some ⟨0, 0, none⟩) ps.length 0] [⟨ps.map (db), false, 1⟩] [.agg ((dsum φ ps).map (vi .u8)).toArray] [⟨ps.map (db), false, 1⟩] := by
 refine gi Tryz.func94 ?_
 refine zS ?_
 refine yN 3000 1 ((List.replicate 32 0).map (vi .u8)) ?_
 refine zN (zS ?_)
 refine yN 4000 1 (hsC h0.st h0.at') ?_
 refine zN (zQ (zS ?_))
 refine yM ?_
 refine yP pL ?_
 refine yM ?_
 refine zN (zB ?_)
 refine AW.loopw (fun mm σ => ∃ j, (j ≤ ps.length) ∧ mm = ps.length - j ∧ σ = ⟨(upd (upd (upd (upd (upd emp 2 (.pointer (some ⟨3000, 0, none⟩))) 3 (.pointer (some ⟨4000, 0, none⟩))) 6 (.slice (some ⟨0, 0, none⟩) ps.length 0)) 7 (vi .i64 ps.length)) 8 (vi .i64 j)), (upd (upd (upd emp 0 ⟨ps.map db, false, 1⟩) 3000 ⟨(List.replicate 32 0).map (vi .u8), true, 1⟩) 4000 ⟨hsC (hwrs φ (ps.take j)).st (hwrs φ (ps.take j)).at', true, 1⟩)⟩) (fm := []) (wk [0, 3000, 4000]) ⟨0, Nat.zero_le _, rfl, rfl⟩ ?_
 rintro mm σ ⟨j, hinv, rfl, rfl⟩
 have hH := hwrs_ok hφ (ps.take j)
 refine zS ?_
 refine yP pLt ?_
 refine zN (zQ ?_)
 refine zA (fun hb0 => ?_) (fun hb0 => ?_)
 ·
  have hi : j < ps.length := by simpa using hb0
  refine zK (zT (zQ (zB (zS ?_))))
  refine yP pJ ?_
  refine AWo.loadM (f := db) tbok [] rfl rfl rfl (by omega) rfl rfl ?_
  refine yA ?_
  refine zN ?_
  refine AW.expose 5 99000 ?_
  refine zR ?_
  refine yM ?_
  refine yC (hwr_ctr (l := ps.getD j []) hφ hH (hb j hi) (hln j hi)) bd124 [(4000, 0), (99000, 0)] [] ?_ (hfit := (.flat rfl (hsC_flat _ _) (by intro h; exact h) (.flat rfl (by exact flatM flat_vi) (by intro h; exact h) .nil))) (hnew := (.chg rfl rfl (flat_map_ren (hsC_flat _ _)) (OkL.flat (hsC_flat _ _)) (.keep rfl .nil)))
  refine zN (zL (zT (zR ?_)))
  refine yP (pAdd (b := 1)) ?_
  refine yM ?_
  refine zN (zT ?_)
  rw [← hwrs_succ φ hi]
  refine ⟨ps.length - (j + 1), [], _, by omega, ?_, j + 1, by omega, rfl, rfl⟩
  refine Wk.of [0, 3000, 4000] ?_ ?_ ?_ (by decide) rfl
  ·
   refine WkE.upd rfl (by exact VR.flat _ rfl) ?_
   refine WkE.upd rfl (by exact VR.flat _ rfl) ?_
   refine WkE.upd rfl (.slice (0) 0 _ 0 ⟨_, rfl⟩ (by simp) (by simp)) ?_
   refine WkE.upd rfl (.ptr (4000) 0 ⟨_, rfl⟩) ?_
   refine WkE.upd rfl (.ptr (3000) 0 ⟨_, rfl⟩) ?_
   exact WkE.emp
  ·
   refine WkM.flat rfl (hsC_flat _ _) (fun h => h) ?_
   refine WkM.flatM rfl (by rfl) (fun _ => rfl) (fun h => h) ?_
   refine WkM.cloM rfl rfl (fun _ => rfl) (fun h => h) ?_
   exact WkM.emp
  ·
   repeat (refine dom_upd_mem (by decide) ?_)
   exact dom_emp
 ·
  have hi : j = ps.length := by simp at hb0; omega
  subst hi
  rw [List.take_length]
  refine zX (zV (zV (zH (zT (zS ?_)))))
  refine yC (hsum_ctr hφ (hwrs_ok hφ ps)) bd125 [(4000, 0)] [] ?_ (hfit := (.flat rfl (hsC_flat _ _) (by intro h; rfl) .nil))
  refine AWo.storeAllN (vs := (dsum φ ps).map (vi .u8)) tbok rfl rfl rfl rfl (by rw [List.length_map]; exact hsum_len _ _) (by rw [List.length_map, List.length_replicate]) (oneM (fun _ => rfl) _) rfl ?_
  refine zN (zE ?_)
  exact rq [] [.cell 2 55] (hb := (OutL.clo rfl (cloM fun _ => rfl) (by intro h; exact h.elim id fun h => absurd h.1 (by simp)) trivial))
end Go.Proofs.YtlfadlfjjkppfaaGreatDoor
namespace Go.Proofs.YtlfadlfjjkppfaaGreatDoor
open Go Sim
set_option maxRecDepth 10000
def domB : List Nat := [97, 118, 111, 117, 99, 104, 47, 116, 114, 97, 110, 115, 99, 114, 105, 112, 116, 47, 49]
def tagB (φ : List Nat → List Nat) (n : Nat) (l : List It) : List Nat := dsum φ [domB, [n], serB l]
theorem tagB_len (φ : List Nat → List Nat) (n : Nat) (l : List It) : (tagB φ n l).length = 32 := hsum_len _ _
theorem tagB_bd (φ : List Nat → List Nat) (n : Nat) (l : List It) : bd 256 (tagB φ n l) := hsum_bd _ _
def trC (T g s : Nat) (tag : List Nat) : List Value := .pointer (some ⟨g, 0, none⟩) :: (tag.map (vi .u8) ++ [.iface T (.agg #[.pointer (some ⟨s, 0, none⟩)])])
theorem trC_ren {T g s g' s' : Nat} {tag : List Nat} {h : Rho} (e1 : (h g).blk = g') (e2 : (h g).off = 0) (e3 : (h s).blk = s') (e4 : (h s).off = 0) : (trC T g s tag).map (ren h) = trC T g' s' tag := by
  subst e1; subst e3
  unfold trC
  rw [List.map_cons, List.map_append, flat_map_ren (flatM flat_vi)]
  simp [ren, ren1, e2, e4]
theorem trC_ok {T g s n : Nat} {tag : List Nat} (h1 : Nat.blt g n = true) (h2 : Nat.blt s n = true) (hT : T ≠ 987654321) : OkL n (trC T g s tag) := by
  intro v hv
  simp only [trC, List.mem_cons, List.mem_append, List.not_mem_nil, or_false] at hv
  rcases hv with rfl | h | rfl
  · exact h1
  · exact flat_okV (flatM flat_vi v h)
  · simp [okV, ok1, isDeep, hT, h2]
theorem trC_33 {T g s : Nat} {tag : List Nat} (h : tag.length = 32) : (trC T g s tag)[33]? = some (.iface T (.agg #[.pointer (some ⟨s, 0, none⟩)])) := by
  unfold trC
  rw [List.getElem?_cons_succ, List.getElem?_append_right (by simp [h]), List.length_map, h]; rfl
theorem trP_set {a x : Value} {z tag : List Nat} (h : z.length = 32) (h' : tag.length = 32) : setL (a :: (z.map (vi .u8) ++ [x])) 1 (tag.map (vi .u8)) = a :: (tag.map (vi .u8) ++ [x]) := by
  have := Sim.setL_app (tag.map (vi .u8)) (z.map (vi .u8)) [x] [a] (by simp [h, h'])
  simpa using this
theorem trP_take {a x : Value} {tag : List Nat} (h : tag.length = 32) : ((a :: (tag.map (vi .u8) ++ [x])).drop 1).take 32 = tag.map (vi .u8) := by
  rw [List.drop_succ_cons, List.drop_zero, List.take_append_of_le_length (by simp [h])]
  exact List.take_of_length_le (by simp [h])
theorem trP_put {a x y : Value} {tag : List Nat} (h : tag.length = 32) : (a :: (tag.map (vi .u8) ++ [x])).set 33 y = a :: (tag.map (vi .u8) ++ [y]) := by
  rw [List.set_cons_succ, List.set_append_right _ _ (by simp [h]), List.length_map, h]; rfl
theorem trP_len {a x : Value} {tag : List Nat} (h : tag.length = 32) : (a :: (tag.map (vi .u8) ++ [x])).length = 34 := by simp [h]
end Go.Proofs.YtlfadlfjjkppfaaGreatDoor
namespace Go.Proofs.YtlfadlfjjkppfaaGreatDoor
open Go Sim
set_option maxRecDepth 10000
theorem prs_at {b : List Nat} (hb : bd 256 b) (hl : b.length < 200000000) : ∀ (n : Nat) (r : List Nat) (L : List It) (i : Nat), n + i = 1024 → PrsAt b i L r → ∀ L' c, prs 1024 b = (L', c) → ItsOk L'
  | 0, r, L, i, hn, h, L', c, hP => by
    by_cases hr : r = []
    · have e := h.fin hr; rw [hP] at e; cases e; exact ⟨by rw [h.len]; exact h.le, h.ok⟩
    · have e := h.many hr (by omega); rw [hP] at e; cases e; exact ⟨by rw [h.len]; exact h.le, h.ok⟩
  | n + 1, r, L, i, hn, h, L', c, hP => by
    by_cases hr : r = []
    · have e := h.fin hr; rw [hP] at e; cases e; exact ⟨by rw [h.len]; exact h.le, h.ok⟩
    · by_cases hd : dC r = 0
      · exact prs_at hb hl n _ _ (i + 1) (by omega) (h.next hr (by omega) hd) L' c hP
      · have e := h.bad hr (by omega) hd; rw [hP] at e
        obtain ⟨e1, e2⟩ := Prod.mk.inj e
        subst e1; exact ⟨by rw [h.len]; exact h.le, h.ok⟩
theorem prs_ok {b : List Nat} {L : List It} {c : Nat} (hb : bd 256 b) (hl : b.length < 200000000) (hP : prs 1024 b = (L, c)) : ItsOk L := prs_at hb hl 1024 b [] 0 rfl (PrsAt.start hb hl) L c hP
theorem tag_bd {l : List It} (n : Nat) (hl : ItsOk l) (hn : n < 256) : ∀ j, j < [domB, [n], serB l].length → bd 256 ([domB, [n], serB l].getD j [])
  | 0, _ => by show bd 256 domB; intro x hx; revert x; decide
  | 1, _ => by intro x hx; rw [List.mem_singleton.1 hx]; exact hn
  | 2, _ => serB_bd hl
  | j + 3, h => by simp at h; omega
theorem tag_ln {l : List It} (n : Nat) (hl : ItsOk l) : ∀ j, j < [domB, [n], serB l].length → ([domB, [n], serB l].getD j []).length < 9223372036854775807
  | 0, _ => by show 19 < _; decide
  | 1, _ => by show 1 < _; decide
  | 2, _ => by
    have h := ser_le hl l.length (Nat.le_refl _)
    have h1 := hl.1
    rw [List.take_length] at h
    show (serB l).length < _; omega
  | j + 3, h => by simp at h; omega
theorem tag1_ctr {φ : List Nat → List Nat} {l : List It} (hφ : PermF φ) (hl : ItsOk l) : GC Tryz.prog 43 [vi .i64 1, dI l] [] [.agg ((tagB φ 1 l).map (vi .u8)).toArray, .int .i64 (-1), vi .i64 0] [] := by
  refine gi Tryz.func43 ?_
  refine zS ?_
  refine yN 5000 1 ((List.replicate 32 0).map (vi .u8)) ?_
  refine yA ?_
  refine yA ?_
  refine zN (zQ (zS ?_))
  refine yM ?_
  refine yP ((PureOp.neN (b := 1) rfl rfl).mono (v' := .bool false) (congrArg Value.bool (rfl))) ?_
  refine yM ?_
  refine yK ?_
  refine yK ?_
  refine yP pE ?_
  refine zN (zF (zK (zT (zS ?_))))
  refine yM ?_
  refine yC (serD_ctr hl) bd93 [] [] ?_ (hargs := (.clo rfl .nil)) (hrv := (.clo rfl (.cons rfl rfl (.cons rfl rfl .nil))))
  refine yM ?_
  refine yP pX ?_
  refine yP pX ?_
  refine yP pX ?_
  refine yA ?_
  refine yA ?_
  refine yA ?_
  refine zN (zQ (zS ?_))
  refine yM ?_
  refine yP ((PureOp.neN (b := 0) rfl rfl).mono (v' := .bool false) (congrArg Value.bool (rfl))) ?_
  refine zN (zF (zK (zT (zS ?_))))
  refine AWo.buildSlice tbok 29000 [(0, vi .u8 97), (1, vi .u8 118), (2, vi .u8 111), (3, vi .u8 117), (4, vi .u8 99), (5, vi .u8 104), (6, vi .u8 47), (7, vi .u8 116), (8, vi .u8 114), (9, vi .u8 97), (10, vi .u8 110), (11, vi .u8 115), (12, vi .u8 99), (13, vi .u8 114), (14, vi .u8 105), (15, vi .u8 112), (16, vi .u8 116), (17, vi .u8 47), (18, vi .u8 49)] (out := domB.map (vi .u8)) rfl rfl (by decide) rfl rfl rfl (by decide) rfl rfl rfl rfl rfl ?_
  refine AWo.cvtB tbok (n := 19) rfl rfl rfl (by decide) (cloM fun _ => rfl) rfl Tryz.underlying5 rfl rfl ?_
  refine yM ?_
  refine yP ((PureOp.cvtN tbok 256 rfl rfl rfl (by decide) (by decide) (by decide)).mono (v' := vi .u8 1) rfl) ?_
  refine AWo.buildSliceF tbok 33000 [(0, vi .u8 1)] (out := [vi .u8 1]) rfl rfl (by decide) rfl rfl rfl (by decide) rfl rfl rfl rfl (fun x hx => by simp at hx; subst hx; rfl) rfl rfl ?_
  refine yM ?_
  refine AWo.buildSlice tbok 35000 [(0, db domB), (1, db [1]), (2, db (serB l))] (out := [domB, [1], serB l].map db) rfl rfl (by decide) rfl rfl rfl (by decide) rfl rfl rfl rfl rfl ?_
  refine yC (dsum_ctr (ps := [domB, [1], serB l]) hφ (tag_bd 1 hl (by decide)) (tag_ln 1 hl) (by show 3 < _; decide)) bd94 [(35000, 0)] [] ?_ (hfit := (.clo rfl (cloM fun _ => rfl) (by intro h; rfl) .nil))
  refine AWo.storeAllN (vs := (tagB φ 1 l).map (vi .u8)) tbok rfl rfl rfl rfl (by rw [List.length_map]; exact tagB_len _ _ _) (by rw [List.length_map, List.length_replicate]) (oneM (fun _ => rfl) _) rfl ?_
  refine yA ?_
  refine yA ?_
  refine zN (zE ?_)
  exact rq [] [.cell 4 55, .tmp 5, .tmp 6]
theorem tnewB_ctr {φ : List Nat → List Nat} {p : List Nat} {L : List It} (hφ : PermF φ) (hp : bd 256 p) (hl : p.length < 200000000) (hP : prs 1024 p = (L, 0)) : GC Tryz.prog 12 [vi .i64 1, db p] [] [.pointer (some ⟨0, 0, none⟩), .int .i64 (-1), vi .i64 0] [⟨trC 112 1 2 (tagB φ 1 L), true, 1⟩, ⟨[dI L, vi .i64 0, wrV 0], true, 1⟩, ⟨[.iface 213 (.agg #[]), .slice (some ⟨3, 0, none⟩) 200 0, vi .i64 0, vi .i64 136, vi .i64 0], true, 1⟩, ⟨(List.replicate 136 0 ++ tagB φ 1 L ++ List.replicate 32 0).map (vi .u8), true, 1⟩] := by
  refine gi Tryz.func12 ?_
  have htl := tagB_len φ 1 L
  have htb := tagB_bd φ 1 L
  have hI := prs_ok hp hl hP
  refine zS ?_
  refine yA ?_
  refine yA ?_
  refine yA ?_
  refine zN (zQ (zS ?_))
  refine yM ?_
  refine yP ((PureOp.neN (b := 1) rfl rfl).mono (v' := .bool false) (congrArg Value.bool (rfl))) ?_
  refine yM ?_
  refine yK ?_
  refine yK ?_
  refine yP pE ?_
  refine zN (zF (zK (zT (zS ?_))))
  refine yM ?_
  refine yC (gnewY_ctr hp hl hP) bd42 [] [20000] ?_ (hargs := (.clo rfl .nil)) (hnew := (.new (clo_map_ren (gd_clo _ _ _)) (OkL.clo (gd_clo _ _ _)) .nil))
  refine yM ?_
  refine yP pX ?_
  refine yP pX ?_
  refine yP pX ?_
  refine yA ?_
  refine yA ?_
  refine yA ?_
  refine zN (zQ (zS ?_))
  refine yM ?_
  refine yP ((PureOp.neN (b := 0) rfl rfl).mono (v' := .bool false) (congrArg Value.bool (rfl))) ?_
  refine zN (zF (zK (zT (zS ?_))))
  refine yM ?_
  refine yP ((PureOp.buildStruct [(0, .pointer (some ⟨20000, 0, none⟩))] pl104.choose_spec.1 zr104 (by decide) pl104.choose_spec.2 rfl rfl).mono (v' := .agg (.pointer (some ⟨20000, 0, none⟩) :: ((List.replicate 32 0).map (vi .u8) ++ [.nilIface])).toArray) rfl) ?_
  refine yO 30000 1 (.pointer (some ⟨20000, 0, none⟩) :: ((List.replicate 32 0).map (vi .u8) ++ [.nilIface])) ?_
  refine yA ?_
  refine zN (zS ?_)
  refine yM ?_
  refine yM ?_
  refine yM ?_
  refine yC (gits_ctr (g := ⟨L, 0, 0⟩) (Nat.lt_of_le_of_lt hI.1 (by decide))) bd44 [(20000, 0)] [] ?_ (hfit := (.clo rfl (gd_clo _ _ _) (by intro h; rfl) .nil)) (hrv := (.clo rfl .nil))
  refine yC (tag1_ctr hφ hI) bd43 [] [] ?_ (hargs := (.cons rfl rfl (.clo rfl .nil)))
  refine yM ?_
  refine yP pX ?_
  refine yP pX ?_
  refine yP pX ?_
  refine yP (PureOp.nilCheck rfl) ?_
  refine yP pF ?_
  refine AWo.store tbok (v := .agg ((tagB φ 1 L).map (vi .u8)).toArray) rfl rfl rfl rfl (by rw [agg_size htl]; rfl) (by rw [agg_size htl]; exact of_decide_eq_true rfl) (by exact oneM (fun _ => rfl) _) (trP_set rfl htl) rfl ?_
  refine zN (zS ?_)
  refine yM ?_
  refine yM ?_
  refine yP (PureOp.nilCheck rfl) ?_
  refine yP pF ?_
  refine AWo.loadAgg tbok (vs := (tagB φ 1 L).map (vi .u8)) rfl rfl rfl rfl (by show 1 + 32 ≤ List.length (_ :: _); rw [trP_len htl]; decide) (trP_take htl) rfl rfl ?_
  refine yC (ofB_ctr' htl) bd45 [] [47000, 47001] ?_ (hnew := (.new (cells := [.iface 213 (.agg #[]), .slice (some ⟨47001, 0, none⟩) 200 0, vi .i64 _, vi .i64 _, vi .i64 _]) rfl (OkL.all rfl) (.new (flat_map_ren (flatM flat_vi)) (OkL.flat (flatM flat_vi)) .nil)))
  refine yP ((PureOp.buildStruct [(0, .pointer (some ⟨47000, 0, none⟩))] pl112.choose_spec.1 zr112 (by decide) pl112.choose_spec.2 rfl rfl).mono (v' := .agg #[.pointer (some ⟨47000, 0, none⟩)]) rfl) ?_
  refine yP (PureOp.makeI rfl (by decide) (fun _ _ => by kernel_rfl)) ?_
  refine yP (PureOp.nilCheck rfl) ?_
  refine yP pF ?_
  refine AWo.store1 tbok (v := .iface 112 (.agg #[.pointer (some ⟨47000, 0, none⟩)])) rfl rfl rfl rfl rfl (by rw [trP_len htl]; decide) (trP_put htl) rfl ?_
  refine zN (zQ (zS ?_))
  refine yM ?_
  refine yP ((PureOp.eqN (b := 2) rfl rfl).mono (v' := .bool false) (congrArg Value.bool (rfl))) ?_
  refine zN (zF (zK (zT (zS ?_))))
  refine yM ?_
  refine yA ?_
  refine yA ?_
  refine yA ?_
  refine zN (zE ?_)
  exact rq [30000, 20000, 47000, 47001] [.tmp 4, .tmp 5, .tmp 6] (hb := (OutL.whole rfl (trC_ren rfl rfl rfl rfl) (trC_ok rfl rfl (by decide)) (fun _ => rfl) (OutL.clo rfl (gd_clo _ _ _) (fun _ => rfl) (OutL.whole rfl rfl (OkL.all rfl) (fun _ => rfl) (OutL.flat rfl (flatM flat_vi) (fun _ => rfl) trivial)))))
theorem tnewN_ctr {p : List Nat} {L : List It} {c : Nat} (hp : bd 256 p) (hl : p.length < 200000000) (hP : prs 1024 p = (L, c)) (hc : c ≠ 0) : GC Tryz.prog 12 [vi .i64 1, db p] [] [.pointer none, vi .i64 L.length, vi .i64 c] [] := by
  refine gi Tryz.func12 ?_
  refine zS ?_
  refine yA ?_
  refine yA ?_
  refine yA ?_
  refine zN (zQ (zS ?_))
  refine yM ?_
  refine yP ((PureOp.neN (b := 1) rfl rfl).mono (v' := .bool false) (congrArg Value.bool (rfl))) ?_
  refine yM ?_
  refine yK ?_
  refine yK ?_
  refine yP pE ?_
  refine zN (zF (zK (zT (zS ?_))))
  refine yM ?_
  refine yC (gnewN_ctr hp hl hP hc) bd42 [] [] ?_ (hargs := (.clo rfl .nil))
  refine yM ?_
  refine yP pX ?_
  refine yP pX ?_
  refine yP pX ?_
  refine yA ?_
  refine yA ?_
  refine yA ?_
  refine zN (zQ (zS ?_))
  refine yM ?_
  refine yP ((PureOp.neN (b := 0) rfl rfl).mono (v' := .bool true) (congrArg Value.bool (by simpa using hc))) ?_
  refine zN (zC (zS ?_))
  refine yM ?_
  refine yM ?_
  refine yA ?_
  refine yA ?_
  refine yA ?_
  refine zN (zE (zU ?_))
  exact rq [] [.tmp 4, .tmp 5, .tmp 6]
end Go.Proofs.YtlfadlfjjkppfaaGreatDoor
namespace Go.Proofs.YtlfadlfjjkppfaaGreatDoor
open Go Sim
set_option maxRecDepth 10000
section
variable (π : List Nat → List Nat)
def G32 (s : Sp Nat) : Sp Nat := Sp.gives 136 π 32 s
def bks : Nat → Sp Nat → Sp Nat
  | 0, s => s
  | k + 1, s => G32 π (bks k s)
def blkB (s : Sp Nat) : List Nat := Sp.outs 136 π 0 32 s
def sv (k : Nat) (s : Sp Nat) : Nat := num 256 (maskL (blkB π (bks π k s)))
def fidx (s : Sp Nat) : Nat → Nat
  | 0 => 0
  | n + 1 => if fidx s n < n then fidx s n else if sv π n s < 21888242871839275222246405745257275088548364400416034343698204186575808495617 then n else n + 1
def fJ (s : Sp Nat) : Nat := fidx π s 64
def fV (s : Sp Nat) : Fp := if fJ π s < 64 then fp (sv π (fJ π s) s) else 0
def fK (s : Sp Nat) : Nat := if fJ π s < 64 then fJ π s + 1 else 64
def fC (s : Sp Nat) : Nat := if fJ π s < 64 then 0 else 11
def fN (s : Sp Nat) : Sp Nat := bks π (fK π s) s
def itN : Nat → Sp Nat → Sp Nat
  | 0, s => s
  | i + 1, s => fN π (itN i s)
def itF : Nat → Sp Nat → List Fp
  | 0, _ => []
  | i + 1, s => itF i s ++ [fV π (itN π i s)]
def itT : Nat → Sp Nat → Nat
  | 0, _ => 0
  | i + 1, s => itT i s + fK π (itN π i s)
def ffx (s : Sp Nat) : Nat → Nat
  | 0 => 0
  | n + 1 => if ffx s n < n then ffx s n else if fC π (itN π n s) = 0 then n + 1 else n
def dC' (n : Nat) (s : Sp Nat) : Nat := if ffx π s n < n then 11 else 0
def dN (n : Nat) (s : Sp Nat) : Sp Nat := if ffx π s n < n then itN π (ffx π s n + 1) s else itN π n s
def dT (n : Nat) (s : Sp Nat) : Nat := if ffx π s n < n then itT π (ffx π s n + 1) s else itT π n s
variable {π}
theorem fidx_le (s : Sp Nat) : ∀ n, fidx π s n ≤ n
  | 0 => Nat.le_refl _
  | n + 1 => by
    have := fidx_le s n
    unfold fidx
    split
    · omega
    · split <;> omega
theorem fidx_lt (s : Sp Nat) : ∀ n i, i < fidx π s n → ¬ sv π i s < 21888242871839275222246405745257275088548364400416034343698204186575808495617
  | 0, _, h => by cases h
  | n + 1, i, h => by
    have h1 := fidx_le (π := π) s n
    unfold fidx at h
    split at h
    · exact fidx_lt s n i h
    · rename_i h2
      have e : fidx π s n = n := by omega
      split at h
      · exact fidx_lt s n i (by omega)
      · rename_i h3
        by_cases hi : i = n
        · rw [hi]; exact h3
        · exact fidx_lt s n i (by omega)
theorem fidx_at (s : Sp Nat) : ∀ n, fidx π s n < n → sv π (fidx π s n) s < 21888242871839275222246405745257275088548364400416034343698204186575808495617
  | 0, h => by cases h
  | n + 1, h => by
    have h1 := fidx_le (π := π) s n
    unfold fidx at h ⊢
    by_cases h2 : fidx π s n < n
    · rw [if_pos h2]; exact fidx_at s n h2
    · rw [if_neg h2] at h ⊢
      by_cases h3 : sv π n s < 21888242871839275222246405745257275088548364400416034343698204186575808495617
      · rw [if_pos h3]; exact h3
      · rw [if_neg h3] at h; omega
theorem fidx_is (s : Sp Nat) {n j : Nat} (hj : j < n) (h1 : ∀ i, i < j → ¬ sv π i s < 21888242871839275222246405745257275088548364400416034343698204186575808495617) (h2 : sv π j s < 21888242871839275222246405745257275088548364400416034343698204186575808495617) : fidx π s n = j := by
  rcases Nat.lt_trichotomy (fidx π s n) j with h | h | h
  · exact absurd (fidx_at s n (by omega)) (h1 _ h)
  · exact h
  · exact absurd h2 (fidx_lt s n j h)
theorem fidx_no (s : Sp Nat) {n : Nat} (h1 : ∀ i, i < n → ¬ sv π i s < 21888242871839275222246405745257275088548364400416034343698204186575808495617) : fidx π s n = n := by
  have := fidx_le (π := π) s n
  rcases Nat.lt_or_ge (fidx π s n) n with h | h
  · exact absurd (fidx_at s n h) (h1 _ h)
  · omega
theorem fK_le (s : Sp Nat) : fK π s ≤ 64 := by unfold fK; split <;> omega
theorem ffx_le (s : Sp Nat) : ∀ n, ffx π s n ≤ n
  | 0 => Nat.le_refl _
  | n + 1 => by
    have := ffx_le s n
    unfold ffx
    split
    · omega
    · split <;> omega
theorem ffx_lt (s : Sp Nat) : ∀ n i, i < ffx π s n → fC π (itN π i s) = 0
  | 0, _, h => by cases h
  | n + 1, i, h => by
    have h1 := ffx_le (π := π) s n
    unfold ffx at h
    split at h
    · exact ffx_lt s n i h
    · rename_i h2
      split at h
      · rename_i h3
        by_cases hi : i = n
        · rw [hi]; exact h3
        · exact ffx_lt s n i (by omega)
      · exact ffx_lt s n i (by omega)
theorem ffx_at (s : Sp Nat) : ∀ n, ffx π s n < n → fC π (itN π (ffx π s n) s) ≠ 0
  | 0, h => by cases h
  | n + 1, h => by
    have h1 := ffx_le (π := π) s n
    unfold ffx at h ⊢
    by_cases h2 : ffx π s n < n
    · rw [if_pos h2]; exact ffx_at s n h2
    · rw [if_neg h2] at h ⊢
      by_cases h3 : fC π (itN π n s) = 0
      · rw [if_pos h3] at h; omega
      · rw [if_neg h3]; exact h3
theorem ffx_is (s : Sp Nat) {n j : Nat} (hj : j < n) (h1 : ∀ i, i < j → fC π (itN π i s) = 0) (h2 : fC π (itN π j s) ≠ 0) : ffx π s n = j := by
  rcases Nat.lt_trichotomy (ffx π s n) j with h | h | h
  · exact absurd (h1 _ h) (ffx_at s n (by omega))
  · exact h
  · exact absurd (ffx_lt s n j h) h2
theorem ffx_no (s : Sp Nat) {n : Nat} (h1 : ∀ i, i < n → fC π (itN π i s) = 0) : ffx π s n = n := by
  have := ffx_le (π := π) s n
  rcases Nat.lt_or_ge (ffx π s n) n with h | h
  · exact absurd (h1 _ h) (ffx_at s n h)
  · omega
theorem fC_11 {s : Sp Nat} (h : fC π s ≠ 0) : fC π s = 11 := by
  unfold fC at h ⊢
  split
  · rename_i h1; rw [if_pos h1] at h; exact absurd rfl h
  · rfl
theorem dC_eq (n : Nat) (s : Sp Nat) : dC' π n s = 0 ∨ dC' π n s = 11 := by unfold dC'; split <;> simp
theorem itT_le (s : Sp Nat) : ∀ n, itT π n s ≤ 64 * n
  | 0 => Nat.le_refl _
  | n + 1 => by
    have h1 := itT_le s n
    have h2 := fK_le (π := π) (itN π n s)
    show itT π n s + fK π (itN π n s) ≤ _
    omega
theorem sk_pos {s : Sp Nat} (h : fJ π s < 64) : fV π s = fp (sv π (fJ π s) s) ∧ fK π s = fJ π s + 1 ∧ fC π s = 0 ∧ fN π s = bks π (fJ π s + 1) s := by
  have e : fK π s = fJ π s + 1 := if_pos h
  exact ⟨if_pos h, e, if_pos h, by rw [fN, e]⟩
theorem sk_neg {s : Sp Nat} (h : ¬ fJ π s < 64) : fV π s = 0 ∧ fK π s = 64 ∧ fC π s = 11 ∧ fN π s = bks π 64 s := by
  have e : fK π s = 64 := if_neg h
  exact ⟨if_neg h, e, if_neg h, by rw [fN, e]⟩
theorem d_all {s : Sp Nat} {n : Nat} (h : ∀ i, i < n → fC π (itN π i s) = 0) : dC' π n s = 0 ∧ dN π n s = itN π n s ∧ dT π n s = itT π n s := by
  have e := ffx_no s h
  exact ⟨if_neg (by omega), if_neg (by omega), if_neg (by omega)⟩
theorem d_bad {s : Sp Nat} {n j : Nat} (hj : j < n) (h1 : ∀ i, i < j → fC π (itN π i s) = 0) (h2 : fC π (itN π j s) ≠ 0) : dC' π n s = 11 ∧ dN π n s = itN π (j + 1) s ∧ dT π n s = itT π (j + 1) s := by
  have e := ffx_is s hj h1 h2
  refine ⟨if_pos (by omega), ?_, ?_⟩
  · rw [dN, if_pos (by omega), e]
  · rw [dT, if_pos (by omega), e]
theorem itF_cells (s : Sp Nat) (i : Nat) : ((itF π i s).map fe).flatten.map (vi .u64) ++ [fe (fV π (itN π i s))].flatten.map (vi .u64) = ((itF π (i + 1) s).map fe).flatten.map (vi .u64) := by
  rw [← List.map_append, itF, List.map_append (f := fe), List.flatten_append]; rfl
theorem itF_len (s : Sp Nat) : ∀ n, (itF π n s).length = n
  | 0 => rfl
  | n + 1 => by simp [itF, itF_len s n]
variable {T : Sp.Turns 136 π 200 bQ}
theorem bks_ok (T : Sp.Turns 136 π 200 bQ) {s : Sp Nat} (h : Sp.Ok 136 200 bQ s) : ∀ k, Sp.Ok 136 200 bQ (bks π k s)
  | 0 => h
  | k + 1 => (bks_ok T h k).gives T 32
theorem bks_c (s : Sp Nat) : ∀ k, (bks π k s).c ≤ s.c + 32 * k
  | 0 => Nat.le_refl _
  | k + 1 => by
    have h1 := bks_c s k
    have h2 : (G32 π (bks π k s)).c ≤ (bks π k s).c + 32 := Sp.gives_c (R := 136) (π := π) (bks π k s) 32
    show (G32 π (bks π k s)).c ≤ _
    omega
theorem fN_ok (T : Sp.Turns 136 π 200 bQ) {s : Sp Nat} (h : Sp.Ok 136 200 bQ s) : Sp.Ok 136 200 bQ (fN π s) := bks_ok T h _
theorem fN_c (s : Sp Nat) : (fN π s).c ≤ s.c + 2048 := by
  have h1 := bks_c (π := π) s (fK π s)
  have h2 := fK_le (π := π) s
  unfold fN; omega
theorem itN_ok (T : Sp.Turns 136 π 200 bQ) {s : Sp Nat} (h : Sp.Ok 136 200 bQ s) : ∀ n, Sp.Ok 136 200 bQ (itN π n s)
  | 0 => h
  | n + 1 => fN_ok T (itN_ok T h n)
theorem itN_c (s : Sp Nat) : ∀ n, (itN π n s).c ≤ s.c + 2048 * n
  | 0 => Nat.le_refl _
  | n + 1 => by
    have h1 := itN_c s n
    have h2 := fN_c (π := π) (itN π n s)
    show (fN π (itN π n s)).c ≤ _
    omega
theorem dN_ok (T : Sp.Turns 136 π 200 bQ) {s : Sp Nat} (h : Sp.Ok 136 200 bQ s) (n : Nat) : Sp.Ok 136 200 bQ (dN π n s) := by
  unfold dN; split <;> exact itN_ok T h _
theorem dN_c (s : Sp Nat) (n : Nat) : (dN π n s).c ≤ s.c + 2048 * n := by
  unfold dN
  split
  · rename_i h
    have := itN_c (π := π) s (ffx π s n + 1); omega
  · exact itN_c s n
end
noncomputable def tellB (π : List Nat → List Nat) (s : Sp Nat) (x : Opn) : Sp Nat := Sp.takes 136 π s (toB x)
noncomputable def abC (g : Gd) (t : Int) (d : List Nat) : Nat :=
  if g.wr ≠ 0 then g.wr else if cC t d.length ≠ 0 then cC t d.length else if nxC g 1 t (cN t d.length) ≠ 0 then nxC g 1 t (cN t d.length) else ckC t d
noncomputable def abG (g : Gd) (t : Int) (d : List Nat) : Gd :=
  if g.wr ≠ 0 then g else if cC t d.length ≠ 0 then gFl g (cC t d.length) else if nxC g 1 t (cN t d.length) ≠ 0 then gNx g 1 t (cN t d.length) else gFl (gNx g 1 t (cN t d.length)) (ckC t d)
noncomputable def abS (π : List Nat → List Nat) (g : Gd) (s : Sp Nat) (t : Int) (d : List Nat) : Sp Nat := if abC g t d = 0 then tellB π s ⟨1, t, cN t d.length, d⟩ else s
def sqN (z : Int) : Nat := z.toNat
noncomputable def sqS (π : List Nat → List Nat) (g : Gd) (s : Sp Nat) (z : Int) : Sp Nat := if nxC g 2 1 z = 0 then Sp.gives 136 π (sqN z) (tellB π s ⟨2, 1, z, []⟩) else s
noncomputable def sqO (π : List Nat → List Nat) (s : Sp Nat) (z : Int) : List Nat := Sp.outs 136 π 0 (sqN z) (tellB π s ⟨2, 1, z, []⟩)
noncomputable def chC (π : List Nat → List Nat) (g : Gd) (s : Sp Nat) (z : Int) : Nat := if nxC g 2 3 z ≠ 0 then nxC g 2 3 z else dC' π (sqN z) (tellB π s ⟨2, 3, z, []⟩)
noncomputable def chG (π : List Nat → List Nat) (g : Gd) (s : Sp Nat) (z : Int) : Gd := if nxC g 2 3 z ≠ 0 then gNx g 2 3 z else gFl (gNx g 2 3 z) (dC' π (sqN z) (tellB π s ⟨2, 3, z, []⟩))
noncomputable def chS (π : List Nat → List Nat) (g : Gd) (s : Sp Nat) (z : Int) : Sp Nat := if nxC g 2 3 z ≠ 0 then s else dN π (sqN z) (tellB π s ⟨2, 3, z, []⟩)
noncomputable def raS (π : List Nat → List Nat) (g : Gd) (s : Sp Nat) : Sp Nat := if nxC g 3 0 1 = 0 then Sp.ratch 136 π 0 (tellB π s ⟨3, 0, 1, []⟩) else s
end Go.Proofs.YtlfadlfjjkppfaaGreatDoor
namespace Go.Proofs.YtlfadlfjjkppfaaGreatDoor
open Go Sim
set_option maxRecDepth 10000
theorem funV_rel {m : Md} {N : Mem} {h : Rho} {f : Nat} (e : (N 0).isSome = true) : VR m (dom N) h (.func (.func f) #[.agg #[.pointer (some ⟨0, 0, none⟩)]] #[]) (.func (.func f) #[.agg #[.pointer (some ⟨(h 0).blk, (h 0).off + 0, none⟩)]] #[]) := by
  refine .func _ _ _ _ _ rfl rfl rfl (fun k x y hx hy => ?_) (fun k x y hx => by simp at hx)
  cases k with
  | succ k => simp at hx
  | zero =>
    simp only [List.getElem?_toArray, List.getElem?_cons_zero, Option.some.injEq] at hx hy
    subst hx; subst hy
    refine .agg _ _ rfl fun k x y hx hy => ?_
    cases k with
    | succ k => simp at hx
    | zero =>
      simp only [List.getElem?_toArray, List.getElem?_cons_zero, Option.some.injEq] at hx hy
      subst hx; subst hy
      exact .ptr _ _ (Option.isSome_iff_exists.1 e)
theorem fn1 {P : Program} {E : Env} {f : FuncId} {x : Operand} {v : Value} (h : aev E x = some v) : PureOp P (.makeFunc (.func f) #[x] #[]) E (.func (.func f) #[v] #[]) := PureOp.makeFunc rfl (by simp [h]) (by simp)
theorem sq32_ctr {π : List Nat → List Nat} (hπ : PermB π) {s : Sp Nat} (hs : Sp.Ok 136 200 bQ s) (hc : s.c + 32 < 9223372036854775807) : GC Tryz.prog 212 [.pointer (some ⟨0, 0, none⟩), .int .i64 32] [⟨[.iface 213 (.agg #[]), .slice (some ⟨1, 0, none⟩) 200 0, vi .i64 s.i, vi .i64 s.o, vi .i64 s.c], true, 1⟩, ⟨s.st.map (vi .u8), true, 1⟩] [.slice (some ⟨2, 0, none⟩) 32 0] [⟨[.iface 213 (.agg #[]), .slice (some ⟨1, 0, none⟩) 200 0, vi .i64 ((G32 π s).i), vi .i64 ((G32 π s).o), vi .i64 ((G32 π s).c)], true, 1⟩, ⟨((G32 π s).st).map (vi .u8), true, 1⟩, ⟨(blkB π s).map (vi .u8), true, 1⟩] := by
  have h := sqB_ctr hπ (s := s) (z := 32) (n := 32) hs rfl hc (by decide)
  rw [show Sp.gives 136 π 32 s = G32 π s from rfl, show Sp.outs 136 π 0 32 s = blkB π s from rfl] at h
  exact h
theorem fbF_ctr {b : List Nat} (hb : bd 256 b) (hlb : b.length = 32) : GC Tryz.prog 132 [.slice (some ⟨0, 0, none⟩) 32 0] [⟨b.map (vi .u8), false, 1⟩] [.agg ((fe ((if num 256 b < 21888242871839275222246405745257275088548364400416034343698204186575808495617 then fp (num 256 b) else 0))).map (vi .u64)).toArray, vi .i64 (if num 256 b < 21888242871839275222246405745257275088548364400416034343698204186575808495617 then 0 else 4)] [⟨b.map (vi .u8), false, 1⟩] := by
  have h := fb32_ctr hb hlb
  unfold fbE fbC at h
  by_cases hv : num 256 b < 21888242871839275222246405745257275088548364400416034343698204186575808495617
  · rw [if_pos hv, if_pos hv] at h
    rw [if_pos hv, if_pos hv]
    rw [show fe (fp (num 256 b)) = fel (num 256 b) by rw [fe]; congr 1; exact Nat.mod_eq_of_lt hv]
    exact h
  · rw [if_neg hv, if_neg hv] at h
    rw [if_neg hv, if_neg hv]
    exact h
theorem ffl_len {l : List Fp} {n : Nat} (h : l.length = n) : ((l.map fe).flatten).length = n * 4 := by
  rw [flat_len (n := 4) (fun x hx => by obtain ⟨y, _, rfl⟩ := List.mem_map.1 hx; exact fe_len y), List.length_map, h]
theorem toB_bd {x : Opn} (hb : bd 256 x.d) : bd 256 (toB x) := by
  intro y hy
  unfold toB at hy
  split at hy
  · rcases List.mem_append.1 hy with h | h
    · simp only [hdr, List.mem_cons, List.not_mem_nil, or_false] at h
      rcases h with rfl | rfl | rfl | rfl | rfl | rfl <;> exact Nat.mod_lt _ (by decide)
    · exact hb y h
  · cases hy
theorem toB_le (x : Opn) : (toB x).length ≤ 6 + x.d.length := by
  unfold toB
  split
  · rw [List.length_append]; exact Nat.le_refl _
  · simp
theorem bks_succ {π : List Nat → List Nat} (k : Nat) (s : Sp Nat) : bks π (k + 1) s = G32 π (bks π k s) := by rw [bks]
theorem itN_succ {π : List Nat → List Nat} (k : Nat) (s : Sp Nat) : itN π (k + 1) s = fN π (itN π k s) := by rw [itN]
theorem itT_succ {π : List Nat → List Nat} (k : Nat) (s : Sp Nat) : itT π (k + 1) s = itT π k s + fK π (itN π k s) := by rw [itT]
theorem blkB_ctr {π : List Nat → List Nat} (hπ : PermB π) {s : Sp Nat} (hs : Sp.Ok 136 200 bQ s) (hc : s.c + 32 < 9223372036854775807) : GC Tryz.prog 214 [.agg #[.pointer (some ⟨0, 0, none⟩)]] [⟨[.iface 213 (.agg #[]), .slice (some ⟨1, 0, none⟩) 200 0, vi .i64 s.i, vi .i64 s.o, vi .i64 s.c], true, 1⟩, ⟨s.st.map (vi .u8), true, 1⟩] [.agg ((blkB π s).map (vi .u8)).toArray] [⟨[.iface 213 (.agg #[]), .slice (some ⟨1, 0, none⟩) 200 0, vi .i64 ((G32 π s).i), vi .i64 ((G32 π s).o), vi .i64 ((G32 π s).c)], true, 1⟩, ⟨((G32 π s).st).map (vi .u8), true, 1⟩] := by
 have hbl : (blkB π s).length = 32 := Sp.outs_len _ _
 have hF := sq32_ctr hπ hs hc
 generalize G32 π s = S2 at hF ⊢
 generalize blkB π s = b at hF hbl ⊢
 refine GC.intro Tryz.func214 rfl (by show 1 ≤ 8; decide) (Nat.le_of_ble_eq_true rfl) ?_
 refine AW.seqR ?_
 refine AWo.box 2000 1 [.pointer (some ⟨0, 0, none⟩)] rfl rfl rfl rfl rfl ?_
 refine AWo.alloc tbok 3000 1 ((List.replicate 32 0).map (vi .u8)) rfl rfl rfl rfl rfl rfl ?_
 refine AWo.nil trivial ?_
 refine AW.seqR ?_
 refine AWo.pure (PureOp.fld tbok rfl rfl rfl (by decide)) rfl rfl ?_
 refine AWo.load tbok rfl rfl rfl rfl rfl rfl ?_
 refine AWo.callX (hF) bd212 [(0, 0), (1, 0)] [6000] rfl (.cons rfl (.cons rfl .nil)) rfl (.cons rfl rfl (.cons rfl rfl .nil)) (.whole rfl rfl (OkL.all rfl) (by intro h; exact h) (.flat rfl (flatM flat_vi) (by intro h; exact h) .nil)) rfl (.chg (cells := [.iface 213 (.agg #[]), .slice (some ⟨1, 0, none⟩) 200 0, vi .i64 _, vi .i64 _, vi .i64 _]) rfl rfl rfl (OkL.all rfl) (.chg rfl rfl (flat_map_ren (flatM flat_vi)) (OkL.flat (flatM flat_vi)) (.new (flat_map_ren (by exact flatM flat_vi)) (OkL.flat (by exact flatM flat_vi)) .nil))) (frC rfl frN) (by decide) (.cons rfl rfl .nil) rfl rfl rfl rfl ?_
 refine AWo.pure (PureOp.toArrT tbok rfl rfl (by decide) (by decide)) rfl rfl ?_
 refine AWo.loadAll (cells := b.map (vi .u8)) tbok rfl rfl rfl rfl (by rw [List.length_map, hbl]) rfl rfl ?_
 refine AWo.storeAllN (vs := b.map (vi .u8)) tbok rfl rfl rfl rfl (by rw [List.length_map, hbl]) (by rw [List.length_map, List.length_replicate]) (oneM (fun _ => rfl) _) rfl ?_
 refine AWo.nil trivial ?_
 refine AW.ret ?_
 refine RetQ.gc [_] [] [.cell 2 55] (.inl rfl) rfl (.val (RVal.cellAll tbok rfl rfl rfl rfl (by (simp [*]; done))) .nil) rfl (.pure (pure_aggM flat_vi) .nil) (OutL.whole rfl rfl (OkL.all rfl) (by intro h; rfl) (OutL.flat rfl (flatM flat_vi) (by intro h; rfl) trivial)) (by decide) rfl
theorem fldB_ctr {π : List Nat → List Nat} (hπ : PermB π) {s : Sp Nat} (hs : Sp.Ok 136 200 bQ s) (hc : s.c < 4611686018427387904) : GC Tryz.prog 217 [.func (.func 214) #[.agg #[.pointer (some ⟨0, 0, none⟩)]] #[]] [⟨[.iface 213 (.agg #[]), .slice (some ⟨1, 0, none⟩) 200 0, vi .i64 s.i, vi .i64 s.o, vi .i64 s.c], true, 1⟩, ⟨s.st.map (vi .u8), true, 1⟩] [.agg ((fe (fV π s)).map (vi .u64)).toArray, vi .i64 (fK π s), vi .i64 (fC π s)] [⟨[.iface 213 (.agg #[]), .slice (some ⟨1, 0, none⟩) 200 0, vi .i64 ((fN π s).i), vi .i64 ((fN π s).o), vi .i64 ((fN π s).c)], true, 1⟩, ⟨((fN π s).st).map (vi .u8), true, 1⟩] := by
 refine GC.intro Tryz.func217 rfl (by show 1 ≤ 27; decide) (Nat.le_of_ble_eq_true rfl) ?_
 refine AW.seqR ?_
 refine AWo.alloc tbok 3000 1 _ rfl rfl rfl rfl rfl rfl ?_
 refine AWo.pure (PureOp.assign rfl) rfl rfl ?_
 refine AWo.pure (PureOp.assign rfl) rfl rfl ?_
 refine AWo.nil trivial ?_
 refine AW.seq ?_
 refine AW.seqR ?_
 refine AWo.pure (PureOp.move rfl) rfl rfl ?_
 refine AWo.nil trivial ?_
 refine AW.block ?_
 refine AW.loopw (fun mm σ => ∃ i, ∃ S, (i ≤ 64 ∧ S = bks π i s ∧ ∀ j, j < i → ¬ sv π j s < 21888242871839275222246405745257275088548364400416034343698204186575808495617) ∧ mm = 64 - i ∧ σ = ⟨(upd (upd (upd emp 0 (.func (.func 214) #[.agg #[.pointer (some ⟨0, 0, none⟩)]] #[])) 2 (.pointer (some ⟨3000, 0, none⟩))) 9 (vi .i64 i)), (upd (upd (upd emp 0 ⟨[.iface 213 (.agg #[]), .slice (some ⟨1, 0, none⟩) 200 0, vi .i64 S.i, vi .i64 S.o, vi .i64 S.c], true, 1⟩) 1 ⟨S.st.map (vi .u8), true, 1⟩) 3000 ⟨(List.replicate 4 0).map (vi .u64), true, 1⟩)⟩) (fm := []) ?_ ⟨0, s, ⟨Nat.zero_le _, rfl, fun j hj => absurd hj (Nat.not_lt_zero j)⟩, rfl, rfl⟩ ?_
 ·
  refine Wk.of [0, 1, 3000] ?_ ?_ ?_ (by decide) rfl
  ·
   refine WkE.upd rfl (by exact VR.flat _ rfl) ?_
   refine WkE.upd rfl (.ptr (3000) 0 ⟨_, rfl⟩) ?_
   refine WkE.upd rfl (funV_rel rfl) ?_
   exact WkE.emp
  ·
   refine WkM.flatM rfl (by rfl) (fun _ => rfl) (fun h => h) ?_
   refine WkM.flatM rfl (by rfl) (fun _ => rfl) (fun h => h) ?_
   refine WkM.cells [1] rfl rfl rfl (dom_all rfl) (fun h => h) ?_
   exact WkM.emp
  ·
   repeat (refine dom_upd_mem (by decide) ?_)
   exact dom_emp
 ·
  rintro mm σ ⟨i, S, ⟨hi64, hSe, hno⟩, rfl, rfl⟩
  have hS : Sp.Ok 136 200 bQ S := by rw [hSe]; exact bks_ok hπ.1 hs i
  have hSc : S.c ≤ s.c + 32 * i := by rw [hSe]; exact bks_c (π := π) s i
  refine AW.seqR ?_
  refine AWo.pure (PureOp.ltN (b := 64) rfl rfl) rfl rfl ?_
  refine AWo.nil trivial ?_
  refine AW.seq ?_
  refine AW.cond rfl (fun hb0 => ?_) (fun hb0 => ?_)
  ·
   have hi : i < 64 := by simpa using hb0
   obtain ⟨S2, h2⟩ : ∃ S2, G32 π S = S2 := ⟨_, rfl⟩
   obtain ⟨b, hB⟩ : ∃ b, blkB π S = b := ⟨_, rfl⟩
   have hF := blkB_ctr hπ hS (by omega)
   rw [h2, hB] at hF
   have hbl : b.length = 32 := by rw [← hB]; exact Sp.outs_len _ _
   have hbb : bd 256 b := by rw [← hB]; exact hS.outs hπ.1 32
   obtain ⟨m, hm⟩ : ∃ m, maskL b = m := ⟨_, rfl⟩
   have hM := mask_ctr hbb hbl
   rw [hm] at hM
   have hml : m.length = 32 := by rw [← hm]; exact maskL_len.trans hbl
   have hmb : bd 256 m := by rw [← hm]; exact maskL_bd hbb
   have hsv : sv π i s = num 256 m := by unfold sv; rw [← hSe, hB, hm]
   have hG := fbF_ctr (b := m) hmb hml
   obtain ⟨y, hy⟩ : ∃ y, (if num 256 m < 21888242871839275222246405745257275088548364400416034343698204186575808495617 then fp (num 256 m) else 0) = y := ⟨_, rfl⟩
   obtain ⟨cd, hcd⟩ : ∃ cd, (if num 256 m < 21888242871839275222246405745257275088548364400416034343698204186575808495617 then 0 else 4) = cd := ⟨_, rfl⟩
   rw [hy, hcd] at hG
   refine AW.skip ?_
   refine thenA_normal ?_
   refine AW.seq ?_
   refine AW.block ?_
   refine AW.seqR ?_
   refine AWo.pure (PureOp.move rfl) rfl rfl ?_
   refine AWo.pure (PureOp.assign rfl) rfl rfl ?_
   refine AWo.nil trivial ?_
   refine AW.seqR ?_
   refine AWo.pure (PureOp.move rfl) rfl rfl ?_
   refine AWo.callX (hF) bd214 [(0, 0), (1, 0)] [] rfl .nil rfl (.cons rfl rfl .nil) (.whole rfl rfl (OkL.all rfl) (by intro h; exact h) (.flat rfl (flatM flat_vi) (by intro h; exact h) .nil)) rfl (.chg (cells := [.iface 213 (.agg #[]), .slice (some ⟨1, 0, none⟩) 200 0, vi .i64 _, vi .i64 _, vi .i64 _]) rfl rfl rfl (OkL.all rfl) (.chg rfl rfl (flat_map_ren (flatM flat_vi)) (OkL.flat (flatM flat_vi)) .nil)) frN (by decide) (.pure (pure_aggM flat_vi) .nil) rfl rfl rfl rfl ?_
   refine AWo.callX (hM) bd219 [] [] rfl (.cons rfl .nil) rfl (.pure (pure_aggM flat_vi) .nil) .nil rfl .nil frN (by decide) (.pure (pure_aggM flat_vi) .nil) rfl rfl rfl rfl ?_
   refine AWo.alloc tbok 7000 1 ((List.replicate 32 0).map (vi .u8)) rfl rfl rfl rfl rfl rfl ?_
   refine AWo.storeAllN (vs := m.map (vi .u8)) tbok rfl rfl rfl rfl (by rw [List.length_map, hml]) (by rw [List.length_map, List.length_replicate]) (oneM (fun _ => rfl) _) rfl ?_
   refine AWo.nil trivial ?_
   refine AW.seqR ?_
   refine AWo.sliceA tbok rfl .none .none rfl rfl rfl rfl (by decide) (by decide) (.inl rfl) (by show 0 + 32 * 1 ≤ (m.map _).length; rw [List.length_map, hml]; decide) rfl rfl rfl ?_
   refine AWo.callX (hG) bd132 [(7000, 0)] [] rfl (.cons rfl .nil) rfl (.cons rfl rfl .nil) (.flat rfl (by exact flatM flat_vi) (by intro h; rfl) .nil) rfl (.keep rfl .nil) frN (by decide) (.pure (pure_aggM flat_vi) (.cons rfl rfl .nil)) rfl rfl rfl rfl ?_
   refine AWo.pure (PureOp.move rfl) rfl rfl ?_
   refine AWo.pure (PureOp.extract rfl rfl) rfl rfl ?_
   refine AWo.pure (PureOp.extract rfl rfl) rfl rfl ?_
   refine AWo.alloc tbok 8000 1 _ rfl rfl rfl rfl rfl rfl ?_
   refine AWo.storeAllN (vs := (fe (y)).map (vi .u64)) tbok rfl rfl rfl rfl (by rw [List.length_map, fe_len]) rfl (oneM (fun _ => rfl) _) rfl ?_
   refine AWo.pure (PureOp.assign rfl) rfl rfl ?_
   refine AWo.nil trivial ?_
   refine AW.seqR ?_
   refine AWo.pure (PureOp.move rfl) rfl rfl ?_
   refine AWo.pure (PureOp.eqN (b := 0) rfl rfl) rfl rfl ?_
   refine AWo.nil trivial ?_
   refine AW.cond rfl (fun hb1 => ?_) (fun hb1 => ?_)
   ·
    have hok : num 256 m < 21888242871839275222246405745257275088548364400416034343698204186575808495617 := Decidable.byContradiction fun h => by
     rw [if_neg h] at hcd
     rw [← hcd] at hb1
     cases hb1
    have hJ : fJ π s = i := fidx_is s hi hno (by rw [hsv]; exact hok)
    obtain ⟨e1, e2, e3, e5⟩ := sk_pos (π := π) (s := s) (by rw [hJ]; exact hi)
    have e4 : fN π s = S2 := by rw [e5, hJ, bks_succ, ← hSe, h2]
    have e6 : fV π s = y := by rw [e1, hJ, hsv, ← hy, if_pos hok]
    rw [e6, e2, e3, e4, hJ]
    refine AW.seqR ?_
    refine AWo.loadAll (cells := (fe (y)).map (vi .u64)) tbok rfl rfl rfl rfl (by rw [List.length_map, fe_len]) rfl rfl ?_
    refine AWo.pure (PureOp.move rfl) rfl rfl ?_
    refine AWo.pure (PureOp.addI (b := 1) rfl rfl (by omega)) rfl rfl ?_
    refine AWo.storeAllN (vs := (fe (y)).map (vi .u64)) tbok rfl rfl rfl rfl (by rw [List.length_map, fe_len]) rfl (oneM (fun _ => rfl) _) rfl ?_
    refine AWo.pure (PureOp.assign rfl) rfl rfl ?_
    refine AWo.pure (PureOp.assign rfl) rfl rfl ?_
    refine AWo.nil trivial ?_
    refine AW.ret ?_
    refine inBlockA_ret ?_
    refine thenA_ret ?_
    refine thenA_ret ?_
    refine inBlockA_ret ?_
    refine thenA_ret ?_
    refine RetQ.gc [_, _, _] [] [.cell 2 54, .tmp 3, .tmp 4] (.inl rfl) rfl (.val (RVal.cellAll tbok rfl rfl rfl rfl (by (simp [*]; done))) (.tmp rfl (.tmp rfl .nil))) rfl (.pure (pure_aggM flat_vi) (.cons rfl rfl (.cons rfl rfl .nil))) (OutL.whole rfl rfl (OkL.all rfl) (by intro h; rfl) (OutL.flat rfl (flatM flat_vi) (by intro h; rfl) trivial)) (by decide) rfl
   ·
    have hbad : ¬ sv π i s < 21888242871839275222246405745257275088548364400416034343698204186575808495617 := fun h => by
     rw [hsv] at h
     rw [if_pos h] at hcd
     rw [← hcd] at hb1
     cases hb1
    refine AW.skip ?_
    refine inBlockA_normal ?_
    refine thenA_normal ?_
    refine AW.region ?_
    refine AWo.pure (PureOp.addI (b := 1) rfl rfl (by omega)) rfl rfl ?_
    refine AWo.pure (PureOp.move rfl) rfl rfl ?_
    refine AWo.nil trivial ?_
    refine thenA_normal ?_
    refine ⟨64 - (i + 1), [], _, by omega, ?_, i + 1, S2, ⟨by omega, by rw [bks_succ, ← hSe, h2], fun j hj => by rcases (by omega : j < i ∨ j = i) with h | rfl; exact hno j h; exact hbad⟩, rfl, rfl⟩
    refine Wk.of [0, 1, 3000] ?_ ?_ ?_ (by decide) rfl
    ·
     refine WkE.upd rfl (by exact VR.flat _ rfl) ?_
     refine WkE.upd rfl (.ptr (3000) 0 ⟨_, rfl⟩) ?_
     refine WkE.upd rfl (funV_rel rfl) ?_
     exact WkE.emp
    ·
     refine WkM.flatM rfl (by rfl) (fun _ => rfl) (fun h => h) ?_
     refine WkM.flatM rfl (by rfl) (fun _ => rfl) (fun h => h) ?_
     refine WkM.cells [1] rfl rfl rfl (dom_all rfl) (fun h => h) ?_
     exact WkM.emp
    ·
     repeat (refine dom_upd_mem (by decide) ?_)
     exact dom_emp
  ·
   have hi : i = 64 := by simp at hb0; omega
   obtain ⟨e1, e2, e3, e5⟩ := sk_neg (π := π) (s := s) (by unfold fJ; rw [fidx_no s (fun j hj => hno j (hi ▸ hj))]; decide)
   have e4 : fN π s = S := by rw [hSe, hi]; exact e5
   rw [e1, e2, e3, e4]
   refine AW.exit ?_
   refine thenA_exit ?_
   refine thenA_exit ?_
   refine inBlockA_hit ?_
   refine thenA_normal ?_
   refine AW.seqR ?_
   refine AWo.pure ((PureOp.buildStruct [] pl54.choose_spec.1 zr54 (by decide) pl54.choose_spec.2 rfl rfl).mono (v' := .agg ((fe 0).map (vi .u64)).toArray) rfl) rfl rfl ?_
   refine AWo.storeAllN (vs := (fe (0)).map (vi .u64)) tbok rfl rfl rfl rfl (by rw [List.length_map, fe_len]) rfl (oneM (fun _ => rfl) _) rfl ?_
   refine AWo.pure (PureOp.assign rfl) rfl rfl ?_
   refine AWo.pure (PureOp.assign rfl) rfl rfl ?_
   refine AWo.nil trivial ?_
   refine AW.ret ?_
   refine RetQ.gc [_, _, _] [] [.cell 2 54, .tmp 3, .tmp 4] (.inl rfl) rfl (.val (RVal.cellAll tbok rfl rfl rfl rfl (by (simp [*]; done))) (.tmp rfl (.tmp rfl .nil))) rfl (.pure (pure_aggM flat_vi) (.cons rfl rfl (.cons rfl rfl .nil))) (OutL.whole rfl rfl (OkL.all rfl) (by intro h; rfl) (OutL.flat rfl (flatM flat_vi) (by intro h; rfl) trivial)) (by decide) rfl
theorem flsY_ctr {π : List Nat → List Nat} (hπ : PermB π) {s : Sp Nat} {z : Int} {n : Nat} (hs : Sp.Ok 136 200 bQ s) (hz : (if 0 > z then 0 else z) = (n : Int)) (hc : s.c < 2305843009213693952) (hn : n ≤ 1048576) (hall : ∀ i, i < n → fC π (itN π i s) = 0) : GC Tryz.prog 213 [.int .i64 z, .func (.func 214) #[.agg #[.pointer (some ⟨0, 0, none⟩)]] #[]] [⟨[.iface 213 (.agg #[]), .slice (some ⟨1, 0, none⟩) 200 0, vi .i64 s.i, vi .i64 s.o, vi .i64 s.c], true, 1⟩, ⟨s.st.map (vi .u8), true, 1⟩] [.slice (some ⟨2, 0, none⟩) n 0, vi .i64 (dT π n s), vi .i64 0] [⟨[.iface 213 (.agg #[]), .slice (some ⟨1, 0, none⟩) 200 0, vi .i64 ((dN π n s).i), vi .i64 ((dN π n s).o), vi .i64 ((dN π n s).c)], true, 1⟩, ⟨((dN π n s).st).map (vi .u8), true, 1⟩, ⟨(((itF π n s).map fe).flatten).map (vi .u64), true, 4⟩] := by
 refine GC.intro Tryz.func213 rfl (by show 2 ≤ 36; decide) (Nat.le_of_ble_eq_true rfl) ?_
 refine AW.seqR ?_
 refine AWo.pure (PureOp.assign rfl) rfl rfl ?_
 refine AWo.pure (PureOp.assign rfl) rfl rfl ?_
 refine AWo.pure (PureOp.assign rfl) rfl rfl ?_
 refine AWo.nil trivial ?_
 refine AW.seqR ?_
 refine AWo.pure (PureOp.assign rfl) rfl rfl ?_
 refine AWo.nil trivial ?_
 refine AW.seqR ?_
 refine AWo.pure (PureOp.assign rfl) rfl rfl ?_
 refine AWo.nil trivial ?_
 refine AW.seq ?_
 refine AW.seqR ?_
 refine AWo.pure (PureOp.move rfl) rfl rfl ?_
 refine AWo.pure ((PureOp.max rfl rfl).mono (v' := vi .i64 n) (congrArg (Value.int .i64) hz)) rfl rfl ?_
 refine AWo.pure (PureOp.move rfl) rfl rfl ?_
 refine AWo.nil trivial ?_
 refine AW.block ?_
 refine AW.ghost 77000 4 rfl ?_
 refine AW.loopw (fun mm σ => ∃ i, ∃ S, (i ≤ n ∧ S = itN π i s ∧ ∀ j, j < i → fC π (itN π j s) = 0) ∧ mm = n - i ∧ σ = ⟨(upd (upd (upd (upd (upd emp 1 (.func (.func 214) #[.agg #[.pointer (some ⟨0, 0, none⟩)]] #[])) 7 (.slice (some ⟨77000, 0, none⟩) i 0)) 8 (vi .i64 (itT π i s))) 13 (vi .i64 n)) 14 (vi .i64 i)), (upd (upd (upd emp 0 ⟨[.iface 213 (.agg #[]), .slice (some ⟨1, 0, none⟩) 200 0, vi .i64 S.i, vi .i64 S.o, vi .i64 S.c], true, 1⟩) 1 ⟨S.st.map (vi .u8), true, 1⟩) 77000 ⟨((((itF π i s)).map fe).flatten).map (vi .u64), true, 4⟩)⟩) (fm := []) ?_ ⟨0, s, ⟨Nat.zero_le _, rfl, fun j hj => absurd hj (Nat.not_lt_zero j)⟩, rfl, rfl⟩ ?_
 ·
  refine Wk.of [0, 1, 77000] ?_ ?_ ?_ (by decide) rfl
  ·
   refine WkE.upd rfl (by exact VR.flat _ rfl) ?_
   refine WkE.upd rfl (by exact VR.flat _ rfl) ?_
   refine WkE.upd rfl (by exact VR.flat _ rfl) ?_
   refine WkE.upd rfl (by exact .nilS _ (by simp)) ?_
   refine WkE.upd rfl (funV_rel rfl) ?_
   exact WkE.emp
  ·
   refine WkM.flat rfl (flatM flat_vi) (fun h => h) ?_
   refine WkM.flatM rfl (by rfl) (fun _ => rfl) (fun h => h) ?_
   refine WkM.cells [1] rfl rfl rfl (dom_all rfl) (fun h => h) ?_
   exact WkM.emp
  ·
   repeat (refine dom_upd_mem (by decide) ?_)
   exact dom_emp
 ·
  rintro mm σ ⟨i, S, ⟨hin, hSe, hok⟩, rfl, rfl⟩
  have hS : Sp.Ok 136 200 bQ S := by rw [hSe]; exact itN_ok hπ.1 hs i
  have hSc : S.c ≤ s.c + 2048 * i := by rw [hSe]; exact itN_c (π := π) s i
  have hTl := itT_le (π := π) s i
  have hkl := fK_le (π := π) (itN π i s)
  refine AW.seqR ?_
  refine AWo.pure (PureOp.ltN rfl rfl) rfl rfl ?_
  refine AWo.nil trivial ?_
  refine AW.seq ?_
  refine AW.cond rfl (fun hb0 => ?_) (fun hb0 => ?_)
  ·
   have hi : i < n := by simpa using hb0
   obtain ⟨S2, h2⟩ : ∃ S2, fN π S = S2 := ⟨_, rfl⟩
   obtain ⟨x, hx2⟩ : ∃ x, fV π S = x := ⟨_, rfl⟩
   obtain ⟨kk, hk2⟩ : ∃ kk, fK π S = kk := ⟨_, rfl⟩
   obtain ⟨cc, hc2⟩ : ∃ cc, fC π S = cc := ⟨_, rfl⟩
   have hF := fldB_ctr hπ hS (by omega)
   rw [h2, hx2, hk2, hc2] at hF
   have hx3 : fV π (itN π i s) = x := by rw [← hSe]; exact hx2
   have hk3 : fK π (itN π i s) = kk := by rw [← hSe]; exact hk2
   have hc3 : cc = fC π (itN π i s) := by rw [← hSe]; exact hc2.symm
   refine AW.skip ?_
   refine thenA_normal ?_
   refine AW.seq ?_
   refine AW.block ?_
   refine AW.seqR ?_
   refine AWo.pure (PureOp.move rfl) rfl rfl ?_
   refine AWo.callX (hF) bd217 [(0, 0), (1, 0)] [] rfl (.cons rfl .nil) rfl (.cons rfl rfl .nil) (.whole rfl rfl (OkL.all rfl) (by intro h; exact h) (.flat rfl (flatM flat_vi) (by intro h; exact h) .nil)) rfl (.chg (cells := [.iface 213 (.agg #[]), .slice (some ⟨1, 0, none⟩) 200 0, vi .i64 _, vi .i64 _, vi .i64 _]) rfl rfl rfl (OkL.all rfl) (.chg rfl rfl (flat_map_ren (flatM flat_vi)) (OkL.flat (flatM flat_vi)) .nil)) frN (by decide) (.pure (pure_aggM flat_vi) (.cons rfl rfl (.cons rfl rfl .nil))) rfl rfl rfl rfl ?_
   refine AWo.pure (PureOp.move rfl) rfl rfl ?_
   refine AWo.pure (PureOp.extract rfl rfl) rfl rfl ?_
   refine AWo.pure (PureOp.extract rfl rfl) rfl rfl ?_
   refine AWo.pure (PureOp.extract rfl rfl) rfl rfl ?_
   refine AWo.alloc tbok 10000 1 _ rfl rfl rfl rfl rfl rfl ?_
   refine AWo.storeAllN (vs := (fe x).map (vi .u64)) tbok rfl rfl rfl rfl (by rw [List.length_map, fe_len]) rfl (oneM (fun _ => rfl) _) rfl ?_
   refine AWo.pure (PureOp.assign rfl) rfl rfl ?_
   refine AWo.pure (PureOp.assign rfl) rfl rfl ?_
   refine AWo.nil trivial ?_
   refine AW.seqR ?_
   refine AWo.pure (PureOp.move rfl) rfl rfl ?_
   refine AWo.pure (PureOp.move rfl) rfl rfl ?_
   refine AWo.pure (PureOp.addI rfl rfl (by omega)) rfl rfl ?_
   refine AWo.pure (PureOp.assign rfl) rfl rfl ?_
   refine AWo.nil trivial ?_
   refine AW.seq ?_
   refine AW.seqR ?_
   refine AWo.pure (PureOp.move rfl) rfl rfl ?_
   refine AWo.pure (PureOp.neN (b := 0) rfl rfl) rfl rfl ?_
   refine AWo.nil trivial ?_
   refine AW.cond rfl (fun hb1 => ?_) (fun hb1 => ?_)
   ·
    exact absurd (hc3.trans (hall i hi)) (by simpa using hb1)
   ·
    have hc0 : fC π (itN π i s) = 0 := by rw [← hc3]; simpa using hb1
    refine AW.skip ?_
    refine thenA_normal ?_
    refine AW.region ?_
    refine AWo.pure (PureOp.move rfl) rfl rfl ?_
    refine AWo.loadAll (cells := (fe x).map (vi .u64)) tbok rfl rfl rfl rfl (by rw [List.length_map, fe_len]) rfl rfl ?_
    refine AWo.buildSlice tbok 32000 [(0, .agg ((fe x).map (vi .u64)).toArray)] (out := [fe x].flatten.map (vi .u64)) rfl rfl (by decide) rfl rfl rfl (by decide) rfl (fillB1 (fe_len _)) rfl rfl rfl ?_
    refine AWo.append tbok (all := ((((itF π (i + 1) s)).map fe).flatten).map (vi .u64)) (news := [fe x].flatten.map (vi .u64)) 33000 rfl rfl rfl rfl (by rw [List.length_map]; exact ffl_len (itF_len s i)) (by show List.take _ (List.drop 0 _) = _; rw [List.drop_zero]; exact List.take_of_length_le (by simp)) (by (simp; done)) (by decide) rfl rfl rfl (by decide) rfl rfl rfl (by omega) (by omega) (by exact oneM (fun _ => rfl) _) (by rw [← hx3]; exact itF_cells s i) rfl rfl ?_
    refine AWo.pure (PureOp.assign rfl) rfl rfl ?_
    refine AWo.nil trivial ?_
    refine inBlockA_normal ?_
    refine thenA_normal ?_
    refine AW.region ?_
    refine AWo.pure (PureOp.addI (b := 1) rfl rfl (by omega)) rfl rfl ?_
    refine AWo.pure (PureOp.move rfl) rfl rfl ?_
    refine AWo.nil trivial ?_
    refine thenA_normal ?_
    rw [show itT π i s + kk = itT π (i + 1) s by rw [itT_succ, hk3]]
    refine ⟨n - (i + 1), [(77000, 33000)], _, by omega, ?_, i + 1, S2, ⟨by omega, by rw [itN_succ, ← hSe, h2], fun j hj => by rcases (by omega : j < i ∨ j = i) with h | rfl; exact hok j h; exact hc0⟩, rfl, rfl⟩
    refine Wk.of [0, 1, 77000] ?_ ?_ ?_ (by decide) rfl
    ·
     refine WkE.upd rfl (by exact VR.flat _ rfl) ?_
     refine WkE.upd rfl (by exact VR.flat _ rfl) ?_
     refine WkE.upd rfl (by exact VR.flat _ rfl) ?_
     refine WkE.upd rfl (by exact .slice (77000) 0 _ 0 ⟨_, rfl⟩ (by simp) (by simp)) ?_
     refine WkE.upd rfl (funV_rel rfl) ?_
     exact WkE.emp
    ·
     refine WkM.flat rfl (flatM flat_vi) (fun h => h) ?_
     refine WkM.flatM rfl (by rfl) (fun _ => rfl) (fun h => h) ?_
     refine WkM.cells [1] rfl rfl rfl (dom_all rfl) (fun h => h) ?_
     exact WkM.emp
    ·
     repeat (refine dom_upd_mem (by decide) ?_)
     exact dom_emp
  ·
   have hi : i = n := by simp at hb0; omega
   subst hi
   obtain ⟨e1, e2, e3⟩ := d_all (π := π) hok
   rw [e2, e3, ← hSe]
   refine AW.exit ?_
   refine thenA_exit ?_
   refine thenA_exit ?_
   refine inBlockA_hit ?_
   refine thenA_normal ?_
   refine AW.seqR ?_
   refine AWo.pure (PureOp.move rfl) rfl rfl ?_
   refine AWo.pure (PureOp.move rfl) rfl rfl ?_
   refine AWo.pure (PureOp.assign rfl) rfl rfl ?_
   refine AWo.pure (PureOp.assign rfl) rfl rfl ?_
   refine AWo.pure (PureOp.assign rfl) rfl rfl ?_
   refine AWo.nil trivial ?_
   refine AW.ret ?_
   refine RetQ.gc [_, _, _] [77000] [.tmp 4, .tmp 5, .tmp 6] (.inl rfl) rfl (.tmp rfl (.tmp rfl (.tmp rfl .nil))) rfl (.cons rfl rfl (.cons rfl rfl (.cons rfl rfl .nil))) (OutL.whole rfl rfl (OkL.all rfl) (by intro h; rfl) (OutL.flat rfl (flatM flat_vi) (by intro h; rfl) (OutL.flat rfl (flatM flat_vi) (by intro h; rfl) trivial))) (by decide) rfl
theorem flsN_ctr {π : List Nat → List Nat} (hπ : PermB π) {s : Sp Nat} {z : Int} {n : Nat} (hs : Sp.Ok 136 200 bQ s) (hz : (if 0 > z then 0 else z) = (n : Int)) (hc : s.c < 2305843009213693952) (hn : n ≤ 1048576) (hbad : dC' π n s ≠ 0) : GC Tryz.prog 213 [.int .i64 z, .func (.func 214) #[.agg #[.pointer (some ⟨0, 0, none⟩)]] #[]] [⟨[.iface 213 (.agg #[]), .slice (some ⟨1, 0, none⟩) 200 0, vi .i64 s.i, vi .i64 s.o, vi .i64 s.c], true, 1⟩, ⟨s.st.map (vi .u8), true, 1⟩] [.slice none 0 0, vi .i64 (dT π n s), vi .i64 11] [⟨[.iface 213 (.agg #[]), .slice (some ⟨1, 0, none⟩) 200 0, vi .i64 ((dN π n s).i), vi .i64 ((dN π n s).o), vi .i64 ((dN π n s).c)], true, 1⟩, ⟨((dN π n s).st).map (vi .u8), true, 1⟩] := by
 refine GC.intro Tryz.func213 rfl (by show 2 ≤ 36; decide) (Nat.le_of_ble_eq_true rfl) ?_
 refine AW.seqR ?_
 refine AWo.pure (PureOp.assign rfl) rfl rfl ?_
 refine AWo.pure (PureOp.assign rfl) rfl rfl ?_
 refine AWo.pure (PureOp.assign rfl) rfl rfl ?_
 refine AWo.nil trivial ?_
 refine AW.seqR ?_
 refine AWo.pure (PureOp.assign rfl) rfl rfl ?_
 refine AWo.nil trivial ?_
 refine AW.seqR ?_
 refine AWo.pure (PureOp.assign rfl) rfl rfl ?_
 refine AWo.nil trivial ?_
 refine AW.seq ?_
 refine AW.seqR ?_
 refine AWo.pure (PureOp.move rfl) rfl rfl ?_
 refine AWo.pure ((PureOp.max rfl rfl).mono (v' := vi .i64 n) (congrArg (Value.int .i64) hz)) rfl rfl ?_
 refine AWo.pure (PureOp.move rfl) rfl rfl ?_
 refine AWo.nil trivial ?_
 refine AW.block ?_
 refine AW.ghost 77000 4 rfl ?_
 refine AW.loopw (fun mm σ => ∃ i, ∃ S, (i ≤ n ∧ S = itN π i s ∧ ∀ j, j < i → fC π (itN π j s) = 0) ∧ mm = n - i ∧ σ = ⟨(upd (upd (upd (upd (upd emp 1 (.func (.func 214) #[.agg #[.pointer (some ⟨0, 0, none⟩)]] #[])) 7 (.slice (some ⟨77000, 0, none⟩) i 0)) 8 (vi .i64 (itT π i s))) 13 (vi .i64 n)) 14 (vi .i64 i)), (upd (upd (upd emp 0 ⟨[.iface 213 (.agg #[]), .slice (some ⟨1, 0, none⟩) 200 0, vi .i64 S.i, vi .i64 S.o, vi .i64 S.c], true, 1⟩) 1 ⟨S.st.map (vi .u8), true, 1⟩) 77000 ⟨((((itF π i s)).map fe).flatten).map (vi .u64), true, 4⟩)⟩) (fm := []) ?_ ⟨0, s, ⟨Nat.zero_le _, rfl, fun j hj => absurd hj (Nat.not_lt_zero j)⟩, rfl, rfl⟩ ?_
 ·
  refine Wk.of [0, 1, 77000] ?_ ?_ ?_ (by decide) rfl
  ·
   refine WkE.upd rfl (by exact VR.flat _ rfl) ?_
   refine WkE.upd rfl (by exact VR.flat _ rfl) ?_
   refine WkE.upd rfl (by exact VR.flat _ rfl) ?_
   refine WkE.upd rfl (by exact .nilS _ (by simp)) ?_
   refine WkE.upd rfl (funV_rel rfl) ?_
   exact WkE.emp
  ·
   refine WkM.flat rfl (flatM flat_vi) (fun h => h) ?_
   refine WkM.flatM rfl (by rfl) (fun _ => rfl) (fun h => h) ?_
   refine WkM.cells [1] rfl rfl rfl (dom_all rfl) (fun h => h) ?_
   exact WkM.emp
  ·
   repeat (refine dom_upd_mem (by decide) ?_)
   exact dom_emp
 ·
  rintro mm σ ⟨i, S, ⟨hin, hSe, hok⟩, rfl, rfl⟩
  have hS : Sp.Ok 136 200 bQ S := by rw [hSe]; exact itN_ok hπ.1 hs i
  have hSc : S.c ≤ s.c + 2048 * i := by rw [hSe]; exact itN_c (π := π) s i
  have hTl := itT_le (π := π) s i
  have hkl := fK_le (π := π) (itN π i s)
  refine AW.seqR ?_
  refine AWo.pure (PureOp.ltN rfl rfl) rfl rfl ?_
  refine AWo.nil trivial ?_
  refine AW.seq ?_
  refine AW.cond rfl (fun hb0 => ?_) (fun hb0 => ?_)
  ·
   have hi : i < n := by simpa using hb0
   obtain ⟨S2, h2⟩ : ∃ S2, fN π S = S2 := ⟨_, rfl⟩
   obtain ⟨x, hx2⟩ : ∃ x, fV π S = x := ⟨_, rfl⟩
   obtain ⟨kk, hk2⟩ : ∃ kk, fK π S = kk := ⟨_, rfl⟩
   obtain ⟨cc, hc2⟩ : ∃ cc, fC π S = cc := ⟨_, rfl⟩
   have hF := fldB_ctr hπ hS (by omega)
   rw [h2, hx2, hk2, hc2] at hF
   have hx3 : fV π (itN π i s) = x := by rw [← hSe]; exact hx2
   have hk3 : fK π (itN π i s) = kk := by rw [← hSe]; exact hk2
   have hc3 : cc = fC π (itN π i s) := by rw [← hSe]; exact hc2.symm
   refine AW.skip ?_
   refine thenA_normal ?_
   refine AW.seq ?_
   refine AW.block ?_
   refine AW.seqR ?_
   refine AWo.pure (PureOp.move rfl) rfl rfl ?_
   refine AWo.callX (hF) bd217 [(0, 0), (1, 0)] [] rfl (.cons rfl .nil) rfl (.cons rfl rfl .nil) (.whole rfl rfl (OkL.all rfl) (by intro h; exact h) (.flat rfl (flatM flat_vi) (by intro h; exact h) .nil)) rfl (.chg (cells := [.iface 213 (.agg #[]), .slice (some ⟨1, 0, none⟩) 200 0, vi .i64 _, vi .i64 _, vi .i64 _]) rfl rfl rfl (OkL.all rfl) (.chg rfl rfl (flat_map_ren (flatM flat_vi)) (OkL.flat (flatM flat_vi)) .nil)) frN (by decide) (.pure (pure_aggM flat_vi) (.cons rfl rfl (.cons rfl rfl .nil))) rfl rfl rfl rfl ?_
   refine AWo.pure (PureOp.move rfl) rfl rfl ?_
   refine AWo.pure (PureOp.extract rfl rfl) rfl rfl ?_
   refine AWo.pure (PureOp.extract rfl rfl) rfl rfl ?_
   refine AWo.pure (PureOp.extract rfl rfl) rfl rfl ?_
   refine AWo.alloc tbok 10000 1 _ rfl rfl rfl rfl rfl rfl ?_
   refine AWo.storeAllN (vs := (fe x).map (vi .u64)) tbok rfl rfl rfl rfl (by rw [List.length_map, fe_len]) rfl (oneM (fun _ => rfl) _) rfl ?_
   refine AWo.pure (PureOp.assign rfl) rfl rfl ?_
   refine AWo.pure (PureOp.assign rfl) rfl rfl ?_
   refine AWo.nil trivial ?_
   refine AW.seqR ?_
   refine AWo.pure (PureOp.move rfl) rfl rfl ?_
   refine AWo.pure (PureOp.move rfl) rfl rfl ?_
   refine AWo.pure (PureOp.addI rfl rfl (by omega)) rfl rfl ?_
   refine AWo.pure (PureOp.assign rfl) rfl rfl ?_
   refine AWo.nil trivial ?_
   refine AW.seq ?_
   refine AW.seqR ?_
   refine AWo.pure (PureOp.move rfl) rfl rfl ?_
   refine AWo.pure (PureOp.neN (b := 0) rfl rfl) rfl rfl ?_
   refine AWo.nil trivial ?_
   refine AW.cond rfl (fun hb1 => ?_) (fun hb1 => ?_)
   ·
    have hne : fC π (itN π i s) ≠ 0 := by rw [← hc3]; simpa using hb1
    obtain ⟨e1, e2, e3⟩ := d_bad (π := π) hi hok hne
    obtain rfl : cc = 11 := hc3.trans (fC_11 hne)
    have e4 : itN π (i + 1) s = S2 := by rw [itN_succ, ← hSe, h2]
    rw [e2, e3, e4, show itT π (i + 1) s = itT π i s + kk by rw [itT_succ, hk3]]
    refine AW.seqR ?_
    refine AWo.pure (PureOp.move rfl) rfl rfl ?_
    refine AWo.pure (PureOp.move rfl) rfl rfl ?_
    refine AWo.pure (PureOp.assign rfl) rfl rfl ?_
    refine AWo.pure (PureOp.assign rfl) rfl rfl ?_
    refine AWo.pure (PureOp.assign rfl) rfl rfl ?_
    refine AWo.nil trivial ?_
    refine AW.ret ?_
    refine thenA_ret ?_
    refine inBlockA_ret ?_
    refine thenA_ret ?_
    refine thenA_ret ?_
    refine inBlockA_ret ?_
    refine thenA_ret ?_
    refine RetQ.gc [_, _, _] [] [.tmp 4, .tmp 5, .tmp 6] (.inl rfl) rfl (.tmp rfl (.tmp rfl (.tmp rfl .nil))) rfl (.cons rfl rfl (.cons rfl rfl (.cons rfl rfl .nil))) (OutL.whole rfl rfl (OkL.all rfl) (by intro h; rfl) (OutL.flat rfl (flatM flat_vi) (by intro h; rfl) trivial)) (by decide) rfl
   ·
    have hc0 : fC π (itN π i s) = 0 := by rw [← hc3]; simpa using hb1
    refine AW.skip ?_
    refine thenA_normal ?_
    refine AW.region ?_
    refine AWo.pure (PureOp.move rfl) rfl rfl ?_
    refine AWo.loadAll (cells := (fe x).map (vi .u64)) tbok rfl rfl rfl rfl (by rw [List.length_map, fe_len]) rfl rfl ?_
    refine AWo.buildSlice tbok 32000 [(0, .agg ((fe x).map (vi .u64)).toArray)] (out := [fe x].flatten.map (vi .u64)) rfl rfl (by decide) rfl rfl rfl (by decide) rfl (fillB1 (fe_len _)) rfl rfl rfl ?_
    refine AWo.append tbok (all := ((((itF π (i + 1) s)).map fe).flatten).map (vi .u64)) (news := [fe x].flatten.map (vi .u64)) 33000 rfl rfl rfl rfl (by rw [List.length_map]; exact ffl_len (itF_len s i)) (by show List.take _ (List.drop 0 _) = _; rw [List.drop_zero]; exact List.take_of_length_le (by simp)) (by (simp; done)) (by decide) rfl rfl rfl (by decide) rfl rfl rfl (by omega) (by omega) (by exact oneM (fun _ => rfl) _) (by rw [← hx3]; exact itF_cells s i) rfl rfl ?_
    refine AWo.pure (PureOp.assign rfl) rfl rfl ?_
    refine AWo.nil trivial ?_
    refine inBlockA_normal ?_
    refine thenA_normal ?_
    refine AW.region ?_
    refine AWo.pure (PureOp.addI (b := 1) rfl rfl (by omega)) rfl rfl ?_
    refine AWo.pure (PureOp.move rfl) rfl rfl ?_
    refine AWo.nil trivial ?_
    refine thenA_normal ?_
    rw [show itT π i s + kk = itT π (i + 1) s by rw [itT_succ, hk3]]
    refine ⟨n - (i + 1), [(77000, 33000)], _, by omega, ?_, i + 1, S2, ⟨by omega, by rw [itN_succ, ← hSe, h2], fun j hj => by rcases (by omega : j < i ∨ j = i) with h | rfl; exact hok j h; exact hc0⟩, rfl, rfl⟩
    refine Wk.of [0, 1, 77000] ?_ ?_ ?_ (by decide) rfl
    ·
     refine WkE.upd rfl (by exact VR.flat _ rfl) ?_
     refine WkE.upd rfl (by exact VR.flat _ rfl) ?_
     refine WkE.upd rfl (by exact VR.flat _ rfl) ?_
     refine WkE.upd rfl (by exact .slice (77000) 0 _ 0 ⟨_, rfl⟩ (by simp) (by simp)) ?_
     refine WkE.upd rfl (funV_rel rfl) ?_
     exact WkE.emp
    ·
     refine WkM.flat rfl (flatM flat_vi) (fun h => h) ?_
     refine WkM.flatM rfl (by rfl) (fun _ => rfl) (fun h => h) ?_
     refine WkM.cells [1] rfl rfl rfl (dom_all rfl) (fun h => h) ?_
     exact WkM.emp
    ·
     repeat (refine dom_upd_mem (by decide) ?_)
     exact dom_emp
  ·
   have hi : i = n := by simp at hb0; omega
   subst hi
   exact absurd (d_all (π := π) hok).1 hbad
theorem tellB_ctr {π : List Nat → List Nat} (hπ : PermB π) {s : Sp Nat} {x : Opn} (hs : Sp.Ok 136 200 bQ s) (hb : bd 256 x.d) (hl : x.d.length < 9223372036854775000) (hc : s.c + x.d.length < 9223372036854775000) : GC Tryz.prog 211 [.agg #[.pointer (some ⟨0, 0, none⟩)], opV x] [⟨[.iface 213 (.agg #[]), .slice (some ⟨1, 0, none⟩) 200 0, vi .i64 s.i, vi .i64 s.o, vi .i64 s.c], true, 1⟩, ⟨s.st.map (vi .u8), true, 1⟩] [] [⟨[.iface 213 (.agg #[]), .slice (some ⟨1, 0, none⟩) 200 0, vi .i64 ((tellB π s x).i), vi .i64 ((tellB π s x).o), vi .i64 ((tellB π s x).c)], true, 1⟩, ⟨((tellB π s x).st).map (vi .u8), true, 1⟩] := by
 refine GC.intro Tryz.func211 rfl (by show 2 ≤ 9; decide) (Nat.le_of_ble_eq_true rfl) ?_
 refine AW.seqR ?_
 refine AWo.box 3000 1 [.pointer (some ⟨0, 0, none⟩)] rfl rfl rfl rfl rfl ?_
 refine AWo.box 4000 1 [.int .i64 x.k, .int .i64 x.t, .int .i64 x.c, db x.d] rfl rfl rfl rfl rfl ?_
 refine AWo.nil trivial ?_
 refine AW.draw mixed ?_
 refine AWo.pure (PureOp.fld tbok rfl rfl rfl (by decide)) rfl rfl ?_
 refine AWo.load tbok rfl rfl rfl rfl rfl rfl ?_
 refine AWo.loadAll (cells := [.int .i64 x.k, .int .i64 x.t, .int .i64 x.c, db x.d]) tbok rfl rfl rfl rfl rfl rfl rfl ?_
 refine AWo.callX (tobytes_ctr (x := x) hb (by omega)) bd216 [] [8000] rfl (.cons rfl .nil) rfl (.clo rfl .nil) .nil rfl (.new (flat_map_ren (by exact flatM flat_vi)) (OkL.flat (by exact flatM flat_vi)) .nil) (frC rfl frN) (by decide) (.cons rfl rfl .nil) rfl rfl rfl rfl ?_
 refine AWo.callX (abB_ctr hπ (s := s) (l := toB x) hs (toB_bd hb) (by have := toB_le x; omega) (by have := toB_le x; omega)) bd215 [(0, 0), (1, 0), (8000, 0)] [] rfl (.cons rfl (.cons rfl .nil)) rfl (.cons rfl rfl (.cons rfl rfl .nil)) (.whole rfl rfl (OkL.all rfl) (by intro h; exact h) (.flat rfl (flatM flat_vi) (by intro h; exact h) (.flat rfl (by exact flatM flat_vi) (by intro h; rfl) .nil))) rfl (.chg (cells := [.iface 213 (.agg #[]), .slice (some ⟨1, 0, none⟩) 200 0, vi .i64 _, vi .i64 _, vi .i64 _]) rfl rfl rfl (OkL.all rfl) (.chg rfl rfl (flat_map_ren (flatM flat_vi)) (OkL.flat (flatM flat_vi)) (.keep rfl .nil))) frN (by decide) .nil rfl rfl rfl rfl ?_
 refine AWo.nil (by kernel_rfl) ?_
 refine RetQ.gc [] [] [] (.inr rfl) rfl .nil rfl .nil (OutL.whole rfl rfl (OkL.all rfl) (by intro h; rfl) (OutL.flat rfl (flatM flat_vi) (by intro h; rfl) trivial)) (by decide) rfl
theorem bytesB_ctr {π : List Nat → List Nat} (hπ : PermB π) {s : Sp Nat} {z : Int} {n : Nat} (hs : Sp.Ok 136 200 bQ s) (hz : (if 0 > z then 0 else z) = (n : Int)) (hc : s.c + n < 9223372036854775807) (hn : n < 100000000000) : GC Tryz.prog 209 [.agg #[.pointer (some ⟨0, 0, none⟩)], .int .i64 z] [⟨[.iface 213 (.agg #[]), .slice (some ⟨1, 0, none⟩) 200 0, vi .i64 s.i, vi .i64 s.o, vi .i64 s.c], true, 1⟩, ⟨s.st.map (vi .u8), true, 1⟩] [.slice (some ⟨2, 0, none⟩) n 0] [⟨[.iface 213 (.agg #[]), .slice (some ⟨1, 0, none⟩) 200 0, vi .i64 ((Sp.gives 136 π n s).i), vi .i64 ((Sp.gives 136 π n s).o), vi .i64 ((Sp.gives 136 π n s).c)], true, 1⟩, ⟨((Sp.gives 136 π n s).st).map (vi .u8), true, 1⟩, ⟨(Sp.outs 136 π 0 n s).map (vi .u8), true, 1⟩] := by
 refine GC.intro Tryz.func209 rfl (by show 2 ≤ 9; decide) (Nat.le_of_ble_eq_true rfl) ?_
 refine AW.seqR ?_
 refine AWo.box 3000 1 [.pointer (some ⟨0, 0, none⟩)] rfl rfl rfl rfl rfl ?_
 refine AWo.pure (PureOp.assign rfl) rfl rfl ?_
 refine AWo.nil trivial ?_
 refine AW.seqR ?_
 refine AWo.pure (PureOp.fld tbok rfl rfl rfl (by decide)) rfl rfl ?_
 refine AWo.load tbok rfl rfl rfl rfl rfl rfl ?_
 refine AWo.pure (PureOp.move rfl) rfl rfl ?_
 refine AWo.callX (sqB_ctr hπ (s := s) (z := z) (n := n) hs hz hc hn) bd212 [(0, 0), (1, 0)] [9000] rfl (.cons rfl (.cons rfl .nil)) rfl (.cons rfl rfl (.cons rfl rfl .nil)) (.whole rfl rfl (OkL.all rfl) (by intro h; exact h) (.flat rfl (flatM flat_vi) (by intro h; exact h) .nil)) rfl (.chg (cells := [.iface 213 (.agg #[]), .slice (some ⟨1, 0, none⟩) 200 0, vi .i64 _, vi .i64 _, vi .i64 _]) rfl rfl rfl (OkL.all rfl) (.chg rfl rfl (flat_map_ren (flatM flat_vi)) (OkL.flat (flatM flat_vi)) (.new (flat_map_ren (by exact flatM flat_vi)) (OkL.flat (by exact flatM flat_vi)) .nil))) (frC rfl frN) (by decide) (.cons rfl rfl .nil) rfl rfl rfl rfl ?_
 refine AWo.pure (PureOp.assign rfl) rfl rfl ?_
 refine AWo.nil trivial ?_
 refine AW.ret ?_
 refine RetQ.gc [_] [9000] [.tmp 4] (.inl rfl) rfl (.tmp rfl .nil) rfl (.cons rfl rfl .nil) (OutL.whole rfl rfl (OkL.all rfl) (by intro h; rfl) (OutL.flat rfl (flatM flat_vi) (by intro h; rfl) (OutL.flat rfl (by exact flatM flat_vi) (by intro h; rfl) trivial))) (by decide) rfl
theorem fieY_ctr {π : List Nat → List Nat} (hπ : PermB π) {s : Sp Nat} {z : Int} {n : Nat} (hs : Sp.Ok 136 200 bQ s) (hz : (if 0 > z then 0 else z) = (n : Int)) (hc : s.c < 2305843009213693952) (hn : n ≤ 1048576) (hall : ∀ i, i < n → fC π (itN π i s) = 0) : GC Tryz.prog 210 [.agg #[.pointer (some ⟨0, 0, none⟩)], .int .i64 z] [⟨[.iface 213 (.agg #[]), .slice (some ⟨1, 0, none⟩) 200 0, vi .i64 s.i, vi .i64 s.o, vi .i64 s.c], true, 1⟩, ⟨s.st.map (vi .u8), true, 1⟩] [.slice (some ⟨2, 0, none⟩) n 0, vi .i64 0] [⟨[.iface 213 (.agg #[]), .slice (some ⟨1, 0, none⟩) 200 0, vi .i64 ((dN π n s).i), vi .i64 ((dN π n s).o), vi .i64 ((dN π n s).c)], true, 1⟩, ⟨((dN π n s).st).map (vi .u8), true, 1⟩, ⟨(((itF π n s).map fe).flatten).map (vi .u64), true, 4⟩] := by
 refine GC.intro Tryz.func210 rfl (by show 2 ≤ 19; decide) (Nat.le_of_ble_eq_true rfl) ?_
 refine AW.seqR ?_
 refine AWo.box 3000 1 [.pointer (some ⟨0, 0, none⟩)] rfl rfl rfl rfl rfl ?_
 refine AWo.pure (PureOp.assign rfl) rfl rfl ?_
 refine AWo.pure (PureOp.assign rfl) rfl rfl ?_
 refine AWo.nil trivial ?_
 refine AW.seqR ?_
 refine AWo.pure (PureOp.move rfl) rfl rfl ?_
 refine AWo.loadAll (cells := [.pointer (some ⟨0, 0, none⟩)]) tbok rfl rfl rfl rfl rfl rfl rfl ?_
 refine AWo.pure (fn1 (v := .agg #[.pointer (some ⟨0, 0, none⟩)]) rfl) rfl rfl ?_
 refine AWo.callX (flsY_ctr hπ hs hz hc hn hall) bd213 [(0, 0), (1, 0)] [14000] rfl (.cons rfl (.cons rfl .nil)) rfl (.cons rfl rfl (.cons rfl rfl .nil)) (.whole rfl rfl (OkL.all rfl) (by intro h; exact h) (.flat rfl (flatM flat_vi) (by intro h; exact h) .nil)) rfl (.chg (cells := [.iface 213 (.agg #[]), .slice (some ⟨1, 0, none⟩) 200 0, vi .i64 _, vi .i64 _, vi .i64 _]) rfl rfl rfl (OkL.all rfl) (.chg rfl rfl (flat_map_ren (flatM flat_vi)) (OkL.flat (flatM flat_vi)) (.new (flat_map_ren (flatM flat_vi)) (OkL.flat (flatM flat_vi)) .nil))) (frC rfl frN) (by decide) (.cons rfl rfl (.cons rfl rfl (.cons rfl rfl .nil))) rfl rfl rfl rfl ?_
 refine AWo.pure (PureOp.move rfl) rfl rfl ?_
 refine AWo.pure (PureOp.extract rfl rfl) rfl rfl ?_
 refine AWo.pure (PureOp.extract rfl rfl) rfl rfl ?_
 refine AWo.pure (PureOp.extract rfl rfl) rfl rfl ?_
 refine AWo.pure (PureOp.assign rfl) rfl rfl ?_
 refine AWo.pure (PureOp.assign rfl) rfl rfl ?_
 refine AWo.pure (PureOp.assign rfl) rfl rfl ?_
 refine AWo.nil trivial ?_
 refine AW.seqR ?_
 refine AWo.pure (PureOp.move rfl) rfl rfl ?_
 refine AWo.pure (PureOp.move rfl) rfl rfl ?_
 refine AWo.pure (PureOp.assign rfl) rfl rfl ?_
 refine AWo.pure (PureOp.assign rfl) rfl rfl ?_
 refine AWo.nil trivial ?_
 refine AW.ret ?_
 refine RetQ.gc [_, _] [14000] [.tmp 4, .tmp 5] (.inl rfl) rfl (.tmp rfl (.tmp rfl .nil)) rfl (.cons rfl rfl (.cons rfl rfl .nil)) (OutL.whole rfl rfl (OkL.all rfl) (by intro h; rfl) (OutL.flat rfl (flatM flat_vi) (by intro h; rfl) (OutL.flat rfl (flatM flat_vi) (by intro h; rfl) trivial))) (by decide) rfl
theorem fieN_ctr {π : List Nat → List Nat} (hπ : PermB π) {s : Sp Nat} {z : Int} {n : Nat} (hs : Sp.Ok 136 200 bQ s) (hz : (if 0 > z then 0 else z) = (n : Int)) (hc : s.c < 2305843009213693952) (hn : n ≤ 1048576) (hbad : dC' π n s ≠ 0) : GC Tryz.prog 210 [.agg #[.pointer (some ⟨0, 0, none⟩)], .int .i64 z] [⟨[.iface 213 (.agg #[]), .slice (some ⟨1, 0, none⟩) 200 0, vi .i64 s.i, vi .i64 s.o, vi .i64 s.c], true, 1⟩, ⟨s.st.map (vi .u8), true, 1⟩] [.slice none 0 0, vi .i64 11] [⟨[.iface 213 (.agg #[]), .slice (some ⟨1, 0, none⟩) 200 0, vi .i64 ((dN π n s).i), vi .i64 ((dN π n s).o), vi .i64 ((dN π n s).c)], true, 1⟩, ⟨((dN π n s).st).map (vi .u8), true, 1⟩] := by
 refine GC.intro Tryz.func210 rfl (by show 2 ≤ 19; decide) (Nat.le_of_ble_eq_true rfl) ?_
 refine AW.seqR ?_
 refine AWo.box 3000 1 [.pointer (some ⟨0, 0, none⟩)] rfl rfl rfl rfl rfl ?_
 refine AWo.pure (PureOp.assign rfl) rfl rfl ?_
 refine AWo.pure (PureOp.assign rfl) rfl rfl ?_
 refine AWo.nil trivial ?_
 refine AW.seqR ?_
 refine AWo.pure (PureOp.move rfl) rfl rfl ?_
 refine AWo.loadAll (cells := [.pointer (some ⟨0, 0, none⟩)]) tbok rfl rfl rfl rfl rfl rfl rfl ?_
 refine AWo.pure (fn1 (v := .agg #[.pointer (some ⟨0, 0, none⟩)]) rfl) rfl rfl ?_
 refine AWo.callX (flsN_ctr hπ hs hz hc hn hbad) bd213 [(0, 0), (1, 0)] [] rfl (.cons rfl (.cons rfl .nil)) rfl (.cons rfl rfl (.cons rfl rfl .nil)) (.whole rfl rfl (OkL.all rfl) (by intro h; exact h) (.flat rfl (flatM flat_vi) (by intro h; exact h) .nil)) rfl (.chg (cells := [.iface 213 (.agg #[]), .slice (some ⟨1, 0, none⟩) 200 0, vi .i64 _, vi .i64 _, vi .i64 _]) rfl rfl rfl (OkL.all rfl) (.chg rfl rfl (flat_map_ren (flatM flat_vi)) (OkL.flat (flatM flat_vi)) .nil)) frN (by decide) (.cons rfl rfl (.cons rfl rfl (.cons rfl rfl .nil))) rfl rfl rfl rfl ?_
 refine AWo.pure (PureOp.move rfl) rfl rfl ?_
 refine AWo.pure (PureOp.extract rfl rfl) rfl rfl ?_
 refine AWo.pure (PureOp.extract rfl rfl) rfl rfl ?_
 refine AWo.pure (PureOp.extract rfl rfl) rfl rfl ?_
 refine AWo.pure (PureOp.assign rfl) rfl rfl ?_
 refine AWo.pure (PureOp.assign rfl) rfl rfl ?_
 refine AWo.pure (PureOp.assign rfl) rfl rfl ?_
 refine AWo.nil trivial ?_
 refine AW.seqR ?_
 refine AWo.pure (PureOp.move rfl) rfl rfl ?_
 refine AWo.pure (PureOp.move rfl) rfl rfl ?_
 refine AWo.pure (PureOp.assign rfl) rfl rfl ?_
 refine AWo.pure (PureOp.assign rfl) rfl rfl ?_
 refine AWo.nil trivial ?_
 refine AW.ret ?_
 refine RetQ.gc [_, _] [] [.tmp 4, .tmp 5] (.inl rfl) rfl (.tmp rfl (.tmp rfl .nil)) rfl (.cons rfl rfl (.cons rfl rfl .nil)) (OutL.whole rfl rfl (OkL.all rfl) (by intro h; rfl) (OutL.flat rfl (flatM flat_vi) (by intro h; rfl) trivial)) (by decide) rfl
end Go.Proofs.YtlfadlfjjkppfaaGreatDoor
namespace Go.Proofs.YtlfadlfjjkppfaaGreatDoor
open Go Sim
set_option maxRecDepth 10000
theorem flC_0 (g : Gd) : flC g 0 = g.wr := by unfold flC; split <;> simp_all
theorem fl_0 {g : Gd} (h : g.wr = 0) (e : Nat) : flC g e = e := if_pos h
theorem gFl_0 (g : Gd) : gFl g 0 = g := by unfold gFl; rw [flC_0]
theorem nx_ok {g : Gd} (hg : GOk g) {k t c : Int} (h : nxC g k t c = 0) : g.wr = 0 ∧ itC k t c = 0 ∧ g.a < g.its.length ∧ (g.its.getD g.a itZ).k = k ∧ (g.its.getD g.a itZ).t = t ∧ (g.its.getD g.a itZ).c = c := by
  unfold nxC unC flC at h
  by_cases hw : g.wr = 0
  · rw [if_pos hw] at h
    refine ⟨hw, ?_⟩
    unfold nxB at h
    by_cases ha : g.a < g.its.length
    · rw [if_pos ha] at h
      by_cases hd : (g.its.getD g.a itZ).k = k ∧ (g.its.getD g.a itZ).t = t ∧ (g.its.getD g.a itZ).c = c
      · have h1 := (ick_inv (hg.its.get ha).1).1
        rw [hd.1, hd.2.1, hd.2.2] at h1
        exact ⟨h1, ha, hd⟩
      · rw [decide_eq_false hd] at h; simp at h
    · rw [if_neg ha] at h; simp at h
  · rw [if_neg hw] at h; exact absurd h hw
theorem sqN_eq {z : Int} (h1 : 1 ≤ z) : (if 0 > z then 0 else z) = ((sqN z : Nat) : Int) := by unfold sqN; rw [if_neg (by omega)]; omega
section
variable {π : List Nat → List Nat} {g : Gd} {s : Sp Nat} {t : Int} {d : List Nat}
theorem ab_1 (h : g.wr ≠ 0) : abC g t d = g.wr ∧ abG g t d = g ∧ abS π g s t d = s := by
  have e : abC g t d = g.wr := if_pos h
  exact ⟨e, if_pos h, if_neg (by rw [e]; exact h)⟩
theorem ab_2 (h : g.wr = 0) {c : Nat} (hc : cC t d.length = c) (h2 : c ≠ 0) : abC g t d = c ∧ abG g t d = gFl g c ∧ abS π g s t d = s := by
  subst hc
  have e : abC g t d = cC t d.length := by unfold abC; rw [if_neg (by simpa using h), if_pos h2]
  exact ⟨e, by unfold abG; rw [if_neg (by simpa using h), if_pos h2], if_neg (by rw [e]; exact h2)⟩
theorem ab_3 (h : g.wr = 0) (hc : cC t d.length = 0) {n : Nat} (hn : cN t d.length = n) (h3 : nxC g 1 t n ≠ 0) : abC g t d = nxC g 1 t n ∧ abG g t d = gNx g 1 t n ∧ abS π g s t d = s := by
  subst hn
  have e : abC g t d = nxC g 1 t (cN t d.length) := by unfold abC; rw [if_neg (by simpa using h), if_neg (by simpa using hc), if_pos h3]
  exact ⟨e, by unfold abG; rw [if_neg (by simpa using h), if_neg (by simpa using hc), if_pos h3], if_neg (by rw [e]; exact h3)⟩
theorem ab_4 (h : g.wr = 0) (hc : cC t d.length = 0) {n : Nat} (hn : cN t d.length = n) (h3 : nxC g 1 t n = 0) {k : Nat} (hk : ckC t d = k) : abC g t d = k ∧ abG g t d = gFl (gNx g 1 t n) k ∧ abS π g s t d = (if k = 0 then tellB π s ⟨1, t, n, d⟩ else s) := by
  subst hn; subst hk
  have e : abC g t d = ckC t d := by unfold abC; rw [if_neg (by simpa using h), if_neg (by simpa using hc), if_neg (by simpa using h3)]
  exact ⟨e, by unfold abG; rw [if_neg (by simpa using h), if_neg (by simpa using hc), if_neg (by simpa using h3)], by unfold abS; rw [e]⟩
theorem tellB_ok (T : Sp.Turns 136 π 200 bQ) (hs : Sp.Ok 136 200 bQ s) {x : Opn} (hb : bd 256 x.d) : Sp.Ok 136 200 bQ (tellB π s x) := hs.takes T (toB_bd hb)
theorem tellB_c (x : Opn) : (tellB π s x).c ≤ s.c + (6 + x.d.length) := by
  have h1 := Sp.takes_c (R := 136) (π := π) (toB x) s
  have h2 := toB_le x
  unfold tellB; omega
end
theorem Meth.emb {P : Program} {T : TypeId} {name : String} {f : FuncId} {i o : Nat} (hT : T ≠ 987654321) (h : ∀ y w, (method (P.types.size + Made.depth) T (.agg #[y]) name).run P w = .ok (f, y) w) :
    Meth P T name f (.agg #[.pointer (some ⟨i, o, none⟩)]) (.pointer (some ⟨i, o, none⟩)) := by
  refine ⟨hT, fun D ρ x hx => ?_⟩
  cases hx with
  | flat _ hf => simp [flatV] at hf
  | agg _ ys hs hh =>
    obtain ⟨y, hy⟩ := exists_get (k := 0) (n := 1) (by decide) hs
    have e : ys = #[y] := by
      apply Array.ext'
      have hl : ys.toList.length = 1 := by rw [Array.length_toList]; exact hs.symm
      have h0 : ys.toList[0]? = some y := by rw [Array.getElem?_toList]; exact hy
      match hq : ys.toList with
      | [] => rw [hq] at hl; cases hl
      | [a] => rw [hq] at h0; cases h0; rfl
      | a :: b :: r => rw [hq] at hl; simp at hl
    subst e
    exact ⟨y, h y, hh 0 _ y rfl rfl⟩
end Go.Proofs.YtlfadlfjjkppfaaGreatDoor
namespace Go.Proofs.YtlfadlfjjkppfaaGreatDoor
open Go Sim
set_option maxRecDepth 10000
theorem m_tell {i : Nat} : Meth Tryz.prog 112 "avouch/transcript.tell" 211 (.agg #[.pointer (some ⟨i, 0, none⟩)]) (.agg #[.pointer (some ⟨i, 0, none⟩)]) := Meth.same (by decide) fun _ _ => by kernel_rfl
theorem m_bytes {i : Nat} : Meth Tryz.prog 112 "avouch/transcript.bytes" 209 (.agg #[.pointer (some ⟨i, 0, none⟩)]) (.agg #[.pointer (some ⟨i, 0, none⟩)]) := Meth.same (by decide) fun _ _ => by kernel_rfl
theorem m_fields {i : Nat} : Meth Tryz.prog 112 "avouch/transcript.fields" 210 (.agg #[.pointer (some ⟨i, 0, none⟩)]) (.agg #[.pointer (some ⟨i, 0, none⟩)]) := Meth.same (by decide) fun _ _ => by kernel_rfl
theorem m_calls {i : Nat} : Meth Tryz.prog 112 "Calls" 206 (.agg #[.pointer (some ⟨i, 0, none⟩)]) (.pointer (some ⟨i, 0, none⟩)) := Meth.emb (by decide) fun _ _ => by kernel_rfl
theorem m_rat {i : Nat} : Meth Tryz.prog 112 "Ratchet" 207 (.agg #[.pointer (some ⟨i, 0, none⟩)]) (.pointer (some ⟨i, 0, none⟩)) := Meth.emb (by decide) fun _ _ => by kernel_rfl
theorem gfz_ctr {g : Gd} {e : Nat} (h : g.wr = 0) : GC Tryz.prog 56 [.pointer (some ⟨0, 0, none⟩), vi .i64 e] [⟨[dI g.its, vi .i64 g.a, wrV g.wr], true, 1⟩] [vi .i64 e] [⟨[dI g.its, vi .i64 g.a, wrV e], true, 1⟩] := by
  have h1 := gfail_ctr (g := g) (e := e)
  rw [fl_0 h] at h1
  exact h1
theorem d_inv {π : List Nat → List Nat} {n : Nat} {s : Sp Nat} (h : dC' π n s = 0) : ∀ i, i < n → fC π (itN π i s) = 0 := fun i hi => by
  unfold dC' at h
  split at h
  · cases h
  · rename_i h1
    exact ffx_lt s n i (by omega)
theorem tnext_ctr {g : Gd} {tag : List Nat} {s : Sp Nat} {x : Opn} (hga : g.a < 1000000) : GC Tryz.prog 57 [.pointer (some ⟨0, 0, none⟩), opV x] [⟨trC 112 1 2 tag, false, 1⟩, ⟨[dI g.its, vi .i64 g.a, wrV g.wr], true, 1⟩, ⟨[.iface 213 (.agg #[]), .slice (some ⟨3, 0, none⟩) 200 0, vi .i64 s.i, vi .i64 s.o, vi .i64 s.c], false, 1⟩, ⟨s.st.map (vi .u8), false, 1⟩] [vi .i64 (nxC g x.k x.t x.c)] [⟨trC 112 1 2 tag, false, 1⟩, ⟨[dI g.its, vi .i64 (nxA g x.k x.t x.c), wrV (nxC g x.k x.t x.c)], true, 1⟩, ⟨[.iface 213 (.agg #[]), .slice (some ⟨3, 0, none⟩) 200 0, vi .i64 s.i, vi .i64 s.o, vi .i64 s.c], false, 1⟩, ⟨s.st.map (vi .u8), false, 1⟩] := by
 refine GC.intro Tryz.func57 rfl (by show 2 ≤ 16; decide) (Nat.le_of_ble_eq_true rfl) ?_
 refine zS ?_
 refine AWo.box 4000 1 [.int .i64 x.k, .int .i64 x.t, .int .i64 x.c, db x.d] rfl rfl rfl rfl rfl ?_
 refine yA ?_
 refine zN ?_
 refine AW.seqD mixed ?_
 refine yM ?_
 refine yP (PureOp.nilCheck rfl) ?_
 refine yP pF ?_
 refine AWo.load tbok (v := .pointer (some ⟨1, 0, none⟩)) rfl rfl rfl rfl rfl rfl ?_
 refine yP pF ?_
 refine yL1 ?_
 refine yP pF ?_
 refine yL1 ?_
 refine yP pF ?_
 refine yL1 ?_
 refine yC (gnx_ctr (g := g) (k := x.k) (t := x.t) (c := x.c) hga) bd102 [(1, 0)] [] ?_ (hfit := (.clo rfl (gd_clo _ _ _) (by intro h; exact h) .nil)) (hnew := (.chg rfl rfl (clo_map_ren (gd_clo _ _ _)) (OkL.clo (gd_clo _ _ _)) .nil))
 refine yA ?_
 refine zD (zE ?_)
 exact rq [] [.tmp 4] (hb := (OutL.whole rfl (trC_ren rfl rfl rfl rfl) (trC_ok rfl rfl (by decide)) (by intro h; exact h.elim id fun h => absurd h.1 (by simp)) (OutL.clo rfl (gd_clo _ _ _) (by intro h; rfl) (OutL.whole rfl rfl (OkL.all rfl) (by intro h; exact h.elim id fun h => absurd h.1 (by simp)) (OutL.flat rfl (flatM flat_vi) (by intro h; exact h.elim id fun h => absurd h.1 (by simp)) trivial)))))
theorem terr0_ctr {g : Gd} {tag : List Nat} {s : Sp Nat} : GC Tryz.prog 54 [.pointer (some ⟨0, 0, none⟩)] [⟨trC 112 1 2 tag, false, 1⟩, ⟨[dI g.its, vi .i64 g.a, wrV g.wr], true, 1⟩, ⟨[.iface 213 (.agg #[]), .slice (some ⟨3, 0, none⟩) 200 0, vi .i64 s.i, vi .i64 s.o, vi .i64 s.c], false, 1⟩, ⟨s.st.map (vi .u8), false, 1⟩] [vi .i64 (flC g 0)] [⟨trC 112 1 2 tag, false, 1⟩, ⟨[dI g.its, vi .i64 g.a, wrV (flC g 0)], true, 1⟩, ⟨[.iface 213 (.agg #[]), .slice (some ⟨3, 0, none⟩) 200 0, vi .i64 s.i, vi .i64 s.o, vi .i64 s.c], false, 1⟩, ⟨s.st.map (vi .u8), false, 1⟩] := by
 refine GC.intro Tryz.func54 rfl (by show 1 ≤ 8; decide) (Nat.le_of_ble_eq_true rfl) ?_
 refine zS ?_
 refine yA ?_
 refine zN (zS ?_)
 refine yM ?_
 refine yP (PureOp.nilCheck rfl) ?_
 refine yP pF ?_
 refine AWo.load tbok (v := .pointer (some ⟨1, 0, none⟩)) rfl rfl rfl rfl rfl rfl ?_
 refine yC (gfail_ctr (g := g) (e := 0)) bd56 [(1, 0)] [] ?_ (hfit := (.clo rfl (gd_clo _ _ _) (by intro h; exact h) .nil)) (hnew := (.chg rfl rfl (clo_map_ren (gd_clo _ _ _)) (OkL.clo (gd_clo _ _ _)) .nil))
 refine yA ?_
 refine zN (zE ?_)
 exact rq [] [.tmp 2] (hb := (OutL.whole rfl (trC_ren rfl rfl rfl rfl) (trC_ok rfl rfl (by decide)) (by intro h; exact h.elim id fun h => absurd h.1 (by simp)) (OutL.clo rfl (gd_clo _ _ _) (by intro h; rfl) (OutL.whole rfl rfl (OkL.all rfl) (by intro h; exact h.elim id fun h => absurd h.1 (by simp)) (OutL.flat rfl (flatM flat_vi) (by intro h; exact h.elim id fun h => absurd h.1 (by simp)) trivial)))))
theorem terr_ctr {g : Gd} {tag : List Nat} {s : Sp Nat} : GC Tryz.prog 54 [.pointer (some ⟨0, 0, none⟩)] [⟨trC 112 1 2 tag, false, 1⟩, ⟨[dI g.its, vi .i64 g.a, wrV g.wr], true, 1⟩, ⟨[.iface 213 (.agg #[]), .slice (some ⟨3, 0, none⟩) 200 0, vi .i64 s.i, vi .i64 s.o, vi .i64 s.c], false, 1⟩, ⟨s.st.map (vi .u8), false, 1⟩] [vi .i64 g.wr] [⟨trC 112 1 2 tag, false, 1⟩, ⟨[dI g.its, vi .i64 g.a, wrV g.wr], true, 1⟩, ⟨[.iface 213 (.agg #[]), .slice (some ⟨3, 0, none⟩) 200 0, vi .i64 s.i, vi .i64 s.o, vi .i64 s.c], false, 1⟩, ⟨s.st.map (vi .u8), false, 1⟩] := by
 have h := terr0_ctr (g := g) (tag := tag) (s := s)
 rw [flC_0] at h
 exact h
theorem tat_ctr {g : Gd} {tag : List Nat} {s : Sp Nat} : GC Tryz.prog 27 [.pointer (some ⟨0, 0, none⟩)] [⟨trC 112 1 2 tag, false, 1⟩, ⟨[dI g.its, vi .i64 g.a, wrV g.wr], false, 1⟩, ⟨[.iface 213 (.agg #[]), .slice (some ⟨3, 0, none⟩) 200 0, vi .i64 s.i, vi .i64 s.o, vi .i64 s.c], false, 1⟩, ⟨s.st.map (vi .u8), false, 1⟩] [vi .i64 g.a] [⟨trC 112 1 2 tag, false, 1⟩, ⟨[dI g.its, vi .i64 g.a, wrV g.wr], false, 1⟩, ⟨[.iface 213 (.agg #[]), .slice (some ⟨3, 0, none⟩) 200 0, vi .i64 s.i, vi .i64 s.o, vi .i64 s.c], false, 1⟩, ⟨s.st.map (vi .u8), false, 1⟩] := by
 refine GC.intro Tryz.func27 rfl (by show 1 ≤ 8; decide) (Nat.le_of_ble_eq_true rfl) ?_
 refine zS ?_
 refine yA ?_
 refine zN (zS ?_)
 refine yM ?_
 refine yP (PureOp.nilCheck rfl) ?_
 refine yP pF ?_
 refine AWo.load tbok (v := .pointer (some ⟨1, 0, none⟩)) rfl rfl rfl rfl rfl rfl ?_
 refine yC (gat_ctr (g := g)) bd67 [(1, 0)] [] ?_ (hfit := (.clo rfl (gd_clo _ _ _) (by intro h; exact h) .nil))
 refine yA ?_
 refine zN (zE ?_)
 exact rq [] [.tmp 2] (hb := (OutL.whole rfl (trC_ren rfl rfl rfl rfl) (trC_ok rfl rfl (by decide)) (by intro h; exact h.elim id fun h => absurd h.1 (by simp)) (OutL.clo rfl (gd_clo _ _ _) (by intro h; exact h.elim id fun h => absurd h.1 (by simp)) (OutL.whole rfl rfl (OkL.all rfl) (by intro h; exact h.elim id fun h => absurd h.1 (by simp)) (OutL.flat rfl (flatM flat_vi) (by intro h; exact h.elim id fun h => absurd h.1 (by simp)) trivial)))))
theorem tfin_ctr {g : Gd} {tag : List Nat} {s : Sp Nat} : GC Tryz.prog 22 [.pointer (some ⟨0, 0, none⟩)] [⟨trC 112 1 2 tag, false, 1⟩, ⟨[dI g.its, vi .i64 g.a, wrV g.wr], true, 1⟩, ⟨[.iface 213 (.agg #[]), .slice (some ⟨3, 0, none⟩) 200 0, vi .i64 s.i, vi .i64 s.o, vi .i64 s.c], false, 1⟩, ⟨s.st.map (vi .u8), false, 1⟩] [vi .i64 (fnC g)] [⟨trC 112 1 2 tag, false, 1⟩, ⟨[dI g.its, vi .i64 g.a, wrV (fnC g)], true, 1⟩, ⟨[.iface 213 (.agg #[]), .slice (some ⟨3, 0, none⟩) 200 0, vi .i64 s.i, vi .i64 s.o, vi .i64 s.c], false, 1⟩, ⟨s.st.map (vi .u8), false, 1⟩] := by
 refine GC.intro Tryz.func22 rfl (by show 1 ≤ 8; decide) (Nat.le_of_ble_eq_true rfl) ?_
 refine zS ?_
 refine yA ?_
 refine zN (zS ?_)
 refine yM ?_
 refine yP (PureOp.nilCheck rfl) ?_
 refine yP pF ?_
 refine AWo.load tbok (v := .pointer (some ⟨1, 0, none⟩)) rfl rfl rfl rfl rfl rfl ?_
 refine yC (gfin_ctr (g := g)) bd61 [(1, 0)] [] ?_ (hfit := (.clo rfl (gd_clo _ _ _) (by intro h; exact h) .nil)) (hnew := (.chg rfl rfl (clo_map_ren (gd_clo _ _ _)) (OkL.clo (gd_clo _ _ _)) .nil))
 refine yA ?_
 refine zN (zE ?_)
 exact rq [] [.tmp 2] (hb := (OutL.whole rfl (trC_ren rfl rfl rfl rfl) (trC_ok rfl rfl (by decide)) (by intro h; exact h.elim id fun h => absurd h.1 (by simp)) (OutL.clo rfl (gd_clo _ _ _) (by intro h; rfl) (OutL.whole rfl rfl (OkL.all rfl) (by intro h; exact h.elim id fun h => absurd h.1 (by simp)) (OutL.flat rfl (flatM flat_vi) (by intro h; exact h.elim id fun h => absurd h.1 (by simp)) trivial)))))
theorem tcalls_ctr {g : Gd} {tag : List Nat} {s : Sp Nat} (htl : tag.length = 32) : GC Tryz.prog 15 [.pointer (some ⟨0, 0, none⟩)] [⟨trC 112 1 2 tag, false, 1⟩, ⟨[dI g.its, vi .i64 g.a, wrV g.wr], false, 1⟩, ⟨[.iface 213 (.agg #[]), .slice (some ⟨3, 0, none⟩) 200 0, vi .i64 s.i, vi .i64 s.o, vi .i64 s.c], false, 1⟩, ⟨s.st.map (vi .u8), false, 1⟩] [vi .i64 s.c] [⟨trC 112 1 2 tag, false, 1⟩, ⟨[dI g.its, vi .i64 g.a, wrV g.wr], false, 1⟩, ⟨[.iface 213 (.agg #[]), .slice (some ⟨3, 0, none⟩) 200 0, vi .i64 s.i, vi .i64 s.o, vi .i64 s.c], false, 1⟩, ⟨s.st.map (vi .u8), false, 1⟩] := by
 refine GC.intro Tryz.func15 rfl (by show 1 ≤ 8; decide) (Nat.le_of_ble_eq_true rfl) ?_
 refine zS ?_
 refine yA ?_
 refine zN (zS ?_)
 refine yM ?_
 refine yP (PureOp.nilCheck rfl) ?_
 refine yP pF ?_
 refine AWo.load tbok (v := .iface 112 (.agg #[.pointer (some ⟨2, 0, none⟩)])) rfl rfl rfl (trC_33 htl) rfl rfl ?_
 refine AWo.callI (caB_ctr (st := s.st) (i := s.i) (o := s.o) (c := s.c)) bd206 (m_calls) [(2, 0), (3, 0)] [] rfl .nil (.cons rfl rfl .nil) (.whole rfl rfl (OkL.all rfl) (by intro h; exact h) (.flat rfl (flatM flat_vi) (by intro h; exact h) .nil)) rfl (.keep rfl (.keep rfl .nil)) frN (by decide) (.cons rfl rfl .nil) rfl rfl rfl rfl ?_
 refine yA ?_
 refine zN (zE ?_)
 exact rq [] [.tmp 2] (hb := (OutL.whole rfl (trC_ren rfl rfl rfl rfl) (trC_ok rfl rfl (by decide)) (by intro h; exact h.elim id fun h => absurd h.1 (by simp)) (OutL.clo rfl (gd_clo _ _ _) (by intro h; exact h.elim id fun h => absurd h.1 (by simp)) (OutL.whole rfl rfl (OkL.all rfl) (by intro h; exact h.elim id fun h => absurd h.1 (by simp)) (OutL.flat rfl (flatM flat_vi) (by intro h; exact h.elim id fun h => absurd h.1 (by simp)) trivial)))))
theorem tabs_ctr {π : List Nat → List Nat} (hπ : PermB π) {g : Gd} {tag : List Nat} {s : Sp Nat} {t : Int} {d : List Nat} (htl : tag.length = 32) (hga : g.a < 1000000) (hs : Sp.Ok 136 200 bQ s) (hb : bd 256 d) (hl : d.length < 200000000) (hc : s.c < 1152921504606846976) : GC Tryz.prog 19 [.pointer (some ⟨0, 0, none⟩), .int .i64 t, db d] [⟨trC 112 1 2 tag, false, 1⟩, ⟨[dI g.its, vi .i64 g.a, wrV g.wr], true, 1⟩, ⟨[.iface 213 (.agg #[]), .slice (some ⟨3, 0, none⟩) 200 0, vi .i64 s.i, vi .i64 s.o, vi .i64 s.c], true, 1⟩, ⟨s.st.map (vi .u8), true, 1⟩] [vi .i64 (abC g t d)] [⟨trC 112 1 2 tag, false, 1⟩, ⟨[dI g.its, vi .i64 ((abG g t d).a), wrV ((abG g t d).wr)], true, 1⟩, ⟨[.iface 213 (.agg #[]), .slice (some ⟨3, 0, none⟩) 200 0, vi .i64 ((abS π g s t d).i), vi .i64 ((abS π g s t d).o), vi .i64 ((abS π g s t d).c)], true, 1⟩, ⟨((abS π g s t d).st).map (vi .u8), true, 1⟩] := by
 refine GC.intro Tryz.func19 rfl (by show 3 ≤ 59; decide) (Nat.le_of_ble_eq_true rfl) ?_
 refine zS ?_
 refine yA ?_
 refine zN (zQ (zS ?_))
 refine yM ?_
 refine yC (terr_ctr) bd54 [(0, 0), (1, 0), (2, 0), (3, 0)] [] ?_ (hfit := (.whole rfl (trC_ren rfl rfl rfl rfl) (trC_ok rfl rfl (by decide)) (by intro h; exact h) (.clo rfl (gd_clo _ _ _) (by intro h; exact h) (.whole rfl rfl (OkL.all rfl) (by intro h; rfl) (.flat rfl (flatM flat_vi) (by intro h; rfl) .nil))))) (hnew := (.keep rfl (.chg rfl rfl (clo_map_ren (gd_clo _ _ _)) (OkL.clo (gd_clo _ _ _)) (.keep rfl (.keep rfl .nil)))))
 refine yA ?_
 refine zN (zS ?_)
 refine yM ?_
 refine yP (pNe (b := 0)) ?_
 refine zN ?_
 refine zA (fun hb0 => ?_) (fun hb0 => ?_)
 ·
  have h1 : g.wr ≠ 0 := by simpa using hb0
  obtain ⟨e1, e2, e3⟩ := ab_1 (π := π) (s := s) (t := t) (d := d) h1
  rw [e1, e2, e3]
  refine zS ?_
  refine yM ?_
  refine yA ?_
  refine zN (zE (zU ?_))
  exact rq [] [.tmp 6] (hb := (OutL.whole rfl (trC_ren rfl rfl rfl rfl) (trC_ok rfl rfl (by decide)) (by intro h; exact h.elim id fun h => absurd h.1 (by simp)) (OutL.clo rfl (gd_clo _ _ _) (by intro h; rfl) (OutL.whole rfl rfl (OkL.all rfl) (by intro h; rfl) (OutL.flat rfl (flatM flat_vi) (by intro h; rfl) trivial)))))
 ·
  have h1 : g.wr = 0 := by simpa using hb0
  obtain ⟨n, hn⟩ : ∃ n, cN t d.length = n := ⟨_, rfl⟩
  obtain ⟨c, hc⟩ : ∃ c, cC t d.length = c := ⟨_, rfl⟩
  have hF := count_ctr (t := t) (b := d) (by omega)
  rw [hn, hc] at hF
  refine zK (zT (zS ?_))
  refine yM ?_
  refine yM ?_
  refine yC (hF) bd55 [] [] ?_ (hargs := (.cons rfl rfl (.clo rfl .nil)))
  refine yM ?_
  refine yP pX ?_
  refine yP pX ?_
  refine yA ?_
  refine yA ?_
  refine zN (zQ (zS ?_))
  refine yM ?_
  refine yP (pNe (b := 0)) ?_
  refine zN ?_
  refine zA (fun hb1 => ?_) (fun hb1 => ?_)
  ·
   have h2 : c ≠ 0 := by simpa using hb1
   obtain ⟨e1, e2, e3⟩ := ab_2 (π := π) (s := s) h1 hc h2
   rw [e1, e2, e3, show (gFl g c).wr = c from fl_0 h1 c]
   refine zS ?_
   refine yM ?_
   refine yP (PureOp.nilCheck rfl) ?_
   refine yP pF ?_
   refine AWo.load tbok (v := .pointer (some ⟨1, 0, none⟩)) rfl rfl rfl rfl rfl rfl ?_
   refine yM ?_
   refine yC (gfz_ctr (g := g) (e := c) h1) bd56 [(1, 0)] [] ?_ (hfit := (.clo rfl (gd_clo _ _ _) (by intro h; exact h) .nil)) (hnew := (.chg rfl rfl (clo_map_ren (gd_clo _ _ _)) (OkL.clo (gd_clo _ _ _)) .nil))
   refine yA ?_
   refine zN (zE (zU ?_))
   exact rq [] [.tmp 6] (hb := (OutL.whole rfl (trC_ren rfl rfl rfl rfl) (trC_ok rfl rfl (by decide)) (by intro h; exact h.elim id fun h => absurd h.1 (by simp)) (OutL.clo rfl (gd_clo _ _ _) (by intro h; rfl) (OutL.whole rfl rfl (OkL.all rfl) (by intro h; rfl) (OutL.flat rfl (flatM flat_vi) (by intro h; rfl) trivial)))))
  ·
   have h2 : c = 0 := by simpa using hb1
   have hc0 : cC t d.length = 0 := hc.trans h2
   obtain ⟨A, hA⟩ : ∃ A, nxA g 1 t n = A := ⟨_, rfl⟩
   obtain ⟨N_, hN⟩ : ∃ N_, nxC g 1 t n = N_ := ⟨_, rfl⟩
   have hX := tnext_ctr (s := s) (tag := tag) (x := ⟨1, t, n, d⟩) hga
   simp only [hA, hN] at hX
   refine zK (zT (zS ?_))
   refine yM ?_
   refine yM ?_
   refine yM ?_
   refine yP ((PureOp.buildStruct [(0, .int .i64 1), (1, .int .i64 t), (2, vi .i64 n), (3, db d)] pl127.choose_spec.1 zr127 (by decide) pl127.choose_spec.2 rfl rfl).mono (v' := .agg #[.int .i64 1, .int .i64 t, vi .i64 n, db d]) rfl) ?_
   refine yN 11000 1 _ ?_
   refine AWo.storeAllN (vs := [.int .i64 (Opn.mk 1 t n d).k, .int .i64 (Opn.mk 1 t n d).t, .int .i64 (Opn.mk 1 t n d).c, db (Opn.mk 1 t n d).d]) tbok rfl rfl rfl rfl rfl rfl rfl rfl ?_
   refine zN (zQ (zS ?_))
   refine yM ?_
   refine AWo.loadAll (cells := [.int .i64 (Opn.mk 1 t n d).k, .int .i64 (Opn.mk 1 t n d).t, .int .i64 (Opn.mk 1 t n d).c, db (Opn.mk 1 t n d).d]) tbok rfl rfl rfl rfl rfl rfl rfl ?_
   refine yC (hX) bd57 [(0, 0), (1, 0), (2, 0), (3, 0)] [] ?_ (hargs := (.cons rfl rfl (.clo rfl .nil))) (hfit := (.whole rfl (trC_ren rfl rfl rfl rfl) (trC_ok rfl rfl (by decide)) (by intro h; exact h) (.clo rfl (gd_clo _ _ _) (by intro h; exact h) (.whole rfl rfl (OkL.all rfl) (by intro h; rfl) (.flat rfl (flatM flat_vi) (by intro h; rfl) .nil))))) (hnew := (.keep rfl (.chg rfl rfl (clo_map_ren (gd_clo _ _ _)) (OkL.clo (gd_clo _ _ _)) (.keep rfl (.keep rfl .nil)))))
   refine yA ?_
   refine zN (zS ?_)
   refine yM ?_
   refine yP (pNe (b := 0)) ?_
   refine zN ?_
   refine zA (fun hb2 => ?_) (fun hb2 => ?_)
   ·
    have h3 : N_ ≠ 0 := by simpa using hb2
    obtain ⟨e1, e2, e3⟩ := ab_3 (π := π) (s := s) h1 hc0 hn (by rw [hN]; exact h3)
    rw [e1, e2, e3, hN, show (gNx g 1 t n).a = A from hA, show (gNx g 1 t n).wr = N_ from hN]
    refine zS ?_
    refine yM ?_
    refine yA ?_
    refine zN (zE (zU ?_))
    exact rq [] [.tmp 6] (hb := (OutL.whole rfl (trC_ren rfl rfl rfl rfl) (trC_ok rfl rfl (by decide)) (by intro h; exact h.elim id fun h => absurd h.1 (by simp)) (OutL.clo rfl (gd_clo _ _ _) (by intro h; rfl) (OutL.whole rfl rfl (OkL.all rfl) (by intro h; rfl) (OutL.flat rfl (flatM flat_vi) (by intro h; rfl) trivial)))))
   ·
    have h3 : N_ = 0 := by simpa using hb2
    obtain ⟨k, hk⟩ : ∃ k, ckC t d = k := ⟨_, rfl⟩
    have hK := check_ctr (t := t) (b := d) hb (by omega)
    rw [hk] at hK
    obtain ⟨e1, e2, e3⟩ := ab_4 (π := π) (s := s) h1 hc0 hn (by rw [hN]; exact h3) hk
    refine zK (zT (zQ (zS ?_)))
    refine yM ?_
    refine yM ?_
    refine yC (hK) bd58 [] [] ?_ (hargs := (.cons rfl rfl (.clo rfl .nil)))
    refine yA ?_
    refine zN (zS ?_)
    refine yM ?_
    refine yP (pNe (b := 0)) ?_
    refine zN ?_
    refine zA (fun hb3 => ?_) (fun hb3 => ?_)
    ·
     have h4 : k ≠ 0 := by simpa using hb3
     rw [if_neg h4] at e3
     rw [e1, e2, e3, show (gFl (gNx g 1 t n) k).a = A from hA, show (gFl (gNx g 1 t n) k).wr = k from fl_0 (hN.trans h3) k]
     refine zS ?_
     refine yM ?_
     refine yP (PureOp.nilCheck rfl) ?_
     refine yP pF ?_
     refine AWo.load tbok (v := .pointer (some ⟨1, 0, none⟩)) rfl rfl rfl rfl rfl rfl ?_
     refine yM ?_
     refine yC (gfz_ctr (g := ⟨g.its, A, N_⟩) (e := k) h3) bd56 [(1, 0)] [] ?_ (hfit := (.clo rfl (gd_clo _ _ _) (by intro h; exact h) .nil)) (hnew := (.chg rfl rfl (clo_map_ren (gd_clo _ _ _)) (OkL.clo (gd_clo _ _ _)) .nil))
     refine yA ?_
     refine zN (zE (zU ?_))
     exact rq [] [.tmp 6] (hb := (OutL.whole rfl (trC_ren rfl rfl rfl rfl) (trC_ok rfl rfl (by decide)) (by intro h; exact h.elim id fun h => absurd h.1 (by simp)) (OutL.clo rfl (gd_clo _ _ _) (by intro h; rfl) (OutL.whole rfl rfl (OkL.all rfl) (by intro h; rfl) (OutL.flat rfl (flatM flat_vi) (by intro h; rfl) trivial)))))
    ·
     have h4 : k = 0 := by simpa using hb3
     rw [if_pos h4] at e3
     obtain ⟨S2, h2S⟩ : ∃ S2, tellB π s ⟨1, t, n, d⟩ = S2 := ⟨_, rfl⟩
     have hT := tellB_ctr hπ (x := ⟨1, t, n, d⟩) hs hb (by show d.length < _; omega) (by show s.c + d.length < _; omega)
     rw [h2S] at hT e3
     rw [e1, e2, e3, h4, show (gFl (gNx g 1 t n) 0).a = A from hA, show (gFl (gNx g 1 t n) 0).wr = N_ by rw [gFl_0]; exact hN]
     refine zK (zT ?_)
     refine AW.seqD mixed ?_
     refine yM ?_
     refine yP (PureOp.nilCheck rfl) ?_
     refine yP pF ?_
     refine AWo.load tbok (v := .iface 112 (.agg #[.pointer (some ⟨2, 0, none⟩)])) rfl rfl rfl (trC_33 htl) rfl rfl ?_
     refine AWo.loadAll (cells := [.int .i64 (Opn.mk 1 t n d).k, .int .i64 (Opn.mk 1 t n d).t, .int .i64 (Opn.mk 1 t n d).c, db (Opn.mk 1 t n d).d]) tbok rfl rfl rfl rfl rfl rfl rfl ?_
     refine AWo.callI (hT) bd211 (m_tell) [(2, 0), (3, 0)] [] rfl (.cons rfl .nil) (.cons rfl rfl (.clo rfl .nil)) (.whole rfl rfl (OkL.all rfl) (by intro h; exact h) (.flat rfl (flatM flat_vi) (by intro h; exact h) .nil)) rfl (.chg (cells := [.iface 213 (.agg #[]), .slice (some ⟨3, 0, none⟩) 200 0, vi .i64 _, vi .i64 _, vi .i64 _]) rfl rfl rfl (OkL.all rfl) (.chg rfl rfl (flat_map_ren (flatM flat_vi)) (OkL.flat (flatM flat_vi)) .nil)) frN (by decide) .nil rfl rfl rfl rfl ?_
     refine zD (zS ?_)
     refine yA ?_
     refine zN (zE ?_)
     exact rq [] [.tmp 6] (hb := (OutL.whole rfl (trC_ren rfl rfl rfl rfl) (trC_ok rfl rfl (by decide)) (by intro h; exact h.elim id fun h => absurd h.1 (by simp)) (OutL.clo rfl (gd_clo _ _ _) (by intro h; rfl) (OutL.whole rfl rfl (OkL.all rfl) (by intro h; rfl) (OutL.flat rfl (flatM flat_vi) (by intro h; rfl) trivial)))))
theorem tsqY_ctr {π : List Nat → List Nat} (hπ : PermB π) {g : Gd} {tag : List Nat} {s : Sp Nat} {z : Int} (htl : tag.length = 32) (hg : GOk g) (hga : g.a < 1000000) (hs : Sp.Ok 136 200 bQ s) (hc : s.c < 1152921504606846976) (hz : nxC g 2 1 z = 0) : GC Tryz.prog 52 [.pointer (some ⟨0, 0, none⟩), .int .i64 z] [⟨trC 112 1 2 tag, false, 1⟩, ⟨[dI g.its, vi .i64 g.a, wrV g.wr], true, 1⟩, ⟨[.iface 213 (.agg #[]), .slice (some ⟨3, 0, none⟩) 200 0, vi .i64 s.i, vi .i64 s.o, vi .i64 s.c], true, 1⟩, ⟨s.st.map (vi .u8), true, 1⟩] [.slice (some ⟨4, 0, none⟩) (sqN z) 0, vi .i64 0] [⟨trC 112 1 2 tag, false, 1⟩, ⟨[dI g.its, vi .i64 ((gNx g 2 1 z).a), wrV ((gNx g 2 1 z).wr)], true, 1⟩, ⟨[.iface 213 (.agg #[]), .slice (some ⟨3, 0, none⟩) 200 0, vi .i64 ((sqS π g s z).i), vi .i64 ((sqS π g s z).o), vi .i64 ((sqS π g s z).c)], true, 1⟩, ⟨((sqS π g s z).st).map (vi .u8), true, 1⟩, ⟨(sqO π s z).map (vi .u8), true, 1⟩] := by
 refine GC.intro Tryz.func52 rfl (by show 2 ≤ 28; decide) (Nat.le_of_ble_eq_true rfl) ?_
 obtain ⟨A, hA⟩ : ∃ A, nxA g 2 1 z = A := ⟨_, rfl⟩
 obtain ⟨N_, hN⟩ : ∃ N_, nxC g 2 1 z = N_ := ⟨_, rfl⟩
 have hX := tnext_ctr (s := s) (tag := tag) (x := ⟨2, 1, z, []⟩) hga
 simp only [hA, hN] at hX
 rw [show (gNx g 2 1 z).a = A from hA, show (gNx g 2 1 z).wr = N_ from hN]
 obtain ⟨S2, h2⟩ : ∃ S2, tellB π s ⟨2, 1, z, []⟩ = S2 := ⟨_, rfl⟩
 obtain ⟨m, hm⟩ : ∃ m, sqN z = m := ⟨_, rfl⟩
 obtain ⟨l, hlx⟩ : ∃ l, sqO π s z = l := ⟨_, rfl⟩
 obtain ⟨S3, h3⟩ : ∃ S3, sqS π g s z = S3 := ⟨_, rfl⟩
 have hT := tellB_ctr hπ (x := ⟨2, 1, z, []⟩) hs (fun x hx => by cases hx) (by show 0 < _; decide) (by show s.c + 0 < _; omega)
 have h2c : S2.c ≤ s.c + 6 := by rw [← h2]; exact tellB_c _
 have hS2 : Sp.Ok 136 200 bQ S2 := by rw [← h2]; exact tellB_ok hπ.1 hs (fun x hx => by cases hx)
 have hzi := itC_inv (nx_ok hg hz).2.1
 have hB := bytesB_ctr hπ (s := S2) (z := z) (n := sqN z) hS2 (sqN_eq hzi.2.2.2.2.1) (by unfold sqN; omega) (by unfold sqN; omega)
 rw [h2] at hT
 rw [show Sp.gives 136 π (sqN z) S2 = S3 by rw [← h3, ← h2]; exact (if_pos hz).symm, show Sp.outs 136 π 0 (sqN z) S2 = l by rw [← hlx, ← h2]; rfl, hm] at hB
 rw [h3, hlx, hm]
 rw [hN] at hz
 refine zS ?_
 refine yA ?_
 refine yA ?_
 refine zN (zS ?_)
 refine yM ?_
 refine yP (PureOp.opNil ((PureOp.buildStruct [(0, .int .i64 2), (1, .int .i64 1), (2, .int .i64 z)] pl127.choose_spec.1 zr127 (by decide) pl127.choose_spec.2 rfl rfl).mono (v' := .agg #[.int .i64 2, .int .i64 1, .int .i64 z, .slice none 0 0]) rfl)) ?_
 refine yN 7000 1 _ ?_
 refine AWo.storeAllN (vs := [.int .i64 (Opn.mk (2) (1) (z) []).k, .int .i64 (Opn.mk (2) (1) (z) []).t, .int .i64 (Opn.mk (2) (1) (z) []).c, db (Opn.mk (2) (1) (z) []).d]) tbok rfl rfl rfl rfl rfl rfl rfl rfl ?_
 refine zN (zQ (zS ?_))
 refine yM ?_
 refine AWo.loadAll (cells := [.int .i64 (Opn.mk 2 1 z []).k, .int .i64 (Opn.mk 2 1 z []).t, .int .i64 (Opn.mk 2 1 z []).c, db (Opn.mk 2 1 z []).d]) tbok rfl rfl rfl rfl rfl rfl rfl ?_
 refine yC (hX) bd57 [(0, 0), (1, 0), (2, 0), (3, 0)] [] ?_ (hargs := (.cons rfl rfl (.clo rfl .nil))) (hfit := (.whole rfl (trC_ren rfl rfl rfl rfl) (trC_ok rfl rfl (by decide)) (by intro h; exact h) (.clo rfl (gd_clo _ _ _) (by intro h; exact h) (.whole rfl rfl (OkL.all rfl) (by intro h; rfl) (.flat rfl (flatM flat_vi) (by intro h; rfl) .nil))))) (hnew := (.keep rfl (.chg rfl rfl (clo_map_ren (gd_clo _ _ _)) (OkL.clo (gd_clo _ _ _)) (.keep rfl (.keep rfl .nil)))))
 refine yA ?_
 refine zN (zS ?_)
 refine yM ?_
 refine yP ((PureOp.neN (b := 0) rfl rfl).mono (v' := .bool false) (congrArg Value.bool (by simpa using hz))) ?_
 refine zN (zF (zK (zT ?_)))
 refine AW.seqD mixed ?_
 refine yM ?_
 refine yP (PureOp.nilCheck rfl) ?_
 refine yP pF ?_
 refine AWo.load tbok (v := .iface 112 (.agg #[.pointer (some ⟨2, 0, none⟩)])) rfl rfl rfl (trC_33 htl) rfl rfl ?_
 refine AWo.loadAll (cells := [.int .i64 (Opn.mk 2 1 z []).k, .int .i64 (Opn.mk 2 1 z []).t, .int .i64 (Opn.mk 2 1 z []).c, db (Opn.mk 2 1 z []).d]) tbok rfl rfl rfl rfl rfl rfl rfl ?_
 refine AWo.callI (hT) bd211 (m_tell) [(2, 0), (3, 0)] [] rfl (.cons rfl .nil) (.cons rfl rfl (.clo rfl .nil)) (.whole rfl rfl (OkL.all rfl) (by intro h; exact h) (.flat rfl (flatM flat_vi) (by intro h; exact h) .nil)) rfl (.chg (cells := [.iface 213 (.agg #[]), .slice (some ⟨3, 0, none⟩) 200 0, vi .i64 _, vi .i64 _, vi .i64 _]) rfl rfl rfl (OkL.all rfl) (.chg rfl rfl (flat_map_ren (flatM flat_vi)) (OkL.flat (flatM flat_vi)) .nil)) frN (by decide) .nil rfl rfl rfl rfl ?_
 refine zD (zS ?_)
 refine yM ?_
 refine yP (PureOp.nilCheck rfl) ?_
 refine yP pF ?_
 refine AWo.load tbok (v := .iface 112 (.agg #[.pointer (some ⟨2, 0, none⟩)])) rfl rfl rfl (trC_33 htl) rfl rfl ?_
 refine yM ?_
 refine AWo.callI (hB) bd209 (m_bytes) [(2, 0), (3, 0)] [28000] rfl (.cons rfl .nil) (.cons rfl rfl (.cons rfl rfl .nil)) (.whole rfl rfl (OkL.all rfl) (by intro h; exact h) (.flat rfl (flatM flat_vi) (by intro h; exact h) .nil)) rfl (.chg (cells := [.iface 213 (.agg #[]), .slice (some ⟨3, 0, none⟩) 200 0, vi .i64 _, vi .i64 _, vi .i64 _]) rfl rfl rfl (OkL.all rfl) (.chg rfl rfl (flat_map_ren (flatM flat_vi)) (OkL.flat (flatM flat_vi)) (.new (flat_map_ren (by exact flatM flat_vi)) (OkL.flat (by exact flatM flat_vi)) .nil))) (frC rfl frN) (by decide) (.cons rfl rfl .nil) rfl rfl rfl rfl ?_
 refine yA ?_
 refine yA ?_
 refine zN (zE ?_)
 exact rq [28000] [.tmp 4, .tmp 5] (hb := (OutL.whole rfl (trC_ren rfl rfl rfl rfl) (trC_ok rfl rfl (by decide)) (by intro h; exact h.elim id fun h => absurd h.1 (by simp)) (OutL.clo rfl (gd_clo _ _ _) (by intro h; rfl) (OutL.whole rfl rfl (OkL.all rfl) (by intro h; rfl) (OutL.flat rfl (flatM flat_vi) (by intro h; rfl) (OutL.flat rfl (by exact flatM flat_vi) (by intro h; rfl) trivial))))))
theorem tsqN_ctr {π : List Nat → List Nat} {g : Gd} {tag : List Nat} {s : Sp Nat} {z : Int} (hga : g.a < 1000000) (hz : ¬ nxC g 2 1 z = 0) : GC Tryz.prog 52 [.pointer (some ⟨0, 0, none⟩), .int .i64 z] [⟨trC 112 1 2 tag, false, 1⟩, ⟨[dI g.its, vi .i64 g.a, wrV g.wr], true, 1⟩, ⟨[.iface 213 (.agg #[]), .slice (some ⟨3, 0, none⟩) 200 0, vi .i64 s.i, vi .i64 s.o, vi .i64 s.c], true, 1⟩, ⟨s.st.map (vi .u8), true, 1⟩] [.slice none 0 0, vi .i64 (nxC g 2 1 z)] [⟨trC 112 1 2 tag, false, 1⟩, ⟨[dI g.its, vi .i64 ((gNx g 2 1 z).a), wrV ((gNx g 2 1 z).wr)], true, 1⟩, ⟨[.iface 213 (.agg #[]), .slice (some ⟨3, 0, none⟩) 200 0, vi .i64 ((sqS π g s z).i), vi .i64 ((sqS π g s z).o), vi .i64 ((sqS π g s z).c)], true, 1⟩, ⟨((sqS π g s z).st).map (vi .u8), true, 1⟩] := by
 refine GC.intro Tryz.func52 rfl (by show 2 ≤ 28; decide) (Nat.le_of_ble_eq_true rfl) ?_
 obtain ⟨A, hA⟩ : ∃ A, nxA g 2 1 z = A := ⟨_, rfl⟩
 obtain ⟨N_, hN⟩ : ∃ N_, nxC g 2 1 z = N_ := ⟨_, rfl⟩
 have hX := tnext_ctr (s := s) (tag := tag) (x := ⟨2, 1, z, []⟩) hga
 simp only [hA, hN] at hX
 rw [show (gNx g 2 1 z).a = A from hA, show (gNx g 2 1 z).wr = N_ from hN]
 rw [show sqS π g s z = s from if_neg hz, hN]
 rw [hN] at hz
 refine zS ?_
 refine yA ?_
 refine yA ?_
 refine zN (zS ?_)
 refine yM ?_
 refine yP (PureOp.opNil ((PureOp.buildStruct [(0, .int .i64 2), (1, .int .i64 1), (2, .int .i64 z)] pl127.choose_spec.1 zr127 (by decide) pl127.choose_spec.2 rfl rfl).mono (v' := .agg #[.int .i64 2, .int .i64 1, .int .i64 z, .slice none 0 0]) rfl)) ?_
 refine yN 7000 1 _ ?_
 refine AWo.storeAllN (vs := [.int .i64 (Opn.mk (2) (1) (z) []).k, .int .i64 (Opn.mk (2) (1) (z) []).t, .int .i64 (Opn.mk (2) (1) (z) []).c, db (Opn.mk (2) (1) (z) []).d]) tbok rfl rfl rfl rfl rfl rfl rfl rfl ?_
 refine zN (zQ (zS ?_))
 refine yM ?_
 refine AWo.loadAll (cells := [.int .i64 (Opn.mk 2 1 z []).k, .int .i64 (Opn.mk 2 1 z []).t, .int .i64 (Opn.mk 2 1 z []).c, db (Opn.mk 2 1 z []).d]) tbok rfl rfl rfl rfl rfl rfl rfl ?_
 refine yC (hX) bd57 [(0, 0), (1, 0), (2, 0), (3, 0)] [] ?_ (hargs := (.cons rfl rfl (.clo rfl .nil))) (hfit := (.whole rfl (trC_ren rfl rfl rfl rfl) (trC_ok rfl rfl (by decide)) (by intro h; exact h) (.clo rfl (gd_clo _ _ _) (by intro h; exact h) (.whole rfl rfl (OkL.all rfl) (by intro h; rfl) (.flat rfl (flatM flat_vi) (by intro h; rfl) .nil))))) (hnew := (.keep rfl (.chg rfl rfl (clo_map_ren (gd_clo _ _ _)) (OkL.clo (gd_clo _ _ _)) (.keep rfl (.keep rfl .nil)))))
 refine yA ?_
 refine zN (zS ?_)
 refine yM ?_
 refine yP ((PureOp.neN (b := 0) rfl rfl).mono (v' := .bool true) (congrArg Value.bool (by simpa using hz))) ?_
 refine zN (zC (zS ?_))
 refine yM ?_
 refine yA ?_
 refine yA ?_
 refine zN (zE (zU ?_))
 exact rq [] [.tmp 4, .tmp 5] (hb := (OutL.whole rfl (trC_ren rfl rfl rfl rfl) (trC_ok rfl rfl (by decide)) (by intro h; exact h.elim id fun h => absurd h.1 (by simp)) (OutL.clo rfl (gd_clo _ _ _) (by intro h; rfl) (OutL.whole rfl rfl (OkL.all rfl) (by intro h; rfl) (OutL.flat rfl (flatM flat_vi) (by intro h; rfl) trivial)))))
theorem tchY_ctr {π : List Nat → List Nat} (hπ : PermB π) {g : Gd} {tag : List Nat} {s : Sp Nat} {z : Int} (htl : tag.length = 32) (hg : GOk g) (hga : g.a < 1000000) (hs : Sp.Ok 136 200 bQ s) (hc : s.c < 1152921504606846976) (hz : nxC g 2 3 z = 0) (hd : dC' π (sqN z) (tellB π s ⟨2, 3, z, []⟩) = 0) : GC Tryz.prog 21 [.pointer (some ⟨0, 0, none⟩), .int .i64 z] [⟨trC 112 1 2 tag, false, 1⟩, ⟨[dI g.its, vi .i64 g.a, wrV g.wr], true, 1⟩, ⟨[.iface 213 (.agg #[]), .slice (some ⟨3, 0, none⟩) 200 0, vi .i64 s.i, vi .i64 s.o, vi .i64 s.c], true, 1⟩, ⟨s.st.map (vi .u8), true, 1⟩] [.slice (some ⟨4, 0, none⟩) (sqN z) 0, vi .i64 0] [⟨trC 112 1 2 tag, false, 1⟩, ⟨[dI g.its, vi .i64 ((chG π g s z).a), wrV ((chG π g s z).wr)], true, 1⟩, ⟨[.iface 213 (.agg #[]), .slice (some ⟨3, 0, none⟩) 200 0, vi .i64 ((chS π g s z).i), vi .i64 ((chS π g s z).o), vi .i64 ((chS π g s z).c)], true, 1⟩, ⟨((chS π g s z).st).map (vi .u8), true, 1⟩, ⟨(((itF π (sqN z) (tellB π s ⟨2, 3, z, []⟩)).map fe).flatten).map (vi .u64), true, 4⟩] := by
 refine GC.intro Tryz.func21 rfl (by show 2 ≤ 42; decide) (Nat.le_of_ble_eq_true rfl) ?_
 obtain ⟨A, hA⟩ : ∃ A, nxA g 2 3 z = A := ⟨_, rfl⟩
 obtain ⟨N_, hN⟩ : ∃ N_, nxC g 2 3 z = N_ := ⟨_, rfl⟩
 have hX := tnext_ctr (s := s) (tag := tag) (x := ⟨2, 3, z, []⟩) hga
 simp only [hA, hN] at hX
 obtain ⟨S2, h2⟩ : ∃ S2, tellB π s ⟨2, 3, z, []⟩ = S2 := ⟨_, rfl⟩
 obtain ⟨m, hm⟩ : ∃ m, sqN z = m := ⟨_, rfl⟩
 obtain ⟨S3, h3⟩ : ∃ S3, dN π m S2 = S3 := ⟨_, rfl⟩
 have hT := tellB_ctr hπ (x := ⟨2, 3, z, []⟩) hs (fun x hx => by cases hx) (by show 0 < _; decide) (by show s.c + 0 < _; omega)
 have h2c : S2.c ≤ s.c + 6 := by rw [← h2]; exact tellB_c _
 have hS2 : Sp.Ok 136 200 bQ S2 := by rw [← h2]; exact tellB_ok hπ.1 hs (fun x hx => by cases hx)
 have hzi := itC_inv (nx_ok hg hz).2.1
 rw [h2, hm] at hd
 have hme := sqN_eq hzi.2.2.2.2.1
 have hml : m ≤ 1048576 := by rw [← hm]; unfold sqN; omega
 rw [hm] at hme
 have hz2 : ¬ nxC g 2 3 z ≠ 0 := fun h => h hz
 have e1 : chS π g s z = S3 := by unfold chS; rw [if_neg hz2, h2, hm]; exact h3
 obtain ⟨l, hlx⟩ : ∃ l, itF π m S2 = l := ⟨_, rfl⟩
 have hB := fieY_ctr hπ (s := S2) (z := z) (n := m) hS2 hme (by omega) hml (d_inv hd)
 rw [h3, hlx] at hB
 have e2 : chG π g s z = gNx g 2 3 z := by unfold chG; rw [if_neg hz2, h2, hm, hd, gFl_0]
 rw [e1, e2, h2, hm, hlx, show (gNx g 2 3 z).a = A from hA, show (gNx g 2 3 z).wr = N_ from hN]
 rw [h2] at hT
 rw [hN] at hz
 refine zS ?_
 refine yA ?_
 refine yA ?_
 refine zN (zS ?_)
 refine yM ?_
 refine yP (PureOp.opNil ((PureOp.buildStruct [(0, .int .i64 2), (1, .int .i64 3), (2, .int .i64 z)] pl127.choose_spec.1 zr127 (by decide) pl127.choose_spec.2 rfl rfl).mono (v' := .agg #[.int .i64 2, .int .i64 3, .int .i64 z, .slice none 0 0]) rfl)) ?_
 refine yN 7000 1 _ ?_
 refine AWo.storeAllN (vs := [.int .i64 (Opn.mk (2) (3) (z) []).k, .int .i64 (Opn.mk (2) (3) (z) []).t, .int .i64 (Opn.mk (2) (3) (z) []).c, db (Opn.mk (2) (3) (z) []).d]) tbok rfl rfl rfl rfl rfl rfl rfl rfl ?_
 refine zN (zQ (zS ?_))
 refine yM ?_
 refine AWo.loadAll (cells := [.int .i64 (Opn.mk 2 3 z []).k, .int .i64 (Opn.mk 2 3 z []).t, .int .i64 (Opn.mk 2 3 z []).c, db (Opn.mk 2 3 z []).d]) tbok rfl rfl rfl rfl rfl rfl rfl ?_
 refine yC (hX) bd57 [(0, 0), (1, 0), (2, 0), (3, 0)] [] ?_ (hargs := (.cons rfl rfl (.clo rfl .nil))) (hfit := (.whole rfl (trC_ren rfl rfl rfl rfl) (trC_ok rfl rfl (by decide)) (by intro h; exact h) (.clo rfl (gd_clo _ _ _) (by intro h; exact h) (.whole rfl rfl (OkL.all rfl) (by intro h; rfl) (.flat rfl (flatM flat_vi) (by intro h; rfl) .nil))))) (hnew := (.keep rfl (.chg rfl rfl (clo_map_ren (gd_clo _ _ _)) (OkL.clo (gd_clo _ _ _)) (.keep rfl (.keep rfl .nil)))))
 refine yA ?_
 refine zN (zS ?_)
 refine yM ?_
 refine yP ((PureOp.neN (b := 0) rfl rfl).mono (v' := .bool false) (congrArg Value.bool (by simpa using hz))) ?_
 refine zN (zF (zK (zT ?_)))
 refine AW.seqD mixed ?_
 refine yM ?_
 refine yP (PureOp.nilCheck rfl) ?_
 refine yP pF ?_
 refine AWo.load tbok (v := .iface 112 (.agg #[.pointer (some ⟨2, 0, none⟩)])) rfl rfl rfl (trC_33 htl) rfl rfl ?_
 refine AWo.loadAll (cells := [.int .i64 (Opn.mk 2 3 z []).k, .int .i64 (Opn.mk 2 3 z []).t, .int .i64 (Opn.mk 2 3 z []).c, db (Opn.mk 2 3 z []).d]) tbok rfl rfl rfl rfl rfl rfl rfl ?_
 refine AWo.callI (hT) bd211 (m_tell) [(2, 0), (3, 0)] [] rfl (.cons rfl .nil) (.cons rfl rfl (.clo rfl .nil)) (.whole rfl rfl (OkL.all rfl) (by intro h; exact h) (.flat rfl (flatM flat_vi) (by intro h; exact h) .nil)) rfl (.chg (cells := [.iface 213 (.agg #[]), .slice (some ⟨3, 0, none⟩) 200 0, vi .i64 _, vi .i64 _, vi .i64 _]) rfl rfl rfl (OkL.all rfl) (.chg rfl rfl (flat_map_ren (flatM flat_vi)) (OkL.flat (flatM flat_vi)) .nil)) frN (by decide) .nil rfl rfl rfl rfl ?_
 refine zD (zS ?_)
 refine yM ?_
 refine yP (PureOp.nilCheck rfl) ?_
 refine yP pF ?_
 refine AWo.load tbok (v := .iface 112 (.agg #[.pointer (some ⟨2, 0, none⟩)])) rfl rfl rfl (trC_33 htl) rfl rfl ?_
 refine yM ?_
 refine AWo.callI (hB) bd210 (m_fields) [(2, 0), (3, 0)] [31000] rfl (.cons rfl .nil) (.cons rfl rfl (.cons rfl rfl .nil)) (.whole rfl rfl (OkL.all rfl) (by intro h; exact h) (.flat rfl (flatM flat_vi) (by intro h; exact h) .nil)) rfl (.chg (cells := [.iface 213 (.agg #[]), .slice (some ⟨3, 0, none⟩) 200 0, vi .i64 _, vi .i64 _, vi .i64 _]) rfl rfl rfl (OkL.all rfl) (.chg rfl rfl (flat_map_ren (flatM flat_vi)) (OkL.flat (flatM flat_vi)) (.new (flat_map_ren (flatM flat_vi)) (OkL.flat (flatM flat_vi)) .nil))) (frC rfl frN) (by decide) (.cons rfl rfl (.cons rfl rfl .nil)) rfl rfl rfl rfl ?_
 refine yM ?_
 refine yP pX ?_
 refine yP pX ?_
 refine yA ?_
 refine yA ?_
 refine zN (zQ (zS ?_))
 refine yM ?_
 refine yP ((PureOp.neN (b := 0) rfl rfl).mono (v' := .bool false) (congrArg Value.bool (rfl))) ?_
 refine zN (zF (zK (zT (zS ?_))))
 refine yM ?_
 refine yA ?_
 refine yA ?_
 refine zN (zE ?_)
 exact rq [31000] [.tmp 4, .tmp 5] (hb := (OutL.whole rfl (trC_ren rfl rfl rfl rfl) (trC_ok rfl rfl (by decide)) (by intro h; exact h.elim id fun h => absurd h.1 (by simp)) (OutL.clo rfl (gd_clo _ _ _) (by intro h; rfl) (OutL.whole rfl rfl (OkL.all rfl) (by intro h; rfl) (OutL.flat rfl (flatM flat_vi) (by intro h; rfl) (OutL.flat rfl (flatM flat_vi) (by intro h; rfl) trivial))))))
theorem tchN_ctr {π : List Nat → List Nat} {g : Gd} {tag : List Nat} {s : Sp Nat} {z : Int} (hga : g.a < 1000000) (hz : nxC g 2 3 z ≠ 0) : GC Tryz.prog 21 [.pointer (some ⟨0, 0, none⟩), .int .i64 z] [⟨trC 112 1 2 tag, false, 1⟩, ⟨[dI g.its, vi .i64 g.a, wrV g.wr], true, 1⟩, ⟨[.iface 213 (.agg #[]), .slice (some ⟨3, 0, none⟩) 200 0, vi .i64 s.i, vi .i64 s.o, vi .i64 s.c], true, 1⟩, ⟨s.st.map (vi .u8), true, 1⟩] [.slice none 0 0, vi .i64 (chC π g s z)] [⟨trC 112 1 2 tag, false, 1⟩, ⟨[dI g.its, vi .i64 ((chG π g s z).a), wrV ((chG π g s z).wr)], true, 1⟩, ⟨[.iface 213 (.agg #[]), .slice (some ⟨3, 0, none⟩) 200 0, vi .i64 ((chS π g s z).i), vi .i64 ((chS π g s z).o), vi .i64 ((chS π g s z).c)], true, 1⟩, ⟨((chS π g s z).st).map (vi .u8), true, 1⟩] := by
 refine GC.intro Tryz.func21 rfl (by show 2 ≤ 42; decide) (Nat.le_of_ble_eq_true rfl) ?_
 obtain ⟨A, hA⟩ : ∃ A, nxA g 2 3 z = A := ⟨_, rfl⟩
 obtain ⟨N_, hN⟩ : ∃ N_, nxC g 2 3 z = N_ := ⟨_, rfl⟩
 have hX := tnext_ctr (s := s) (tag := tag) (x := ⟨2, 3, z, []⟩) hga
 simp only [hA, hN] at hX
 rw [show chG π g s z = gNx g 2 3 z from if_pos hz, show chS π g s z = s from if_pos hz, show chC π g s z = N_ by rw [← hN]; exact if_pos hz, show (gNx g 2 3 z).a = A from hA, show (gNx g 2 3 z).wr = N_ from hN]
 rw [hN] at hz
 refine zS ?_
 refine yA ?_
 refine yA ?_
 refine zN (zS ?_)
 refine yM ?_
 refine yP (PureOp.opNil ((PureOp.buildStruct [(0, .int .i64 2), (1, .int .i64 3), (2, .int .i64 z)] pl127.choose_spec.1 zr127 (by decide) pl127.choose_spec.2 rfl rfl).mono (v' := .agg #[.int .i64 2, .int .i64 3, .int .i64 z, .slice none 0 0]) rfl)) ?_
 refine yN 7000 1 _ ?_
 refine AWo.storeAllN (vs := [.int .i64 (Opn.mk (2) (3) (z) []).k, .int .i64 (Opn.mk (2) (3) (z) []).t, .int .i64 (Opn.mk (2) (3) (z) []).c, db (Opn.mk (2) (3) (z) []).d]) tbok rfl rfl rfl rfl rfl rfl rfl rfl ?_
 refine zN (zQ (zS ?_))
 refine yM ?_
 refine AWo.loadAll (cells := [.int .i64 (Opn.mk 2 3 z []).k, .int .i64 (Opn.mk 2 3 z []).t, .int .i64 (Opn.mk 2 3 z []).c, db (Opn.mk 2 3 z []).d]) tbok rfl rfl rfl rfl rfl rfl rfl ?_
 refine yC (hX) bd57 [(0, 0), (1, 0), (2, 0), (3, 0)] [] ?_ (hargs := (.cons rfl rfl (.clo rfl .nil))) (hfit := (.whole rfl (trC_ren rfl rfl rfl rfl) (trC_ok rfl rfl (by decide)) (by intro h; exact h) (.clo rfl (gd_clo _ _ _) (by intro h; exact h) (.whole rfl rfl (OkL.all rfl) (by intro h; rfl) (.flat rfl (flatM flat_vi) (by intro h; rfl) .nil))))) (hnew := (.keep rfl (.chg rfl rfl (clo_map_ren (gd_clo _ _ _)) (OkL.clo (gd_clo _ _ _)) (.keep rfl (.keep rfl .nil)))))
 refine yA ?_
 refine zN (zS ?_)
 refine yM ?_
 refine yP ((PureOp.neN (b := 0) rfl rfl).mono (v' := .bool true) (congrArg Value.bool (by simpa using hz))) ?_
 refine zN (zC (zS ?_))
 refine yM ?_
 refine yA ?_
 refine yA ?_
 refine zN (zE (zU ?_))
 exact rq [] [.tmp 4, .tmp 5] (hb := (OutL.whole rfl (trC_ren rfl rfl rfl rfl) (trC_ok rfl rfl (by decide)) (by intro h; exact h.elim id fun h => absurd h.1 (by simp)) (OutL.clo rfl (gd_clo _ _ _) (by intro h; rfl) (OutL.whole rfl rfl (OkL.all rfl) (by intro h; rfl) (OutL.flat rfl (flatM flat_vi) (by intro h; rfl) trivial)))))
theorem tchB_ctr {π : List Nat → List Nat} (hπ : PermB π) {g : Gd} {tag : List Nat} {s : Sp Nat} {z : Int} (htl : tag.length = 32) (hg : GOk g) (hga : g.a < 1000000) (hs : Sp.Ok 136 200 bQ s) (hc : s.c < 1152921504606846976) (hz : nxC g 2 3 z = 0) (hd : dC' π (sqN z) (tellB π s ⟨2, 3, z, []⟩) ≠ 0) : GC Tryz.prog 21 [.pointer (some ⟨0, 0, none⟩), .int .i64 z] [⟨trC 112 1 2 tag, false, 1⟩, ⟨[dI g.its, vi .i64 g.a, wrV g.wr], true, 1⟩, ⟨[.iface 213 (.agg #[]), .slice (some ⟨3, 0, none⟩) 200 0, vi .i64 s.i, vi .i64 s.o, vi .i64 s.c], true, 1⟩, ⟨s.st.map (vi .u8), true, 1⟩] [.slice none 0 0, vi .i64 (chC π g s z)] [⟨trC 112 1 2 tag, false, 1⟩, ⟨[dI g.its, vi .i64 ((chG π g s z).a), wrV ((chG π g s z).wr)], true, 1⟩, ⟨[.iface 213 (.agg #[]), .slice (some ⟨3, 0, none⟩) 200 0, vi .i64 ((chS π g s z).i), vi .i64 ((chS π g s z).o), vi .i64 ((chS π g s z).c)], true, 1⟩, ⟨((chS π g s z).st).map (vi .u8), true, 1⟩] := by
 refine GC.intro Tryz.func21 rfl (by show 2 ≤ 42; decide) (Nat.le_of_ble_eq_true rfl) ?_
 obtain ⟨A, hA⟩ : ∃ A, nxA g 2 3 z = A := ⟨_, rfl⟩
 obtain ⟨N_, hN⟩ : ∃ N_, nxC g 2 3 z = N_ := ⟨_, rfl⟩
 have hX := tnext_ctr (s := s) (tag := tag) (x := ⟨2, 3, z, []⟩) hga
 simp only [hA, hN] at hX
 obtain ⟨S2, h2⟩ : ∃ S2, tellB π s ⟨2, 3, z, []⟩ = S2 := ⟨_, rfl⟩
 obtain ⟨m, hm⟩ : ∃ m, sqN z = m := ⟨_, rfl⟩
 obtain ⟨S3, h3⟩ : ∃ S3, dN π m S2 = S3 := ⟨_, rfl⟩
 have hT := tellB_ctr hπ (x := ⟨2, 3, z, []⟩) hs (fun x hx => by cases hx) (by show 0 < _; decide) (by show s.c + 0 < _; omega)
 have h2c : S2.c ≤ s.c + 6 := by rw [← h2]; exact tellB_c _
 have hS2 : Sp.Ok 136 200 bQ S2 := by rw [← h2]; exact tellB_ok hπ.1 hs (fun x hx => by cases hx)
 have hzi := itC_inv (nx_ok hg hz).2.1
 rw [h2, hm] at hd
 have hme := sqN_eq hzi.2.2.2.2.1
 have hml : m ≤ 1048576 := by rw [← hm]; unfold sqN; omega
 rw [hm] at hme
 have hz2 : ¬ nxC g 2 3 z ≠ 0 := fun h => h hz
 have e1 : chS π g s z = S3 := by unfold chS; rw [if_neg hz2, h2, hm]; exact h3
 have hB := fieN_ctr hπ (s := S2) (z := z) (n := m) hS2 hme (by omega) hml hd
 rw [h3] at hB
 have hd11 : dC' π m S2 = 11 := (dC_eq m S2).resolve_left hd
 have e2 : chG π g s z = gFl (gNx g 2 3 z) 11 := by unfold chG; rw [if_neg hz2, h2, hm, hd11]
 rw [hN] at hz
 have e3 : chC π g s z = flC ⟨g.its, A, N_⟩ 11 := by unfold chC; rw [if_neg hz2, h2, hm, hd11, fl_0 hz]
 rw [e1, e2, e3, show (gFl (gNx g 2 3 z) 11).a = A from hA, show (gFl (gNx g 2 3 z) 11).wr = flC ⟨g.its, A, N_⟩ 11 by rw [← hA, ← hN]; rfl]
 rw [h2] at hT
 refine zS ?_
 refine yA ?_
 refine yA ?_
 refine zN (zS ?_)
 refine yM ?_
 refine yP (PureOp.opNil ((PureOp.buildStruct [(0, .int .i64 2), (1, .int .i64 3), (2, .int .i64 z)] pl127.choose_spec.1 zr127 (by decide) pl127.choose_spec.2 rfl rfl).mono (v' := .agg #[.int .i64 2, .int .i64 3, .int .i64 z, .slice none 0 0]) rfl)) ?_
 refine yN 7000 1 _ ?_
 refine AWo.storeAllN (vs := [.int .i64 (Opn.mk (2) (3) (z) []).k, .int .i64 (Opn.mk (2) (3) (z) []).t, .int .i64 (Opn.mk (2) (3) (z) []).c, db (Opn.mk (2) (3) (z) []).d]) tbok rfl rfl rfl rfl rfl rfl rfl rfl ?_
 refine zN (zQ (zS ?_))
 refine yM ?_
 refine AWo.loadAll (cells := [.int .i64 (Opn.mk 2 3 z []).k, .int .i64 (Opn.mk 2 3 z []).t, .int .i64 (Opn.mk 2 3 z []).c, db (Opn.mk 2 3 z []).d]) tbok rfl rfl rfl rfl rfl rfl rfl ?_
 refine yC (hX) bd57 [(0, 0), (1, 0), (2, 0), (3, 0)] [] ?_ (hargs := (.cons rfl rfl (.clo rfl .nil))) (hfit := (.whole rfl (trC_ren rfl rfl rfl rfl) (trC_ok rfl rfl (by decide)) (by intro h; exact h) (.clo rfl (gd_clo _ _ _) (by intro h; exact h) (.whole rfl rfl (OkL.all rfl) (by intro h; rfl) (.flat rfl (flatM flat_vi) (by intro h; rfl) .nil))))) (hnew := (.keep rfl (.chg rfl rfl (clo_map_ren (gd_clo _ _ _)) (OkL.clo (gd_clo _ _ _)) (.keep rfl (.keep rfl .nil)))))
 refine yA ?_
 refine zN (zS ?_)
 refine yM ?_
 refine yP ((PureOp.neN (b := 0) rfl rfl).mono (v' := .bool false) (congrArg Value.bool (by simpa using hz))) ?_
 refine zN (zF (zK (zT ?_)))
 refine AW.seqD mixed ?_
 refine yM ?_
 refine yP (PureOp.nilCheck rfl) ?_
 refine yP pF ?_
 refine AWo.load tbok (v := .iface 112 (.agg #[.pointer (some ⟨2, 0, none⟩)])) rfl rfl rfl (trC_33 htl) rfl rfl ?_
 refine AWo.loadAll (cells := [.int .i64 (Opn.mk 2 3 z []).k, .int .i64 (Opn.mk 2 3 z []).t, .int .i64 (Opn.mk 2 3 z []).c, db (Opn.mk 2 3 z []).d]) tbok rfl rfl rfl rfl rfl rfl rfl ?_
 refine AWo.callI (hT) bd211 (m_tell) [(2, 0), (3, 0)] [] rfl (.cons rfl .nil) (.cons rfl rfl (.clo rfl .nil)) (.whole rfl rfl (OkL.all rfl) (by intro h; exact h) (.flat rfl (flatM flat_vi) (by intro h; exact h) .nil)) rfl (.chg (cells := [.iface 213 (.agg #[]), .slice (some ⟨3, 0, none⟩) 200 0, vi .i64 _, vi .i64 _, vi .i64 _]) rfl rfl rfl (OkL.all rfl) (.chg rfl rfl (flat_map_ren (flatM flat_vi)) (OkL.flat (flatM flat_vi)) .nil)) frN (by decide) .nil rfl rfl rfl rfl ?_
 refine zD (zS ?_)
 refine yM ?_
 refine yP (PureOp.nilCheck rfl) ?_
 refine yP pF ?_
 refine AWo.load tbok (v := .iface 112 (.agg #[.pointer (some ⟨2, 0, none⟩)])) rfl rfl rfl (trC_33 htl) rfl rfl ?_
 refine yM ?_
 refine AWo.callI (hB) bd210 (m_fields) [(2, 0), (3, 0)] [] rfl (.cons rfl .nil) (.cons rfl rfl (.cons rfl rfl .nil)) (.whole rfl rfl (OkL.all rfl) (by intro h; exact h) (.flat rfl (flatM flat_vi) (by intro h; exact h) .nil)) rfl (.chg (cells := [.iface 213 (.agg #[]), .slice (some ⟨3, 0, none⟩) 200 0, vi .i64 _, vi .i64 _, vi .i64 _]) rfl rfl rfl (OkL.all rfl) (.chg rfl rfl (flat_map_ren (flatM flat_vi)) (OkL.flat (flatM flat_vi)) .nil)) frN (by decide) (.cons rfl rfl (.cons rfl rfl .nil)) rfl rfl rfl rfl ?_
 refine yM ?_
 refine yP pX ?_
 refine yP pX ?_
 refine yA ?_
 refine yA ?_
 refine zN (zQ (zS ?_))
 refine yM ?_
 refine yP ((PureOp.neN (b := 0) rfl rfl).mono (v' := .bool true) (congrArg Value.bool (rfl))) ?_
 refine zN (zC (zS ?_))
 refine yM ?_
 refine yP (PureOp.nilCheck rfl) ?_
 refine yP pF ?_
 refine AWo.load tbok (v := .pointer (some ⟨1, 0, none⟩)) rfl rfl rfl rfl rfl rfl ?_
 refine yM ?_
 refine yC (gfail_ctr (g := ⟨g.its, A, N_⟩) (e := 11)) bd56 [(1, 0)] [] ?_ (hfit := (.clo rfl (gd_clo _ _ _) (by intro h; exact h) .nil)) (hnew := (.chg rfl rfl (clo_map_ren (gd_clo _ _ _)) (OkL.clo (gd_clo _ _ _)) .nil))
 refine yA ?_
 refine yA ?_
 refine zN (zE (zU ?_))
 exact rq [] [.tmp 4, .tmp 5] (hb := (OutL.whole rfl (trC_ren rfl rfl rfl rfl) (trC_ok rfl rfl (by decide)) (by intro h; exact h.elim id fun h => absurd h.1 (by simp)) (OutL.clo rfl (gd_clo _ _ _) (by intro h; rfl) (OutL.whole rfl rfl (OkL.all rfl) (by intro h; rfl) (OutL.flat rfl (flatM flat_vi) (by intro h; rfl) trivial)))))
theorem trat_ctr {π : List Nat → List Nat} (hπ : PermB π) {g : Gd} {tag : List Nat} {s : Sp Nat} (htl : tag.length = 32) (hga : g.a < 1000000) (hs : Sp.Ok 136 200 bQ s) (hc : s.c < 1152921504606846976) : GC Tryz.prog 53 [.pointer (some ⟨0, 0, none⟩)] [⟨trC 112 1 2 tag, false, 1⟩, ⟨[dI g.its, vi .i64 g.a, wrV g.wr], true, 1⟩, ⟨[.iface 213 (.agg #[]), .slice (some ⟨3, 0, none⟩) 200 0, vi .i64 s.i, vi .i64 s.o, vi .i64 s.c], true, 1⟩, ⟨s.st.map (vi .u8), true, 1⟩] [vi .i64 (nxC g 3 0 1)] [⟨trC 112 1 2 tag, false, 1⟩, ⟨[dI g.its, vi .i64 ((gNx g 3 0 1).a), wrV ((gNx g 3 0 1).wr)], true, 1⟩, ⟨[.iface 213 (.agg #[]), .slice (some ⟨3, 0, none⟩) 200 0, vi .i64 ((raS π g s).i), vi .i64 ((raS π g s).o), vi .i64 ((raS π g s).c)], true, 1⟩, ⟨((raS π g s).st).map (vi .u8), true, 1⟩] := by
 refine GC.intro Tryz.func53 rfl (by show 1 ≤ 23; decide) (Nat.le_of_ble_eq_true rfl) ?_
 obtain ⟨A, hA⟩ : ∃ A, nxA g 3 0 1 = A := ⟨_, rfl⟩
 obtain ⟨N_, hN⟩ : ∃ N_, nxC g 3 0 1 = N_ := ⟨_, rfl⟩
 have hX := tnext_ctr (s := s) (tag := tag) (x := ⟨3, 0, 1, []⟩) hga
 simp only [hA, hN] at hX
 rw [show (gNx g 3 0 1).a = A from hA, show (gNx g 3 0 1).wr = N_ from hN, hN]
 unfold raS
 rw [hN]
 refine zS ?_
 refine yA ?_
 refine zN (zS ?_)
 refine yP (PureOp.opNil ((PureOp.buildStruct [(0, .int .i64 3), (1, .int .i64 0), (2, .int .i64 1)] pl127.choose_spec.1 zr127 (by decide) pl127.choose_spec.2 rfl rfl).mono (v' := .agg #[.int .i64 3, .int .i64 0, .int .i64 1, .slice none 0 0]) rfl)) ?_
 refine yN 4000 1 _ ?_
 refine AWo.storeAllN (vs := [.int .i64 (Opn.mk 3 0 1 []).k, .int .i64 (Opn.mk 3 0 1 []).t, .int .i64 (Opn.mk 3 0 1 []).c, db (Opn.mk 3 0 1 []).d]) tbok rfl rfl rfl rfl rfl rfl rfl rfl ?_
 refine zN (zS ?_)
 refine yM ?_
 refine AWo.loadAll (cells := [.int .i64 (Opn.mk 3 0 1 []).k, .int .i64 (Opn.mk 3 0 1 []).t, .int .i64 (Opn.mk 3 0 1 []).c, db (Opn.mk 3 0 1 []).d]) tbok rfl rfl rfl rfl rfl rfl rfl ?_
 refine yC (hX) bd57 [(0, 0), (1, 0), (2, 0), (3, 0)] [] ?_ (hargs := (.cons rfl rfl (.clo rfl .nil))) (hfit := (.whole rfl (trC_ren rfl rfl rfl rfl) (trC_ok rfl rfl (by decide)) (by intro h; exact h) (.clo rfl (gd_clo _ _ _) (by intro h; exact h) (.whole rfl rfl (OkL.all rfl) (by intro h; rfl) (.flat rfl (flatM flat_vi) (by intro h; rfl) .nil))))) (hnew := (.keep rfl (.chg rfl rfl (clo_map_ren (gd_clo _ _ _)) (OkL.clo (gd_clo _ _ _)) (.keep rfl (.keep rfl .nil)))))
 refine yA ?_
 refine zN (zQ (zS ?_))
 refine yM ?_
 refine yP (pEq (b := 0)) ?_
 refine zN ?_
 refine zA (fun hb0 => ?_) (fun hb0 => ?_)
 ·
  have h3 : N_ = 0 := by simpa using hb0
  rw [if_pos h3]
  obtain ⟨S2, h2⟩ : ∃ S2, tellB π s ⟨3, 0, 1, []⟩ = S2 := ⟨_, rfl⟩
  obtain ⟨S3, h3S⟩ : ∃ S3, Sp.ratch 136 π 0 S2 = S3 := ⟨_, rfl⟩
  have hT := tellB_ctr hπ (x := ⟨3, 0, 1, []⟩) hs (fun x hx => by cases hx) (by show 0 < _; decide) (by show s.c + 0 < _; omega)
  have h2c : S2.c ≤ s.c + 6 := by rw [← h2]; exact tellB_c _
  have hS2 : Sp.Ok 136 200 bQ S2 := by rw [← h2]; exact tellB_ok hπ.1 hs (fun x hx => by cases hx)
  have hB := raB_ctr hπ hS2 (by omega)
  rw [h3S] at hB
  rw [h2] at hT
  rw [h2, h3S]
  refine AW.seqD mixed ?_
  refine yM ?_
  refine yP (PureOp.nilCheck rfl) ?_
  refine yP pF ?_
  refine AWo.load tbok (v := .iface 112 (.agg #[.pointer (some ⟨2, 0, none⟩)])) rfl rfl rfl (trC_33 htl) rfl rfl ?_
  refine AWo.loadAll (cells := [.int .i64 (Opn.mk 3 0 1 []).k, .int .i64 (Opn.mk 3 0 1 []).t, .int .i64 (Opn.mk 3 0 1 []).c, db (Opn.mk 3 0 1 []).d]) tbok rfl rfl rfl rfl rfl rfl rfl ?_
  refine AWo.callI (hT) bd211 (m_tell) [(2, 0), (3, 0)] [] rfl (.cons rfl .nil) (.cons rfl rfl (.clo rfl .nil)) (.whole rfl rfl (OkL.all rfl) (by intro h; exact h) (.flat rfl (flatM flat_vi) (by intro h; exact h) .nil)) rfl (.chg (cells := [.iface 213 (.agg #[]), .slice (some ⟨3, 0, none⟩) 200 0, vi .i64 _, vi .i64 _, vi .i64 _]) rfl rfl rfl (OkL.all rfl) (.chg rfl rfl (flat_map_ren (flatM flat_vi)) (OkL.flat (flatM flat_vi)) .nil)) frN (by decide) .nil rfl rfl rfl rfl ?_
  refine zD (zR ?_)
  refine yM ?_
  refine yP (PureOp.nilCheck rfl) ?_
  refine yP pF ?_
  refine AWo.load tbok (v := .iface 112 (.agg #[.pointer (some ⟨2, 0, none⟩)])) rfl rfl rfl (trC_33 htl) rfl rfl ?_
  refine AWo.callI (hB) bd207 (m_rat) [(2, 0), (3, 0)] [] rfl .nil (.cons rfl rfl .nil) (.whole rfl rfl (OkL.all rfl) (by intro h; exact h) (.flat rfl (flatM flat_vi) (by intro h; exact h) .nil)) rfl (.chg (cells := [.iface 213 (.agg #[]), .slice (some ⟨3, 0, none⟩) 200 0, vi .i64 _, vi .i64 _, vi .i64 _]) rfl rfl rfl (OkL.all rfl) (.chg rfl rfl (flat_map_ren (flatM flat_vi)) (OkL.flat (flatM flat_vi)) .nil)) frN (by decide) .nil rfl rfl rfl rfl ?_
  refine zN (zT (zS ?_))
  refine yM ?_
  refine yA ?_
  refine zN (zE ?_)
  exact rq [] [.tmp 2] (hb := (OutL.whole rfl (trC_ren rfl rfl rfl rfl) (trC_ok rfl rfl (by decide)) (by intro h; exact h.elim id fun h => absurd h.1 (by simp)) (OutL.clo rfl (gd_clo _ _ _) (by intro h; rfl) (OutL.whole rfl rfl (OkL.all rfl) (by intro h; rfl) (OutL.flat rfl (flatM flat_vi) (by intro h; rfl) trivial)))))
 ·
  have h3 : ¬ N_ = 0 := by simpa using hb0
  rw [if_neg h3]
  refine zK (zT (zS ?_))
  refine yM ?_
  refine yA ?_
  refine zN (zE ?_)
  exact rq [] [.tmp 2] (hb := (OutL.whole rfl (trC_ren rfl rfl rfl rfl) (trC_ok rfl rfl (by decide)) (by intro h; exact h.elim id fun h => absurd h.1 (by simp)) (OutL.clo rfl (gd_clo _ _ _) (by intro h; rfl) (OutL.whole rfl rfl (OkL.all rfl) (by intro h; rfl) (OutL.flat rfl (flatM flat_vi) (by intro h; rfl) trivial)))))
end Go.Proofs.YtlfadlfjjkppfaaGreatDoor
namespace Go.Proofs.YtlfadlfjjkppfaaGreatDoor
open Go Sim
set_option maxRecDepth 10000
def patB : List Nat := [1, 1, 1, 0, 0, 0, 0, 0, 2, 3, 1, 0, 0, 0, 0, 0]
def scrB : List Nat := [1, 16, 0, 1, 1, 1, 0, 0, 0, 0, 0, 2, 3, 1, 0, 0, 0, 0, 0, 0, 1, 1, 0, 7, 2, 1, 0, 4]
theorem one_clo (b : List Nat) : ∀ v ∈ [db b], cloV v = true := fun v hv => by rw [List.mem_singleton.1 hv]; rfl
theorem calls_clo (d : List Nat) : ∀ v ∈ [vi .i64 0, vi .i64 1, .int .i64 0, db d, vi .i64 2, .int .i64 0, vi .i64 1, .slice none 0 0, vi .i64 4, .int .i64 0, .int .i64 0, .slice none 0 0], cloV v = true := by
  intro v hv
  simp only [List.mem_cons, List.not_mem_nil, or_false] at hv
  rcases hv with rfl | rfl | rfl | rfl | rfl | rfl | rfl | rfl | rfl | rfl | rfl | rfl <;> rfl
theorem dec_idle (cap : Array Value) (w : World) (h : cap.size = 2) : CallsD Tryz.prog 88 cap .returning w fun e u' w' => (∃ v, e = .returned v) ∧ u' = .returning ∧ w' = w := by
  obtain ⟨a, b, rfl⟩ : ∃ a b, cap = #[a, b] := by
    have hl : cap.toList.length = 2 := by rw [Array.length_toList]; exact h
    match hq : cap.toList with
    | [] => rw [hq] at hl; cases hl
    | [a] => rw [hq] at hl; simp at hl
    | [a, b] => exact ⟨a, b, by apply Array.ext'; exact hq⟩
    | a :: b :: c :: r => rw [hq] at hl; simp at hl
  refine callsD_of_wpS Tryz.func88 rfl fun c₀ cs hu => ?_
  apply wpS_seq
  apply wpS_region
  simp [wpOpsS, go_sem, recoverD, hu, Tryz.ntmps88, Exit.thenS]
  apply wpS_seq
  apply wpS_region
  simp [wpOpsS, go_sem, Exit.thenS]
  refine wpS_cond (t := false) (by simp [Act.eval, Array.replicate]) ?_
  simp only [Bool.false_eq_true, if_false]
  refine wpS_of_wp (wp_skip ?_)
  cases c₀
  simp_all [bodyPostS, results, Tryz.results88]
theorem rtake_ctr {b o r : List Nat} {n : Nat} (h1 : b.take n = o) (h2 : b.drop n = r) (hn : n ≤ b.length) (hl : b.length < 200000000) : GC Tryz.prog 90 [.pointer (some ⟨0, 0, none⟩), vi .i64 n] [⟨[db b], true, 1⟩] [db o] [⟨[db r], true, 1⟩] := by
  refine GC.intro Tryz.func90 rfl (by show 2 ≤ 28; decide) (Nat.le_of_ble_eq_true rfl) ?_
  refine zS ?_
  refine yA ?_
  refine zN (zQ (zS ?_))
  refine yM ?_
  refine yP (PureOp.nilCheck rfl) ?_
  refine AWo.load tbok (v := db b) rfl rfl rfl rfl rfl rfl ?_
  refine yP pD ?_
  refine yM ?_
  refine yP ((PureOp.ltN rfl rfl).mono (v' := .bool false) (congrArg Value.bool (decide_eq_false (by omega)))) ?_
  refine zN (zF (zK (zT (zS ?_))))
  refine yM ?_
  refine yP (PureOp.nilCheck rfl) ?_
  refine AWo.load tbok (v := db b) rfl rfl rfl rfl rfl rfl ?_
  refine yM ?_
  refine yP ((PureOp.sliceD (l := 0) (h := n) rfl .none (.some rfl) (tbok.sl _ _ rfl) (tbok.sz _ _ rfl) (Nat.zero_le _) hn).mono (v' := db o) (by rw [db_part (b := b) (l := 0) (h := n) hn (Nat.zero_le _), List.drop_zero, Nat.sub_zero, h1])) ?_
  refine yC (cloneRD_ctr (b := o) (by rw [← h1, List.length_take]; omega)) bd121 [] [] ?_ (hargs := (.clo rfl .nil)) (hrv := (.clo rfl .nil))
  refine yA ?_
  refine zN (zS ?_)
  refine yM ?_
  refine yM ?_
  refine yP (PureOp.nilCheck rfl) ?_
  refine AWo.load tbok (v := db b) rfl rfl rfl rfl rfl rfl ?_
  refine yM ?_
  refine yP ((PureOp.sliceD (l := n) (h := b.length) rfl (.some rfl) .none (tbok.sl _ _ rfl) (tbok.sz _ _ rfl) hn (Nat.le_refl _)).mono (v' := db r) (by rw [db_part (b := b) (l := n) (h := b.length) (Nat.le_refl _) hn, List.take_of_length_le (by rw [List.length_drop]; exact Nat.le_refl _), h2])) ?_
  refine yP (PureOp.nilCheck rfl) ?_
  refine AWo.store1 tbok (v := db r) rfl rfl rfl rfl rfl (of_decide_eq_true rfl) rfl rfl ?_
  refine zN (zS ?_)
  refine yM ?_
  refine yA ?_
  refine zN (zE ?_)
  exact rq [] [.tmp 4] (hres := (.clo rfl .nil)) (hb := (OutL.clo rfl (one_clo _) (by intro h; rfl) trivial))
theorem rnum_ctr {b o r : List Nat} {w v : Nat} (h1 : b.take w = o) (h2 : b.drop w = r) (hn : w ≤ b.length) (hl : b.length < 200000000) (hob : bd 256 o) (hw : w ≤ 4) (hv : num 256 o = v) : GC Tryz.prog 89 [.pointer (some ⟨0, 0, none⟩), vi .i64 w] [⟨[db b], true, 1⟩] [vi .i64 v] [⟨[db r], true, 1⟩] := by
  refine GC.intro Tryz.func89 rfl (by show 2 ≤ 26; decide) (Nat.le_of_ble_eq_true rfl) ?_
  have hol : o.length ≤ 4 := by rw [← h1, List.length_take]; omega
  refine zS ?_
  refine yA ?_
  refine zN (zS ?_)
  refine yA ?_
  refine zN (zQ (zS ?_))
  refine yM ?_
  refine yM ?_
  refine yC (rtake_ctr h1 h2 hn hl) bd90 [(0, 0)] [] ?_ (hfit := (.clo rfl (one_clo _) (by intro h; exact h) .nil)) (hnew := (.chg rfl rfl (clo_map_ren (one_clo _)) (OkL.clo (one_clo _)) .nil)) (hrv := (.clo rfl .nil))
  refine yP pD ?_
  refine yM ?_
  refine zN (zB ?_)
  refine AW.expose 10 99000 ?_
  refine AW.loopw (fun mm σ => ∃ i, (i ≤ o.length) ∧ mm = o.length - i ∧ σ = ⟨(upd (upd (upd (upd (upd emp 0 (.pointer (some ⟨0, 0, none⟩))) 5 (vi .i64 (num 256 (o.take i)))) 10 (.slice (some ⟨99000, 0, none⟩) o.length 0)) 11 (vi .i64 o.length)) 12 (vi .i64 i)), (upd (upd emp 0 ⟨[db r], true, 1⟩) 99000 ⟨o.map (vi .u8), false, 1⟩)⟩) (fm := []) ?_ ⟨0, Nat.zero_le _, rfl, rfl⟩ ?_
  ·
    refine Wk.of [0, 99000] ?_ ?_ ?_ (by decide) rfl
    ·
      refine WkE.upd rfl (by exact VR.flat _ rfl) ?_
      refine WkE.upd rfl (by exact VR.flat _ rfl) ?_
      refine WkE.upd rfl (.slice (99000) 0 _ 0 ⟨_, rfl⟩ (by simp) (by simp)) ?_
      refine WkE.upd rfl (by exact VR.flat _ rfl) ?_
      refine WkE.upd rfl (.ptr (0) 0 ⟨_, rfl⟩) ?_
      exact WkE.emp
    ·
      refine WkM.flatM rfl (by rfl) (fun _ => rfl) (fun h => h) ?_
      refine WkM.clo rfl (one_clo _) (fun h => h) ?_
      exact WkM.emp
    ·
      repeat (refine dom_upd_mem (by decide) ?_)
      exact dom_emp
  ·
    rintro mm σ ⟨i, hinv, rfl, rfl⟩
    refine zS ?_
    refine yP pLt ?_
    refine zN (zQ ?_)
    refine zA (fun hb0 => ?_) (fun hb0 => ?_)
    ·
      have hi : i < o.length := by simpa using hb0
      refine zK (zT (zQ (zB (zS ?_))))
      refine yM ?_
      refine yP pJ ?_
      refine yL 0 ?_
      refine yA ?_
      refine yA ?_
      refine zN (zR ?_)
      refine yM ?_
      refine yM ?_
      refine yP (PureOp.cvtN tbok 9223372036854775808 rfl rfl rfl (by decide) (by decide) (Nat.lt_trans (bd_getD hob (by decide) i) (by decide))) ?_
      refine yM ?_
      refine yP ((PureOp.mulI (a := 8) rfl rfl (by omega)).mono (v' := vi .i64 (8 * i)) rfl) ?_
      refine yP (shlI rfl rfl (bd_getD hob (by decide) i) (by omega)) ?_
      refine yP ((PureOp.orN 9223372036854775808 rfl rfl (by decide) (by decide) (Nat.lt_of_lt_of_le (num_tk hob (by omega)) (by decide)) (shl_lt (bd_getD hob (by decide) i) (by omega))).mono (v' := vi .i64 (num 256 (o.take (i + 1)))) (congrArg (vi .i64) (num_or hob hi))) ?_
      refine yA ?_
      refine zN (zL (zT (zR ?_)))
      refine yP (pAdd (b := 1)) ?_
      refine yM ?_
      refine zN (zT ?_)
      refine ⟨o.length - (i + 1), [], _, by omega, ?_, i + 1, by omega, rfl, rfl⟩
      refine Wk.of [0, 99000] ?_ ?_ ?_ (by decide) rfl
      ·
        refine WkE.upd rfl (by exact VR.flat _ rfl) ?_
        refine WkE.upd rfl (by exact VR.flat _ rfl) ?_
        refine WkE.upd rfl (.slice (99000) 0 _ 0 ⟨_, rfl⟩ (by simp) (by simp)) ?_
        refine WkE.upd rfl (by exact VR.flat _ rfl) ?_
        refine WkE.upd rfl (.ptr (0) 0 ⟨_, rfl⟩) ?_
        exact WkE.emp
      ·
        refine WkM.flatM rfl (by rfl) (fun _ => rfl) (fun h => h) ?_
        refine WkM.clo rfl (one_clo _) (fun h => h) ?_
        exact WkM.emp
      ·
        repeat (refine dom_upd_mem (by decide) ?_)
        exact dom_emp
    ·
      have hi : i = o.length := by simp at hb0; omega
      rw [hi, List.take_length, hv]
      refine zX (zV (zV (zH (zT (zS ?_)))))
      refine yM ?_
      refine yA ?_
      refine zN (zE ?_)
      exact rq [] [.tmp 4] (hb := (OutL.clo rfl (one_clo _) (by intro h; rfl) trivial))
theorem decode_ctr : GC Tryz.prog 39 [db scrB] [] [.agg #[vi .i64 1, db patB, .slice (some ⟨0, 0, none⟩) 3 0], vi .i64 0] [⟨[vi .i64 0, vi .i64 1, .int .i64 0, db [7], vi .i64 2, .int .i64 0, vi .i64 1, .slice none 0 0, vi .i64 4, .int .i64 0, .int .i64 0, .slice none 0 0], true, 4⟩] := by
  unfold GC
  refine Ctr.introR (g := 88) Tryz.func39 rfl (by decide) (Nat.le_of_ble_eq_true rfl) (by decide) bd88 (fun cap w h => dec_idle cap w h) ?_
  refine AWo.alloc tbok 3000 1 [.int .i64 0, .slice none 0 0, .slice none 0 0] rfl rfl rfl rfl rfl rfl ?_
  refine AWo.alloc tbok 4000 1 [.int .i64 0] rfl rfl rfl rfl rfl rfl ?_
  refine AWo.nil trivial ⟨_, .cons rfl (.cons rfl .nil), ?_⟩
  refine AWc.ghost 77000 4 rfl ?_
  refine AWc.recell 3000 [.int .i64 0, .slice none 0 0, .slice (some ⟨77000, 0, none⟩) 0 0] rfl rfl ?_ ?_
  · intro k v' hv
    match k, hv with
    | 0, hv => exact ⟨_, rfl, fun _ _ _ h => by cases hv; exact h⟩
    | 1, hv => exact ⟨_, rfl, fun _ _ _ h => by cases hv; exact h⟩
    | 2, hv => exact ⟨_, rfl, fun _ _ _ h => by cases hv; exact nil_as h⟩
    | k + 3, hv => simp at hv
  refine AWc.seqR ?_
  refine yM ?_
  refine yN 5000 1 _ ?_
  refine AWo.store1 tbok (v := db scrB) rfl rfl rfl rfl rfl (of_decide_eq_true rfl) rfl rfl ?_
  refine zN ?_
  refine AWc.seqR ?_
  refine yC (rnum_ctr (b := [1, 16, 0, 1, 1, 1, 0, 0, 0, 0, 0, 2, 3, 1, 0, 0, 0, 0, 0, 0, 1, 1, 0, 7, 2, 1, 0, 4]) (o := [1]) (r := [16, 0, 1, 1, 1, 0, 0, 0, 0, 0, 2, 3, 1, 0, 0, 0, 0, 0, 0, 1, 1, 0, 7, 2, 1, 0, 4]) (w := 1) (v := 1) rfl rfl (by decide) (by decide) (by unfold bd; decide) (by decide) rfl) bd89 [(5000, 0)] [] ?_ (hfit := (.clo rfl (one_clo _) (by intro h; exact h) .nil)) (hnew := (.chg rfl rfl (clo_map_ren (one_clo _)) (OkL.clo (one_clo _)) .nil))
  refine yP pF ?_
  refine AWo.store1 tbok rfl rfl rfl rfl rfl (of_decide_eq_true rfl) rfl rfl ?_
  refine zN ?_
  refine AWc.seqR ?_
  refine yC (rnum_ctr (b := [16, 0, 1, 1, 1, 0, 0, 0, 0, 0, 2, 3, 1, 0, 0, 0, 0, 0, 0, 1, 1, 0, 7, 2, 1, 0, 4]) (o := [16, 0]) (r := [1, 1, 1, 0, 0, 0, 0, 0, 2, 3, 1, 0, 0, 0, 0, 0, 0, 1, 1, 0, 7, 2, 1, 0, 4]) (w := 2) (v := 16) rfl rfl (by decide) (by decide) (by unfold bd; decide) (by decide) rfl) bd89 [(5000, 0)] [] ?_ (hfit := (.clo rfl (one_clo _) (by intro h; exact h) .nil)) (hnew := (.chg rfl rfl (clo_map_ren (one_clo _)) (OkL.clo (one_clo _)) .nil))
  refine yC (rtake_ctr (b := [1, 1, 1, 0, 0, 0, 0, 0, 2, 3, 1, 0, 0, 0, 0, 0, 0, 1, 1, 0, 7, 2, 1, 0, 4]) (o := [1, 1, 1, 0, 0, 0, 0, 0, 2, 3, 1, 0, 0, 0, 0, 0]) (r := [0, 1, 1, 0, 7, 2, 1, 0, 4]) (n := 16) rfl rfl (by decide) (by decide)) bd90 [(5000, 0)] [] ?_ (hfit := (.clo rfl (one_clo _) (by intro h; exact h) .nil)) (hnew := (.chg rfl rfl (clo_map_ren (one_clo _)) (OkL.clo (one_clo _)) .nil)) (hrv := (.clo rfl .nil))
  refine yP pF ?_
  refine AWo.store1 tbok rfl rfl rfl rfl rfl (of_decide_eq_true rfl) rfl rfl ?_
  refine zN ?_
  refine AWc.seq ?_
  refine AWc.block ?_
  refine AWc.rounds 4 ?_
  refine roundsC_succ ?_
  refine AWc.seq ?_
  refine AWc.seqR ?_
  refine AWo.load tbok (v := db [0, 1, 1, 0, 7, 2, 1, 0, 4]) rfl rfl rfl rfl rfl rfl ?_
  refine yP pD ?_
  refine yP (pGt (b := 0)) ?_
  refine zN ?_
  refine AWc.condT rfl ?_
  refine AWc.skip ?_
  refine zT ?_
  refine AWc.block ?_
  refine AWc.seqR ?_
  refine yC (rnum_ctr (b := [0, 1, 1, 0, 7, 2, 1, 0, 4]) (o := [0]) (r := [1, 1, 0, 7, 2, 1, 0, 4]) (w := 1) (v := 0) rfl rfl (by decide) (by decide) (by unfold bd; decide) (by decide) rfl) bd89 [(5000, 0)] [] ?_ (hfit := (.clo rfl (one_clo _) (by intro h; exact h) .nil)) (hnew := (.chg rfl rfl (clo_map_ren (one_clo _)) (OkL.clo (one_clo _)) .nil))
  refine yP ((PureOp.buildStruct [(0, vi .i64 0)] pl93.choose_spec.1 zr93 (by decide) pl93.choose_spec.2 rfl rfl).mono (v' := .agg #[vi .i64 0, .int .i64 0, .int .i64 0, .slice none 0 0]) rfl) ?_
  refine yN 1006000 1 _ ?_
  refine AWo.storeAllN (vs := [vi .i64 0, .int .i64 0, .int .i64 0, .slice none 0 0]) tbok rfl rfl rfl rfl rfl rfl rfl rfl ?_
  refine zN ?_
  refine AWc.seq ?_
  refine AWc.seqR ?_
  refine yP pF ?_
  refine yL1 ?_
  refine yP pL ?_
  refine yP (pEq (b := 200)) ?_
  refine zN ?_
  refine AWc.condF rfl ?_
  refine AWc.skip ?_
  refine zT ?_
  refine AWc.seq ?_
  refine AWc.seqR ?_
  refine yP pF ?_
  refine yL1 ?_
  refine zN ?_
  refine AWc.block ?_
  refine AWc.seqR ?_
  refine yP (pEq (b := 0)) ?_
  refine yA ?_
  refine zN ?_
  refine AWc.condT rfl ?_
  refine AWc.seqR ?_
  refine yC (rnum_ctr (b := [1, 1, 0, 7, 2, 1, 0, 4]) (o := [1]) (r := [1, 0, 7, 2, 1, 0, 4]) (w := 1) (v := 1) rfl rfl (by decide) (by decide) (by unfold bd; decide) (by decide) rfl) bd89 [(5000, 0)] [] ?_ (hfit := (.clo rfl (one_clo _) (by intro h; exact h) .nil)) (hnew := (.chg rfl rfl (clo_map_ren (one_clo _)) (OkL.clo (one_clo _)) .nil))
  refine yP pF ?_
  refine AWo.store1 tbok rfl rfl rfl rfl rfl (of_decide_eq_true rfl) rfl rfl ?_
  refine zN ?_
  refine AWc.region ?_
  refine yC (rnum_ctr (b := [1, 0, 7, 2, 1, 0, 4]) (o := [1, 0]) (r := [7, 2, 1, 0, 4]) (w := 2) (v := 1) rfl rfl (by decide) (by decide) (by unfold bd; decide) (by decide) rfl) bd89 [(5000, 0)] [] ?_ (hfit := (.clo rfl (one_clo _) (by intro h; exact h) .nil)) (hnew := (.chg rfl rfl (clo_map_ren (one_clo _)) (OkL.clo (one_clo _)) .nil))
  refine yC (rtake_ctr (b := [7, 2, 1, 0, 4]) (o := [7]) (r := [2, 1, 0, 4]) (n := 1) rfl rfl (by decide) (by decide)) bd90 [(5000, 0)] [] ?_ (hfit := (.clo rfl (one_clo _) (by intro h; exact h) .nil)) (hnew := (.chg rfl rfl (clo_map_ren (one_clo _)) (OkL.clo (one_clo _)) .nil)) (hrv := (.clo rfl .nil))
  refine yP pF ?_
  refine AWo.store1 tbok rfl rfl rfl rfl rfl (of_decide_eq_true rfl) rfl rfl ?_
  refine zN (zL (zT ?_))
  refine AWc.region ?_
  refine yP pF ?_
  refine AWo.load tbok (v := .slice (some ⟨77000, 0, none⟩) 0 0) rfl rfl rfl rfl rfl rfl ?_
  refine AWo.loadAll (cells := [vi .i64 0, vi .i64 1, .int .i64 0, db [7]]) tbok rfl rfl rfl rfl rfl rfl rfl ?_
  refine AWo.buildSliceG tbok 1045000 [(0, .agg #[vi .i64 0, vi .i64 1, .int .i64 0, db [7]])] (out := [vi .i64 0, vi .i64 1, .int .i64 0, db [7]]) rfl rfl rfl rfl rfl (by decide) rfl rfl rfl rfl rfl ?_
  refine AWo.append tbok (all := [vi .i64 0, vi .i64 1, .int .i64 0, db [7]]) (news := [vi .i64 0, vi .i64 1, .int .i64 0, db [7]]) 1046000 rfl rfl rfl rfl rfl rfl (of_decide_eq_true rfl) (by decide) rfl rfl rfl (by decide) rfl rfl rfl (by decide) (by decide) rfl rfl rfl rfl ?_
  refine yP pF ?_
  refine AWo.store1 tbok rfl rfl rfl rfl rfl (of_decide_eq_true rfl) rfl rfl ?_
  refine zN (zL (zT ?_))
  refine roundsC_succ ?_
  refine AWc.seq ?_
  refine AWc.seqR ?_
  refine AWo.load tbok (v := db [2, 1, 0, 4]) rfl rfl rfl rfl rfl rfl ?_
  refine yP pD ?_
  refine yP (pGt (b := 0)) ?_
  refine zN ?_
  refine AWc.condT rfl ?_
  refine AWc.skip ?_
  refine zT ?_
  refine AWc.block ?_
  refine AWc.seqR ?_
  refine yC (rnum_ctr (b := [2, 1, 0, 4]) (o := [2]) (r := [1, 0, 4]) (w := 1) (v := 2) rfl rfl (by decide) (by decide) (by unfold bd; decide) (by decide) rfl) bd89 [(5000, 0)] [] ?_ (hfit := (.clo rfl (one_clo _) (by intro h; exact h) .nil)) (hnew := (.chg rfl rfl (clo_map_ren (one_clo _)) (OkL.clo (one_clo _)) .nil))
  refine yP ((PureOp.buildStruct [(0, vi .i64 2)] pl93.choose_spec.1 zr93 (by decide) pl93.choose_spec.2 rfl rfl).mono (v' := .agg #[vi .i64 2, .int .i64 0, .int .i64 0, .slice none 0 0]) rfl) ?_
  refine yN 2006000 1 _ ?_
  refine AWo.storeAllN (vs := [vi .i64 2, .int .i64 0, .int .i64 0, .slice none 0 0]) tbok rfl rfl rfl rfl rfl rfl rfl rfl ?_
  refine zN ?_
  refine AWc.seq ?_
  refine AWc.seqR ?_
  refine yP pF ?_
  refine yL1 ?_
  refine yP pL ?_
  refine yP (pEq (b := 200)) ?_
  refine zN ?_
  refine AWc.condF rfl ?_
  refine AWc.skip ?_
  refine zT ?_
  refine AWc.seq ?_
  refine AWc.seqR ?_
  refine yP pF ?_
  refine yL1 ?_
  refine zN ?_
  refine AWc.block ?_
  refine AWc.seqR ?_
  refine yP (pEq (b := 0)) ?_
  refine yA ?_
  refine zN ?_
  refine AWc.condF rfl ?_
  refine AWc.seq ?_
  refine AWc.seqR ?_
  refine yP (pEq (b := 1)) ?_
  refine yA ?_
  refine zN ?_
  refine AWc.condF rfl ?_
  refine AWc.region ?_
  refine yP (pEq (b := 2)) ?_
  refine yA ?_
  refine zN (zT ?_)
  refine AWc.condT rfl ?_
  refine AWc.region ?_
  refine yC (rnum_ctr (b := [1, 0, 4]) (o := [1, 0]) (r := [4]) (w := 2) (v := 1) rfl rfl (by decide) (by decide) (by unfold bd; decide) (by decide) rfl) bd89 [(5000, 0)] [] ?_ (hfit := (.clo rfl (one_clo _) (by intro h; exact h) .nil)) (hnew := (.chg rfl rfl (clo_map_ren (one_clo _)) (OkL.clo (one_clo _)) .nil))
  refine yP pF ?_
  refine AWo.store1 tbok rfl rfl rfl rfl rfl (of_decide_eq_true rfl) rfl rfl ?_
  refine zN (zL (zT ?_))
  refine AWc.region ?_
  refine yP pF ?_
  refine AWo.load tbok (v := .slice (some ⟨1046000, 0, none⟩) 1 0) rfl rfl rfl rfl rfl rfl ?_
  refine AWo.loadAll (cells := [vi .i64 2, .int .i64 0, vi .i64 1, .slice none 0 0]) tbok rfl rfl rfl rfl rfl rfl rfl ?_
  refine AWo.buildSliceG tbok 2045000 [(0, .agg #[vi .i64 2, .int .i64 0, vi .i64 1, .slice none 0 0])] (out := [vi .i64 2, .int .i64 0, vi .i64 1, .slice none 0 0]) rfl rfl rfl rfl rfl (by decide) rfl rfl rfl rfl rfl ?_
  refine AWo.append tbok (all := [vi .i64 0, vi .i64 1, .int .i64 0, db [7], vi .i64 2, .int .i64 0, vi .i64 1, .slice none 0 0]) (news := [vi .i64 2, .int .i64 0, vi .i64 1, .slice none 0 0]) 2046000 rfl rfl rfl rfl rfl rfl (of_decide_eq_true rfl) (by decide) rfl rfl rfl (by decide) rfl rfl rfl (by decide) (by decide) rfl rfl rfl rfl ?_
  refine yP pF ?_
  refine AWo.store1 tbok rfl rfl rfl rfl rfl (of_decide_eq_true rfl) rfl rfl ?_
  refine zN (zL (zT ?_))
  refine roundsC_succ ?_
  refine AWc.seq ?_
  refine AWc.seqR ?_
  refine AWo.load tbok (v := db [4]) rfl rfl rfl rfl rfl rfl ?_
  refine yP pD ?_
  refine yP (pGt (b := 0)) ?_
  refine zN ?_
  refine AWc.condT rfl ?_
  refine AWc.skip ?_
  refine zT ?_
  refine AWc.block ?_
  refine AWc.seqR ?_
  refine yC (rnum_ctr (b := [4]) (o := [4]) (r := []) (w := 1) (v := 4) rfl rfl (by decide) (by decide) (by unfold bd; decide) (by decide) rfl) bd89 [(5000, 0)] [] ?_ (hfit := (.clo rfl (one_clo _) (by intro h; exact h) .nil)) (hnew := (.chg rfl rfl (clo_map_ren (one_clo _)) (OkL.clo (one_clo _)) .nil))
  refine yP ((PureOp.buildStruct [(0, vi .i64 4)] pl93.choose_spec.1 zr93 (by decide) pl93.choose_spec.2 rfl rfl).mono (v' := .agg #[vi .i64 4, .int .i64 0, .int .i64 0, .slice none 0 0]) rfl) ?_
  refine yN 3006000 1 _ ?_
  refine AWo.storeAllN (vs := [vi .i64 4, .int .i64 0, .int .i64 0, .slice none 0 0]) tbok rfl rfl rfl rfl rfl rfl rfl rfl ?_
  refine zN ?_
  refine AWc.seq ?_
  refine AWc.seqR ?_
  refine yP pF ?_
  refine yL1 ?_
  refine yP pL ?_
  refine yP (pEq (b := 200)) ?_
  refine zN ?_
  refine AWc.condF rfl ?_
  refine AWc.skip ?_
  refine zT ?_
  refine AWc.seq ?_
  refine AWc.seqR ?_
  refine yP pF ?_
  refine yL1 ?_
  refine zN ?_
  refine AWc.block ?_
  refine AWc.seqR ?_
  refine yP (pEq (b := 0)) ?_
  refine yA ?_
  refine zN ?_
  refine AWc.condF rfl ?_
  refine AWc.seq ?_
  refine AWc.seqR ?_
  refine yP (pEq (b := 1)) ?_
  refine yA ?_
  refine zN ?_
  refine AWc.condF rfl ?_
  refine AWc.region ?_
  refine yP (pEq (b := 2)) ?_
  refine yA ?_
  refine zN (zT ?_)
  refine AWc.condF rfl ?_
  refine AWc.seq ?_
  refine AWc.seqR ?_
  refine yP (pEq (b := 3)) ?_
  refine yA ?_
  refine zN ?_
  refine AWc.condF rfl ?_
  refine AWc.region ?_
  refine yP (pEq (b := 4)) ?_
  refine yA ?_
  refine zN (zT ?_)
  refine AWc.condT rfl ?_
  refine AWc.skip ?_
  refine zL (zT ?_)
  refine AWc.region ?_
  refine yP pF ?_
  refine AWo.load tbok (v := .slice (some ⟨2046000, 0, none⟩) 2 0) rfl rfl rfl rfl rfl rfl ?_
  refine AWo.loadAll (cells := [vi .i64 4, .int .i64 0, .int .i64 0, .slice none 0 0]) tbok rfl rfl rfl rfl rfl rfl rfl ?_
  refine AWo.buildSliceG tbok 3045000 [(0, .agg #[vi .i64 4, .int .i64 0, .int .i64 0, .slice none 0 0])] (out := [vi .i64 4, .int .i64 0, .int .i64 0, .slice none 0 0]) rfl rfl rfl rfl rfl (by decide) rfl rfl rfl rfl rfl ?_
  refine AWo.append tbok (all := [vi .i64 0, vi .i64 1, .int .i64 0, db [7], vi .i64 2, .int .i64 0, vi .i64 1, .slice none 0 0, vi .i64 4, .int .i64 0, .int .i64 0, .slice none 0 0]) (news := [vi .i64 4, .int .i64 0, .int .i64 0, .slice none 0 0]) 3046000 rfl rfl rfl rfl rfl rfl (of_decide_eq_true rfl) (by decide) rfl rfl rfl (by decide) rfl rfl rfl (by decide) (by decide) rfl rfl rfl rfl ?_
  refine yP pF ?_
  refine AWo.store1 tbok rfl rfl rfl rfl rfl (of_decide_eq_true rfl) rfl rfl ?_
  refine zN (zL (zT ?_))
  refine roundsC_succ ?_
  refine AWc.seq ?_
  refine AWc.seqR ?_
  refine AWo.load tbok (v := db []) rfl rfl rfl rfl rfl rfl ?_
  refine yP pD ?_
  refine yP (pGt (b := 0)) ?_
  refine zN ?_
  refine AWc.condF rfl ?_
  refine AWc.exit ?_
  refine zV (zV (zH (zT ?_)))
  refine AWc.seqR ?_
  refine AWo.loadAll (cells := [vi .i64 1, db patB, .slice (some ⟨3046000, 0, none⟩) 3 0]) tbok rfl rfl rfl rfl rfl rfl rfl ?_
  refine AWo.storeAllN (vs := [vi .i64 1, db patB, .slice (some ⟨3046000, 0, none⟩) 3 0]) tbok rfl rfl rfl rfl rfl rfl rfl rfl ?_
  refine AWo.store1 tbok (v := vi .i64 0) rfl rfl rfl rfl rfl (of_decide_eq_true rfl) rfl rfl ?_
  refine zN ?_
  refine AWc.ret ?_
  exact rq [3046000] [.cell 2 87, .cell 3 29] (hb := (OutL.clo rfl (calls_clo _) (by intro h; rfl) trivial))
end Go.Proofs.YtlfadlfjjkppfaaGreatDoor
namespace Go.Proofs.YtlfadlfjjkppfaaGreatDoor
open Go Sim
set_option maxRecDepth 10000
theorem PureOp.nilGhost {P : Program} {E : Env} (id : Nat) : PureOp P (.assign (.const (.slice none 0 0))) E (.slice (some ⟨id, 0, none⟩) 0 0) := fun D ρ ev hx => by
  have e1 := flat_inv (hx (.const (.slice none 0 0)) (by simp [Op.operands]) _ rfl) rfl
  exact ⟨_, .nilS ⟨id, 0, none⟩ (by simp), fun _ _ _ _ _ w => by simp [execOp, e1]⟩
theorem doA_ctr {π : List Nat → List Nat} {g : Gd} {tag : List Nat} {s : Sp Nat} {t n : Int} {d : List Nat} (hπ : PermB π) (htl : tag.length = 32) (hga : g.a < 1000000) (hs : Sp.Ok 136 200 bQ s) (hb : bd 256 d) (hl : d.length < 200000000) (hc' : s.c < 1152921504606846976) : GC Tryz.prog 91 [.agg #[.int .i64 0, .int .i64 t, .int .i64 n, db d], .pointer (some ⟨0, 0, none⟩)] [⟨trC 112 1 2 tag, false, 1⟩, ⟨[dI g.its, vi .i64 g.a, wrV g.wr], true, 1⟩, ⟨[.iface 213 (.agg #[]), .slice (some ⟨3, 0, none⟩) 200 0, vi .i64 s.i, vi .i64 s.o, vi .i64 s.c], true, 1⟩, ⟨s.st.map (vi .u8), true, 1⟩] [.agg #[vi .i64 (abC g t d), .slice none 0 0]] [⟨trC 112 1 2 tag, false, 1⟩, ⟨[dI g.its, vi .i64 ((abG g t d).a), wrV ((abG g t d).wr)], true, 1⟩, ⟨[.iface 213 (.agg #[]), .slice (some ⟨3, 0, none⟩) 200 0, vi .i64 ((abS π g s t d).i), vi .i64 ((abS π g s t d).o), vi .i64 ((abS π g s t d).c)], true, 1⟩, ⟨((abS π g s t d).st).map (vi .u8), true, 1⟩] := by
  have hX := tabs_ctr hπ (t := t) (d := d) htl hga hs hb hl hc'
  refine GC.intro Tryz.func91 rfl (by show 2 ≤ 70; decide) (Nat.le_of_ble_eq_true rfl) ?_
  obtain ⟨c, hc⟩ : ∃ c, abC g t d = c := ⟨_, rfl⟩
  obtain ⟨G, hG⟩ : ∃ G, abG g t d = G := ⟨_, rfl⟩
  obtain ⟨S2, hS2⟩ : ∃ S2, abS π g s t d = S2 := ⟨_, rfl⟩
  rw [hc, hG, hS2]
  rw [hc, hG, hS2] at hX
  refine zS ?_
  refine AWo.box 3000 1 [.int .i64 0, .int .i64 t, .int .i64 n, db d] rfl rfl rfl rfl rfl ?_
  refine yN 5000 1 _ ?_
  refine zN (zQ (zS ?_))
  refine yP pF ?_
  refine yL1 ?_
  refine zN (zB (zS ?_))
  refine yP ((PureOp.eqN (b := 0) rfl rfl).mono (v' := .bool true) (congrArg Value.bool (rfl))) ?_
  refine yA ?_
  refine zN (zC (zS ?_))
  refine yM ?_
  refine yP pF ?_
  refine AWo.load tbok (v := .int .i64 t) rfl rfl rfl rfl rfl rfl ?_
  refine yP pF ?_
  refine AWo.load tbok (v := db d) rfl rfl rfl rfl rfl rfl ?_
  refine yC (hX) bd19 [(0, 0), (1, 0), (2, 0), (3, 0)] [] ?_ (hargs := (.cons rfl rfl (.cons rfl rfl (.clo rfl .nil)))) (hfit := (.whole rfl (trC_ren rfl rfl rfl rfl) (trC_ok rfl rfl (by decide)) (by intro h; exact h) (.clo rfl (gd_clo _ _ _) (by intro h; exact h) (.whole rfl rfl (OkL.all rfl) (by intro h; exact h) (.flat rfl (flatM flat_vi) (by intro h; exact h) .nil))))) (hnew := (.keep rfl (.chg rfl rfl (clo_map_ren (gd_clo _ _ _)) (OkL.clo (gd_clo _ _ _)) (.chg (cells := [.iface 213 (.agg #[]), .slice (some ⟨3, 0, none⟩) 200 0, vi .i64 _, vi .i64 _, vi .i64 _]) rfl rfl rfl (OkL.all rfl) (.chg rfl rfl (flat_map_ren (flatM flat_vi)) (OkL.flat (flatM flat_vi)) .nil)))))
  refine yP ((PureOp.buildStruct [(0, vi .i64 c)] pl95.choose_spec.1 zr95 (by decide) pl95.choose_spec.2 rfl rfl).mono (v' := .agg #[vi .i64 c, .slice none 0 0]) rfl) ?_
  refine AWo.storeAllN (vs := [vi .i64 c, .slice none 0 0]) tbok rfl rfl rfl rfl rfl rfl rfl rfl ?_
  refine zN (zE (zI (zU ?_)))
  exact rq [] [.cell 4 95] (hres := (.clo rfl .nil)) (hb := (OutL.whole rfl (trC_ren rfl rfl rfl rfl) (trC_ok rfl rfl (by decide)) (by intro h; exact h.elim id fun h => absurd h.1 (by simp)) (OutL.clo rfl (gd_clo _ _ _) (by intro h; rfl) (OutL.whole rfl rfl (OkL.all rfl) (by intro h; rfl) (OutL.flat rfl (flatM flat_vi) (by intro h; rfl) trivial)))))
theorem doF_ctr {g : Gd} {tag : List Nat} {s : Sp Nat} {t n : Int} : GC Tryz.prog 91 [.agg #[.int .i64 4, .int .i64 t, .int .i64 n, .slice none 0 0], .pointer (some ⟨0, 0, none⟩)] [⟨trC 112 1 2 tag, false, 1⟩, ⟨[dI g.its, vi .i64 g.a, wrV g.wr], true, 1⟩, ⟨[.iface 213 (.agg #[]), .slice (some ⟨3, 0, none⟩) 200 0, vi .i64 s.i, vi .i64 s.o, vi .i64 s.c], false, 1⟩, ⟨s.st.map (vi .u8), false, 1⟩] [.agg #[vi .i64 (fnC g), .slice none 0 0]] [⟨trC 112 1 2 tag, false, 1⟩, ⟨[dI g.its, vi .i64 g.a, wrV (fnC g)], true, 1⟩, ⟨[.iface 213 (.agg #[]), .slice (some ⟨3, 0, none⟩) 200 0, vi .i64 s.i, vi .i64 s.o, vi .i64 s.c], false, 1⟩, ⟨s.st.map (vi .u8), false, 1⟩] := by
  refine GC.intro Tryz.func91 rfl (by show 2 ≤ 70; decide) (Nat.le_of_ble_eq_true rfl) ?_
  obtain ⟨c, hc⟩ : ∃ c, fnC g = c := ⟨_, rfl⟩
  have hX := tfin_ctr (g := g) (s := s) (tag := tag)
  rw [hc]
  rw [hc] at hX
  refine zS ?_
  refine AWo.box 3000 1 [.int .i64 4, .int .i64 t, .int .i64 n, .slice none 0 0] rfl rfl rfl rfl rfl ?_
  refine yN 5000 1 _ ?_
  refine zN (zQ (zS ?_))
  refine yP pF ?_
  refine yL1 ?_
  refine zN (zB (zS ?_))
  refine yP ((PureOp.eqN (b := 0) rfl rfl).mono (v' := .bool false) (congrArg Value.bool (rfl))) ?_
  refine yA ?_
  refine zN (zF (zS ?_))
  refine yP ((PureOp.eqN (b := 1) rfl rfl).mono (v' := .bool false) (congrArg Value.bool (rfl))) ?_
  refine yA ?_
  refine zN (zF (zS ?_))
  refine yP ((PureOp.eqN (b := 2) rfl rfl).mono (v' := .bool false) (congrArg Value.bool (rfl))) ?_
  refine yA ?_
  refine zN (zF (zS ?_))
  refine yP ((PureOp.eqN (b := 3) rfl rfl).mono (v' := .bool false) (congrArg Value.bool (rfl))) ?_
  refine yA ?_
  refine zN (zF (zK (zL (zT (zS ?_)))))
  refine yM ?_
  refine yC (hX) bd22 [(0, 0), (1, 0), (2, 0), (3, 0)] [] ?_ (hfit := (.whole rfl (trC_ren rfl rfl rfl rfl) (trC_ok rfl rfl (by decide)) (by intro h; exact h) (.clo rfl (gd_clo _ _ _) (by intro h; exact h) (.whole rfl rfl (OkL.all rfl) (by intro h; exact h) (.flat rfl (flatM flat_vi) (by intro h; exact h) .nil))))) (hnew := (.keep rfl (.chg rfl rfl (clo_map_ren (gd_clo _ _ _)) (OkL.clo (gd_clo _ _ _)) (.keep rfl (.keep rfl .nil)))))
  refine yP ((PureOp.buildStruct [(0, vi .i64 c)] pl95.choose_spec.1 zr95 (by decide) pl95.choose_spec.2 rfl rfl).mono (v' := .agg #[vi .i64 c, .slice none 0 0]) rfl) ?_
  refine AWo.storeAllN (vs := [vi .i64 c, .slice none 0 0]) tbok rfl rfl rfl rfl rfl rfl rfl rfl ?_
  refine zN (zE ?_)
  exact rq [] [.cell 4 95] (hres := (.clo rfl .nil)) (hb := (OutL.whole rfl (trC_ren rfl rfl rfl rfl) (trC_ok rfl rfl (by decide)) (by intro h; exact h.elim id fun h => absurd h.1 (by simp)) (OutL.clo rfl (gd_clo _ _ _) (by intro h; rfl) (OutL.whole rfl rfl (OkL.all rfl) (by intro h; exact h.elim id fun h => absurd h.1 (by simp)) (OutL.flat rfl (flatM flat_vi) (by intro h; exact h.elim id fun h => absurd h.1 (by simp)) trivial)))))
theorem doC_ctr {g G : Gd} {tag : List Nat} {s S2 : Sp Nat} {t : Int} {x : Fp} (hX : GC Tryz.prog 21 [.pointer (some ⟨0, 0, none⟩), .int .i64 1] [⟨trC 112 1 2 tag, false, 1⟩, ⟨[dI g.its, vi .i64 g.a, wrV g.wr], true, 1⟩, ⟨[.iface 213 (.agg #[]), .slice (some ⟨3, 0, none⟩) 200 0, vi .i64 s.i, vi .i64 s.o, vi .i64 s.c], true, 1⟩, ⟨s.st.map (vi .u8), true, 1⟩] [.slice (some ⟨4, 0, none⟩) 1 0, vi .i64 0] [⟨trC 112 1 2 tag, false, 1⟩, ⟨[dI g.its, vi .i64 G.a, wrV G.wr], true, 1⟩, ⟨[.iface 213 (.agg #[]), .slice (some ⟨3, 0, none⟩) 200 0, vi .i64 S2.i, vi .i64 S2.o, vi .i64 S2.c], true, 1⟩, ⟨S2.st.map (vi .u8), true, 1⟩, ⟨(fe x).map (vi .u64), true, 4⟩]) : GC Tryz.prog 91 [.agg #[.int .i64 2, .int .i64 t, .int .i64 1, .slice none 0 0], .pointer (some ⟨0, 0, none⟩)] [⟨trC 112 1 2 tag, false, 1⟩, ⟨[dI g.its, vi .i64 g.a, wrV g.wr], true, 1⟩, ⟨[.iface 213 (.agg #[]), .slice (some ⟨3, 0, none⟩) 200 0, vi .i64 s.i, vi .i64 s.o, vi .i64 s.c], true, 1⟩, ⟨s.st.map (vi .u8), true, 1⟩] [.agg #[vi .i64 0, db (digs 256 32 x.val)]] [⟨trC 112 1 2 tag, false, 1⟩, ⟨[dI g.its, vi .i64 G.a, wrV G.wr], true, 1⟩, ⟨[.iface 213 (.agg #[]), .slice (some ⟨3, 0, none⟩) 200 0, vi .i64 S2.i, vi .i64 S2.o, vi .i64 S2.c], true, 1⟩, ⟨S2.st.map (vi .u8), true, 1⟩] := by
  refine GC.intro Tryz.func91 rfl (by show 2 ≤ 70; decide) (Nat.le_of_ble_eq_true rfl) ?_
  have hB := bytesF_ctr (x := x)
  obtain ⟨dr, hdr⟩ : ∃ dr, digs 256 32 x.val = dr := ⟨_, rfl⟩
  obtain ⟨fx, hfx⟩ : ∃ fx, fe x = fx := ⟨_, rfl⟩
  have hdl : dr.length = 32 := by rw [← hdr]; exact digs_len (B := 256) _ _
  have hfl : fx.length = 4 := by rw [← hfx]; exact fe_len _
  rw [hdr]
  rw [hdr, hfx] at hB
  rw [hfx] at hX
  refine zS ?_
  refine AWo.box 3000 1 [.int .i64 2, .int .i64 t, .int .i64 1, .slice none 0 0] rfl rfl rfl rfl rfl ?_
  refine yN 5000 1 _ ?_
  refine zN (zQ (zS ?_))
  refine yP pF ?_
  refine yL1 ?_
  refine zN (zB (zS ?_))
  refine yP ((PureOp.eqN (b := 0) rfl rfl).mono (v' := .bool false) (congrArg Value.bool (rfl))) ?_
  refine yA ?_
  refine zN (zF (zS ?_))
  refine yP ((PureOp.eqN (b := 1) rfl rfl).mono (v' := .bool false) (congrArg Value.bool (rfl))) ?_
  refine yA ?_
  refine zN (zF (zS ?_))
  refine yP ((PureOp.eqN (b := 2) rfl rfl).mono (v' := .bool true) (congrArg Value.bool (rfl))) ?_
  refine yA ?_
  refine zN (zC (zS ?_))
  refine yM ?_
  refine yP pF ?_
  refine AWo.load tbok (v := .int .i64 1) rfl rfl rfl rfl rfl rfl ?_
  refine yC (hX) bd21 [(0, 0), (1, 0), (2, 0), (3, 0)] [43000] ?_ (hfit := (.whole rfl (trC_ren rfl rfl rfl rfl) (trC_ok rfl rfl (by decide)) (by intro h; exact h) (.clo rfl (gd_clo _ _ _) (by intro h; exact h) (.whole rfl rfl (OkL.all rfl) (by intro h; exact h) (.flat rfl (flatM flat_vi) (by intro h; exact h) .nil))))) (hnew := (.keep rfl (.chg rfl rfl (clo_map_ren (gd_clo _ _ _)) (OkL.clo (gd_clo _ _ _)) (.chg (cells := [.iface 213 (.agg #[]), .slice (some ⟨3, 0, none⟩) 200 0, vi .i64 _, vi .i64 _, vi .i64 _]) rfl rfl rfl (OkL.all rfl) (.chg rfl rfl (flat_map_ren (flatM flat_vi)) (OkL.flat (flatM flat_vi)) (.new (flat_map_ren (flatM flat_vi)) (OkL.flat (flatM flat_vi)) .nil))))))
  refine yM ?_
  refine yP pX ?_
  refine yP pX ?_
  refine yA ?_
  refine yA ?_
  refine zN (zS ?_)
  refine yM ?_
  refine yP ((PureOp.buildStruct [(0, vi .i64 0)] pl95.choose_spec.1 zr95 (by decide) pl95.choose_spec.2 rfl rfl).mono (v' := .agg #[vi .i64 0, .slice none 0 0]) rfl) ?_
  refine yN 10000 1 _ ?_
  refine AWo.storeAllN (vs := [vi .i64 0, .slice none 0 0]) tbok rfl rfl rfl rfl rfl rfl rfl rfl ?_
  refine zN (zQ ?_)
  refine AW.ghost 77000 1 rfl ?_
  refine AW.recell 10000 [vi .i64 0, .slice (some ⟨77000, 0, none⟩) 0 0] rfl rfl ?_ ?_
  · intro k v' hv
    match k, hv with
    | 0, hv => exact ⟨_, rfl, fun _ _ _ h => by cases hv; exact h⟩
    | 1, hv => exact ⟨_, rfl, fun _ _ _ h => by cases hv; exact nil_as h⟩
    | k + 2, hv => simp at hv
  refine zS ?_
  refine yM ?_
  refine yP pL ?_
  refine yM ?_
  refine zN (zB ?_)
  refine AW.rounds 2 ?_
  refine roundsA_succ ?_
  refine zS ?_
  refine yP pLt ?_
  refine zN (zQ (zC (zK (zT (zQ (zB (zS ?_)))))))
  refine yP (PureOp.idx tbok rfl rfl rfl rfl (by decide)) ?_
  refine AWo.loadAll (cells := fx.map (vi .u64)) tbok rfl rfl rfl rfl (by simp [hfl]) rfl rfl ?_
  refine yN 1012000 1 _ ?_
  refine AWo.storeAllN (vs := fx.map (vi .u64)) tbok rfl rfl rfl rfl (by rw [List.length_map, hfl]) rfl (oneM (fun _ => rfl) _) rfl ?_
  refine zN (zS ?_)
  refine AWo.loadAll (cells := fx.map (vi .u64)) tbok rfl rfl rfl rfl (by simp [hfl]) rfl rfl ?_
  refine yC (hB) bd23 [] [] ?_
  refine yN 1013000 1 ((List.replicate 32 0).map (vi .u8)) ?_
  refine AWo.storeAllN (vs := dr.map (vi .u8)) tbok rfl rfl rfl rfl (by rw [List.length_map, hdl]) rfl (oneM (fun _ => rfl) _) rfl ?_
  refine zN ?_
  refine AW.draw mixed ?_
  refine yP pF ?_
  refine yL1 ?_
  refine AWo.sliceA tbok rfl .none .none rfl rfl rfl rfl (by decide) (by decide) (.inl rfl) (by (simp; omega)) rfl rfl rfl ?_
  refine AWo.append tbok (all := dr.map (vi .u8)) (news := dr.map (vi .u8)) 1059000 rfl rfl rfl rfl (by rfl) (by show List.take _ (List.drop 0 _) = _; rw [List.drop_zero]; exact List.take_of_length_le (by simp [hdl])) (by simp [hdl]) (by decide) rfl rfl rfl (by decide) rfl rfl rfl (by decide) (by decide) (by exact oneM (fun _ => rfl) _) rfl rfl rfl ?_
  refine yP pF ?_
  refine AWo.store1 tbok rfl rfl rfl rfl rfl (of_decide_eq_true rfl) rfl rfl ?_
  refine zD (zL (zT (zR ?_)))
  refine yP (pAdd (b := 1)) ?_
  refine yM ?_
  refine zN (zT ?_)
  refine roundsA_succ ?_
  refine zS ?_
  refine yP pLt ?_
  refine zN (zQ (zF (zX (zV (zV (zH (zT ?_)))))))
  refine AW.freezeC 10000 1059000 1 (dr.map (vi .u8)) [vi .i64 0, db dr] rfl rfl (by show _ = [vi .i64 0, deep dr.length 1 (dr.map (vi .u8))]; rw [hdl]; rfl) rfl (by decide) (cloM fun _ => rfl) (by simp [hdl]) (by rw [List.drop_zero]; exact List.take_of_length_le (by simp [hdl])) ?_
  refine zS ?_
  refine AWo.loadAll (cells := [vi .i64 0, db dr]) tbok rfl rfl rfl rfl rfl rfl rfl ?_
  refine AWo.storeAllN (vs := [vi .i64 0, db dr]) tbok rfl rfl rfl rfl rfl rfl rfl rfl ?_
  refine zN (zE (zI (zU ?_)))
  exact rq [] [.cell 4 95] (hres := (.clo rfl .nil)) (hb := (OutL.whole rfl (trC_ren rfl rfl rfl rfl) (trC_ok rfl rfl (by decide)) (by intro h; exact h.elim id fun h => absurd h.1 (by simp)) (OutL.clo rfl (gd_clo _ _ _) (by intro h; rfl) (OutL.whole rfl rfl (OkL.all rfl) (by intro h; rfl) (OutL.flat rfl (flatM flat_vi) (by intro h; rfl) trivial)))))
end Go.Proofs.YtlfadlfjjkppfaaGreatDoor
namespace Go.Proofs.YtlfadlfjjkppfaaGreatDoor
open Go Sim
set_option maxRecDepth 10000
theorem ans_clo (d : List Nat) : ∀ v ∈ [vi .i64 0, .slice none 0 0, vi .i64 0, db d, vi .i64 0, .slice none 0 0], cloV v = true := by
 intro v hv
 simp only [List.mem_cons, List.not_mem_nil, or_false] at hv
 rcases hv with rfl | rfl | rfl | rfl | rfl | rfl <;> rfl
theorem play_ctr {L0 : List It} {tag d dr : List Nat} {s0 s1 s2 : Sp Nat} (hN : GC Tryz.prog 12 [vi .i64 1, db patB] [] [.pointer (some ⟨0, 0, none⟩), .int .i64 (-1), vi .i64 0] [⟨trC 112 1 2 tag, true, 1⟩, ⟨[dI L0, vi .i64 0, wrV 0], true, 1⟩, ⟨[.iface 213 (.agg #[]), .slice (some ⟨3, 0, none⟩) 200 0, vi .i64 s0.i, vi .i64 s0.o, vi .i64 s0.c], true, 1⟩, ⟨s0.st.map (vi .u8), true, 1⟩])
  (hA : GC Tryz.prog 91 [.agg #[.int .i64 0, .int .i64 1, .int .i64 0, db d], .pointer (some ⟨0, 0, none⟩)] [⟨trC 112 1 2 tag, false, 1⟩, ⟨[dI L0, vi .i64 0, wrV 0], true, 1⟩, ⟨[.iface 213 (.agg #[]), .slice (some ⟨3, 0, none⟩) 200 0, vi .i64 s0.i, vi .i64 s0.o, vi .i64 s0.c], true, 1⟩, ⟨s0.st.map (vi .u8), true, 1⟩] [.agg #[vi .i64 0, .slice none 0 0]] [⟨trC 112 1 2 tag, false, 1⟩, ⟨[dI L0, vi .i64 1, wrV 0], true, 1⟩, ⟨[.iface 213 (.agg #[]), .slice (some ⟨3, 0, none⟩) 200 0, vi .i64 s1.i, vi .i64 s1.o, vi .i64 s1.c], true, 1⟩, ⟨s1.st.map (vi .u8), true, 1⟩])
  (hC : GC Tryz.prog 91 [.agg #[.int .i64 2, .int .i64 0, .int .i64 1, .slice none 0 0], .pointer (some ⟨0, 0, none⟩)] [⟨trC 112 1 2 tag, false, 1⟩, ⟨[dI L0, vi .i64 1, wrV 0], true, 1⟩, ⟨[.iface 213 (.agg #[]), .slice (some ⟨3, 0, none⟩) 200 0, vi .i64 s1.i, vi .i64 s1.o, vi .i64 s1.c], true, 1⟩, ⟨s1.st.map (vi .u8), true, 1⟩] [.agg #[vi .i64 0, db dr]] [⟨trC 112 1 2 tag, false, 1⟩, ⟨[dI L0, vi .i64 2, wrV 0], true, 1⟩, ⟨[.iface 213 (.agg #[]), .slice (some ⟨3, 0, none⟩) 200 0, vi .i64 s2.i, vi .i64 s2.o, vi .i64 s2.c], true, 1⟩, ⟨s2.st.map (vi .u8), true, 1⟩])
  (hF : GC Tryz.prog 91 [.agg #[.int .i64 4, .int .i64 0, .int .i64 0, .slice none 0 0], .pointer (some ⟨0, 0, none⟩)] [⟨trC 112 1 2 tag, false, 1⟩, ⟨[dI L0, vi .i64 2, wrV 0], true, 1⟩, ⟨[.iface 213 (.agg #[]), .slice (some ⟨3, 0, none⟩) 200 0, vi .i64 s2.i, vi .i64 s2.o, vi .i64 s2.c], false, 1⟩, ⟨s2.st.map (vi .u8), false, 1⟩] [.agg #[vi .i64 0, .slice none 0 0]] [⟨trC 112 1 2 tag, false, 1⟩, ⟨[dI L0, vi .i64 2, wrV 0], true, 1⟩, ⟨[.iface 213 (.agg #[]), .slice (some ⟨3, 0, none⟩) 200 0, vi .i64 s2.i, vi .i64 s2.o, vi .i64 s2.c], false, 1⟩, ⟨s2.st.map (vi .u8), false, 1⟩]) : GC Tryz.prog 40 [.agg #[vi .i64 1, db patB, .slice (some ⟨0, 0, none⟩) 3 0]] [⟨([vi .i64 0, vi .i64 1, .int .i64 0, db d, vi .i64 2, .int .i64 0, vi .i64 1, .slice none 0 0, vi .i64 4, .int .i64 0, .int .i64 0, .slice none 0 0]), false, 4⟩] [.slice (some ⟨1, 0, none⟩) 3 0, .int .i64 (-1), vi .i64 0] [⟨([vi .i64 0, vi .i64 1, .int .i64 0, db d, vi .i64 2, .int .i64 0, vi .i64 1, .slice none 0 0, vi .i64 4, .int .i64 0, .int .i64 0, .slice none 0 0]), false, 4⟩, ⟨([vi .i64 0, .slice none 0 0, vi .i64 0, db dr, vi .i64 0, .slice none 0 0]), true, 2⟩] := by
 refine GC.intro Tryz.func40 rfl (by show 1 ≤ 39; decide) (Nat.le_of_ble_eq_true rfl) ?_
 refine zS ?_
 refine AWo.box 2000 1 [vi .i64 1, db patB, .slice (some ⟨0, 0, none⟩) 3 0] rfl rfl rfl rfl rfl ?_
 refine yA ?_
 refine yA ?_
 refine yA ?_
 refine zN (zS ?_)
 refine yP pF ?_
 refine AWo.load tbok (v := vi .i64 1) rfl rfl rfl rfl rfl rfl ?_
 refine yP pF ?_
 refine AWo.load tbok (v := db patB) rfl rfl rfl rfl rfl rfl ?_
 refine yC (hN) bd12 [] [17000, 17001, 17002, 17003] ?_ (hargs := (.cons rfl rfl (.clo rfl .nil))) (hnew := (.new (cells := trC 112 17001 17002 _) (trC_ren rfl rfl rfl rfl) (trC_ok rfl rfl (by decide)) (.new (clo_map_ren (gd_clo _ _ _)) (OkL.clo (gd_clo _ _ _)) (.new (cells := [.iface 213 (.agg #[]), .slice (some ⟨17003, 0, none⟩) 200 0, vi .i64 _, vi .i64 _, vi .i64 _]) rfl (OkL.all rfl) (.new (flat_map_ren (flatM flat_vi)) (OkL.flat (flatM flat_vi)) .nil)))))
 refine yM ?_
 refine yP pX ?_
 refine yP pX ?_
 refine yP pX ?_
 refine yA ?_
 refine yA ?_
 refine yA ?_
 refine zN (zQ (zS ?_))
 refine yM ?_
 refine yP (pNe (b := 0)) ?_
 refine zN (zF (zK (zT ?_)))
 refine AW.ghost 77000 2 rfl ?_
 refine zS ?_
 refine yP (PureOp.nilGhost 77000) ?_
 refine zN (zQ (zS ?_))
 refine yP pF ?_
 refine AWo.load tbok (v := .slice (some ⟨0, 0, none⟩) 3 0) rfl rfl rfl rfl rfl rfl ?_
 refine yP pL ?_
 refine yM ?_
 refine zN (zB ?_)
 refine AW.rounds 4 ?_
 refine roundsA_succ ?_
 refine zS ?_
 refine yP pLt ?_
 refine zN (zQ (zC (zK (zT (zQ (zB (zS ?_)))))))
 refine yP (PureOp.idx tbok rfl rfl rfl rfl (by decide)) ?_
 refine AWo.loadAgg tbok (o := 0) (vs := [vi .i64 0, vi .i64 1, .int .i64 0, db d]) rfl rfl rfl rfl (Nat.le_of_ble_eq_true rfl) rfl rfl rfl ?_
 refine yN 1011000 1 _ ?_
 refine AWo.storeAllN (vs := [vi .i64 0, vi .i64 1, .int .i64 0, db d]) tbok rfl rfl rfl rfl rfl rfl rfl rfl ?_
 refine zN (zR ?_)
 refine yM ?_
 refine AWo.loadAll (cells := [vi .i64 0, vi .i64 1, .int .i64 0, db d]) tbok rfl rfl rfl rfl rfl rfl rfl ?_
 refine yM ?_
 refine yC (hA) bd91 [(17000, 0), (17001, 0), (17002, 0), (17003, 0)] [] ?_ (hargs := (.clo rfl (.cons rfl rfl .nil))) (hfit := (.whole rfl (trC_ren rfl rfl rfl rfl) (trC_ok rfl rfl (by decide)) (by intro h; rfl) (.clo rfl (gd_clo _ _ _) (by intro h; exact h) (.whole rfl rfl (OkL.all rfl) (by intro h; exact h) (.flat rfl (flatM flat_vi) (by intro h; exact h) .nil))))) (hnew := (.keep rfl (.chg rfl rfl (clo_map_ren (gd_clo _ _ _)) (OkL.clo (gd_clo _ _ _)) (.chg (cells := [.iface 213 (.agg #[]), .slice (some ⟨17003, 0, none⟩) 200 0, vi .i64 _, vi .i64 _, vi .i64 _]) rfl rfl rfl (OkL.all rfl) (.chg rfl rfl (flat_map_ren (flatM flat_vi)) (OkL.flat (flatM flat_vi)) .nil))))) (hrv := (.clo rfl .nil))
 refine AWo.buildSliceG tbok 1036000 [(0, .agg #[vi .i64 0, .slice none 0 0])] (out := [vi .i64 0, .slice none 0 0]) rfl rfl rfl rfl rfl (by decide) rfl rfl rfl rfl rfl ?_
 refine AWo.append tbok (all := [vi .i64 0, .slice none 0 0]) (news := [vi .i64 0, .slice none 0 0]) 1037000 rfl rfl rfl rfl rfl rfl (of_decide_eq_true rfl) (by decide) rfl rfl rfl (by decide) rfl rfl rfl (by decide) (by decide) rfl rfl rfl rfl ?_
 refine yA ?_
 refine zN (zL (zT (zR ?_)))
 refine yP (pAdd (b := 1)) ?_
 refine yM ?_
 refine zN (zT ?_)
 refine roundsA_succ ?_
 refine zS ?_
 refine yP pLt ?_
 refine zN (zQ (zC (zK (zT (zQ (zB (zS ?_)))))))
 refine yP (PureOp.idx tbok rfl rfl rfl rfl (by decide)) ?_
 refine AWo.loadAgg tbok (o := 4) (vs := [vi .i64 2, .int .i64 0, vi .i64 1, .slice none 0 0]) rfl rfl rfl rfl (Nat.le_of_ble_eq_true rfl) rfl rfl rfl ?_
 refine yN 2011000 1 _ ?_
 refine AWo.storeAllN (vs := [vi .i64 2, .int .i64 0, vi .i64 1, .slice none 0 0]) tbok rfl rfl rfl rfl rfl rfl rfl rfl ?_
 refine zN (zR ?_)
 refine yM ?_
 refine AWo.loadAll (cells := [vi .i64 2, .int .i64 0, vi .i64 1, .slice none 0 0]) tbok rfl rfl rfl rfl rfl rfl rfl ?_
 refine yM ?_
 refine yC (hC) bd91 [(17000, 0), (17001, 0), (17002, 0), (17003, 0)] [] ?_ (hargs := (.clo rfl (.cons rfl rfl .nil))) (hfit := (.whole rfl (trC_ren rfl rfl rfl rfl) (trC_ok rfl rfl (by decide)) (by intro h; rfl) (.clo rfl (gd_clo _ _ _) (by intro h; exact h) (.whole rfl rfl (OkL.all rfl) (by intro h; exact h) (.flat rfl (flatM flat_vi) (by intro h; exact h) .nil))))) (hnew := (.keep rfl (.chg rfl rfl (clo_map_ren (gd_clo _ _ _)) (OkL.clo (gd_clo _ _ _)) (.chg (cells := [.iface 213 (.agg #[]), .slice (some ⟨17003, 0, none⟩) 200 0, vi .i64 _, vi .i64 _, vi .i64 _]) rfl rfl rfl (OkL.all rfl) (.chg rfl rfl (flat_map_ren (flatM flat_vi)) (OkL.flat (flatM flat_vi)) .nil))))) (hrv := (.clo rfl .nil))
 refine AWo.buildSliceG tbok 2036000 [(0, .agg #[vi .i64 0, db dr])] (out := [vi .i64 0, db dr]) rfl rfl rfl rfl rfl (by decide) rfl rfl rfl rfl rfl ?_
 refine AWo.append tbok (all := [vi .i64 0, .slice none 0 0, vi .i64 0, db dr]) (news := [vi .i64 0, db dr]) 2037000 rfl rfl rfl rfl rfl rfl (of_decide_eq_true rfl) (by decide) rfl rfl rfl (by decide) rfl rfl rfl (by decide) (by decide) rfl rfl rfl rfl ?_
 refine yA ?_
 refine zN (zL (zT (zR ?_)))
 refine yP (pAdd (b := 1)) ?_
 refine yM ?_
 refine zN (zT ?_)
 refine roundsA_succ ?_
 refine zS ?_
 refine yP pLt ?_
 refine zN (zQ (zC (zK (zT (zQ (zB (zS ?_)))))))
 refine yP (PureOp.idx tbok rfl rfl rfl rfl (by decide)) ?_
 refine AWo.loadAgg tbok (o := 8) (vs := [vi .i64 4, .int .i64 0, .int .i64 0, .slice none 0 0]) rfl rfl rfl rfl (Nat.le_of_ble_eq_true rfl) rfl rfl rfl ?_
 refine yN 3011000 1 _ ?_
 refine AWo.storeAllN (vs := [vi .i64 4, .int .i64 0, .int .i64 0, .slice none 0 0]) tbok rfl rfl rfl rfl rfl rfl rfl rfl ?_
 refine zN (zR ?_)
 refine yM ?_
 refine AWo.loadAll (cells := [vi .i64 4, .int .i64 0, .int .i64 0, .slice none 0 0]) tbok rfl rfl rfl rfl rfl rfl rfl ?_
 refine yM ?_
 refine yC (hF) bd91 [(17000, 0), (17001, 0), (17002, 0), (17003, 0)] [] ?_ (hargs := (.clo rfl (.cons rfl rfl .nil))) (hfit := (.whole rfl (trC_ren rfl rfl rfl rfl) (trC_ok rfl rfl (by decide)) (by intro h; rfl) (.clo rfl (gd_clo _ _ _) (by intro h; exact h) (.whole rfl rfl (OkL.all rfl) (by intro h; rfl) (.flat rfl (flatM flat_vi) (by intro h; rfl) .nil))))) (hnew := (.keep rfl (.chg rfl rfl (clo_map_ren (gd_clo _ _ _)) (OkL.clo (gd_clo _ _ _)) (.keep rfl (.keep rfl .nil))))) (hrv := (.clo rfl .nil))
 refine AWo.buildSliceG tbok 3036000 [(0, .agg #[vi .i64 0, .slice none 0 0])] (out := [vi .i64 0, .slice none 0 0]) rfl rfl rfl rfl rfl (by decide) rfl rfl rfl rfl rfl ?_
 refine AWo.append tbok (all := [vi .i64 0, .slice none 0 0, vi .i64 0, db dr, vi .i64 0, .slice none 0 0]) (news := [vi .i64 0, .slice none 0 0]) 3037000 rfl rfl rfl rfl rfl rfl (of_decide_eq_true rfl) (by decide) rfl rfl rfl (by decide) rfl rfl rfl (by decide) (by decide) rfl rfl rfl rfl ?_
 refine yA ?_
 refine zN (zL (zT (zR ?_)))
 refine yP (pAdd (b := 1)) ?_
 refine yM ?_
 refine zN (zT ?_)
 refine roundsA_succ ?_
 refine zS ?_
 refine yP pLt ?_
 refine zN (zQ (zF (zX (zV (zV (zH (zT (zS ?_))))))))
 refine yM ?_
 refine yA ?_
 refine yA ?_
 refine yA ?_
 refine zN (zE ?_)
 exact rq [3037000] [.tmp 2, .tmp 3, .tmp 4] (hb := (OutL.clo rfl (calls_clo _) (by intro h; exact h.elim id fun h => absurd h.1 (by simp)) (OutL.clo rfl (ans_clo _) (by intro h; rfl) trivial)))
end Go.Proofs.YtlfadlfjjkppfaaGreatDoor
