/- What the proof stands on, part 5: the walk of each function, and plain laws of numbers. -/
import Derived.Test.YteeifahhejangaaK4
namespace Go.Proofs.Yteeifahhejangaa
open Go Sim
theorem degreep_ctr {xs : List Fp} {n : Nat} (hn : xs.length = n) (hx : n < 1000000) : GC Try.prog 36 [.slice (some ⟨0, 0, none⟩) n 0] [⟨((xs.map fe).flatten).map (vi .u64), false, 4⟩] [vp (Po.dg xs)] [⟨((xs.map fe).flatten).map (vi .u64), false, 4⟩] := by
  subst hn
  rw [← hiN_dg]
  exact degree_ctr (Nat.le_refl _) (by omega)
theorem dg_sum {xs ys : List Fp} (hx : 0 < Po.dg xs) (hy : 0 < Po.dg ys) : Po.dg (Po.pm xs ys) + 1 = Po.dg xs + Po.dg ys := by
  obtain ⟨m, hm⟩ : ∃ m, Po.dg xs = m + 1 := ⟨Po.dg xs - 1, by omega⟩
  obtain ⟨l, hl⟩ : ∃ l, Po.dg ys = l + 1 := ⟨Po.dg ys - 1, by omega⟩
  have := Po.dg_pm Fp_dom hm hl
  omega
theorem thr_vals {xs : List Fp} {n : Nat} (hxl : xs.length = n) (hn : n < 1000000) : thr ((List.range n).map (fun k => Po.ev (fp k) xs)) = Po.tr xs := by
  refine thr_uniq (by rw [List.length_map, List.length_range]; exact hn) (by rw [List.length_map, List.length_range]; omega) fun m hm => ?_
  rw [List.length_map, List.length_range] at hm
  unfold Po.co
  rw [List.getD_eq_getElem?_getD, List.getElem?_map, List.getElem?_range hm]; rfl
theorem PureOp.vpAdd {P : Program} {E : Env} {t t' : TypeId} {x y : Operand} {a b d : Nat} (h1 : aev E x = some (vp a)) (h2 : aev E y = some (vp b)) (h : d + 1 = a + b) (hb : a + b < 1000000) : PureOp P (.binOp .add t x y t') E (vp d) :=
  PureOp.bin h1 h2 (by simp only [evalBin, vp]; rw [IntWalk.i64_in _ (by omega)]; congr 2; omega)
theorem plaws_ctr {Ls Ks : List (List Nat)} {c : List Nat} (hB : ∀ b ∈ Ls, bd 256 b) (hL : Ls.length ≤ 9223372036854775807) (hB2 : ∀ b ∈ Ks, bd 256 b) (hK : Ks.length ≤ 9223372036854775807) (hc : bd 256 c) : GC Try.prog 6 [.slice (some ⟨0, 0, none⟩) Ls.length 0, .slice (some ⟨1, 0, none⟩) Ks.length 0, .slice (some ⟨2, 0, none⟩) c.length 0] [⟨Ls.map (db), false, 1⟩, ⟨Ks.map (db), false, 1⟩, ⟨c.map (vi .u8), false, 1⟩] [.bool true] [⟨Ls.map (db), false, 1⟩, ⟨Ks.map (db), false, 1⟩, ⟨c.map (vi .u8), false, 1⟩] := by
  refine GC.intro Try.func6 rfl (by show 3 ≤ 136; decide) (by first | exact Nat.le_refl _ | decide | simp) ?_
  refine AW.seqR ?_
  refine AWo.pure (PureOp.assign rfl) rfl rfl ?_
  refine AWo.nil trivial ?_
  refine AW.seq ?_
  refine AW.seqR ?_
  refine AWo.callX (speaks22_ctr) bd23 [] [] rfl .nil rfl .nil .nil rfl .nil frN (by decide) (.cons rfl rfl .nil) rfl rfl rfl rfl ?_
  refine AWo.pure (PureOp.not rfl) rfl rfl ?_
  refine AWo.pure (PureOp.move rfl) rfl rfl ?_
  refine AWo.pure (PureOp.move rfl) rfl rfl ?_
  refine AWo.callX (few22_ctr (Ls := Ls) (most := 8) hL (by decide)) bd28 [(0, 0)] [] rfl (.cons rfl (.cons rfl .nil)) rfl (.cons rfl rfl (.cons rfl rfl .nil)) (.clo rfl (cloM fun _ => rfl) (by intro h; first | exact h | rfl) .nil) rfl (.keep rfl .nil) frN (by decide) (.cons rfl rfl .nil) rfl rfl rfl rfl ?_
  first | refine AWo.pureB (PureOp.not rfl) rfl rfl (fun hb0 => ?_) (fun hb0 => ?_)
  ·
    refine AWo.pure (PureOp.pickF rfl rfl) rfl rfl ?_
    refine AWo.pure (PureOp.move rfl) rfl rfl ?_
    refine AWo.skipped rfl rfl ?_
    refine AWo.skipped rfl rfl ?_
    refine AWo.skipped rfl rfl ?_
    refine AWo.pure (PureOp.pickT rfl rfl) rfl rfl ?_
    refine AWo.pure (PureOp.move rfl) rfl rfl ?_
    refine AWo.skipped rfl rfl ?_
    refine AWo.skipped rfl rfl ?_
    refine AWo.skipped rfl rfl ?_
    refine AWo.pure (PureOp.pickT rfl rfl) rfl rfl ?_
    refine AWo.nil trivial ?_
    refine AW.condT rfl ?_
    refine AW.seqR ?_
    refine AWo.callX (speaks22_ctr) bd23 [] [] rfl .nil rfl .nil .nil rfl .nil frN (by decide) (.cons rfl rfl .nil) rfl rfl rfl rfl ?_
    refine AWo.pure (PureOp.assign rfl) rfl rfl ?_
    refine AWo.nil trivial ?_
    refine AW.ret ?_
    refine thenA_ret ?_
    refine RetQ.gc [_] [] [.tmp 6] (.inl rfl) rfl (.tmp rfl .nil) rfl (.cons rfl rfl .nil) (OutL.clo rfl (cloM fun _ => rfl) (by intro h; exact h.elim id fun h => absurd h.1 (by simp)) (OutL.clo rfl (cloM fun _ => rfl) (by intro h; exact h.elim id fun h => absurd h.1 (by simp)) (OutL.flat rfl (flatM flat_vi) (by intro h; exact h.elim id fun h => absurd h.1 (by simp)) trivial))) (by decide) rfl
  ·
    obtain ⟨hS, hLn⟩ := fewB_get (by simpa using hb0)
    refine AWo.pure (PureOp.pickF rfl rfl) rfl rfl ?_
    refine AWo.pure (PureOp.move rfl) rfl rfl ?_
    refine AWo.pure (PureOp.move rfl) rfl rfl ?_
    refine AWo.callX (few22_ctr (Ls := Ks) (most := 8) hK (by decide)) bd28 [(1, 0)] [] rfl (.cons rfl (.cons rfl .nil)) rfl (.cons rfl rfl (.cons rfl rfl .nil)) (.clo rfl (cloM fun _ => rfl) (by intro h; first | exact h | rfl) .nil) rfl (.keep rfl .nil) frN (by decide) (.cons rfl rfl .nil) rfl rfl rfl rfl ?_
    first | refine AWo.pureB (PureOp.not rfl) rfl rfl (fun hb1 => ?_) (fun hb1 => ?_)
    ·
      refine AWo.pure (PureOp.pickF rfl rfl) rfl rfl ?_
      refine AWo.pure (PureOp.move rfl) rfl rfl ?_
      refine AWo.skipped rfl rfl ?_
      refine AWo.skipped rfl rfl ?_
      refine AWo.skipped rfl rfl ?_
      refine AWo.pure (PureOp.pickT rfl rfl) rfl rfl ?_
      refine AWo.nil trivial ?_
      refine AW.condT rfl ?_
      refine AW.seqR ?_
      refine AWo.callX (speaks22_ctr) bd23 [] [] rfl .nil rfl .nil .nil rfl .nil frN (by decide) (.cons rfl rfl .nil) rfl rfl rfl rfl ?_
      refine AWo.pure (PureOp.assign rfl) rfl rfl ?_
      refine AWo.nil trivial ?_
      refine AW.ret ?_
      refine thenA_ret ?_
      refine RetQ.gc [_] [] [.tmp 6] (.inl rfl) rfl (.tmp rfl .nil) rfl (.cons rfl rfl .nil) (OutL.clo rfl (cloM fun _ => rfl) (by intro h; exact h.elim id fun h => absurd h.1 (by simp)) (OutL.clo rfl (cloM fun _ => rfl) (by intro h; exact h.elim id fun h => absurd h.1 (by simp)) (OutL.flat rfl (flatM flat_vi) (by intro h; exact h.elim id fun h => absurd h.1 (by simp)) trivial))) (by decide) rfl
    ·
      obtain ⟨hS2, hKn⟩ := fewB_get (by simpa using hb1)
      refine AWo.pure (PureOp.pickF rfl rfl) rfl rfl ?_
      refine AWo.pure (PureOp.move rfl) rfl rfl ?_
      refine AWo.pure (PureOp.move rfl) rfl rfl ?_
      first | refine AWo.pure (PureOp.lenS tbok rfl rfl) rfl rfl ?_ | refine AWo.pure (PureOp.lenD tbok rfl rfl) rfl rfl ?_
      first | refine AWo.pureB (PureOp.gtN (b := 40) rfl rfl) rfl rfl (fun hb2 => ?_) (fun hb2 => ?_) | refine AWo.pureB (PureOp.bin rfl rfl rfl) rfl rfl (fun hb2 => ?_) (fun hb2 => ?_)
      ·
        refine AWo.pure (PureOp.pickF rfl rfl) rfl rfl ?_
        refine AWo.nil trivial ?_
        refine AW.condT rfl ?_
        refine AW.seqR ?_
        refine AWo.callX (speaks22_ctr) bd23 [] [] rfl .nil rfl .nil .nil rfl .nil frN (by decide) (.cons rfl rfl .nil) rfl rfl rfl rfl ?_
        refine AWo.pure (PureOp.assign rfl) rfl rfl ?_
        refine AWo.nil trivial ?_
        refine AW.ret ?_
        refine thenA_ret ?_
        refine RetQ.gc [_] [] [.tmp 6] (.inl rfl) rfl (.tmp rfl .nil) rfl (.cons rfl rfl .nil) (OutL.clo rfl (cloM fun _ => rfl) (by intro h; exact h.elim id fun h => absurd h.1 (by simp)) (OutL.clo rfl (cloM fun _ => rfl) (by intro h; exact h.elim id fun h => absurd h.1 (by simp)) (OutL.flat rfl (flatM flat_vi) (by intro h; exact h.elim id fun h => absurd h.1 (by simp)) trivial))) (by decide) rfl
      ·
        have hcl : c.length ≤ 40 := by simpa using hb2
        refine AWo.pure (PureOp.pickF rfl rfl) rfl rfl ?_
        refine AWo.nil trivial ?_
        refine AW.condF rfl ?_
        refine AW.skip ?_
        refine thenA_normal ?_
        refine AW.seqR ?_
        refine AWo.pure (PureOp.move rfl) rfl rfl ?_
        refine AWo.callX (of22_ctr (Ls := Ls) hB hS (by omega)) bd29 [(0, 0)] [39000, 39001] rfl (.cons rfl .nil) rfl (.cons rfl rfl .nil) (.clo rfl (cloM fun _ => rfl) (by intro h; first | exact h | rfl) .nil) rfl (.keep rfl (.new (flat_map_ren (flatM flat_vi)) (OkL.flat (flatM flat_vi)) (.new (clo_map_ren (cloM fun _ => rfl)) (OkL.clo (cloM fun _ => rfl)) .nil))) (frC rfl (frC rfl frN)) (by decide) (.cons rfl rfl (.cons rfl rfl .nil)) rfl rfl rfl rfl ?_
        refine AWo.pure (PureOp.move rfl) rfl rfl ?_
        refine AWo.pure (PureOp.extract rfl rfl) rfl rfl ?_
        refine AWo.pure (PureOp.extract rfl rfl) rfl rfl ?_
        refine AWo.pure (PureOp.assign rfl) rfl rfl ?_
        refine AWo.pure (PureOp.assign rfl) rfl rfl ?_
        refine AWo.nil trivial ?_
        have hxl : (Ls.map nb).length = Ls.length := List.length_map ..
        generalize Ls.map nb = xs at hxl ⊢
        refine AW.seqR ?_
        refine AWo.pure (PureOp.move rfl) rfl rfl ?_
        refine AWo.callX (of22_ctr (Ls := Ks) hB2 hS2 (by omega)) bd29 [(1, 0)] [44000, 44001] rfl (.cons rfl .nil) rfl (.cons rfl rfl .nil) (.clo rfl (cloM fun _ => rfl) (by intro h; first | exact h | rfl) .nil) rfl (.keep rfl (.new (flat_map_ren (flatM flat_vi)) (OkL.flat (flatM flat_vi)) (.new (clo_map_ren (cloM fun _ => rfl)) (OkL.clo (cloM fun _ => rfl)) .nil))) (frC rfl (frC rfl frN)) (by decide) (.cons rfl rfl (.cons rfl rfl .nil)) rfl rfl rfl rfl ?_
        refine AWo.pure (PureOp.move rfl) rfl rfl ?_
        refine AWo.pure (PureOp.extract rfl rfl) rfl rfl ?_
        refine AWo.pure (PureOp.extract rfl rfl) rfl rfl ?_
        refine AWo.pure (PureOp.assign rfl) rfl rfl ?_
        refine AWo.pure (PureOp.assign rfl) rfl rfl ?_
        refine AWo.nil trivial ?_
        have hyl : (Ks.map nb).length = Ks.length := List.length_map ..
        generalize Ks.map nb = ys at hyl ⊢
        refine AW.seqR ?_
        refine AWo.pure (PureOp.move rfl) rfl rfl ?_
        refine AWo.callX (fromwideF_ctr (b := c) hc (by omega)) bd30 [(2, 0)] [] rfl (.cons rfl .nil) rfl (.cons rfl rfl .nil) (.flat rfl (by first | exact flatM flat_vi | exact flatM flat_bool | (simp [flatV, flat_vi]; done)) (by intro h; first | exact h | rfl) .nil) rfl (.keep rfl .nil) frN (by decide) (.pure (by first | rfl | exact pure_aggM flat_vi | exact pure_aggM flat_bool) .nil) rfl rfl rfl rfl ?_
        refine AWo.alloc tbok 12000 1 _ rfl rfl rfl rfl rfl rfl ?_
        refine AWo.storeAllN tbok rfl rfl rfl rfl (by first | (simp [*]; done) | rfl) (by first | (simp [*]; done) | rfl) (by first | exact oneM (fun _ => rfl) _ | rfl | (simp; done)) rfl ?_
        refine AWo.nil trivial ?_
        refine AW.seq ?_
        have hla : (Po.tr (Po.pa xs ys)).length ≤ 8 := by rw [Po.tr_len]; have := Po.dg_le (Po.pa xs ys); rw [Po.pa_len] at this; exact Nat.le_trans this (Nat.max_le.2 ⟨by omega, by omega⟩)
        have hlm : (Po.tr (Po.pm xs ys)).length ≤ 16 := by rw [Po.tr_len]; have := Po.dg_le (Po.pm xs ys); have := Po.pm_len xs ys; omega
        have hll : (Po.tr xs).length ≤ 8 := by rw [Po.tr_len]; have := Po.dg_le xs; omega
        refine AW.seqD mixed ?_
        refine AWo.pure (PureOp.move rfl) rfl rfl ?_
        refine AWo.pure (PureOp.move rfl) rfl rfl ?_
        refine AWo.callX (addp_ctr (xs := xs) (ys := ys) (n := Ls.length) (k := Ks.length) hxl hyl (by omega) (by omega)) bd31 [(39000, 0), (44000, 0)] [51000] rfl (.cons rfl (.cons rfl .nil)) rfl (.cons rfl rfl (.cons rfl rfl .nil)) (.flat rfl (flatM flat_vi) (by intro h; first | exact h | rfl) (.flat rfl (flatM flat_vi) (by intro h; first | exact h | rfl) .nil)) rfl (.keep rfl (.keep rfl (.new (flat_map_ren (flatM flat_vi)) (OkL.flat (flatM flat_vi)) .nil))) (frC rfl frN) (by decide) (.cons rfl rfl .nil) rfl rfl rfl rfl ?_
        first | refine yLE ?_ | refine yLEi ?_
        refine AWo.callX (evalp_ctr (xs := (Po.tr (Po.pa xs ys))) (n := (Po.tr (Po.pa xs ys)).length) (x := (fp (num 256 c))) rfl (by omega)) bd32 [(51000, 0)] [] rfl (.cons rfl (.cons rfl .nil)) rfl (.cons rfl rfl (.pure (by first | rfl | exact pure_aggM flat_vi | exact pure_aggM flat_bool) .nil)) (.flat rfl (flatM flat_vi) (by intro h; first | exact h | rfl) .nil) rfl (.keep rfl .nil) frN (by decide) (.pure (by first | rfl | exact pure_aggM flat_vi | exact pure_aggM flat_bool) .nil) rfl rfl rfl rfl ?_
        refine AWo.pure (PureOp.move rfl) rfl rfl ?_
        first | refine yLE ?_ | refine yLEi ?_
        refine AWo.callX (evalp_ctr (xs := xs) (n := Ls.length) (x := (fp (num 256 c))) hxl (by omega)) bd32 [(39000, 0)] [] rfl (.cons rfl (.cons rfl .nil)) rfl (.cons rfl rfl (.pure (by first | rfl | exact pure_aggM flat_vi | exact pure_aggM flat_bool) .nil)) (.flat rfl (flatM flat_vi) (by intro h; first | exact h | rfl) .nil) rfl (.keep rfl .nil) frN (by decide) (.pure (by first | rfl | exact pure_aggM flat_vi | exact pure_aggM flat_bool) .nil) rfl rfl rfl rfl ?_
        refine AWo.pure (PureOp.move rfl) rfl rfl ?_
        first | refine yLE ?_ | refine yLEi ?_
        refine AWo.callX (evalp_ctr (xs := ys) (n := Ks.length) (x := (fp (num 256 c))) hyl (by omega)) bd32 [(44000, 0)] [] rfl (.cons rfl (.cons rfl .nil)) rfl (.cons rfl rfl (.pure (by first | rfl | exact pure_aggM flat_vi | exact pure_aggM flat_bool) .nil)) (.flat rfl (flatM flat_vi) (by intro h; first | exact h | rfl) .nil) rfl (.keep rfl .nil) frN (by decide) (.pure (by first | rfl | exact pure_aggM flat_vi | exact pure_aggM flat_bool) .nil) rfl rfl rfl rfl ?_
        refine AWo.callX (addF_ctr (x := Po.ev (fp (num 256 c)) xs) (y := Po.ev (fp (num 256 c)) ys)) bd33 [] [] rfl (.cons rfl (.cons rfl .nil)) rfl (.pure (by first | rfl | exact pure_aggM flat_vi | exact pure_aggM flat_bool) (.pure (by first | rfl | exact pure_aggM flat_vi | exact pure_aggM flat_bool) .nil)) .nil rfl .nil frN (by decide) (.pure (by first | rfl | exact pure_aggM flat_vi | exact pure_aggM flat_bool) .nil) rfl rfl rfl rfl ?_
        refine AWo.callX (v := .bool true) (equalF_ctr (x := Po.ev (fp (num 256 c)) (Po.tr (Po.pa xs ys))) (y := Po.ev (fp (num 256 c)) xs + Po.ev (fp (num 256 c)) ys)) bd19 [] [] rfl (.cons rfl (.cons rfl .nil)) rfl (.pure (by first | rfl | exact pure_aggM flat_vi | exact pure_aggM flat_bool) (.pure (by first | rfl | exact pure_aggM flat_vi | exact pure_aggM flat_bool) .nil)) .nil rfl .nil frN (by decide) (.cons rfl rfl .nil) (congrArg Value.bool (decide_eq_true (by rw [Po.ev_tr, Po.ev_pa]))) rfl rfl rfl ?_
        refine AWo.pure (PureOp.not rfl) rfl rfl ?_
        refine AWo.pure (PureOp.move rfl) rfl rfl ?_
        refine AWo.pure (PureOp.move rfl) rfl rfl ?_
        refine AWo.pure (PureOp.move rfl) rfl rfl ?_
        refine AWo.callX (mulp_ctr (xs := xs) (ys := ys) (n := Ls.length) (k := Ks.length) hxl hyl (by omega) (by omega)) bd34 [(39000, 0), (44000, 0)] [66000] rfl (.cons rfl (.cons rfl .nil)) rfl (.cons rfl rfl (.cons rfl rfl .nil)) (.flat rfl (flatM flat_vi) (by intro h; first | exact h | rfl) (.flat rfl (flatM flat_vi) (by intro h; first | exact h | rfl) .nil)) rfl (.keep rfl (.keep rfl (.new (flat_map_ren (flatM flat_vi)) (OkL.flat (flatM flat_vi)) .nil))) (frC rfl frN) (by decide) (.cons rfl rfl .nil) rfl rfl rfl rfl ?_
        first | refine yLE ?_ | refine yLEi ?_
        refine AWo.callX (evalp_ctr (xs := (Po.tr (Po.pm xs ys))) (n := (Po.tr (Po.pm xs ys)).length) (x := (fp (num 256 c))) rfl (by omega)) bd32 [(66000, 0)] [] rfl (.cons rfl (.cons rfl .nil)) rfl (.cons rfl rfl (.pure (by first | rfl | exact pure_aggM flat_vi | exact pure_aggM flat_bool) .nil)) (.flat rfl (flatM flat_vi) (by intro h; first | exact h | rfl) .nil) rfl (.keep rfl .nil) frN (by decide) (.pure (by first | rfl | exact pure_aggM flat_vi | exact pure_aggM flat_bool) .nil) rfl rfl rfl rfl ?_
        refine AWo.pure (PureOp.move rfl) rfl rfl ?_
        first | refine yLE ?_ | refine yLEi ?_
        refine AWo.callX (evalp_ctr (xs := xs) (n := Ls.length) (x := (fp (num 256 c))) hxl (by omega)) bd32 [(39000, 0)] [] rfl (.cons rfl (.cons rfl .nil)) rfl (.cons rfl rfl (.pure (by first | rfl | exact pure_aggM flat_vi | exact pure_aggM flat_bool) .nil)) (.flat rfl (flatM flat_vi) (by intro h; first | exact h | rfl) .nil) rfl (.keep rfl .nil) frN (by decide) (.pure (by first | rfl | exact pure_aggM flat_vi | exact pure_aggM flat_bool) .nil) rfl rfl rfl rfl ?_
        refine AWo.pure (PureOp.move rfl) rfl rfl ?_
        first | refine yLE ?_ | refine yLEi ?_
        refine AWo.callX (evalp_ctr (xs := ys) (n := Ks.length) (x := (fp (num 256 c))) hyl (by omega)) bd32 [(44000, 0)] [] rfl (.cons rfl (.cons rfl .nil)) rfl (.cons rfl rfl (.pure (by first | rfl | exact pure_aggM flat_vi | exact pure_aggM flat_bool) .nil)) (.flat rfl (flatM flat_vi) (by intro h; first | exact h | rfl) .nil) rfl (.keep rfl .nil) frN (by decide) (.pure (by first | rfl | exact pure_aggM flat_vi | exact pure_aggM flat_bool) .nil) rfl rfl rfl rfl ?_
        refine AWo.callX (mulF_ctr (x := Po.ev (fp (num 256 c)) xs) (y := Po.ev (fp (num 256 c)) ys)) bd35 [] [] rfl (.cons rfl (.cons rfl .nil)) rfl (.pure (by first | rfl | exact pure_aggM flat_vi | exact pure_aggM flat_bool) (.pure (by first | rfl | exact pure_aggM flat_vi | exact pure_aggM flat_bool) .nil)) .nil rfl .nil frN (by decide) (.pure (by first | rfl | exact pure_aggM flat_vi | exact pure_aggM flat_bool) .nil) rfl rfl rfl rfl ?_
        refine AWo.callX (v := .bool true) (equalF_ctr (x := Po.ev (fp (num 256 c)) (Po.tr (Po.pm xs ys))) (y := Po.ev (fp (num 256 c)) xs * Po.ev (fp (num 256 c)) ys)) bd19 [] [] rfl (.cons rfl (.cons rfl .nil)) rfl (.pure (by first | rfl | exact pure_aggM flat_vi | exact pure_aggM flat_bool) (.pure (by first | rfl | exact pure_aggM flat_vi | exact pure_aggM flat_bool) .nil)) .nil rfl .nil frN (by decide) (.cons rfl rfl .nil) (congrArg Value.bool (decide_eq_true (by rw [Po.ev_tr, Po.ev_pm]))) rfl rfl rfl ?_
        refine AWo.pure (PureOp.not rfl) rfl rfl ?_
        refine AWo.pure (PureOp.pickF rfl rfl) rfl rfl ?_
        refine AWo.nil (by kernel_rfl) ?_
        refine AW.condF rfl ?_
        refine AW.skip ?_
        refine thenA_normal ?_
        refine AW.seqR ?_
        refine AWo.pure (PureOp.assign rfl) rfl rfl ?_
        refine AWo.nil trivial ?_
        refine AW.seq ?_
        refine AW.seqR ?_
        refine AWo.pure (PureOp.move rfl) rfl rfl ?_
        refine AWo.callX (degreep_ctr (xs := xs) (n := Ls.length) hxl (by omega)) bd36 [(39000, 0)] [] rfl (.cons rfl .nil) rfl (.cons rfl rfl .nil) (.flat rfl (flatM flat_vi) (by intro h; first | exact h | rfl) .nil) rfl (.keep rfl .nil) frN (by decide) (.cons rfl rfl .nil) rfl rfl rfl rfl ?_
        refine yP (PureOp.geP (r := Po.dg xs) rfl rfl) ?_
        first | refine AWo.pureB (PureOp.move rfl) rfl rfl (fun hb3 => ?_) (fun hb3 => ?_)
        ·
          have hdx : 0 < Po.dg xs := of_decide_eq_true hb3
          refine AWo.pure (PureOp.move rfl) rfl rfl ?_
          refine AWo.callX (degreep_ctr (xs := ys) (n := Ks.length) hyl (by omega)) bd36 [(44000, 0)] [] rfl (.cons rfl .nil) rfl (.cons rfl rfl .nil) (.flat rfl (flatM flat_vi) (by intro h; first | exact h | rfl) .nil) rfl (.keep rfl .nil) frN (by decide) (.cons rfl rfl .nil) rfl rfl rfl rfl ?_
          refine yP (PureOp.geP (r := Po.dg ys) rfl rfl) ?_
          refine AWo.pure (PureOp.pickT rfl rfl) rfl rfl ?_
          refine AWo.nil trivial ?_
          refine AW.joinT (fun σ => ∃ dd, (dd = Po.dg (Po.pm xs ys)) ∧ σ = ⟨(upd (upd (upd emp 7 (.slice (some ⟨39000, 0, none⟩) Ls.length 0)) 9 (.slice (some ⟨44000, 0, none⟩) Ks.length 0)) 12 (vp dd)), (upd (upd (upd (upd (upd emp 0 ⟨Ls.map db, false, 1⟩) 1 ⟨Ks.map db, false, 1⟩) 2 ⟨c.map (vi .u8), false, 1⟩) 39000 ⟨((xs.map fe).flatten).map (vi .u64), true, 4⟩) 44000 ⟨((ys.map fe).flatten).map (vi .u64), true, 4⟩)⟩) ?_ ?_
          ·
            refine AW.cond rfl (fun hb4 => ?_) (fun hb4 => ?_)
            ·
              have hsum : Po.dg (Po.pm xs ys) + 1 = Po.dg xs + Po.dg ys := dg_sum hdx (of_decide_eq_true hb4)
              refine AW.region ?_
              refine AWo.pure (PureOp.move rfl) rfl rfl ?_
              refine AWo.callX (degreep_ctr (xs := xs) (n := Ls.length) hxl (by omega)) bd36 [(39000, 0)] [] rfl (.cons rfl .nil) rfl (.cons rfl rfl .nil) (.flat rfl (flatM flat_vi) (by intro h; first | exact h | rfl) .nil) rfl (.keep rfl .nil) frN (by decide) (.cons rfl rfl .nil) rfl rfl rfl rfl ?_
              refine AWo.pure (PureOp.move rfl) rfl rfl ?_
              refine AWo.callX (degreep_ctr (xs := ys) (n := Ks.length) hyl (by omega)) bd36 [(44000, 0)] [] rfl (.cons rfl .nil) rfl (.cons rfl rfl .nil) (.flat rfl (flatM flat_vi) (by intro h; first | exact h | rfl) .nil) rfl (.keep rfl .nil) frN (by decide) (.cons rfl rfl .nil) rfl rfl rfl rfl ?_
              refine yP (PureOp.vpAdd (a := Po.dg xs) (b := Po.dg ys) (d := Po.dg (Po.pm xs ys)) rfl rfl hsum (by have := Po.dg_le xs; have := Po.dg_le ys; omega)) ?_
              refine AWo.pure (PureOp.assign rfl) rfl rfl ?_
              refine AWo.nil trivial ?_
              refine thenA_normal ?_
              refine ⟨[], _, ?_, ⟨Po.dg (Po.pm xs ys), rfl, rfl⟩⟩
              refine Wk.of [0, 1, 2, 39000, 44000] ?_ ?_ ?_ (by decide) rfl
              ·
                refine WkE.upd rfl (by first | exact VR.flat _ rfl | exact VR.eqv (by rw [hz0]; rfl) rfl) ?_
                refine WkE.upd rfl (.slice (44000) 0 _ 0 ⟨_, rfl⟩ (by simp) (by simp)) ?_
                refine WkE.upd rfl (.slice (39000) 0 _ 0 ⟨_, rfl⟩ (by simp) (by simp)) ?_
                exact WkE.emp
              ·
                refine WkM.flat rfl (flatM flat_vi) (fun h => h) ?_
                refine WkM.flat rfl (flatM flat_vi) (fun h => h) ?_
                refine WkM.flat rfl (flatM flat_vi) (fun h => h) ?_
                refine WkM.cloM rfl rfl (fun _ => rfl) (fun h => h) ?_
                refine WkM.cloM rfl rfl (fun _ => rfl) (fun h => h) ?_
                exact WkM.emp
              ·
                repeat (refine dom_upd_mem (by decide) ?_)
                exact dom_emp
            ·
              have hz0 : Po.dg (Po.pm xs ys) = 0 := Nat.le_zero.1 (dg_bound fun i _ => Po.pm_zeroR xs (Po.dg_zero (by have := of_decide_eq_false hb4; omega)) i)
              refine AW.skip ?_
              refine thenA_normal ?_
              refine ⟨[], _, ?_, ⟨Po.dg (Po.pm xs ys), rfl, rfl⟩⟩
              refine Wk.of [0, 1, 2, 39000, 44000] ?_ ?_ ?_ (by decide) rfl
              ·
                refine WkE.upd rfl (by first | exact VR.flat _ rfl | exact VR.eqv (by rw [hz0]; rfl) rfl) ?_
                refine WkE.upd rfl (.slice (44000) 0 _ 0 ⟨_, rfl⟩ (by simp) (by simp)) ?_
                refine WkE.upd rfl (.slice (39000) 0 _ 0 ⟨_, rfl⟩ (by simp) (by simp)) ?_
                exact WkE.emp
              ·
                refine WkM.flat rfl (flatM flat_vi) (fun h => h) ?_
                refine WkM.flat rfl (flatM flat_vi) (fun h => h) ?_
                refine WkM.flat rfl (flatM flat_vi) (fun h => h) ?_
                refine WkM.cloM rfl rfl (fun _ => rfl) (fun h => h) ?_
                refine WkM.cloM rfl rfl (fun _ => rfl) (fun h => h) ?_
                exact WkM.emp
              ·
                repeat (refine dom_upd_mem (by decide) ?_)
                exact dom_emp
          ·
            rintro σ ⟨dd, hdd, rfl⟩
            subst hdd
            refine AW.seq ?_
            refine AW.seqR ?_
            refine AWo.pure (PureOp.move rfl) rfl rfl ?_
            refine AWo.pure (PureOp.move rfl) rfl rfl ?_
            refine AWo.callX (mulp_ctr (xs := xs) (ys := ys) (n := Ls.length) (k := Ks.length) hxl hyl (by omega) (by omega)) bd34 [(39000, 0), (44000, 0)] [94000] rfl (.cons rfl (.cons rfl .nil)) rfl (.cons rfl rfl (.cons rfl rfl .nil)) (.flat rfl (flatM flat_vi) (by intro h; first | exact h | rfl) (.flat rfl (flatM flat_vi) (by intro h; first | exact h | rfl) .nil)) rfl (.keep rfl (.keep rfl (.new (flat_map_ren (flatM flat_vi)) (OkL.flat (flatM flat_vi)) .nil))) (frC rfl frN) (by decide) (.cons rfl rfl .nil) rfl rfl rfl rfl ?_
            refine AWo.callX (v := vp (Po.dg (Po.pm xs ys))) (degreep_ctr (xs := (Po.tr (Po.pm xs ys))) (n := (Po.tr (Po.pm xs ys)).length) rfl (by omega)) bd36 [(94000, 0)] [] rfl (.cons rfl .nil) rfl (.cons rfl rfl .nil) (.flat rfl (flatM flat_vi) (by intro h; first | exact h | rfl) .nil) rfl (.keep rfl .nil) frN (by decide) (.cons rfl rfl .nil) (by rw [Po.dg_tr]; rfl) rfl rfl rfl ?_
            refine AWo.pure (PureOp.move rfl) rfl rfl ?_
            first | refine AWo.pure ((PureOp.neN rfl rfl).mono (v' := .bool false) (congrArg Value.bool (by simp))) rfl rfl ?_ | refine AWo.pure ((PureOp.bin rfl rfl rfl).mono (v' := .bool false) (congrArg Value.bool (by simp))) rfl rfl ?_
            refine AWo.nil trivial ?_
            refine AW.condF rfl ?_
            refine AW.skip ?_
            refine thenA_normal ?_
            refine AW.seqR ?_
            refine AWo.pure (PureOp.assign rfl) rfl rfl ?_
            refine AWo.nil trivial ?_
            refine AW.seq ?_
            refine AW.seqR ?_
            refine AWo.pure (PureOp.move rfl) rfl rfl ?_
            first | refine AWo.pure (PureOp.lenS tbok rfl rfl) rfl rfl ?_ | refine AWo.pure (PureOp.lenD tbok rfl rfl) rfl rfl ?_
            refine AWo.pure (PureOp.move rfl) rfl rfl ?_
            refine AWo.nil trivial ?_
            refine AW.block ?_
            refine AW.ghost 77000 4 rfl ?_
            refine AW.loopw (fun mm σ => ∃ i, (i ≤ Ls.length) ∧ mm = Ls.length - i ∧ σ = ⟨(upd (upd (upd (upd (upd emp 7 (.slice (some ⟨39000, 0, none⟩) Ls.length 0)) 13 (.slice (some ⟨77000, 0, none⟩) i 0)) 97 (.slice (some ⟨39000, 0, none⟩) Ls.length 0)) 98 (vi .i64 Ls.length)) 99 (vi .i64 i)), (upd (upd (upd (upd (upd emp 0 ⟨Ls.map db, false, 1⟩) 1 ⟨Ks.map db, false, 1⟩) 2 ⟨c.map (vi .u8), false, 1⟩) 39000 ⟨((xs.map fe).flatten).map (vi .u64), true, 4⟩) 77000 ⟨((((List.range i).map (fun k => Po.ev (fp k) xs)).map fe).flatten).map (vi .u64), true, 4⟩)⟩) (fm := []) ?_ ⟨0, Nat.zero_le _, rfl, rfl⟩ ?_
            ·
              refine Wk.of [0, 1, 2, 39000, 77000] ?_ ?_ ?_ (by decide) rfl
              ·
                refine WkE.upd rfl (by first | exact VR.flat _ rfl | exact VR.eqv (vp_succ _) rfl | exact VR.eqv (vp_succ _).symm rfl | exact VR.eqv (by first | rfl | (congr 1; omega) | (simp; done) | (simp; omega)) rfl) ?_
                refine WkE.upd rfl (by first | exact VR.flat _ rfl | exact VR.eqv (vp_succ _) rfl | exact VR.eqv (vp_succ _).symm rfl | exact VR.eqv (by first | rfl | (congr 1; omega) | (simp; done) | (simp; omega)) rfl) ?_
                refine WkE.upd rfl (.slice (39000) 0 _ 0 ⟨_, rfl⟩ (by simp) (by simp)) ?_
                refine WkE.upd rfl (by first | exact .nilS _ (by simp) | exact .slice (77000) 0 _ 0 ⟨_, rfl⟩ (by simp) (by simp)) ?_
                refine WkE.upd rfl (.slice (39000) 0 _ 0 ⟨_, rfl⟩ (by simp) (by simp)) ?_
                exact WkE.emp
              ·
                refine WkM.flat rfl (flatM flat_vi) (fun h => h) ?_
                refine WkM.flat rfl (flatM flat_vi) (fun h => h) ?_
                refine WkM.flat rfl (flatM flat_vi) (fun h => h) ?_
                refine WkM.cloM rfl rfl (fun _ => rfl) (fun h => h) ?_
                refine WkM.cloM rfl rfl (fun _ => rfl) (fun h => h) ?_
                exact WkM.emp
              ·
                repeat (refine dom_upd_mem (by decide) ?_)
                exact dom_emp
            ·
              rintro mm σ ⟨i, hinv, rfl, rfl⟩
              refine AW.seqR ?_
              first | refine AWo.pure (PureOp.ltN rfl rfl) rfl rfl ?_ | refine AWo.pure (PureOp.bin rfl rfl rfl) rfl rfl ?_
              refine AWo.nil trivial ?_
              refine AW.seq ?_
              refine AW.cond rfl (fun hb5 => ?_) (fun hb5 => ?_)
              ·
                have hi : i < Ls.length := by simpa using hb5
                refine AW.skip ?_
                refine thenA_normal ?_
                refine AW.seq ?_
                refine AW.block ?_
                refine AW.seqR ?_
                refine AWo.pure (PureOp.move rfl) rfl rfl ?_
                refine AWo.pure (PureOp.assign rfl) rfl rfl ?_
                refine AWo.nil trivial ?_
                refine AW.region ?_
                refine AWo.pure (PureOp.move rfl) rfl rfl ?_
                refine AWo.pure (PureOp.move rfl) rfl rfl ?_
                refine AWo.pure (PureOp.move rfl) rfl rfl ?_
                first | refine AWo.pure (PureOp.cvtN tbok 18446744073709551616 rfl rfl rfl (by decide) (by decide) (by first | decide | omega)) rfl rfl ?_ | refine AWo.pure (PureOp.cvtU tbok 18446744073709551616 rfl rfl rfl rfl rfl) rfl rfl ?_ | refine AWo.pure (PureOp.cvt tbok rfl rfl rfl) rfl rfl ?_
                refine AWo.callX (fromuF_ctr (v := i) (by omega)) bd37 [] [] rfl (.cons rfl .nil) rfl (.cons rfl rfl .nil) .nil rfl .nil frN (by decide) (.pure (by first | rfl | exact pure_aggM flat_vi | exact pure_aggM flat_bool) .nil) rfl rfl rfl rfl ?_
                refine AWo.callX (evalp_ctr (xs := xs) (n := Ls.length) (x := (fp i)) hxl (by omega)) bd32 [(39000, 0)] [] rfl (.cons rfl (.cons rfl .nil)) rfl (.cons rfl rfl (.pure (by first | rfl | exact pure_aggM flat_vi | exact pure_aggM flat_bool) .nil)) (.flat rfl (flatM flat_vi) (by intro h; first | exact h | rfl) .nil) rfl (.keep rfl .nil) frN (by decide) (.pure (by first | rfl | exact pure_aggM flat_vi | exact pure_aggM flat_bool) .nil) rfl rfl rfl rfl ?_
                refine AWo.buildSlice tbok 109000 [(0, .agg ((fe (Po.ev (fp i) xs)).map (vi .u64)).toArray)] (out := [fe (Po.ev (fp i) xs)].flatten.map (vi .u64)) rfl rfl (by decide) rfl rfl rfl (by decide) rfl (fillB1 (fe_len _)) rfl rfl rfl ?_
                refine AWo.append tbok (all := ((((List.range (i + 1)).map (fun k => Po.ev (fp k) xs)).map fe).flatten).map (vi .u64)) (news := [fe (Po.ev (fp i) xs)].flatten.map (vi .u64)) 110000 rfl rfl rfl rfl (by show (FF _).length = _; rw [FF_len, List.length_map, List.length_range]) (by show List.take _ (List.drop 0 _) = _; rw [List.drop_zero]; exact List.take_of_length_le (by simp)) (by simp; done) (by decide) rfl rfl rfl (by first | decide | exact Nat.one_ne_zero) rfl rfl rfl (by first | decide | omega) (by first | decide | omega) (by first | exact oneM (fun _ => rfl) _ | (simp; done)) (by show FF _ ++ FF [_] = FF _; rw [← FF_app, List.range_succ, List.map_append]; rfl) rfl rfl ?_
                refine AWo.pure (PureOp.assign rfl) rfl rfl ?_
                refine AWo.nil trivial ?_
                refine inBlockA_normal ?_
                refine thenA_normal ?_
                refine AW.region ?_
                first | refine AWo.pure (PureOp.addI (b := 1) rfl rfl (by first | decide | omega)) rfl rfl ?_ | refine AWo.pure (PureOp.bin rfl rfl rfl) rfl rfl ?_
                refine AWo.pure (PureOp.move rfl) rfl rfl ?_
                refine AWo.nil trivial ?_
                refine thenA_normal ?_
                refine ⟨Ls.length - (i + 1), [(77000, 110000)], _, by omega, ?_, i + 1, by omega, rfl, rfl⟩
                refine Wk.of [0, 1, 2, 39000, 77000] ?_ ?_ ?_ (by decide) rfl
                ·
                  refine WkE.upd rfl (by first | exact VR.flat _ rfl | exact VR.eqv (vp_succ _) rfl | exact VR.eqv (vp_succ _).symm rfl | exact VR.eqv (by first | rfl | (congr 1; omega) | (simp; done) | (simp; omega)) rfl) ?_
                  refine WkE.upd rfl (by first | exact VR.flat _ rfl | exact VR.eqv (vp_succ _) rfl | exact VR.eqv (vp_succ _).symm rfl | exact VR.eqv (by first | rfl | (congr 1; omega) | (simp; done) | (simp; omega)) rfl) ?_
                  refine WkE.upd rfl (.slice (39000) 0 _ 0 ⟨_, rfl⟩ (by simp) (by simp)) ?_
                  refine WkE.upd rfl (by first | exact .nilS _ (by simp) | exact .slice (77000) 0 _ 0 ⟨_, rfl⟩ (by simp) (by simp)) ?_
                  refine WkE.upd rfl (.slice (39000) 0 _ 0 ⟨_, rfl⟩ (by simp) (by simp)) ?_
                  exact WkE.emp
                ·
                  refine WkM.flat rfl (flatM flat_vi) (fun h => h) ?_
                  refine WkM.flat rfl (flatM flat_vi) (fun h => h) ?_
                  refine WkM.flat rfl (flatM flat_vi) (fun h => h) ?_
                  refine WkM.cloM rfl rfl (fun _ => rfl) (fun h => h) ?_
                  refine WkM.cloM rfl rfl (fun _ => rfl) (fun h => h) ?_
                  exact WkM.emp
                ·
                  repeat (refine dom_upd_mem (by decide) ?_)
                  exact dom_emp
              ·
                obtain rfl : i = Ls.length := by simp at hb5; omega
                refine AW.exit ?_
                refine thenA_exit ?_
                refine thenA_exit ?_
                refine inBlockA_hit ?_
                refine thenA_normal ?_
                refine AW.seqR ?_
                refine AWo.pure (PureOp.move rfl) rfl rfl ?_
                refine AWo.callX (thrp_ctr (vs := ((List.range Ls.length).map (fun k => Po.ev (fp k) xs))) (n := Ls.length) (by simp) (by omega)) bd38 [(77000, 0)] [113000] rfl (.cons rfl .nil) rfl (.cons rfl rfl .nil) (.flat rfl (flatM flat_vi) (by intro h; first | exact h | rfl) .nil) rfl (.keep rfl (.new (flat_map_ren (flatM flat_vi)) (OkL.flat (flatM flat_vi)) .nil)) (frC rfl frN) (by decide) (.cons rfl rfl .nil) rfl rfl rfl rfl ?_
                refine AWo.pure (PureOp.move rfl) rfl rfl ?_
                refine AWo.callX (trimp_ctr (xs := xs) (n := Ls.length) hxl (by omega)) bd39 [(39000, 0)] [115000] rfl (.cons rfl .nil) rfl (.cons rfl rfl .nil) (.flat rfl (flatM flat_vi) (by intro h; first | exact h | rfl) .nil) rfl (.keep rfl (.new (flat_map_ren (flatM flat_vi)) (OkL.flat (flatM flat_vi)) .nil)) (frC rfl frN) (by decide) (.cons rfl rfl .nil) rfl rfl rfl rfl ?_
                refine AWo.pure (PureOp.assign rfl) rfl rfl ?_
                refine AWo.pure (PureOp.assign rfl) rfl rfl ?_
                refine AWo.nil trivial ?_
                refine AW.seq ?_
                rw [thr_vals (n := Ls.length) hxl (by omega)]
                refine AW.seqR ?_
                refine AWo.pure (PureOp.move rfl) rfl rfl ?_
                first | refine AWo.pure (PureOp.lenS tbok rfl rfl) rfl rfl ?_ | refine AWo.pure (PureOp.lenD tbok rfl rfl) rfl rfl ?_
                refine AWo.pure (PureOp.move rfl) rfl rfl ?_
                first | refine AWo.pure (PureOp.lenS tbok rfl rfl) rfl rfl ?_ | refine AWo.pure (PureOp.lenD tbok rfl rfl) rfl rfl ?_
                first | refine AWo.pure ((PureOp.neN rfl rfl).mono (v' := .bool false) (congrArg Value.bool (by simp))) rfl rfl ?_ | refine AWo.pure ((PureOp.bin rfl rfl rfl).mono (v' := .bool false) (congrArg Value.bool (by simp))) rfl rfl ?_
                refine AWo.nil trivial ?_
                refine AW.condF rfl ?_
                refine AW.skip ?_
                refine thenA_normal ?_
                refine AW.seq ?_
                refine AW.seqR ?_
                refine AWo.pure (PureOp.move rfl) rfl rfl ?_
                first | refine AWo.pure (PureOp.lenS tbok rfl rfl) rfl rfl ?_ | refine AWo.pure (PureOp.lenD tbok rfl rfl) rfl rfl ?_
                refine AWo.pure (PureOp.move rfl) rfl rfl ?_
                refine AWo.nil trivial ?_
                refine AW.block ?_
                refine AW.loopw (fun mm σ => ∃ i, (i ≤ (Po.tr xs).length) ∧ mm = (Po.tr xs).length - i ∧ σ = ⟨(upd (upd (upd (upd emp 15 (.slice (some ⟨113000, 0, none⟩) (Po.tr xs).length 0)) 16 (.slice (some ⟨115000, 0, none⟩) (Po.tr xs).length 0)) 121 (vi .i64 (Po.tr xs).length)) 122 (vi .i64 i)), (upd (upd (upd (upd (upd (upd emp 0 ⟨Ls.map db, false, 1⟩) 1 ⟨Ks.map db, false, 1⟩) 2 ⟨c.map (vi .u8), false, 1⟩) 39000 ⟨((xs.map fe).flatten).map (vi .u64), true, 4⟩) 113000 ⟨(((Po.tr xs).map fe).flatten).map (vi .u64), true, 4⟩) 115000 ⟨(((Po.tr xs).map fe).flatten).map (vi .u64), true, 4⟩)⟩) (fm := []) ?_ ⟨0, Nat.zero_le _, rfl, rfl⟩ ?_
                ·
                  refine Wk.of [0, 1, 2, 39000, 113000, 115000] ?_ ?_ ?_ (by decide) rfl
                  ·
                    refine WkE.upd rfl (by first | exact VR.flat _ rfl | exact VR.eqv (vp_succ _) rfl | exact VR.eqv (vp_succ _).symm rfl | exact VR.eqv (by first | rfl | (congr 1; omega) | (simp; done) | (simp; omega)) rfl) ?_
                    refine WkE.upd rfl (by first | exact VR.flat _ rfl | exact VR.eqv (vp_succ _) rfl | exact VR.eqv (vp_succ _).symm rfl | exact VR.eqv (by first | rfl | (congr 1; omega) | (simp; done) | (simp; omega)) rfl) ?_
                    refine WkE.upd rfl (.slice (115000) 0 _ 0 ⟨_, rfl⟩ (by simp) (by simp)) ?_
                    refine WkE.upd rfl (.slice (113000) 0 _ 0 ⟨_, rfl⟩ (by simp) (by simp)) ?_
                    exact WkE.emp
                  ·
                    refine WkM.flat rfl (flatM flat_vi) (fun h => h) ?_
                    refine WkM.flat rfl (flatM flat_vi) (fun h => h) ?_
                    refine WkM.flat rfl (flatM flat_vi) (fun h => h) ?_
                    refine WkM.flat rfl (flatM flat_vi) (fun h => h) ?_
                    refine WkM.cloM rfl rfl (fun _ => rfl) (fun h => h) ?_
                    refine WkM.cloM rfl rfl (fun _ => rfl) (fun h => h) ?_
                    exact WkM.emp
                  ·
                    repeat (refine dom_upd_mem (by decide) ?_)
                    exact dom_emp
                ·
                  rintro mm σ ⟨i, hinv, rfl, rfl⟩
                  refine AW.seqR ?_
                  first | refine AWo.pure (PureOp.ltN rfl rfl) rfl rfl ?_ | refine AWo.pure (PureOp.bin rfl rfl rfl) rfl rfl ?_
                  refine AWo.nil trivial ?_
                  refine AW.seq ?_
                  refine AW.cond rfl (fun hb6 => ?_) (fun hb6 => ?_)
                  ·
                    have hi : i < (Po.tr xs).length := by simpa using hb6
                    refine AW.skip ?_
                    refine thenA_normal ?_
                    refine AW.seq ?_
                    refine AW.block ?_
                    refine AW.seqR ?_
                    refine AWo.pure (PureOp.move rfl) rfl rfl ?_
                    refine AWo.pure (PureOp.assign rfl) rfl rfl ?_
                    refine AWo.nil trivial ?_
                    refine AW.seqD mixed ?_
                    refine AWo.pure (PureOp.move rfl) rfl rfl ?_
                    refine AWo.pure (PureOp.move rfl) rfl rfl ?_
                    first | refine AWo.pure (PureOp.idx1 tbok rfl rfl rfl rfl (by first | decide | omega)) rfl rfl ?_ | refine AWo.pure (PureOp.idx tbok rfl rfl rfl rfl (by first | decide | omega)) rfl rfl ?_
                    refine yLJ (xs := Po.tr xs) i ?_
                    refine AWo.pure (PureOp.move rfl) rfl rfl ?_
                    refine AWo.pure (PureOp.move rfl) rfl rfl ?_
                    first | refine AWo.pure (PureOp.idx1 tbok rfl rfl rfl rfl (by first | decide | omega)) rfl rfl ?_ | refine AWo.pure (PureOp.idx tbok rfl rfl rfl rfl (by first | decide | omega)) rfl rfl ?_
                    refine yLJ (xs := Po.tr xs) i ?_
                    refine AWo.callX (v := .bool true) (equalF_ctr (x := (Po.tr xs).getD i 0) (y := (Po.tr xs).getD i 0)) bd19 [] [] rfl (.cons rfl (.cons rfl .nil)) rfl (.pure (by first | rfl | exact pure_aggM flat_vi | exact pure_aggM flat_bool) (.pure (by first | rfl | exact pure_aggM flat_vi | exact pure_aggM flat_bool) .nil)) .nil rfl .nil frN (by decide) (.cons rfl rfl .nil) (congrArg Value.bool (decide_eq_true (rfl))) rfl rfl rfl ?_
                    refine AWo.pure (PureOp.not rfl) rfl rfl ?_
                    refine AWo.nil (by kernel_rfl) ?_
                    refine AW.condF rfl ?_
                    refine AW.skip ?_
                    refine inBlockA_normal ?_
                    refine thenA_normal ?_
                    refine AW.region ?_
                    first | refine AWo.pure (PureOp.addI (b := 1) rfl rfl (by first | decide | omega)) rfl rfl ?_ | refine AWo.pure (PureOp.bin rfl rfl rfl) rfl rfl ?_
                    refine AWo.pure (PureOp.move rfl) rfl rfl ?_
                    refine AWo.nil trivial ?_
                    refine thenA_normal ?_
                    refine ⟨(Po.tr xs).length - (i + 1), [], _, by omega, ?_, i + 1, by omega, rfl, rfl⟩
                    refine Wk.of [0, 1, 2, 39000, 113000, 115000] ?_ ?_ ?_ (by decide) rfl
                    ·
                      refine WkE.upd rfl (by first | exact VR.flat _ rfl | exact VR.eqv (vp_succ _) rfl | exact VR.eqv (vp_succ _).symm rfl | exact VR.eqv (by first | rfl | (congr 1; omega) | (simp; done) | (simp; omega)) rfl) ?_
                      refine WkE.upd rfl (by first | exact VR.flat _ rfl | exact VR.eqv (vp_succ _) rfl | exact VR.eqv (vp_succ _).symm rfl | exact VR.eqv (by first | rfl | (congr 1; omega) | (simp; done) | (simp; omega)) rfl) ?_
                      refine WkE.upd rfl (.slice (115000) 0 _ 0 ⟨_, rfl⟩ (by simp) (by simp)) ?_
                      refine WkE.upd rfl (.slice (113000) 0 _ 0 ⟨_, rfl⟩ (by simp) (by simp)) ?_
                      exact WkE.emp
                    ·
                      refine WkM.flat rfl (flatM flat_vi) (fun h => h) ?_
                      refine WkM.flat rfl (flatM flat_vi) (fun h => h) ?_
                      refine WkM.flat rfl (flatM flat_vi) (fun h => h) ?_
                      refine WkM.flat rfl (flatM flat_vi) (fun h => h) ?_
                      refine WkM.cloM rfl rfl (fun _ => rfl) (fun h => h) ?_
                      refine WkM.cloM rfl rfl (fun _ => rfl) (fun h => h) ?_
                      exact WkM.emp
                    ·
                      repeat (refine dom_upd_mem (by decide) ?_)
                      exact dom_emp
                  ·
                    obtain rfl : i = (Po.tr xs).length := by simp at hb6; omega
                    refine AW.exit ?_
                    refine thenA_exit ?_
                    refine thenA_exit ?_
                    refine inBlockA_hit ?_
                    refine thenA_normal ?_
                    refine AW.seqR ?_
                    refine AWo.pure (PureOp.assign rfl) rfl rfl ?_
                    refine AWo.nil trivial ?_
                    refine AW.ret ?_
                    refine RetQ.gc [_] [] [.tmp 6] (.inl rfl) rfl (.tmp rfl .nil) rfl (.cons rfl rfl .nil) (OutL.clo rfl (cloM fun _ => rfl) (by intro h; exact h.elim id fun h => absurd h.1 (by simp)) (OutL.clo rfl (cloM fun _ => rfl) (by intro h; exact h.elim id fun h => absurd h.1 (by simp)) (OutL.flat rfl (flatM flat_vi) (by intro h; exact h.elim id fun h => absurd h.1 (by simp)) trivial))) (by decide) rfl
        ·
          have hz0 : Po.dg (Po.pm xs ys) = 0 := Nat.le_zero.1 (dg_bound fun i _ => Po.pm_zero ys (Po.dg_zero (by have := of_decide_eq_false hb3; omega)) i)
          refine AWo.skipped rfl rfl ?_
          refine AWo.skipped rfl rfl ?_
          refine AWo.skipped rfl rfl ?_
          refine AWo.pure (PureOp.pickF rfl rfl) rfl rfl ?_
          refine AWo.nil trivial ?_
          refine AW.joinT (fun σ => ∃ dd, (dd = Po.dg (Po.pm xs ys)) ∧ σ = ⟨(upd (upd (upd emp 7 (.slice (some ⟨39000, 0, none⟩) Ls.length 0)) 9 (.slice (some ⟨44000, 0, none⟩) Ks.length 0)) 12 (vp dd)), (upd (upd (upd (upd (upd emp 0 ⟨Ls.map db, false, 1⟩) 1 ⟨Ks.map db, false, 1⟩) 2 ⟨c.map (vi .u8), false, 1⟩) 39000 ⟨((xs.map fe).flatten).map (vi .u64), true, 4⟩) 44000 ⟨((ys.map fe).flatten).map (vi .u64), true, 4⟩)⟩) ?_ ?_
          ·
            refine AW.condF rfl ?_
            refine AW.skip ?_
            refine thenA_normal ?_
            refine ⟨[], _, ?_, ⟨Po.dg (Po.pm xs ys), rfl, rfl⟩⟩
            refine Wk.of [0, 1, 2, 39000, 44000] ?_ ?_ ?_ (by decide) rfl
            ·
              refine WkE.upd rfl (by first | exact VR.flat _ rfl | exact VR.eqv (by rw [hz0]; rfl) rfl) ?_
              refine WkE.upd rfl (.slice (44000) 0 _ 0 ⟨_, rfl⟩ (by simp) (by simp)) ?_
              refine WkE.upd rfl (.slice (39000) 0 _ 0 ⟨_, rfl⟩ (by simp) (by simp)) ?_
              exact WkE.emp
            ·
              refine WkM.flat rfl (flatM flat_vi) (fun h => h) ?_
              refine WkM.flat rfl (flatM flat_vi) (fun h => h) ?_
              refine WkM.flat rfl (flatM flat_vi) (fun h => h) ?_
              refine WkM.cloM rfl rfl (fun _ => rfl) (fun h => h) ?_
              refine WkM.cloM rfl rfl (fun _ => rfl) (fun h => h) ?_
              exact WkM.emp
            ·
              repeat (refine dom_upd_mem (by decide) ?_)
              exact dom_emp
          ·
            rintro σ ⟨dd, hdd, rfl⟩
            subst hdd
            refine AW.seq ?_
            refine AW.seqR ?_
            refine AWo.pure (PureOp.move rfl) rfl rfl ?_
            refine AWo.pure (PureOp.move rfl) rfl rfl ?_
            refine AWo.callX (mulp_ctr (xs := xs) (ys := ys) (n := Ls.length) (k := Ks.length) hxl hyl (by omega) (by omega)) bd34 [(39000, 0), (44000, 0)] [94000] rfl (.cons rfl (.cons rfl .nil)) rfl (.cons rfl rfl (.cons rfl rfl .nil)) (.flat rfl (flatM flat_vi) (by intro h; first | exact h | rfl) (.flat rfl (flatM flat_vi) (by intro h; first | exact h | rfl) .nil)) rfl (.keep rfl (.keep rfl (.new (flat_map_ren (flatM flat_vi)) (OkL.flat (flatM flat_vi)) .nil))) (frC rfl frN) (by decide) (.cons rfl rfl .nil) rfl rfl rfl rfl ?_
            refine AWo.callX (v := vp (Po.dg (Po.pm xs ys))) (degreep_ctr (xs := (Po.tr (Po.pm xs ys))) (n := (Po.tr (Po.pm xs ys)).length) rfl (by omega)) bd36 [(94000, 0)] [] rfl (.cons rfl .nil) rfl (.cons rfl rfl .nil) (.flat rfl (flatM flat_vi) (by intro h; first | exact h | rfl) .nil) rfl (.keep rfl .nil) frN (by decide) (.cons rfl rfl .nil) (by rw [Po.dg_tr]; rfl) rfl rfl rfl ?_
            refine AWo.pure (PureOp.move rfl) rfl rfl ?_
            first | refine AWo.pure ((PureOp.neN rfl rfl).mono (v' := .bool false) (congrArg Value.bool (by simp))) rfl rfl ?_ | refine AWo.pure ((PureOp.bin rfl rfl rfl).mono (v' := .bool false) (congrArg Value.bool (by simp))) rfl rfl ?_
            refine AWo.nil trivial ?_
            refine AW.condF rfl ?_
            refine AW.skip ?_
            refine thenA_normal ?_
            refine AW.seqR ?_
            refine AWo.pure (PureOp.assign rfl) rfl rfl ?_
            refine AWo.nil trivial ?_
            refine AW.seq ?_
            refine AW.seqR ?_
            refine AWo.pure (PureOp.move rfl) rfl rfl ?_
            first | refine AWo.pure (PureOp.lenS tbok rfl rfl) rfl rfl ?_ | refine AWo.pure (PureOp.lenD tbok rfl rfl) rfl rfl ?_
            refine AWo.pure (PureOp.move rfl) rfl rfl ?_
            refine AWo.nil trivial ?_
            refine AW.block ?_
            refine AW.ghost 77000 4 rfl ?_
            refine AW.loopw (fun mm σ => ∃ i, (i ≤ Ls.length) ∧ mm = Ls.length - i ∧ σ = ⟨(upd (upd (upd (upd (upd emp 7 (.slice (some ⟨39000, 0, none⟩) Ls.length 0)) 13 (.slice (some ⟨77000, 0, none⟩) i 0)) 97 (.slice (some ⟨39000, 0, none⟩) Ls.length 0)) 98 (vi .i64 Ls.length)) 99 (vi .i64 i)), (upd (upd (upd (upd (upd emp 0 ⟨Ls.map db, false, 1⟩) 1 ⟨Ks.map db, false, 1⟩) 2 ⟨c.map (vi .u8), false, 1⟩) 39000 ⟨((xs.map fe).flatten).map (vi .u64), true, 4⟩) 77000 ⟨((((List.range i).map (fun k => Po.ev (fp k) xs)).map fe).flatten).map (vi .u64), true, 4⟩)⟩) (fm := []) ?_ ⟨0, Nat.zero_le _, rfl, rfl⟩ ?_
            ·
              refine Wk.of [0, 1, 2, 39000, 77000] ?_ ?_ ?_ (by decide) rfl
              ·
                refine WkE.upd rfl (by first | exact VR.flat _ rfl | exact VR.eqv (vp_succ _) rfl | exact VR.eqv (vp_succ _).symm rfl | exact VR.eqv (by first | rfl | (congr 1; omega) | (simp; done) | (simp; omega)) rfl) ?_
                refine WkE.upd rfl (by first | exact VR.flat _ rfl | exact VR.eqv (vp_succ _) rfl | exact VR.eqv (vp_succ _).symm rfl | exact VR.eqv (by first | rfl | (congr 1; omega) | (simp; done) | (simp; omega)) rfl) ?_
                refine WkE.upd rfl (.slice (39000) 0 _ 0 ⟨_, rfl⟩ (by simp) (by simp)) ?_
                refine WkE.upd rfl (by first | exact .nilS _ (by simp) | exact .slice (77000) 0 _ 0 ⟨_, rfl⟩ (by simp) (by simp)) ?_
                refine WkE.upd rfl (.slice (39000) 0 _ 0 ⟨_, rfl⟩ (by simp) (by simp)) ?_
                exact WkE.emp
              ·
                refine WkM.flat rfl (flatM flat_vi) (fun h => h) ?_
                refine WkM.flat rfl (flatM flat_vi) (fun h => h) ?_
                refine WkM.flat rfl (flatM flat_vi) (fun h => h) ?_
                refine WkM.cloM rfl rfl (fun _ => rfl) (fun h => h) ?_
                refine WkM.cloM rfl rfl (fun _ => rfl) (fun h => h) ?_
                exact WkM.emp
              ·
                repeat (refine dom_upd_mem (by decide) ?_)
                exact dom_emp
            ·
              rintro mm σ ⟨i, hinv, rfl, rfl⟩
              refine AW.seqR ?_
              first | refine AWo.pure (PureOp.ltN rfl rfl) rfl rfl ?_ | refine AWo.pure (PureOp.bin rfl rfl rfl) rfl rfl ?_
              refine AWo.nil trivial ?_
              refine AW.seq ?_
              refine AW.cond rfl (fun hb7 => ?_) (fun hb7 => ?_)
              ·
                have hi : i < Ls.length := by simpa using hb7
                refine AW.skip ?_
                refine thenA_normal ?_
                refine AW.seq ?_
                refine AW.block ?_
                refine AW.seqR ?_
                refine AWo.pure (PureOp.move rfl) rfl rfl ?_
                refine AWo.pure (PureOp.assign rfl) rfl rfl ?_
                refine AWo.nil trivial ?_
                refine AW.region ?_
                refine AWo.pure (PureOp.move rfl) rfl rfl ?_
                refine AWo.pure (PureOp.move rfl) rfl rfl ?_
                refine AWo.pure (PureOp.move rfl) rfl rfl ?_
                first | refine AWo.pure (PureOp.cvtN tbok 18446744073709551616 rfl rfl rfl (by decide) (by decide) (by first | decide | omega)) rfl rfl ?_ | refine AWo.pure (PureOp.cvtU tbok 18446744073709551616 rfl rfl rfl rfl rfl) rfl rfl ?_ | refine AWo.pure (PureOp.cvt tbok rfl rfl rfl) rfl rfl ?_
                refine AWo.callX (fromuF_ctr (v := i) (by omega)) bd37 [] [] rfl (.cons rfl .nil) rfl (.cons rfl rfl .nil) .nil rfl .nil frN (by decide) (.pure (by first | rfl | exact pure_aggM flat_vi | exact pure_aggM flat_bool) .nil) rfl rfl rfl rfl ?_
                refine AWo.callX (evalp_ctr (xs := xs) (n := Ls.length) (x := (fp i)) hxl (by omega)) bd32 [(39000, 0)] [] rfl (.cons rfl (.cons rfl .nil)) rfl (.cons rfl rfl (.pure (by first | rfl | exact pure_aggM flat_vi | exact pure_aggM flat_bool) .nil)) (.flat rfl (flatM flat_vi) (by intro h; first | exact h | rfl) .nil) rfl (.keep rfl .nil) frN (by decide) (.pure (by first | rfl | exact pure_aggM flat_vi | exact pure_aggM flat_bool) .nil) rfl rfl rfl rfl ?_
                refine AWo.buildSlice tbok 109000 [(0, .agg ((fe (Po.ev (fp i) xs)).map (vi .u64)).toArray)] (out := [fe (Po.ev (fp i) xs)].flatten.map (vi .u64)) rfl rfl (by decide) rfl rfl rfl (by decide) rfl (fillB1 (fe_len _)) rfl rfl rfl ?_
                refine AWo.append tbok (all := ((((List.range (i + 1)).map (fun k => Po.ev (fp k) xs)).map fe).flatten).map (vi .u64)) (news := [fe (Po.ev (fp i) xs)].flatten.map (vi .u64)) 110000 rfl rfl rfl rfl (by show (FF _).length = _; rw [FF_len, List.length_map, List.length_range]) (by show List.take _ (List.drop 0 _) = _; rw [List.drop_zero]; exact List.take_of_length_le (by simp)) (by simp; done) (by decide) rfl rfl rfl (by first | decide | exact Nat.one_ne_zero) rfl rfl rfl (by first | decide | omega) (by first | decide | omega) (by first | exact oneM (fun _ => rfl) _ | (simp; done)) (by show FF _ ++ FF [_] = FF _; rw [← FF_app, List.range_succ, List.map_append]; rfl) rfl rfl ?_
                refine AWo.pure (PureOp.assign rfl) rfl rfl ?_
                refine AWo.nil trivial ?_
                refine inBlockA_normal ?_
                refine thenA_normal ?_
                refine AW.region ?_
                first | refine AWo.pure (PureOp.addI (b := 1) rfl rfl (by first | decide | omega)) rfl rfl ?_ | refine AWo.pure (PureOp.bin rfl rfl rfl) rfl rfl ?_
                refine AWo.pure (PureOp.move rfl) rfl rfl ?_
                refine AWo.nil trivial ?_
                refine thenA_normal ?_
                refine ⟨Ls.length - (i + 1), [(77000, 110000)], _, by omega, ?_, i + 1, by omega, rfl, rfl⟩
                refine Wk.of [0, 1, 2, 39000, 77000] ?_ ?_ ?_ (by decide) rfl
                ·
                  refine WkE.upd rfl (by first | exact VR.flat _ rfl | exact VR.eqv (vp_succ _) rfl | exact VR.eqv (vp_succ _).symm rfl | exact VR.eqv (by first | rfl | (congr 1; omega) | (simp; done) | (simp; omega)) rfl) ?_
                  refine WkE.upd rfl (by first | exact VR.flat _ rfl | exact VR.eqv (vp_succ _) rfl | exact VR.eqv (vp_succ _).symm rfl | exact VR.eqv (by first | rfl | (congr 1; omega) | (simp; done) | (simp; omega)) rfl) ?_
                  refine WkE.upd rfl (.slice (39000) 0 _ 0 ⟨_, rfl⟩ (by simp) (by simp)) ?_
                  refine WkE.upd rfl (by first | exact .nilS _ (by simp) | exact .slice (77000) 0 _ 0 ⟨_, rfl⟩ (by simp) (by simp)) ?_
                  refine WkE.upd rfl (.slice (39000) 0 _ 0 ⟨_, rfl⟩ (by simp) (by simp)) ?_
                  exact WkE.emp
                ·
                  refine WkM.flat rfl (flatM flat_vi) (fun h => h) ?_
                  refine WkM.flat rfl (flatM flat_vi) (fun h => h) ?_
                  refine WkM.flat rfl (flatM flat_vi) (fun h => h) ?_
                  refine WkM.cloM rfl rfl (fun _ => rfl) (fun h => h) ?_
                  refine WkM.cloM rfl rfl (fun _ => rfl) (fun h => h) ?_
                  exact WkM.emp
                ·
                  repeat (refine dom_upd_mem (by decide) ?_)
                  exact dom_emp
              ·
                obtain rfl : i = Ls.length := by simp at hb7; omega
                refine AW.exit ?_
                refine thenA_exit ?_
                refine thenA_exit ?_
                refine inBlockA_hit ?_
                refine thenA_normal ?_
                refine AW.seqR ?_
                refine AWo.pure (PureOp.move rfl) rfl rfl ?_
                refine AWo.callX (thrp_ctr (vs := ((List.range Ls.length).map (fun k => Po.ev (fp k) xs))) (n := Ls.length) (by simp) (by omega)) bd38 [(77000, 0)] [113000] rfl (.cons rfl .nil) rfl (.cons rfl rfl .nil) (.flat rfl (flatM flat_vi) (by intro h; first | exact h | rfl) .nil) rfl (.keep rfl (.new (flat_map_ren (flatM flat_vi)) (OkL.flat (flatM flat_vi)) .nil)) (frC rfl frN) (by decide) (.cons rfl rfl .nil) rfl rfl rfl rfl ?_
                refine AWo.pure (PureOp.move rfl) rfl rfl ?_
                refine AWo.callX (trimp_ctr (xs := xs) (n := Ls.length) hxl (by omega)) bd39 [(39000, 0)] [115000] rfl (.cons rfl .nil) rfl (.cons rfl rfl .nil) (.flat rfl (flatM flat_vi) (by intro h; first | exact h | rfl) .nil) rfl (.keep rfl (.new (flat_map_ren (flatM flat_vi)) (OkL.flat (flatM flat_vi)) .nil)) (frC rfl frN) (by decide) (.cons rfl rfl .nil) rfl rfl rfl rfl ?_
                refine AWo.pure (PureOp.assign rfl) rfl rfl ?_
                refine AWo.pure (PureOp.assign rfl) rfl rfl ?_
                refine AWo.nil trivial ?_
                refine AW.seq ?_
                rw [thr_vals (n := Ls.length) hxl (by omega)]
                refine AW.seqR ?_
                refine AWo.pure (PureOp.move rfl) rfl rfl ?_
                first | refine AWo.pure (PureOp.lenS tbok rfl rfl) rfl rfl ?_ | refine AWo.pure (PureOp.lenD tbok rfl rfl) rfl rfl ?_
                refine AWo.pure (PureOp.move rfl) rfl rfl ?_
                first | refine AWo.pure (PureOp.lenS tbok rfl rfl) rfl rfl ?_ | refine AWo.pure (PureOp.lenD tbok rfl rfl) rfl rfl ?_
                first | refine AWo.pure ((PureOp.neN rfl rfl).mono (v' := .bool false) (congrArg Value.bool (by simp))) rfl rfl ?_ | refine AWo.pure ((PureOp.bin rfl rfl rfl).mono (v' := .bool false) (congrArg Value.bool (by simp))) rfl rfl ?_
                refine AWo.nil trivial ?_
                refine AW.condF rfl ?_
                refine AW.skip ?_
                refine thenA_normal ?_
                refine AW.seq ?_
                refine AW.seqR ?_
                refine AWo.pure (PureOp.move rfl) rfl rfl ?_
                first | refine AWo.pure (PureOp.lenS tbok rfl rfl) rfl rfl ?_ | refine AWo.pure (PureOp.lenD tbok rfl rfl) rfl rfl ?_
                refine AWo.pure (PureOp.move rfl) rfl rfl ?_
                refine AWo.nil trivial ?_
                refine AW.block ?_
                refine AW.loopw (fun mm σ => ∃ i, (i ≤ (Po.tr xs).length) ∧ mm = (Po.tr xs).length - i ∧ σ = ⟨(upd (upd (upd (upd emp 15 (.slice (some ⟨113000, 0, none⟩) (Po.tr xs).length 0)) 16 (.slice (some ⟨115000, 0, none⟩) (Po.tr xs).length 0)) 121 (vi .i64 (Po.tr xs).length)) 122 (vi .i64 i)), (upd (upd (upd (upd (upd (upd emp 0 ⟨Ls.map db, false, 1⟩) 1 ⟨Ks.map db, false, 1⟩) 2 ⟨c.map (vi .u8), false, 1⟩) 39000 ⟨((xs.map fe).flatten).map (vi .u64), true, 4⟩) 113000 ⟨(((Po.tr xs).map fe).flatten).map (vi .u64), true, 4⟩) 115000 ⟨(((Po.tr xs).map fe).flatten).map (vi .u64), true, 4⟩)⟩) (fm := []) ?_ ⟨0, Nat.zero_le _, rfl, rfl⟩ ?_
                ·
                  refine Wk.of [0, 1, 2, 39000, 113000, 115000] ?_ ?_ ?_ (by decide) rfl
                  ·
                    refine WkE.upd rfl (by first | exact VR.flat _ rfl | exact VR.eqv (vp_succ _) rfl | exact VR.eqv (vp_succ _).symm rfl | exact VR.eqv (by first | rfl | (congr 1; omega) | (simp; done) | (simp; omega)) rfl) ?_
                    refine WkE.upd rfl (by first | exact VR.flat _ rfl | exact VR.eqv (vp_succ _) rfl | exact VR.eqv (vp_succ _).symm rfl | exact VR.eqv (by first | rfl | (congr 1; omega) | (simp; done) | (simp; omega)) rfl) ?_
                    refine WkE.upd rfl (.slice (115000) 0 _ 0 ⟨_, rfl⟩ (by simp) (by simp)) ?_
                    refine WkE.upd rfl (.slice (113000) 0 _ 0 ⟨_, rfl⟩ (by simp) (by simp)) ?_
                    exact WkE.emp
                  ·
                    refine WkM.flat rfl (flatM flat_vi) (fun h => h) ?_
                    refine WkM.flat rfl (flatM flat_vi) (fun h => h) ?_
                    refine WkM.flat rfl (flatM flat_vi) (fun h => h) ?_
                    refine WkM.flat rfl (flatM flat_vi) (fun h => h) ?_
                    refine WkM.cloM rfl rfl (fun _ => rfl) (fun h => h) ?_
                    refine WkM.cloM rfl rfl (fun _ => rfl) (fun h => h) ?_
                    exact WkM.emp
                  ·
                    repeat (refine dom_upd_mem (by decide) ?_)
                    exact dom_emp
                ·
                  rintro mm σ ⟨i, hinv, rfl, rfl⟩
                  refine AW.seqR ?_
                  first | refine AWo.pure (PureOp.ltN rfl rfl) rfl rfl ?_ | refine AWo.pure (PureOp.bin rfl rfl rfl) rfl rfl ?_
                  refine AWo.nil trivial ?_
                  refine AW.seq ?_
                  refine AW.cond rfl (fun hb8 => ?_) (fun hb8 => ?_)
                  ·
                    have hi : i < (Po.tr xs).length := by simpa using hb8
                    refine AW.skip ?_
                    refine thenA_normal ?_
                    refine AW.seq ?_
                    refine AW.block ?_
                    refine AW.seqR ?_
                    refine AWo.pure (PureOp.move rfl) rfl rfl ?_
                    refine AWo.pure (PureOp.assign rfl) rfl rfl ?_
                    refine AWo.nil trivial ?_
                    refine AW.seqD mixed ?_
                    refine AWo.pure (PureOp.move rfl) rfl rfl ?_
                    refine AWo.pure (PureOp.move rfl) rfl rfl ?_
                    first | refine AWo.pure (PureOp.idx1 tbok rfl rfl rfl rfl (by first | decide | omega)) rfl rfl ?_ | refine AWo.pure (PureOp.idx tbok rfl rfl rfl rfl (by first | decide | omega)) rfl rfl ?_
                    refine yLJ (xs := Po.tr xs) i ?_
                    refine AWo.pure (PureOp.move rfl) rfl rfl ?_
                    refine AWo.pure (PureOp.move rfl) rfl rfl ?_
                    first | refine AWo.pure (PureOp.idx1 tbok rfl rfl rfl rfl (by first | decide | omega)) rfl rfl ?_ | refine AWo.pure (PureOp.idx tbok rfl rfl rfl rfl (by first | decide | omega)) rfl rfl ?_
                    refine yLJ (xs := Po.tr xs) i ?_
                    refine AWo.callX (v := .bool true) (equalF_ctr (x := (Po.tr xs).getD i 0) (y := (Po.tr xs).getD i 0)) bd19 [] [] rfl (.cons rfl (.cons rfl .nil)) rfl (.pure (by first | rfl | exact pure_aggM flat_vi | exact pure_aggM flat_bool) (.pure (by first | rfl | exact pure_aggM flat_vi | exact pure_aggM flat_bool) .nil)) .nil rfl .nil frN (by decide) (.cons rfl rfl .nil) (congrArg Value.bool (decide_eq_true (rfl))) rfl rfl rfl ?_
                    refine AWo.pure (PureOp.not rfl) rfl rfl ?_
                    refine AWo.nil (by kernel_rfl) ?_
                    refine AW.condF rfl ?_
                    refine AW.skip ?_
                    refine inBlockA_normal ?_
                    refine thenA_normal ?_
                    refine AW.region ?_
                    first | refine AWo.pure (PureOp.addI (b := 1) rfl rfl (by first | decide | omega)) rfl rfl ?_ | refine AWo.pure (PureOp.bin rfl rfl rfl) rfl rfl ?_
                    refine AWo.pure (PureOp.move rfl) rfl rfl ?_
                    refine AWo.nil trivial ?_
                    refine thenA_normal ?_
                    refine ⟨(Po.tr xs).length - (i + 1), [], _, by omega, ?_, i + 1, by omega, rfl, rfl⟩
                    refine Wk.of [0, 1, 2, 39000, 113000, 115000] ?_ ?_ ?_ (by decide) rfl
                    ·
                      refine WkE.upd rfl (by first | exact VR.flat _ rfl | exact VR.eqv (vp_succ _) rfl | exact VR.eqv (vp_succ _).symm rfl | exact VR.eqv (by first | rfl | (congr 1; omega) | (simp; done) | (simp; omega)) rfl) ?_
                      refine WkE.upd rfl (by first | exact VR.flat _ rfl | exact VR.eqv (vp_succ _) rfl | exact VR.eqv (vp_succ _).symm rfl | exact VR.eqv (by first | rfl | (congr 1; omega) | (simp; done) | (simp; omega)) rfl) ?_
                      refine WkE.upd rfl (.slice (115000) 0 _ 0 ⟨_, rfl⟩ (by simp) (by simp)) ?_
                      refine WkE.upd rfl (.slice (113000) 0 _ 0 ⟨_, rfl⟩ (by simp) (by simp)) ?_
                      exact WkE.emp
                    ·
                      refine WkM.flat rfl (flatM flat_vi) (fun h => h) ?_
                      refine WkM.flat rfl (flatM flat_vi) (fun h => h) ?_
                      refine WkM.flat rfl (flatM flat_vi) (fun h => h) ?_
                      refine WkM.flat rfl (flatM flat_vi) (fun h => h) ?_
                      refine WkM.cloM rfl rfl (fun _ => rfl) (fun h => h) ?_
                      refine WkM.cloM rfl rfl (fun _ => rfl) (fun h => h) ?_
                      exact WkM.emp
                    ·
                      repeat (refine dom_upd_mem (by decide) ?_)
                      exact dom_emp
                  ·
                    obtain rfl : i = (Po.tr xs).length := by simp at hb8; omega
                    refine AW.exit ?_
                    refine thenA_exit ?_
                    refine thenA_exit ?_
                    refine inBlockA_hit ?_
                    refine thenA_normal ?_
                    refine AW.seqR ?_
                    refine AWo.pure (PureOp.assign rfl) rfl rfl ?_
                    refine AWo.nil trivial ?_
                    refine AW.ret ?_
                    refine RetQ.gc [_] [] [.tmp 6] (.inl rfl) rfl (.tmp rfl .nil) rfl (.cons rfl rfl .nil) (OutL.clo rfl (cloM fun _ => rfl) (by intro h; exact h.elim id fun h => absurd h.1 (by simp)) (OutL.clo rfl (cloM fun _ => rfl) (by intro h; exact h.elim id fun h => absurd h.1 (by simp)) (OutL.flat rfl (flatM flat_vi) (by intro h; exact h.elim id fun h => absurd h.1 (by simp)) trivial))) (by decide) rfl
end Go.Proofs.Yteeifahhejangaa
