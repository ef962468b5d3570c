/- Walks through what makes a source, and through the statement on its pieces. -/
import Derived.Test.YtiikffiembcboaaGrain2
namespace Go.Proofs.Ytiikffiembcboaa
open Go Sim

theorem pl129 : ∃ fs, Try.prog.underlying 129 = some (.struct fs) ∧ placesOf Try.prog fs [(0, 80), (80, 1)] :=
  ⟨_, Try.underlying129, rfl, fun k f q h1 h2 => by
    rcases k with _ | _ | k
    · cases h1; cases h2; exact ⟨rfl, sz29⟩
    · cases h1; cases h2; exact ⟨rfl, sz3⟩
    · cases h2⟩

def gini0 (b w f p : Nat) : List Bool := List.replicate 80 false
def gini1 (b w f p : Nat) : List Bool := glay 1 2 (gini0 b w f p) 0 2
def gini2 (b w f p : Nat) : List Bool := glay 0 4 (gini1 b w f p) 2 4
def gini3 (b w f p : Nat) : List Bool := glay b 12 (gini2 b w f p) 6 12
def gini4 (b w f p : Nat) : List Bool := glay w 12 (gini3 b w f p) 18 12
def gini5 (b w f p : Nat) : List Bool := glay f 10 (gini4 b w f p) 30 10
def gini6 (b w f p : Nat) : List Bool := glay p 10 (gini5 b w f p) 40 10
def gini (b w f p : Nat) : GS := (glay 1073741823 30 (gini6 b w f p) 50 30, 0)

section
variable {b w f p : Nat}
theorem gini_len0 : (gini0 b w f p).length = 80 := by simp [gini0]
theorem gini_len1 : (gini1 b w f p).length = 80 := (glay_len _).trans gini_len0
theorem gini_len2 : (gini2 b w f p).length = 80 := (glay_len _).trans gini_len1
theorem gini_len3 : (gini3 b w f p).length = 80 := (glay_len _).trans gini_len2
theorem gini_len4 : (gini4 b w f p).length = 80 := (glay_len _).trans gini_len3
theorem gini_len5 : (gini5 b w f p).length = 80 := (glay_len _).trans gini_len4
theorem gini_len6 : (gini6 b w f p).length = 80 := (glay_len _).trans gini_len5
end
theorem gini_gv (b w f p : Nat) : GV (gini b w f p) := by
  refine ⟨?_, Nat.zero_lt_succ 79⟩
  show (glay 1073741823 30 (gini6 b w f p) 50 30).length = 80
  rw [glay_len]; exact gini_len6

def gnew (b w f p : Nat) : GS := git 160 (gini b w f p)

set_option maxRecDepth 10000 in
theorem new_ctr {b w f p : Nat} (hb : 1 ≤ b ∧ b ≤ 4095) (hw : 1 ≤ w ∧ w ≤ 4095) (hf : f ≤ 1023) (hp : p ≤ 1023) :
    GC Try.prog 28 [vi .i64 b, vi .i64 w, vi .i64 f, vi .i64 p] [] [.pointer (some ⟨0, 0, none⟩), .int .i64 0] [⟨srcC (gnew b w f p).1 (gnew b w f p).2, true, 1⟩] := by
  refine GC.intro Try.func28 rfl (by show 4 ≤ 70; decide) (by first | exact Nat.le_refl _ | decide | simp) ?_
  refine AW.seqR ?_
  refine AWo.pure (PureOp.assign rfl) rfl rfl ?_
  refine AWo.pure (PureOp.assign rfl) rfl rfl ?_
  refine AWo.nil trivial ?_
  refine AW.seq ?_
  refine AW.seqR ?_
  refine AWo.pure (PureOp.move rfl) rfl rfl ?_
  first | refine AWo.pure ((PureOp.ltN (b := 1) rfl rfl).mono (v' := .bool false) (by simp <;> omega)) rfl rfl ?_ | refine AWo.pure ((PureOp.bin rfl rfl rfl).mono (v' := .bool false) (by simp <;> omega)) rfl rfl ?_
  refine AWo.pure (PureOp.move rfl) rfl rfl ?_
  refine AWo.pure (PureOp.move rfl) rfl rfl ?_
  first | refine AWo.pure ((PureOp.gtN (b := 4095) rfl rfl).mono (v' := .bool false) (by simp <;> omega)) rfl rfl ?_ | refine AWo.pure ((PureOp.bin rfl rfl rfl).mono (v' := .bool false) (by simp <;> omega)) rfl rfl ?_
  refine AWo.pure (PureOp.pickF rfl rfl) rfl rfl ?_
  refine AWo.pure (PureOp.move rfl) rfl rfl ?_
  refine AWo.pure (PureOp.move rfl) rfl rfl ?_
  first | refine AWo.pure ((PureOp.ltN (b := 1) rfl rfl).mono (v' := .bool false) (by simp <;> omega)) rfl rfl ?_ | refine AWo.pure ((PureOp.bin rfl rfl rfl).mono (v' := .bool false) (by simp <;> omega)) rfl rfl ?_
  refine AWo.pure (PureOp.pickF rfl rfl) rfl rfl ?_
  refine AWo.pure (PureOp.move rfl) rfl rfl ?_
  refine AWo.pure (PureOp.move rfl) rfl rfl ?_
  first | refine AWo.pure ((PureOp.gtN (b := 4095) rfl rfl).mono (v' := .bool false) (by simp <;> omega)) rfl rfl ?_ | refine AWo.pure ((PureOp.bin rfl rfl rfl).mono (v' := .bool false) (by simp <;> omega)) rfl rfl ?_
  refine AWo.pure (PureOp.pickF rfl rfl) rfl rfl ?_
  refine AWo.pure (PureOp.move rfl) rfl rfl ?_
  refine AWo.pure (PureOp.move rfl) rfl rfl ?_
  first | refine AWo.pure ((PureOp.ltN (b := 0) rfl rfl).mono (v' := .bool false) (by simp <;> omega)) rfl rfl ?_ | refine AWo.pure ((PureOp.bin rfl rfl rfl).mono (v' := .bool false) (by simp <;> omega)) rfl rfl ?_
  refine AWo.pure (PureOp.pickF rfl rfl) rfl rfl ?_
  refine AWo.pure (PureOp.move rfl) rfl rfl ?_
  refine AWo.pure (PureOp.move rfl) rfl rfl ?_
  first | refine AWo.pure ((PureOp.gtN (b := 1023) rfl rfl).mono (v' := .bool false) (by simp <;> omega)) rfl rfl ?_ | refine AWo.pure ((PureOp.bin rfl rfl rfl).mono (v' := .bool false) (by simp <;> omega)) rfl rfl ?_
  refine AWo.pure (PureOp.pickF rfl rfl) rfl rfl ?_
  refine AWo.pure (PureOp.move rfl) rfl rfl ?_
  refine AWo.pure (PureOp.move rfl) rfl rfl ?_
  first | refine AWo.pure ((PureOp.ltN (b := 0) rfl rfl).mono (v' := .bool false) (by simp <;> omega)) rfl rfl ?_ | refine AWo.pure ((PureOp.bin rfl rfl rfl).mono (v' := .bool false) (by simp <;> omega)) rfl rfl ?_
  refine AWo.pure (PureOp.pickF rfl rfl) rfl rfl ?_
  refine AWo.pure (PureOp.move rfl) rfl rfl ?_
  refine AWo.pure (PureOp.move rfl) rfl rfl ?_
  first | refine AWo.pure ((PureOp.gtN (b := 1023) rfl rfl).mono (v' := .bool false) (by simp <;> omega)) rfl rfl ?_ | refine AWo.pure ((PureOp.bin rfl rfl rfl).mono (v' := .bool false) (by simp <;> omega)) rfl rfl ?_
  refine AWo.pure (PureOp.pickF rfl rfl) rfl rfl ?_
  refine AWo.nil trivial ?_
  refine AW.condF rfl ?_
  refine AW.skip ?_
  refine thenA_normal ?_
  refine AW.seqR ?_
  refine AWo.pure ((PureOp.buildStruct [] pl129.choose_spec.1 zr129 (by decide) pl129.choose_spec.2 rfl rfl).mono (v' := .agg (srcC (List.replicate 80 false) 0).toArray) (by rfl)) rfl rfl ?_
  refine AWo.box 45000 1 (srcC (List.replicate 80 false) 0) rfl rfl rfl rfl rfl ?_
  refine AWo.alloc tbok 11000 1 _ rfl rfl rfl rfl rfl rfl ?_
  refine AWo.store tbok rfl rfl rfl rfl rfl (by first | decide | (simp; omega)) rfl rfl rfl ?_
  refine AWo.nil trivial ?_
  refine AW.seqR ?_
  refine AWo.alloc tbok 12000 1 _ rfl rfl rfl rfl rfl rfl ?_
  first | refine AWo.storeM (f := (vi .i64)) tbok rfl rfl rfl rfl (by first | decide | omega) rfl rfl ?_ | refine AWo.store tbok rfl rfl rfl rfl rfl (by first | decide | (simp; omega)) rfl rfl rfl ?_
  refine AWo.nil trivial ?_
  refine AW.seqR ?_
  refine AWo.pure (PureOp.fn (.cons rfl (.cons rfl .nil))) rfl rfl ?_
  refine AWo.pure (PureOp.assign rfl) rfl rfl ?_
  refine AWo.nil trivial ?_
  refine AW.seqR ?_
  refine AWo.pure (PureOp.move rfl) rfl rfl ?_
  refine AWo.callX (lay_ctr (n := 1) (bits := 2) (a := 0) (r := (gini0 b w f p)) (by omega) (gini_len0) (by decide) (by decide)) bd109 [(11000, 0), (12000, 0), (45000, 0)] [] rfl (.cons rfl (.cons rfl .nil)) rfl (.cons rfl rfl (.cons rfl rfl (.cons rfl rfl (.cons rfl rfl .nil)))) (.whole rfl rfl (OkL.all rfl) (fun h => by cases h) (.flat rfl (flat1 rfl) (fun h => h) (.flat rfl srcC_flat (fun h => h) .nil))) rfl (.keep rfl (.chg rfl rfl rfl (OkL.all rfl) (.chg rfl rfl (flat_map_ren srcC_flat) (OkL.flat srcC_flat) .nil))) frN (by decide) .nil rfl rfl rfl rfl ?_
  refine AWo.nil trivial ?_
  refine AW.seqR ?_
  refine AWo.pure (PureOp.move rfl) rfl rfl ?_
  refine AWo.callX (lay_ctr (n := 0) (bits := 4) (a := 2) (r := (gini1 b w f p)) (by omega) (gini_len1) (by decide) (by decide)) bd109 [(11000, 0), (12000, 0), (45000, 0)] [] rfl (.cons rfl (.cons rfl .nil)) rfl (.cons rfl rfl (.cons rfl rfl (.cons rfl rfl (.cons rfl rfl .nil)))) (.whole rfl rfl (OkL.all rfl) (fun h => by cases h) (.flat rfl (flat1 rfl) (fun h => h) (.flat rfl srcC_flat (fun h => h) .nil))) rfl (.keep rfl (.chg rfl rfl rfl (OkL.all rfl) (.chg rfl rfl (flat_map_ren srcC_flat) (OkL.flat srcC_flat) .nil))) frN (by decide) .nil rfl rfl rfl rfl ?_
  refine AWo.nil trivial ?_
  refine AW.seqR ?_
  refine AWo.pure (PureOp.move rfl) rfl rfl ?_
  refine AWo.pure (PureOp.move rfl) rfl rfl ?_
  refine AWo.callX (lay_ctr (n := b) (bits := 12) (a := 6) (r := (gini2 b w f p)) (by omega) (gini_len2) (by decide) (by decide)) bd109 [(11000, 0), (12000, 0), (45000, 0)] [] rfl (.cons rfl (.cons rfl .nil)) rfl (.cons rfl rfl (.cons rfl rfl (.cons rfl rfl (.cons rfl rfl .nil)))) (.whole rfl rfl (OkL.all rfl) (fun h => by cases h) (.flat rfl (flat1 rfl) (fun h => h) (.flat rfl srcC_flat (fun h => h) .nil))) rfl (.keep rfl (.chg rfl rfl rfl (OkL.all rfl) (.chg rfl rfl (flat_map_ren srcC_flat) (OkL.flat srcC_flat) .nil))) frN (by decide) .nil rfl rfl rfl rfl ?_
  refine AWo.nil trivial ?_
  refine AW.seqR ?_
  refine AWo.pure (PureOp.move rfl) rfl rfl ?_
  refine AWo.pure (PureOp.move rfl) rfl rfl ?_
  refine AWo.callX (lay_ctr (n := w) (bits := 12) (a := 18) (r := (gini3 b w f p)) (by omega) (gini_len3) (by decide) (by decide)) bd109 [(11000, 0), (12000, 0), (45000, 0)] [] rfl (.cons rfl (.cons rfl .nil)) rfl (.cons rfl rfl (.cons rfl rfl (.cons rfl rfl (.cons rfl rfl .nil)))) (.whole rfl rfl (OkL.all rfl) (fun h => by cases h) (.flat rfl (flat1 rfl) (fun h => h) (.flat rfl srcC_flat (fun h => h) .nil))) rfl (.keep rfl (.chg rfl rfl rfl (OkL.all rfl) (.chg rfl rfl (flat_map_ren srcC_flat) (OkL.flat srcC_flat) .nil))) frN (by decide) .nil rfl rfl rfl rfl ?_
  refine AWo.nil trivial ?_
  refine AW.seqR ?_
  refine AWo.pure (PureOp.move rfl) rfl rfl ?_
  refine AWo.pure (PureOp.move rfl) rfl rfl ?_
  refine AWo.callX (lay_ctr (n := f) (bits := 10) (a := 30) (r := (gini4 b w f p)) (by omega) (gini_len4) (by decide) (by decide)) bd109 [(11000, 0), (12000, 0), (45000, 0)] [] rfl (.cons rfl (.cons rfl .nil)) rfl (.cons rfl rfl (.cons rfl rfl (.cons rfl rfl (.cons rfl rfl .nil)))) (.whole rfl rfl (OkL.all rfl) (fun h => by cases h) (.flat rfl (flat1 rfl) (fun h => h) (.flat rfl srcC_flat (fun h => h) .nil))) rfl (.keep rfl (.chg rfl rfl rfl (OkL.all rfl) (.chg rfl rfl (flat_map_ren srcC_flat) (OkL.flat srcC_flat) .nil))) frN (by decide) .nil rfl rfl rfl rfl ?_
  refine AWo.nil trivial ?_
  refine AW.seqR ?_
  refine AWo.pure (PureOp.move rfl) rfl rfl ?_
  refine AWo.pure (PureOp.move rfl) rfl rfl ?_
  refine AWo.callX (lay_ctr (n := p) (bits := 10) (a := 40) (r := (gini5 b w f p)) (by omega) (gini_len5) (by decide) (by decide)) bd109 [(11000, 0), (12000, 0), (45000, 0)] [] rfl (.cons rfl (.cons rfl .nil)) rfl (.cons rfl rfl (.cons rfl rfl (.cons rfl rfl (.cons rfl rfl .nil)))) (.whole rfl rfl (OkL.all rfl) (fun h => by cases h) (.flat rfl (flat1 rfl) (fun h => h) (.flat rfl srcC_flat (fun h => h) .nil))) rfl (.keep rfl (.chg rfl rfl rfl (OkL.all rfl) (.chg rfl rfl (flat_map_ren srcC_flat) (OkL.flat srcC_flat) .nil))) frN (by decide) .nil rfl rfl rfl rfl ?_
  refine AWo.nil trivial ?_
  refine AW.seqR ?_
  refine AWo.pure (PureOp.move rfl) rfl rfl ?_
  refine AWo.callX (lay_ctr (n := 1073741823) (bits := 30) (a := 50) (r := (gini6 b w f p)) (by omega) (gini_len6) (by decide) (by decide)) bd109 [(11000, 0), (12000, 0), (45000, 0)] [] rfl (.cons rfl (.cons rfl .nil)) rfl (.cons rfl rfl (.cons rfl rfl (.cons rfl rfl (.cons rfl rfl .nil)))) (.whole rfl rfl (OkL.all rfl) (fun h => by cases h) (.flat rfl (flat1 rfl) (fun h => h) (.flat rfl srcC_flat (fun h => h) .nil))) rfl (.keep rfl (.chg rfl rfl rfl (OkL.all rfl) (.chg rfl rfl (flat_map_ren srcC_flat) (OkL.flat srcC_flat) .nil))) frN (by decide) .nil rfl rfl rfl rfl ?_
  refine AWo.nil trivial ?_
  refine AW.seq ?_
  refine AW.seqR ?_
  refine AWo.pure (PureOp.move rfl) rfl rfl ?_
  refine AWo.nil trivial ?_
  refine AW.block ?_
  refine AW.loopw (fun mm σ => ∃ i, (i ≤ 160) ∧ mm = 160 - i ∧ σ = ⟨(upd (upd emp 64 (vi .i64 i)) 10 (.pointer (some ⟨11000, 0, none⟩))), (upd (upd emp 11000 ⟨[.pointer (some ⟨45000, 0, none⟩)], true, 1⟩) 45000 ⟨srcC (git i (gini b w f p)).1 (git i (gini b w f p)).2, true, 1⟩)⟩) (fm := []) ?_ ⟨0, by decide, rfl, rfl⟩ ?_
  ·
    refine Wk.of [11000, 45000] ?_ ?_ ?_ (by decide) rfl
    ·
      refine WkE.upd rfl (.ptr (11000) 0 ⟨_, rfl⟩) ?_
      refine WkE.upd rfl (by first | exact VR.flat _ rfl | exact VR.eqv (by first | rfl | (congr 1; omega) | (simp; done) | (simp; omega)) rfl) ?_
      exact WkE.emp
    ·
      refine WkM.refl rfl srcC_flat (fun h => h) ?_
      refine WkM.ptr rfl ⟨_, rfl⟩ (fun h => h) ?_
      exact WkM.emp
    ·
      repeat (refine dom_upd_mem (by decide) ?_)
      exact dom_emp
  ·
    rintro mm σ ⟨i, hinv, rfl, rfl⟩
    refine AW.seqR ?_
    first | refine AWo.pure (PureOp.ltN (b := 160) rfl rfl) rfl rfl ?_ | refine AWo.pure (PureOp.bin rfl rfl rfl) rfl rfl ?_
    refine AWo.nil trivial ?_
    refine AW.seq ?_
    refine AW.cond rfl (fun hb0 => ?_) (fun hb0 => ?_)
    ·
      have hi : i < 160 := by simpa using hb0
      refine AW.skip ?_
      refine thenA_normal ?_
      refine AW.seq ?_
      refine AW.block ?_
      refine AW.region ?_
      refine AWo.load tbok rfl rfl rfl rfl rfl rfl ?_
      refine AWo.callX (turn_ctr ((gini_gv b w f p).git i)) bd110 [(45000, 0)] [] rfl (.cons rfl .nil) rfl (.cons rfl rfl .nil) (.flat rfl srcC_flat (fun h => h) .nil) rfl (.chg rfl rfl (flat_map_ren srcC_flat) (OkL.flat srcC_flat) .nil) frN (by decide) (.cons rfl rfl .nil) rfl rfl rfl rfl ?_
      refine AWo.nil trivial ?_
      refine inBlockA_normal ?_
      refine thenA_normal ?_
      refine AW.region ?_
      first | refine AWo.pure (PureOp.addI (b := 1) rfl rfl (by first | decide | omega)) rfl rfl ?_ | refine AWo.pure (PureOp.bin rfl rfl rfl) rfl rfl ?_
      refine AWo.pure (PureOp.move rfl) rfl rfl ?_
      refine AWo.nil trivial ?_
      refine thenA_normal ?_
      refine ⟨160 - (i + 1), [], _, by omega, ?_, i + 1, by omega, rfl, by rw [show git (i + 1) (gini b w f p) = gst (git i (gini b w f p)) from git_gst i _]⟩
      refine Wk.of [11000, 45000] ?_ ?_ ?_ (by decide) rfl
      ·
        refine WkE.upd rfl (.ptr (11000) 0 ⟨_, rfl⟩) ?_
        refine WkE.upd rfl (by first | exact VR.flat _ rfl | exact VR.eqv (by first | rfl | (congr 1; omega) | (simp; done) | (simp; omega)) rfl) ?_
        exact WkE.emp
      ·
        refine WkM.refl rfl srcC_flat (fun h => h) ?_
        refine WkM.ptr rfl ⟨_, rfl⟩ (fun h => h) ?_
        exact WkM.emp
      ·
        repeat (refine dom_upd_mem (by decide) ?_)
        exact dom_emp
    ·
      have hi : i = 160 := by simp at hb0; omega
      subst hi
      refine AW.exit ?_
      refine thenA_exit ?_
      refine thenA_exit ?_
      refine inBlockA_hit ?_
      refine thenA_normal ?_
      refine AW.seqR ?_
      refine AWo.load tbok rfl rfl rfl rfl rfl rfl ?_
      refine AWo.pure (PureOp.assign rfl) rfl rfl ?_
      refine AWo.pure (PureOp.assign rfl) rfl rfl ?_
      refine AWo.nil trivial ?_
      refine AW.ret ?_
      refine RetQ.gc [_, _] [45000] [.tmp 8, .tmp 9] (.inl rfl) rfl (.tmp rfl (.tmp rfl .nil)) rfl (.cons rfl rfl (.cons rfl rfl .nil)) (OutL.flat rfl srcC_flat (fun _ => rfl) trivial) (by decide) rfl
end Go.Proofs.Ytiikffiembcboaa
