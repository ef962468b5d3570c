/- Walks through the shift register's code. -/
import Derived.Test.YtiikffiembcboaaTy
import Derived.Test.YtiikffiembcboaaSim16
import Derived.Test.YtiikffiembcboaaGrain1
namespace Go.Proofs.Ytiikffiembcboaa
open Go Sim

def srcC (r : List Bool) (a : Nat) : List Value := r.map Value.bool ++ [vi .i64 a]

theorem srcC_len {r : List Bool} {a : Nat} (hr : r.length = 80) : (srcC r a).length = 81 := by simp [srcC, hr]

theorem srcC_get {r : List Bool} {a j : Nat} (hr : r.length = 80) (hj : j < 80) : (srcC r a)[j]? = some (.bool (r.getD j false)) := by
  rw [srcC, List.getElem?_append_left (by simpa [hr] using hj)]
  exact getM false (by omega)

theorem srcC_at {r : List Bool} {a : Nat} (hr : r.length = 80) : (srcC r a)[80]? = some (vi .i64 a) := by
  rw [srcC, List.getElem?_append_right (by simp [hr])]
  simp [hr]

theorem srcC_set {r : List Bool} {a j : Nat} (hr : r.length = 80) (hj : j < 80) (b : Bool) : (srcC r a).set j (.bool b) = srcC (r.set j b) a := by
  simp only [srcC]
  rw [List.set_append_left _ _ (by simpa [hr] using hj), List.map_set]

theorem srcC_set_at {r : List Bool} {a : Nat} (hr : r.length = 80) (b : Nat) : (srcC r a).set 80 (vi .i64 b) = srcC r b := by
  simp only [srcC]
  rw [List.set_append_right _ _ (by simp [hr])]
  simp [hr]

theorem srcC_flat {r : List Bool} {a : Nat} : ∀ x ∈ srcC r a, flatV x = true := by
  intro x hx
  rcases List.mem_append.1 hx with h | h
  · obtain ⟨b, _, rfl⟩ := List.mem_map.1 h; rfl
  · simp at h; subst h; rfl

def ptr (i : Nat) : Value := .pointer (some ⟨i, 0, none⟩)

set_option maxRecDepth 10000 in
theorem turn_ctr' {r : List Bool} {a : Nat} (hr : r.length = 80) (ha : a < 80) :
    GC Try.prog 110 [.pointer (some ⟨0, 0, none⟩)] [⟨srcC r a, true, 1⟩] [.bool (gbit (r, a))] [⟨srcC (gst (r, a)).1 (gst (r, a)).2, true, 1⟩] := by
  refine GC.intro Try.func110 rfl (by show 1 ≤ 55; decide) (by first | exact Nat.le_refl _ | decide | simp) ?_
  refine AW.seqR ?_
  refine AWo.pure (PureOp.assign rfl) rfl rfl ?_
  refine AWo.nil trivial ?_
  refine AW.seqD mixed ?_
  refine AWo.pure (PureOp.move rfl) rfl rfl ?_
  refine AWo.pure (PureOp.move rfl) rfl rfl ?_
  refine AWo.pure (PureOp.nilCheck rfl) rfl rfl ?_
  refine AWo.pure (PureOp.fld tbok rfl rfl rfl (by decide)) rfl rfl ?_
  refine AWo.load tbok rfl rfl rfl (srcC_at hr) rfl rfl ?_
  refine AWo.pure (PureOp.nilCheck rfl) rfl rfl ?_
  refine AWo.pure (PureOp.fld tbok rfl rfl rfl (by decide)) rfl rfl ?_
  first | refine AWo.pure (PureOp.arr1 tbok rfl rfl rfl rfl (by first | decide | omega)) rfl rfl ?_ | refine AWo.pure (PureOp.arr tbok rfl rfl rfl rfl (by first | decide | omega)) rfl rfl ?_
  refine AWo.load tbok rfl rfl rfl (srcC_get hr ha) rfl rfl ?_
  refine AWo.pure (PureOp.assign rfl) rfl rfl ?_
  refine AWo.nil (by kernel_rfl) ?_
  refine AW.seq ?_
  refine AW.seqR ?_
  refine AWo.buildSlice tbok 16000 [(0, vi .i64 13), (1, vi .i64 23), (2, vi .i64 38), (3, vi .i64 51), (4, vi .i64 62)] rfl rfl (by decide) rfl rfl rfl (by decide) rfl rfl rfl rfl rfl ?_
  refine AWo.pure (PureOp.lenS tbok rfl rfl) rfl rfl ?_
  refine AWo.pure (PureOp.move rfl) rfl rfl ?_
  refine AWo.nil trivial ?_
  refine AW.block ?_
  refine AW.rounds 6 ?_
  refine roundsA_succ ?_
  refine AW.seqR ?_
  first | refine AWo.pure (PureOp.ltN rfl rfl) rfl rfl ?_ | refine AWo.pure (PureOp.bin rfl rfl rfl) rfl rfl ?_
  refine AWo.nil trivial ?_
  refine AW.seq ?_
  refine AW.condT rfl ?_
  refine AW.skip ?_
  refine thenA_normal ?_
  refine AW.seq ?_
  refine AW.block ?_
  refine AW.seqR ?_
  first | refine AWo.pure (PureOp.idx1 tbok rfl rfl rfl rfl (by first | decide | omega)) rfl rfl ?_ | refine AWo.pure (PureOp.idx tbok rfl rfl rfl rfl (by first | decide | omega)) rfl rfl ?_
  first | refine AWo.loadM tbok 0 rfl rfl rfl (by first | decide | omega) rfl rfl ?_ | refine AWo.load tbok rfl rfl rfl rfl rfl rfl ?_
  refine AWo.pure (PureOp.assign rfl) rfl rfl ?_
  refine AWo.nil trivial ?_
  refine AW.draw mixed ?_
  refine AWo.pure (PureOp.move rfl) rfl rfl ?_
  refine AWo.pure (PureOp.move rfl) rfl rfl ?_
  refine AWo.pure (PureOp.move rfl) rfl rfl ?_
  refine AWo.pure (PureOp.nilCheck rfl) rfl rfl ?_
  refine AWo.pure (PureOp.fld tbok rfl rfl rfl (by decide)) rfl rfl ?_
  refine AWo.load tbok rfl rfl rfl (srcC_at hr) rfl rfl ?_
  refine AWo.pure (PureOp.move rfl) rfl rfl ?_
  first | refine AWo.pure (PureOp.addI rfl rfl (by first | decide | omega)) rfl rfl ?_ | refine AWo.pure (PureOp.bin rfl rfl rfl) rfl rfl ?_
  first | refine AWo.pure (PureOp.remN (b := 80) rfl rfl (by first | decide | omega)) rfl rfl ?_ | refine AWo.pure (PureOp.rem rfl rfl (by first | decide | omega)) rfl rfl ?_
  refine AWo.pure (PureOp.nilCheck rfl) rfl rfl ?_
  refine AWo.pure (PureOp.fld tbok rfl rfl rfl (by decide)) rfl rfl ?_
  first | refine AWo.pure (PureOp.arr1 tbok rfl rfl rfl rfl (by first | decide | omega)) rfl rfl ?_ | refine AWo.pure (PureOp.arr tbok rfl rfl rfl rfl (by first | decide | omega)) rfl rfl ?_
  refine AWo.load tbok rfl rfl rfl (srcC_get hr (Nat.mod_lt _ (by decide))) rfl rfl ?_
  refine AWo.pure (PureOp.neqBool Try.underlying4 rfl rfl) rfl rfl ?_
  refine AWo.pure (PureOp.assign rfl) rfl rfl ?_
  refine AWo.nil (by kernel_rfl) ?_
  refine inBlockA_normal ?_
  refine thenA_normal ?_
  refine AW.region ?_
  first | refine AWo.pure (PureOp.addI (b := 1) rfl rfl (by first | decide | omega)) rfl rfl ?_ | refine AWo.pure (PureOp.bin rfl rfl rfl) rfl rfl ?_
  refine AWo.pure (PureOp.move rfl) rfl rfl ?_
  refine AWo.nil trivial ?_
  refine thenA_normal ?_
  refine roundsA_succ ?_
  refine AW.seqR ?_
  first | refine AWo.pure (PureOp.ltN rfl rfl) rfl rfl ?_ | refine AWo.pure (PureOp.bin rfl rfl rfl) rfl rfl ?_
  refine AWo.nil trivial ?_
  refine AW.seq ?_
  refine AW.condT rfl ?_
  refine AW.skip ?_
  refine thenA_normal ?_
  refine AW.seq ?_
  refine AW.block ?_
  refine AW.seqR ?_
  first | refine AWo.pure (PureOp.idx1 tbok rfl rfl rfl rfl (by first | decide | omega)) rfl rfl ?_ | refine AWo.pure (PureOp.idx tbok rfl rfl rfl rfl (by first | decide | omega)) rfl rfl ?_
  first | refine AWo.loadM tbok 0 rfl rfl rfl (by first | decide | omega) rfl rfl ?_ | refine AWo.load tbok rfl rfl rfl rfl rfl rfl ?_
  refine AWo.pure (PureOp.assign rfl) rfl rfl ?_
  refine AWo.nil trivial ?_
  refine AW.draw mixed ?_
  refine AWo.pure (PureOp.move rfl) rfl rfl ?_
  refine AWo.pure (PureOp.move rfl) rfl rfl ?_
  refine AWo.pure (PureOp.move rfl) rfl rfl ?_
  refine AWo.pure (PureOp.nilCheck rfl) rfl rfl ?_
  refine AWo.pure (PureOp.fld tbok rfl rfl rfl (by decide)) rfl rfl ?_
  refine AWo.load tbok rfl rfl rfl (srcC_at hr) rfl rfl ?_
  refine AWo.pure (PureOp.move rfl) rfl rfl ?_
  first | refine AWo.pure (PureOp.addI rfl rfl (by first | decide | omega)) rfl rfl ?_ | refine AWo.pure (PureOp.bin rfl rfl rfl) rfl rfl ?_
  first | refine AWo.pure (PureOp.remN (b := 80) rfl rfl (by first | decide | omega)) rfl rfl ?_ | refine AWo.pure (PureOp.rem rfl rfl (by first | decide | omega)) rfl rfl ?_
  refine AWo.pure (PureOp.nilCheck rfl) rfl rfl ?_
  refine AWo.pure (PureOp.fld tbok rfl rfl rfl (by decide)) rfl rfl ?_
  first | refine AWo.pure (PureOp.arr1 tbok rfl rfl rfl rfl (by first | decide | omega)) rfl rfl ?_ | refine AWo.pure (PureOp.arr tbok rfl rfl rfl rfl (by first | decide | omega)) rfl rfl ?_
  refine AWo.load tbok rfl rfl rfl (srcC_get hr (Nat.mod_lt _ (by decide))) rfl rfl ?_
  refine AWo.pure (PureOp.neqBool Try.underlying4 rfl rfl) rfl rfl ?_
  refine AWo.pure (PureOp.assign rfl) rfl rfl ?_
  refine AWo.nil (by kernel_rfl) ?_
  refine inBlockA_normal ?_
  refine thenA_normal ?_
  refine AW.region ?_
  first | refine AWo.pure (PureOp.addI (b := 1) rfl rfl (by first | decide | omega)) rfl rfl ?_ | refine AWo.pure (PureOp.bin rfl rfl rfl) rfl rfl ?_
  refine AWo.pure (PureOp.move rfl) rfl rfl ?_
  refine AWo.nil trivial ?_
  refine thenA_normal ?_
  refine roundsA_succ ?_
  refine AW.seqR ?_
  first | refine AWo.pure (PureOp.ltN rfl rfl) rfl rfl ?_ | refine AWo.pure (PureOp.bin rfl rfl rfl) rfl rfl ?_
  refine AWo.nil trivial ?_
  refine AW.seq ?_
  refine AW.condT rfl ?_
  refine AW.skip ?_
  refine thenA_normal ?_
  refine AW.seq ?_
  refine AW.block ?_
  refine AW.seqR ?_
  first | refine AWo.pure (PureOp.idx1 tbok rfl rfl rfl rfl (by first | decide | omega)) rfl rfl ?_ | refine AWo.pure (PureOp.idx tbok rfl rfl rfl rfl (by first | decide | omega)) rfl rfl ?_
  first | refine AWo.loadM tbok 0 rfl rfl rfl (by first | decide | omega) rfl rfl ?_ | refine AWo.load tbok rfl rfl rfl rfl rfl rfl ?_
  refine AWo.pure (PureOp.assign rfl) rfl rfl ?_
  refine AWo.nil trivial ?_
  refine AW.draw mixed ?_
  refine AWo.pure (PureOp.move rfl) rfl rfl ?_
  refine AWo.pure (PureOp.move rfl) rfl rfl ?_
  refine AWo.pure (PureOp.move rfl) rfl rfl ?_
  refine AWo.pure (PureOp.nilCheck rfl) rfl rfl ?_
  refine AWo.pure (PureOp.fld tbok rfl rfl rfl (by decide)) rfl rfl ?_
  refine AWo.load tbok rfl rfl rfl (srcC_at hr) rfl rfl ?_
  refine AWo.pure (PureOp.move rfl) rfl rfl ?_
  first | refine AWo.pure (PureOp.addI rfl rfl (by first | decide | omega)) rfl rfl ?_ | refine AWo.pure (PureOp.bin rfl rfl rfl) rfl rfl ?_
  first | refine AWo.pure (PureOp.remN (b := 80) rfl rfl (by first | decide | omega)) rfl rfl ?_ | refine AWo.pure (PureOp.rem rfl rfl (by first | decide | omega)) rfl rfl ?_
  refine AWo.pure (PureOp.nilCheck rfl) rfl rfl ?_
  refine AWo.pure (PureOp.fld tbok rfl rfl rfl (by decide)) rfl rfl ?_
  first | refine AWo.pure (PureOp.arr1 tbok rfl rfl rfl rfl (by first | decide | omega)) rfl rfl ?_ | refine AWo.pure (PureOp.arr tbok rfl rfl rfl rfl (by first | decide | omega)) rfl rfl ?_
  refine AWo.load tbok rfl rfl rfl (srcC_get hr (Nat.mod_lt _ (by decide))) rfl rfl ?_
  refine AWo.pure (PureOp.neqBool Try.underlying4 rfl rfl) rfl rfl ?_
  refine AWo.pure (PureOp.assign rfl) rfl rfl ?_
  refine AWo.nil (by kernel_rfl) ?_
  refine inBlockA_normal ?_
  refine thenA_normal ?_
  refine AW.region ?_
  first | refine AWo.pure (PureOp.addI (b := 1) rfl rfl (by first | decide | omega)) rfl rfl ?_ | refine AWo.pure (PureOp.bin rfl rfl rfl) rfl rfl ?_
  refine AWo.pure (PureOp.move rfl) rfl rfl ?_
  refine AWo.nil trivial ?_
  refine thenA_normal ?_
  refine roundsA_succ ?_
  refine AW.seqR ?_
  first | refine AWo.pure (PureOp.ltN rfl rfl) rfl rfl ?_ | refine AWo.pure (PureOp.bin rfl rfl rfl) rfl rfl ?_
  refine AWo.nil trivial ?_
  refine AW.seq ?_
  refine AW.condT rfl ?_
  refine AW.skip ?_
  refine thenA_normal ?_
  refine AW.seq ?_
  refine AW.block ?_
  refine AW.seqR ?_
  first | refine AWo.pure (PureOp.idx1 tbok rfl rfl rfl rfl (by first | decide | omega)) rfl rfl ?_ | refine AWo.pure (PureOp.idx tbok rfl rfl rfl rfl (by first | decide | omega)) rfl rfl ?_
  first | refine AWo.loadM tbok 0 rfl rfl rfl (by first | decide | omega) rfl rfl ?_ | refine AWo.load tbok rfl rfl rfl rfl rfl rfl ?_
  refine AWo.pure (PureOp.assign rfl) rfl rfl ?_
  refine AWo.nil trivial ?_
  refine AW.draw mixed ?_
  refine AWo.pure (PureOp.move rfl) rfl rfl ?_
  refine AWo.pure (PureOp.move rfl) rfl rfl ?_
  refine AWo.pure (PureOp.move rfl) rfl rfl ?_
  refine AWo.pure (PureOp.nilCheck rfl) rfl rfl ?_
  refine AWo.pure (PureOp.fld tbok rfl rfl rfl (by decide)) rfl rfl ?_
  refine AWo.load tbok rfl rfl rfl (srcC_at hr) rfl rfl ?_
  refine AWo.pure (PureOp.move rfl) rfl rfl ?_
  first | refine AWo.pure (PureOp.addI rfl rfl (by first | decide | omega)) rfl rfl ?_ | refine AWo.pure (PureOp.bin rfl rfl rfl) rfl rfl ?_
  first | refine AWo.pure (PureOp.remN (b := 80) rfl rfl (by first | decide | omega)) rfl rfl ?_ | refine AWo.pure (PureOp.rem rfl rfl (by first | decide | omega)) rfl rfl ?_
  refine AWo.pure (PureOp.nilCheck rfl) rfl rfl ?_
  refine AWo.pure (PureOp.fld tbok rfl rfl rfl (by decide)) rfl rfl ?_
  first | refine AWo.pure (PureOp.arr1 tbok rfl rfl rfl rfl (by first | decide | omega)) rfl rfl ?_ | refine AWo.pure (PureOp.arr tbok rfl rfl rfl rfl (by first | decide | omega)) rfl rfl ?_
  refine AWo.load tbok rfl rfl rfl (srcC_get hr (Nat.mod_lt _ (by decide))) rfl rfl ?_
  refine AWo.pure (PureOp.neqBool Try.underlying4 rfl rfl) rfl rfl ?_
  refine AWo.pure (PureOp.assign rfl) rfl rfl ?_
  refine AWo.nil (by kernel_rfl) ?_
  refine inBlockA_normal ?_
  refine thenA_normal ?_
  refine AW.region ?_
  first | refine AWo.pure (PureOp.addI (b := 1) rfl rfl (by first | decide | omega)) rfl rfl ?_ | refine AWo.pure (PureOp.bin rfl rfl rfl) rfl rfl ?_
  refine AWo.pure (PureOp.move rfl) rfl rfl ?_
  refine AWo.nil trivial ?_
  refine thenA_normal ?_
  refine roundsA_succ ?_
  refine AW.seqR ?_
  first | refine AWo.pure (PureOp.ltN rfl rfl) rfl rfl ?_ | refine AWo.pure (PureOp.bin rfl rfl rfl) rfl rfl ?_
  refine AWo.nil trivial ?_
  refine AW.seq ?_
  refine AW.condT rfl ?_
  refine AW.skip ?_
  refine thenA_normal ?_
  refine AW.seq ?_
  refine AW.block ?_
  refine AW.seqR ?_
  first | refine AWo.pure (PureOp.idx1 tbok rfl rfl rfl rfl (by first | decide | omega)) rfl rfl ?_ | refine AWo.pure (PureOp.idx tbok rfl rfl rfl rfl (by first | decide | omega)) rfl rfl ?_
  first | refine AWo.loadM tbok 0 rfl rfl rfl (by first | decide | omega) rfl rfl ?_ | refine AWo.load tbok rfl rfl rfl rfl rfl rfl ?_
  refine AWo.pure (PureOp.assign rfl) rfl rfl ?_
  refine AWo.nil trivial ?_
  refine AW.draw mixed ?_
  refine AWo.pure (PureOp.move rfl) rfl rfl ?_
  refine AWo.pure (PureOp.move rfl) rfl rfl ?_
  refine AWo.pure (PureOp.move rfl) rfl rfl ?_
  refine AWo.pure (PureOp.nilCheck rfl) rfl rfl ?_
  refine AWo.pure (PureOp.fld tbok rfl rfl rfl (by decide)) rfl rfl ?_
  refine AWo.load tbok rfl rfl rfl (srcC_at hr) rfl rfl ?_
  refine AWo.pure (PureOp.move rfl) rfl rfl ?_
  first | refine AWo.pure (PureOp.addI rfl rfl (by first | decide | omega)) rfl rfl ?_ | refine AWo.pure (PureOp.bin rfl rfl rfl) rfl rfl ?_
  first | refine AWo.pure (PureOp.remN (b := 80) rfl rfl (by first | decide | omega)) rfl rfl ?_ | refine AWo.pure (PureOp.rem rfl rfl (by first | decide | omega)) rfl rfl ?_
  refine AWo.pure (PureOp.nilCheck rfl) rfl rfl ?_
  refine AWo.pure (PureOp.fld tbok rfl rfl rfl (by decide)) rfl rfl ?_
  first | refine AWo.pure (PureOp.arr1 tbok rfl rfl rfl rfl (by first | decide | omega)) rfl rfl ?_ | refine AWo.pure (PureOp.arr tbok rfl rfl rfl rfl (by first | decide | omega)) rfl rfl ?_
  refine AWo.load tbok rfl rfl rfl (srcC_get hr (Nat.mod_lt _ (by decide))) rfl rfl ?_
  refine AWo.pure (PureOp.neqBool Try.underlying4 rfl rfl) rfl rfl ?_
  refine AWo.pure (PureOp.assign rfl) rfl rfl ?_
  refine AWo.nil (by kernel_rfl) ?_
  refine inBlockA_normal ?_
  refine thenA_normal ?_
  refine AW.region ?_
  first | refine AWo.pure (PureOp.addI (b := 1) rfl rfl (by first | decide | omega)) rfl rfl ?_ | refine AWo.pure (PureOp.bin rfl rfl rfl) rfl rfl ?_
  refine AWo.pure (PureOp.move rfl) rfl rfl ?_
  refine AWo.nil trivial ?_
  refine thenA_normal ?_
  refine roundsA_succ ?_
  refine AW.seqR ?_
  first | refine AWo.pure (PureOp.ltN rfl rfl) rfl rfl ?_ | refine AWo.pure (PureOp.bin rfl rfl rfl) rfl rfl ?_
  refine AWo.nil trivial ?_
  refine AW.seq ?_
  refine AW.condF rfl ?_
  refine AW.exit ?_
  refine thenA_exit ?_
  refine thenA_exit ?_
  refine inBlockA_hit ?_
  refine thenA_normal ?_
  refine AW.seqD mixed ?_
  refine AWo.pure (PureOp.move rfl) rfl rfl ?_
  refine AWo.pure (PureOp.move rfl) rfl rfl ?_
  refine AWo.pure (PureOp.nilCheck rfl) rfl rfl ?_
  refine AWo.pure (PureOp.fld tbok rfl rfl rfl (by decide)) rfl rfl ?_
  refine AWo.load tbok rfl rfl rfl (srcC_at hr) rfl rfl ?_
  refine AWo.pure (PureOp.move rfl) rfl rfl ?_
  refine AWo.pure (PureOp.nilCheck rfl) rfl rfl ?_
  refine AWo.pure (PureOp.fld tbok rfl rfl rfl (by decide)) rfl rfl ?_
  first | refine AWo.pure (PureOp.arr1 tbok rfl rfl rfl rfl (by first | decide | omega)) rfl rfl ?_ | refine AWo.pure (PureOp.arr tbok rfl rfl rfl rfl (by first | decide | omega)) rfl rfl ?_
  refine AWo.store1 tbok rfl rfl rfl rfl rfl (by rw [srcC_len hr]; omega) (srcC_set hr ha _) rfl ?_
  refine AWo.nil (by kernel_rfl) ?_
  refine AW.seqR ?_
  refine AWo.pure (PureOp.move rfl) rfl rfl ?_
  refine AWo.pure (PureOp.move rfl) rfl rfl ?_
  refine AWo.pure (PureOp.nilCheck rfl) rfl rfl ?_
  refine AWo.pure (PureOp.fld tbok rfl rfl rfl (by decide)) rfl rfl ?_
  refine AWo.load tbok rfl rfl rfl (srcC_at (by simp [hr])) rfl rfl ?_
  first | refine AWo.pure (PureOp.addI (b := 1) rfl rfl (by first | decide | omega)) rfl rfl ?_ | refine AWo.pure (PureOp.bin rfl rfl rfl) rfl rfl ?_
  first | refine AWo.pure (PureOp.remN (b := 80) rfl rfl (by first | decide | omega)) rfl rfl ?_ | refine AWo.pure (PureOp.rem rfl rfl (by first | decide | omega)) rfl rfl ?_
  refine AWo.pure (PureOp.nilCheck rfl) rfl rfl ?_
  refine AWo.pure (PureOp.fld tbok rfl rfl rfl (by decide)) rfl rfl ?_
  refine AWo.store1 tbok rfl rfl rfl rfl rfl (by rw [srcC_len (by simp [hr])]; decide) (srcC_set_at (by simp [hr]) _) rfl ?_
  refine AWo.nil trivial ?_
  refine AW.seqR ?_
  refine AWo.pure (PureOp.move rfl) rfl rfl ?_
  refine AWo.pure (PureOp.assign rfl) rfl rfl ?_
  refine AWo.nil trivial ?_
  refine AW.ret ?_
  refine RetQ.gc [_] [] [.tmp 2] (.inl rfl) rfl (.tmp rfl .nil) rfl (.cons rfl rfl .nil) (OutL.flat rfl srcC_flat (fun _ => rfl) trivial) (by decide) rfl

theorem turn_ctr {s : GS} (h : GV s) : GC Try.prog 110 [.pointer (some ⟨0, 0, none⟩)] [⟨srcC s.1 s.2, true, 1⟩] [.bool (gbit s)] [⟨srcC (gst s).1 (gst s).2, true, 1⟩] := turn_ctr' h.1 h.2

set_option maxRecDepth 10000 in
theorem bit_ctr {k : Nat} {s : GS} {p : GS × Bool} (hv : GV s) (hp : gN k s = some p) : GC Try.prog 32 [.pointer (some ⟨0, 0, none⟩)] [⟨srcC s.1 s.2, true, 1⟩] [.bool p.2] [⟨srcC p.1.1 p.1.2, true, 1⟩] := by
  refine GC.intro Try.func32 rfl (by show 1 ≤ 12; decide) (by first | exact Nat.le_refl _ | decide | simp) ?_
  refine AW.seqR ?_
  refine AWo.pure (PureOp.assign rfl) rfl rfl ?_
  refine AWo.nil trivial ?_
  refine AW.scopew 0 (fun mm σ => ∃ k, ∃ (s : GS), (GV s ∧ gN k s = some p) ∧ mm = 1 * k ∧ σ = ⟨(upd emp 0 (.pointer (some ⟨0, 0, none⟩))), (upd emp 0 ⟨srcC s.1 s.2, true, 1⟩)⟩) (fm := []) ?_ ⟨k, s, ⟨hv, hp⟩, rfl, rfl⟩ ?_
  ·
    refine Wk.of [0] ?_ ?_ ?_ (by decide) rfl
    ·
      refine WkE.upd rfl (.ptr (0) 0 ⟨_, rfl⟩) ?_
      exact WkE.emp
    ·
      refine WkM.refl rfl srcC_flat (fun h => h) ?_
      exact WkM.emp
    ·
      repeat (refine dom_upd_mem (by decide) ?_)
      exact dom_emp
  ·
    rintro mm σ ⟨k, s, ⟨hv, hp⟩, rfl, rfl⟩
    obtain ⟨k, rfl⟩ : ∃ k', k = k' + 1 := by cases k with | zero => cases hp | succ k => exact ⟨k, rfl⟩
    refine AW.seqR ?_
    refine AWo.pure (PureOp.move rfl) rfl rfl ?_
    refine AWo.callX (turn_ctr hv) bd110 [(0, 0)] [] rfl (.cons rfl .nil) rfl (.cons rfl rfl .nil) (.flat rfl srcC_flat (fun h => h) .nil) rfl (.chg rfl rfl (flat_map_ren srcC_flat) (OkL.flat srcC_flat) .nil) frN (by decide) (.cons rfl rfl .nil) rfl rfl rfl rfl ?_
    refine AWo.pure (PureOp.move rfl) rfl rfl ?_
    refine AWo.callX (turn_ctr hv.gst) bd110 [(0, 0)] [] rfl (.cons rfl .nil) rfl (.cons rfl rfl .nil) (.flat rfl srcC_flat (fun h => h) .nil) rfl (.chg rfl rfl (flat_map_ren srcC_flat) (OkL.flat srcC_flat) .nil) frN (by decide) (.cons rfl rfl .nil) rfl rfl rfl rfl ?_
    refine AWo.pure (PureOp.assign rfl) rfl rfl ?_
    refine AWo.pure (PureOp.assign rfl) rfl rfl ?_
    refine AWo.nil trivial ?_
    refine AW.seq ?_
    refine AW.seqR ?_
    refine AWo.pure (PureOp.move rfl) rfl rfl ?_
    refine AWo.pure (PureOp.not rfl) rfl rfl ?_
    refine AWo.nil trivial ?_
    refine AW.cond rfl (fun hb0 => ?_) (fun hb0 => ?_)
    ·
      refine AW.goto ?_
      refine thenA_goto ?_
      refine jumpA_goto ?_
      refine ⟨1 * k, [], _, by omega, ?_, k, gst (gst s), ⟨hv.gst.gst, by rw [gN, if_neg (by simpa using hb0)] at hp; exact hp⟩, rfl, rfl⟩
      refine Wk.of [0] ?_ ?_ ?_ (by decide) rfl
      ·
        refine WkE.upd rfl (.ptr (0) 0 ⟨_, rfl⟩) ?_
        exact WkE.emp
      ·
        refine WkM.refl rfl srcC_flat (fun h => h) ?_
        exact WkM.emp
      ·
        repeat (refine dom_upd_mem (by decide) ?_)
        exact dom_emp
    ·
      have hg : gbit s = true := by simpa using hb0
      rw [gN, if_pos hg] at hp
      cases hp
      refine AW.skip ?_
      refine thenA_normal ?_
      refine AW.seqR ?_
      refine AWo.pure (PureOp.move rfl) rfl rfl ?_
      refine AWo.pure (PureOp.assign rfl) rfl rfl ?_
      refine AWo.nil trivial ?_
      refine AW.ret ?_
      refine jumpA_ret ?_
      refine RetQ.gc [_] [] [.tmp 2] (.inl rfl) rfl (.tmp rfl .nil) rfl (.cons rfl rfl .nil) (OutL.flat rfl srcC_flat (fun _ => rfl) trivial) (by decide) rfl

set_option maxRecDepth 10000 in
theorem number_ctr {s : GS} (hg : GG s) {bits : Int} {c : Nat} (hc : (vi .i64 c) = .int .i64 (if (64 : Int) < (if 0 > bits then 0 else bits) then 64 else (if 0 > bits then 0 else bits))) (hc2 : c ≤ 64) :
    GC Try.prog 31 [.pointer (some ⟨0, 0, none⟩), .int .i64 bits] [⟨srcC s.1 s.2, true, 1⟩] [vi .u64 (gpre c s).1] [⟨srcC (gpre c s).2.1 (gpre c s).2.2, true, 1⟩] := by
  refine GC.intro Try.func31 rfl (by show 2 ≤ 19; decide) (by first | exact Nat.le_refl _ | decide | simp) ?_
  refine AW.seqR ?_
  refine AWo.pure (PureOp.assign rfl) rfl rfl ?_
  refine AWo.nil trivial ?_
  refine AW.seqR ?_
  refine AWo.pure (PureOp.assign rfl) rfl rfl ?_
  refine AWo.nil trivial ?_
  refine AW.seq ?_
  refine AW.seqR ?_
  refine AWo.pure (PureOp.move rfl) rfl rfl ?_
  first | refine AWo.pure ((PureOp.maxN rfl rfl).mono (v' := .int .i64 (if 0 > bits then 0 else bits)) rfl) rfl rfl ?_ | refine AWo.pure ((PureOp.max rfl rfl).mono (v' := .int .i64 (if 0 > bits then 0 else bits)) rfl) rfl rfl ?_
  first | refine AWo.pure ((PureOp.minN rfl rfl).mono (v' := vi .i64 c) (by rw [hc])) rfl rfl ?_ | refine AWo.pure ((PureOp.min rfl rfl).mono (v' := vi .i64 c) (by rw [hc])) rfl rfl ?_
  refine AWo.pure (PureOp.move rfl) rfl rfl ?_
  refine AWo.nil trivial ?_
  refine AW.block ?_
  refine AW.loopw (fun mm σ => ∃ i, (i ≤ c) ∧ mm = c - i ∧ σ = ⟨(upd (upd (upd (upd emp 9 (vi .i64 i)) 8 (vi .i64 c)) 0 (.pointer (some ⟨0, 0, none⟩))) 5 (vi .u64 (gpre i s).1)), (upd emp 0 ⟨srcC (gpre i s).2.1 (gpre i s).2.2, true, 1⟩)⟩) (fm := []) ?_ ⟨0, Nat.zero_le _, rfl, rfl⟩ ?_
  ·
    refine Wk.of [0] ?_ ?_ ?_ (by decide) rfl
    ·
      refine WkE.upd rfl (VR.eqv (by simp only [gpre]; simp [vi, *]) rfl) ?_
      refine WkE.upd rfl (.ptr (0) 0 ⟨_, rfl⟩) ?_
      refine WkE.upd rfl (by first | exact VR.flat _ rfl | exact VR.eqv (by first | rfl | (congr 1; omega) | (simp; done) | (simp; omega)) rfl) ?_
      refine WkE.upd rfl (by first | exact VR.flat _ rfl | exact VR.eqv (by first | rfl | (congr 1; omega) | (simp; done) | (simp; omega)) rfl) ?_
      exact WkE.emp
    ·
      refine WkM.refl rfl srcC_flat (fun h => h) ?_
      exact WkM.emp
    ·
      repeat (refine dom_upd_mem (by decide) ?_)
      exact dom_emp
  ·
    rintro mm σ ⟨i, hinv, rfl, rfl⟩
    refine AW.seqR ?_
    first | refine AWo.pure (PureOp.ltN rfl rfl) rfl rfl ?_ | refine AWo.pure (PureOp.bin rfl rfl rfl) rfl rfl ?_
    refine AWo.nil trivial ?_
    refine AW.seq ?_
    refine AW.cond rfl (fun hb0 => ?_) (fun hb0 => ?_)
    ·
      have hic : i < c := by simpa using hb0
      refine AW.skip ?_
      refine thenA_normal ?_
      refine AW.seq ?_
      refine AW.block ?_
      refine AW.seqR ?_
      refine AWo.pure (PureOp.move rfl) rfl rfl ?_
      first | refine AWo.pure (PureOp.shlUge (b := 1) 18446744073709551616 rfl rfl rfl rfl) rfl rfl ?_ | refine AWo.pure (PureOp.shl rfl rfl (by first | decide | omega)) rfl rfl ?_
      refine AWo.pure (PureOp.assign rfl) rfl rfl ?_
      refine AWo.nil trivial ?_
      refine AW.seqR ?_
      refine AWo.pure (PureOp.move rfl) rfl rfl ?_
      refine AWo.callX (bit_ctr (hg.pre i).1 (gnx_eq (hg.pre i))) bd32 [(0, 0)] [] rfl (.cons rfl .nil) rfl (.cons rfl rfl .nil) (.flat rfl srcC_flat (fun h => h) .nil) rfl (.chg rfl rfl (flat_map_ren srcC_flat) (OkL.flat srcC_flat) .nil) frN (by decide) (.cons rfl rfl .nil) rfl rfl rfl rfl ?_
      refine AWo.nil trivial ?_
      refine AW.cond rfl (fun hb1 => ?_) (fun hb1 => ?_)
      ·
        refine AW.region ?_
        refine AWo.pure (PureOp.move rfl) rfl rfl ?_
        refine AWo.pure (PureOp.orN 18446744073709551616 rfl rfl (by decide) (by decide) (Nat.mod_lt _ (by decide)) (by decide)) rfl rfl ?_
        refine AWo.pure (PureOp.assign rfl) rfl rfl ?_
        refine AWo.nil trivial ?_
        refine inBlockA_normal ?_
        refine thenA_normal ?_
        refine AW.region ?_
        first | refine AWo.pure (PureOp.addI (b := 1) rfl rfl (by first | decide | omega)) rfl rfl ?_ | refine AWo.pure (PureOp.bin rfl rfl rfl) rfl rfl ?_
        refine AWo.pure (PureOp.move rfl) rfl rfl ?_
        refine AWo.nil trivial ?_
        refine thenA_normal ?_
        refine ⟨c - (i + 1), [], _, by omega, ?_, i + 1, by omega, rfl, rfl⟩
        refine Wk.of [0] ?_ ?_ ?_ (by decide) rfl
        ·
          refine WkE.upd rfl (VR.eqv (by simp only [gpre]; simp [vi, *]) rfl) ?_
          refine WkE.upd rfl (.ptr (0) 0 ⟨_, rfl⟩) ?_
          refine WkE.upd rfl (by first | exact VR.flat _ rfl | exact VR.eqv (by first | rfl | (congr 1; omega) | (simp; done) | (simp; omega)) rfl) ?_
          refine WkE.upd rfl (by first | exact VR.flat _ rfl | exact VR.eqv (by first | rfl | (congr 1; omega) | (simp; done) | (simp; omega)) rfl) ?_
          exact WkE.emp
        ·
          refine WkM.refl rfl srcC_flat (fun h => h) ?_
          exact WkM.emp
        ·
          repeat (refine dom_upd_mem (by decide) ?_)
          exact dom_emp
      ·
        refine AW.skip ?_
        refine inBlockA_normal ?_
        refine thenA_normal ?_
        refine AW.region ?_
        first | refine AWo.pure (PureOp.addI (b := 1) rfl rfl (by first | decide | omega)) rfl rfl ?_ | refine AWo.pure (PureOp.bin rfl rfl rfl) rfl rfl ?_
        refine AWo.pure (PureOp.move rfl) rfl rfl ?_
        refine AWo.nil trivial ?_
        refine thenA_normal ?_
        refine ⟨c - (i + 1), [], _, by omega, ?_, i + 1, by omega, rfl, rfl⟩
        refine Wk.of [0] ?_ ?_ ?_ (by decide) rfl
        ·
          refine WkE.upd rfl (VR.eqv (by simp only [gpre]; simp [vi, *]) rfl) ?_
          refine WkE.upd rfl (.ptr (0) 0 ⟨_, rfl⟩) ?_
          refine WkE.upd rfl (by first | exact VR.flat _ rfl | exact VR.eqv (by first | rfl | (congr 1; omega) | (simp; done) | (simp; omega)) rfl) ?_
          refine WkE.upd rfl (by first | exact VR.flat _ rfl | exact VR.eqv (by first | rfl | (congr 1; omega) | (simp; done) | (simp; omega)) rfl) ?_
          exact WkE.emp
        ·
          refine WkM.refl rfl srcC_flat (fun h => h) ?_
          exact WkM.emp
        ·
          repeat (refine dom_upd_mem (by decide) ?_)
          exact dom_emp
    ·
      have hic : i = c := by simp at hb0; omega
      subst hic
      refine AW.exit ?_
      refine thenA_exit ?_
      refine thenA_exit ?_
      refine inBlockA_hit ?_
      refine thenA_normal ?_
      refine AW.seqR ?_
      refine AWo.pure (PureOp.move rfl) rfl rfl ?_
      refine AWo.pure (PureOp.assign rfl) rfl rfl ?_
      refine AWo.nil trivial ?_
      refine AW.ret ?_
      refine RetQ.gc [_] [] [.tmp 4] (.inl rfl) rfl (.tmp rfl .nil) rfl (.cons rfl rfl .nil) (OutL.flat rfl srcC_flat (fun _ => rfl) trivial) (by decide) rfl

def glay (n bits : Nat) (r : List Bool) (a : Nat) : Nat → List Bool
  | 0 => r
  | i + 1 => (glay n bits r a i).set (a + i) (n / 2 ^ (bits - 1 - i) &&& 1 == 1)

theorem glay_len {n bits : Nat} {r : List Bool} {a : Nat} (i : Nat) : (glay n bits r a i).length = r.length := by
  induction i with
  | zero => rfl
  | succ i ih => simp [glay, ih]

set_option maxRecDepth 10000 in
theorem lay_ctr {n bits a : Nat} {r : List Bool} (hn : n < 9223372036854775808) (hr : r.length = 80) (hb : bits ≤ 64) (ha : a + bits ≤ 80) :
    GC Try.prog 109 [vi .i64 n, vi .i64 bits, .pointer (some ⟨0, 0, none⟩), .pointer (some ⟨1, 0, none⟩)] [⟨[.pointer (some ⟨2, 0, none⟩)], false, 1⟩, ⟨[vi .i64 a], true, 1⟩, ⟨srcC r 0, true, 1⟩] []
      [⟨[.pointer (some ⟨2, 0, none⟩)], false, 1⟩, ⟨[vi .i64 (a + bits)], true, 1⟩, ⟨srcC (glay n bits r a bits) 0, true, 1⟩] := by
  refine GC.intro Try.func109 rfl (by show 4 ≤ 25; decide) (by first | exact Nat.le_refl _ | decide | simp) ?_
  refine AW.seqR ?_
  refine AWo.pure (PureOp.move rfl) rfl rfl ?_
  first | refine AWo.pure ((PureOp.subI (b := 1) rfl rfl (by first | decide | omega) (by first | decide | omega)).mono (v' := .int .i64 ((bits : Nat) - 1)) (by rw [IntWalk.i64_in _ (by omega)])) rfl rfl ?_ | refine AWo.pure ((PureOp.bin rfl rfl rfl).mono (v' := .int .i64 ((bits : Nat) - 1)) (by rw [IntWalk.i64_in _ (by omega)])) rfl rfl ?_
  refine AWo.pure (PureOp.assign rfl) rfl rfl ?_
  refine AWo.nil trivial ?_
  refine AW.block ?_
  refine AW.loopw (fun mm σ => ∃ i, (i ≤ bits) ∧ mm = bits - i ∧ σ = ⟨(upd (upd (upd (upd emp 6 (.int .i64 ((bits : Nat) - 1 - (i : Nat)))) 0 (vi .i64 n)) 2 (.pointer (some ⟨0, 0, none⟩))) 3 (.pointer (some ⟨1, 0, none⟩))), (upd (upd (upd emp 0 ⟨[.pointer (some ⟨2, 0, none⟩)], false, 1⟩) 1 ⟨[vi .i64 (a + i)], true, 1⟩) 2 ⟨srcC (glay n bits r a i) 0, true, 1⟩)⟩) (fm := []) ?_ ⟨0, Nat.zero_le _, rfl, rfl⟩ ?_
  ·
    refine Wk.of [0, 1, 2] ?_ ?_ ?_ (by decide) rfl
    ·
      refine WkE.upd rfl (.ptr (1) 0 ⟨_, rfl⟩) ?_
      refine WkE.upd rfl (.ptr (0) 0 ⟨_, rfl⟩) ?_
      refine WkE.upd rfl (by first | exact VR.flat _ rfl | exact VR.eqv (by first | rfl | (congr 1; omega) | (simp; done) | (simp; omega)) rfl) ?_
      refine WkE.upd rfl (by first | exact VR.flat _ rfl | exact VR.eqv (by first | rfl | (congr 1; omega) | (simp; done) | (simp; omega)) rfl) ?_
      exact WkE.emp
    ·
      refine WkM.refl rfl srcC_flat (fun h => h) ?_
      refine WkM.refl rfl (flat1 rfl) (fun h => h) ?_
      refine WkM.ptr rfl ⟨_, rfl⟩ (fun h => h) ?_
      exact WkM.emp
    ·
      repeat (refine dom_upd_mem (by decide) ?_)
      exact dom_emp
  ·
    rintro mm σ ⟨i, hinv, rfl, rfl⟩
    refine AW.seq ?_
    refine AW.seqR ?_
    refine AWo.pure (PureOp.move rfl) rfl rfl ?_
    first | refine AWo.pure ((PureOp.geN (b := 0) rfl rfl).mono (v' := .bool (decide (i < bits))) (by congr 1; rw [Bool.eq_iff_iff]; simp; omega)) rfl rfl ?_ | refine AWo.pure ((PureOp.bin rfl rfl rfl).mono (v' := .bool (decide (i < bits))) (by congr 1; rw [Bool.eq_iff_iff]; simp; omega)) rfl rfl ?_
    refine AWo.nil trivial ?_
    refine AW.cond rfl (fun hb0 => ?_) (fun hb0 => ?_)
    ·
      have hic : i < bits := by simpa using hb0
      refine AW.skip ?_
      refine thenA_normal ?_
      refine AW.seq ?_
      refine AW.block ?_
      refine AW.seqD mixed ?_
      refine AWo.load tbok rfl rfl rfl rfl rfl rfl ?_
      first | refine AWo.loadM tbok 0 rfl rfl rfl (by first | decide | omega) rfl rfl ?_ | refine AWo.load tbok rfl rfl rfl rfl rfl rfl ?_
      refine AWo.pure (PureOp.move rfl) rfl rfl ?_
      first | refine AWo.pure ((PureOp.move rfl).mono (v' := vi .i64 (bits - 1 - i)) (by simp only [vi]; congr 1; omega)) rfl rfl ?_
      first | refine AWo.pure (PureOp.shrN 64 rfl rfl rfl (by first | decide | omega)) rfl rfl ?_ | refine AWo.pure (PureOp.shr rfl rfl (by first | decide | omega)) rfl rfl ?_
      refine AWo.pure (PureOp.andN 9223372036854775808 rfl rfl (by decide) (by decide) (Nat.lt_of_le_of_lt (Nat.div_le_self _ _) (by omega)) (by decide)) rfl rfl ?_
      first | refine AWo.pure (PureOp.eqN (b := 1) rfl rfl) rfl rfl ?_ | refine AWo.pure (PureOp.bin rfl rfl rfl) rfl rfl ?_
      refine AWo.pure (PureOp.nilCheck rfl) rfl rfl ?_
      refine AWo.pure (PureOp.fld tbok rfl rfl rfl (by decide)) rfl rfl ?_
      first | refine AWo.pure (PureOp.arr1 tbok rfl rfl rfl rfl (by first | decide | omega)) rfl rfl ?_ | refine AWo.pure (PureOp.arr tbok rfl rfl rfl rfl (by first | decide | omega)) rfl rfl ?_
      refine AWo.store1 tbok rfl rfl rfl rfl rfl (by rw [srcC_len (by simp [glay_len, hr])]; omega) (srcC_set (by simp [glay_len, hr]) (by omega) _) rfl ?_
      refine AWo.nil (by kernel_rfl) ?_
      refine AW.region ?_
      first | refine AWo.loadM tbok 0 rfl rfl rfl (by first | decide | omega) rfl rfl ?_ | refine AWo.load tbok rfl rfl rfl rfl rfl rfl ?_
      first | refine AWo.pure (PureOp.addI (b := 1) rfl rfl (by first | decide | omega)) rfl rfl ?_ | refine AWo.pure (PureOp.bin rfl rfl rfl) rfl rfl ?_
      refine AWo.store1 tbok rfl rfl rfl rfl rfl Nat.zero_lt_one rfl rfl ?_
      refine AWo.nil trivial ?_
      refine inBlockA_normal ?_
      refine thenA_normal ?_
      refine AW.region ?_
      refine AWo.pure (PureOp.move rfl) rfl rfl ?_
      first | refine AWo.pure ((PureOp.subI (b := 1) rfl rfl (by first | decide | omega) (by first | decide | omega)).mono (v' := .int .i64 ((bits : Nat) - 1 - (i + 1 : Nat))) (by rw [IntWalk.i64_in _ (by omega)]; congr 1; omega)) rfl rfl ?_ | refine AWo.pure ((PureOp.bin rfl rfl rfl).mono (v' := .int .i64 ((bits : Nat) - 1 - (i + 1 : Nat))) (by rw [IntWalk.i64_in _ (by omega)]; congr 1; omega)) rfl rfl ?_
      refine AWo.pure (PureOp.assign rfl) rfl rfl ?_
      refine AWo.nil trivial ?_
      refine thenA_normal ?_
      refine ⟨bits - (i + 1), [], _, by omega, ?_, i + 1, by omega, rfl, rfl⟩
      refine Wk.of [0, 1, 2] ?_ ?_ ?_ (by decide) rfl
      ·
        refine WkE.upd rfl (.ptr (1) 0 ⟨_, rfl⟩) ?_
        refine WkE.upd rfl (.ptr (0) 0 ⟨_, rfl⟩) ?_
        refine WkE.upd rfl (by first | exact VR.flat _ rfl | exact VR.eqv (by first | rfl | (congr 1; omega) | (simp; done) | (simp; omega)) rfl) ?_
        refine WkE.upd rfl (by first | exact VR.flat _ rfl | exact VR.eqv (by first | rfl | (congr 1; omega) | (simp; done) | (simp; omega)) rfl) ?_
        exact WkE.emp
      ·
        refine WkM.refl rfl srcC_flat (fun h => h) ?_
        refine WkM.refl rfl (flat1 rfl) (fun h => h) ?_
        refine WkM.ptr rfl ⟨_, rfl⟩ (fun h => h) ?_
        exact WkM.emp
      ·
        repeat (refine dom_upd_mem (by decide) ?_)
        exact dom_emp
    ·
      have hic : i = bits := by simp at hb0; omega
      subst hic
      refine AW.exit ?_
      refine thenA_exit ?_
      refine thenA_exit ?_
      refine inBlockA_hit ?_
      refine RetQ.gc [] [] [] (.inr rfl) rfl .nil rfl .nil (OutL.whole rfl rfl (OkL.all rfl) (by simp) (OutL.flat rfl (flat1 rfl) (fun _ => rfl) (OutL.flat rfl srcC_flat (fun _ => rfl) trivial))) (by decide) rfl
theorem glay_succ {n bits a i : Nat} {r : List Bool} : glay n bits r a (i + 1) = (glay n bits r a i).set (a + i) (n / 2 ^ (bits - 1 - i) &&& 1 == 1) := rfl

attribute [irreducible] glay

end Go.Proofs.Ytiikffiembcboaa
