/- The numbers' examples. -/
import Derived.Test.YtiikffiembcboaaMod5
namespace Go.Proofs.Ytiikffiembcboaa
open Go Sim

theorem bd_one {x : Nat} (h : x < 18446744073709551616) : bd 18446744073709551616 [x] := fun y hy => by simp at hy; rw [hy]; exact h

theorem mwOk7 : MwOk [7] := ⟨bd_one (by decide), by decide, by decide, by decide⟩
theorem iv7 : (num 18446744073709551616 [7] * ninvR 7 + 1) % 18446744073709551616 = 0 := ninvR_ok (l := [7]) (bd_one (by decide)) rfl

theorem sp_add : GC Try.prog 63 [.slice (some ⟨0, 0, none⟩) 1 0, .slice (some ⟨1, 0, none⟩) 1 0] [⟨([18446744073709551615]).map (vi .u64), false, 1⟩, ⟨([1]).map (vi .u64), false, 1⟩] [.slice (some ⟨2, 0, none⟩) 1 0, vi .u64 (1)] [⟨([18446744073709551615]).map (vi .u64), false, 1⟩, ⟨([1]).map (vi .u64), false, 1⟩, ⟨([0]).map (vi .u64), true, 1⟩] := ladd_ctr (a := [18446744073709551615]) (b := [1]) (bd_one (by decide)) (bd_one (by decide)) (by decide) (by decide)
theorem sp_new : GC Try.prog 52 [.slice (some ⟨0, 0, none⟩) 1 0] [⟨([7]).map (vi .u64), false, 1⟩] [.pointer (some ⟨1, 0, none⟩), .int .i64 0] [⟨([7]).map (vi .u64), false, 1⟩, ⟨[.slice (some ⟨2, 0, none⟩) ([7]).length 0, vi .u64 (ninvR 7), .slice (some ⟨3, 0, none⟩) [7].length 0], true, 1⟩, ⟨([7]).map (vi .u64), true, 1⟩, ⟨(digs 18446744073709551616 [7].length (18446744073709551616 ^ [7].length * 18446744073709551616 ^ [7].length % num 18446744073709551616 [7])).map (vi .u64), true, 1⟩] := lnew_ctr (mw := [7]) (bd_one (by decide)) (by decide) (by decide) (by decide) (by decide) (by decide)
theorem sp_mul : GC Try.prog 59 [.pointer (some ⟨0, 0, none⟩), .slice (some ⟨3, 0, none⟩) 1 0, .slice (some ⟨4, 0, none⟩) 1 0] [⟨[.slice (some ⟨1, 0, none⟩) ([7]).length 0, vi .u64 (ninvR 7), .slice (some ⟨2, 0, none⟩) [7].length 0], false, 1⟩, ⟨([7]).map (vi .u64), false, 1⟩, ⟨(digs 18446744073709551616 [7].length (18446744073709551616 ^ [7].length * 18446744073709551616 ^ [7].length % num 18446744073709551616 [7])).map (vi .u64), false, 1⟩, ⟨([3]).map (vi .u64), false, 1⟩, ⟨([5]).map (vi .u64), false, 1⟩] [.slice (some ⟨5, 0, none⟩) 1 0] [⟨[.slice (some ⟨1, 0, none⟩) ([7]).length 0, vi .u64 (ninvR 7), .slice (some ⟨2, 0, none⟩) [7].length 0], false, 1⟩, ⟨([7]).map (vi .u64), false, 1⟩, ⟨(digs 18446744073709551616 [7].length (18446744073709551616 ^ [7].length * 18446744073709551616 ^ [7].length % num 18446744073709551616 [7])).map (vi .u64), false, 1⟩, ⟨([3]).map (vi .u64), false, 1⟩, ⟨([5]).map (vi .u64), false, 1⟩, ⟨([1]).map (vi .u64), true, 1⟩] := mmul_ctr (mw := [7]) (a := [3]) (b := [5]) mwOk7 (bd_one (by decide)) (bd_one (by decide)) (by decide) (by decide) iv7
theorem sp_exp : GC Try.prog 54 [.pointer (some ⟨0, 0, none⟩), .slice (some ⟨3, 0, none⟩) 1 0, .slice (some ⟨4, 0, none⟩) 1 0] [⟨[.slice (some ⟨1, 0, none⟩) ([7]).length 0, vi .u64 (ninvR 7), .slice (some ⟨2, 0, none⟩) [7].length 0], false, 1⟩, ⟨([7]).map (vi .u64), false, 1⟩, ⟨(digs 18446744073709551616 [7].length (18446744073709551616 ^ [7].length * 18446744073709551616 ^ [7].length % num 18446744073709551616 [7])).map (vi .u64), false, 1⟩, ⟨([3]).map (vi .u64), false, 1⟩, ⟨([6]).map (vi .u64), false, 1⟩] [.slice (some ⟨5, 0, none⟩) 1 0] [⟨[.slice (some ⟨1, 0, none⟩) ([7]).length 0, vi .u64 (ninvR 7), .slice (some ⟨2, 0, none⟩) [7].length 0], false, 1⟩, ⟨([7]).map (vi .u64), false, 1⟩, ⟨(digs 18446744073709551616 [7].length (18446744073709551616 ^ [7].length * 18446744073709551616 ^ [7].length % num 18446744073709551616 [7])).map (vi .u64), false, 1⟩, ⟨([3]).map (vi .u64), false, 1⟩, ⟨([6]).map (vi .u64), false, 1⟩, ⟨([1]).map (vi .u64), true, 1⟩] := mexp_ctr (mw := [7]) (a := [3]) (b := [6]) mwOk7 (bd_one (by decide)) (bd_one (by decide)) (by decide) (by decide) iv7 (by decide)
theorem sp_same : GC Try.prog 53 [.slice (some ⟨0, 0, none⟩) 1 0, .slice (some ⟨1, 0, none⟩) 1 0] [⟨([1]).map (vi .u64), false, 1⟩, ⟨([1]).map (vi .u64), false, 1⟩] [.bool true] [⟨([1]).map (vi .u64), false, 1⟩, ⟨([1]).map (vi .u64), false, 1⟩] := same_ctr (a := [1]) (b := [1]) (by decide)

set_option maxRecDepth 10000 in
theorem speaks1_ctr : GC Try.prog 50 [] [] [.bool true] [] := by
  refine GC.intro Try.func50 rfl (by show 0 ≤ 51; decide) (by first | exact Nat.le_refl _ | decide | simp) ?_
  refine AW.seqR ?_
  refine AWo.pure (PureOp.assign rfl) rfl rfl ?_
  refine AWo.nil trivial ?_
  refine AW.seqR ?_
  refine AWo.buildSlice tbok 7000 [(0, vi .u64 18446744073709551615)] (out := [vi .u64 18446744073709551615]) rfl rfl (by decide) rfl rfl rfl (by decide) rfl rfl rfl rfl rfl ?_
  refine AWo.buildSlice tbok 8000 [(0, vi .u64 1)] (out := [vi .u64 1]) rfl rfl (by decide) rfl rfl rfl (by decide) rfl rfl rfl rfl rfl ?_
  refine AWo.callX (sp_add) bd63 [(7000, 0), (8000, 0)] [9000] rfl (.cons rfl (.cons rfl .nil)) rfl (.cons rfl rfl (.cons rfl rfl .nil)) (.flat rfl (by first | exact flatM flat_vi | exact flatM flat_bool | (simp [flatV, flat_vi]; done)) (by intro h; first | exact h | rfl) (.flat rfl (by first | exact flatM flat_vi | exact flatM flat_bool | (simp [flatV, flat_vi]; done)) (by intro h; first | exact h | rfl) .nil)) rfl (.keep rfl (.keep rfl (.new (flat_map_ren (by first | exact flatM flat_vi | exact flatM flat_bool | (simp [flatV, flat_vi]; done))) (OkL.flat (by first | exact flatM flat_vi | exact flatM flat_bool | (simp [flatV, flat_vi]; done))) .nil))) (frC rfl frN) (by decide) (.cons rfl rfl (.cons rfl rfl .nil)) rfl rfl rfl rfl ?_
  refine AWo.pure (PureOp.move rfl) rfl rfl ?_
  refine AWo.pure (PureOp.extract rfl rfl) rfl rfl ?_
  refine AWo.pure (PureOp.extract rfl rfl) rfl rfl ?_
  refine AWo.pure (PureOp.assign rfl) rfl rfl ?_
  refine AWo.pure (PureOp.assign rfl) rfl rfl ?_
  refine AWo.nil trivial ?_
  refine AW.seqR ?_
  refine AWo.buildSlice tbok 13000 [(0, vi .u64 7)] (out := [vi .u64 7]) rfl rfl (by decide) rfl rfl rfl (by decide) rfl rfl rfl rfl rfl ?_
  refine AWo.callX (sp_new) bd52 [(13000, 0)] [14000, 14001, 14002] rfl (.cons rfl .nil) rfl (.cons rfl rfl .nil) (.flat rfl (by first | exact flatM flat_vi | exact flatM flat_bool | (simp [flatV, flat_vi]; done)) (by intro h; first | exact h | rfl) .nil) rfl (.keep rfl (.new rfl (OkL.all rfl) (.new (flat_map_ren (flatM flat_vi)) (OkL.flat (flatM flat_vi)) (.new (flat_map_ren (flatM flat_vi)) (OkL.flat (flatM flat_vi)) .nil)))) (frC rfl (frC rfl (frC rfl frN))) (by decide) (.cons rfl rfl (.cons rfl rfl .nil)) rfl rfl rfl rfl ?_
  refine AWo.pure (PureOp.move rfl) rfl rfl ?_
  refine AWo.pure (PureOp.extract rfl rfl) rfl rfl ?_
  refine AWo.pure (PureOp.extract rfl rfl) rfl rfl ?_
  refine AWo.pure (PureOp.assign rfl) rfl rfl ?_
  refine AWo.pure (PureOp.assign rfl) rfl rfl ?_
  refine AWo.nil trivial ?_
  refine AW.seq ?_
  refine AW.seqR ?_
  refine AWo.pure (PureOp.move rfl) rfl rfl ?_
  refine AWo.pure (PureOp.lenS tbok rfl rfl) rfl rfl ?_
  first | refine AWo.pure ((PureOp.neN (b := 1) rfl rfl).mono (v' := .bool false) rfl) rfl rfl ?_ | refine AWo.pure ((PureOp.bin rfl rfl rfl).mono (v' := .bool false) rfl) rfl rfl ?_
  refine AWo.pure (PureOp.move rfl) rfl rfl ?_
  refine AWo.pure (PureOp.move rfl) rfl rfl ?_
  first | refine AWo.pure (PureOp.idx1 (j := 0) tbok rfl rfl rfl rfl (by first | decide | omega)) rfl rfl ?_ | refine AWo.pure (PureOp.idx (j := 0) tbok rfl rfl rfl rfl (by first | decide | omega)) rfl rfl ?_
  first | refine AWo.loadM tbok 0 rfl rfl rfl (by first | decide | omega) rfl rfl ?_ | refine AWo.load tbok rfl rfl rfl rfl rfl rfl ?_
  first | refine AWo.pure ((PureOp.neN (b := 0) rfl rfl).mono (v' := .bool false) rfl) rfl rfl ?_ | refine AWo.pure ((PureOp.bin rfl rfl rfl).mono (v' := .bool false) rfl) rfl rfl ?_
  refine AWo.pure (PureOp.pickF rfl rfl) rfl rfl ?_
  refine AWo.pure (PureOp.move rfl) rfl rfl ?_
  refine AWo.pure (PureOp.move rfl) rfl rfl ?_
  first | refine AWo.pure ((PureOp.neN (b := 1) rfl rfl).mono (v' := .bool false) rfl) rfl rfl ?_ | refine AWo.pure ((PureOp.bin rfl rfl rfl).mono (v' := .bool false) rfl) rfl rfl ?_
  refine AWo.pure (PureOp.pickF rfl rfl) rfl rfl ?_
  refine AWo.pure (PureOp.move rfl) rfl rfl ?_
  refine AWo.pure (PureOp.move rfl) rfl rfl ?_
  first | refine AWo.pure ((PureOp.neN (b := 0) rfl rfl).mono (v' := .bool false) rfl) rfl rfl ?_ | refine AWo.pure ((PureOp.bin rfl rfl rfl).mono (v' := .bool false) rfl) rfl rfl ?_
  refine AWo.pure (PureOp.pickF rfl rfl) rfl rfl ?_
  refine AWo.pure (PureOp.move rfl) rfl rfl ?_
  refine AWo.pure (PureOp.move rfl) rfl rfl ?_
  first | refine AWo.pure ((PureOp.ptrEqNil Try.underlying80 rfl).mono (v' := .bool false) rfl) rfl rfl ?_ | refine AWo.pure ((PureOp.nilEqNil Try.underlying80 rfl rfl).mono (v' := .bool false) rfl) rfl rfl ?_
  refine AWo.pure (PureOp.pickF rfl rfl) rfl rfl ?_
  refine AWo.nil trivial ?_
  refine AW.condF rfl ?_
  refine AW.skip ?_
  refine thenA_normal ?_
  refine AW.seqR ?_
  refine AWo.pure (PureOp.move rfl) rfl rfl ?_
  refine AWo.buildSlice tbok 39000 [(0, vi .u64 3)] (out := [vi .u64 3]) rfl rfl (by decide) rfl rfl rfl (by decide) rfl rfl rfl rfl rfl ?_
  refine AWo.buildSlice tbok 40000 [(0, vi .u64 5)] (out := [vi .u64 5]) rfl rfl (by decide) rfl rfl rfl (by decide) rfl rfl rfl rfl rfl ?_
  refine AWo.callX (sp_mul) bd59 [(14000, 0), (14001, 0), (14002, 0), (39000, 0), (40000, 0)] [41000] rfl (.cons rfl (.cons rfl (.cons rfl .nil))) rfl (.cons rfl rfl (.cons rfl rfl (.cons rfl rfl .nil))) (.whole rfl rfl (OkL.all rfl) (by intro h; first | exact h | rfl) (.flat rfl (flatM flat_vi) (by intro h; first | exact h | rfl) (.flat rfl (flatM flat_vi) (by intro h; first | exact h | rfl) (.flat rfl (by first | exact flatM flat_vi | exact flatM flat_bool | (simp [flatV, flat_vi]; done)) (by intro h; first | exact h | rfl) (.flat rfl (by first | exact flatM flat_vi | exact flatM flat_bool | (simp [flatV, flat_vi]; done)) (by intro h; first | exact h | rfl) .nil))))) rfl (.keep rfl (.keep rfl (.keep rfl (.keep rfl (.keep rfl (.new (flat_map_ren (by first | exact flatM flat_vi | exact flatM flat_bool | (simp [flatV, flat_vi]; done))) (OkL.flat (by first | exact flatM flat_vi | exact flatM flat_bool | (simp [flatV, flat_vi]; done))) .nil)))))) (frC rfl frN) (by decide) (.cons rfl rfl .nil) rfl rfl rfl rfl ?_
  refine AWo.buildSlice tbok 42000 [(0, vi .u64 1)] (out := [vi .u64 1]) rfl rfl (by decide) rfl rfl rfl (by decide) rfl rfl rfl rfl rfl ?_
  refine AWo.callX (sp_same) bd53 [(41000, 0), (42000, 0)] [] rfl (.cons rfl (.cons rfl .nil)) rfl (.cons rfl rfl (.cons rfl rfl .nil)) (.flat rfl (by first | exact flatM flat_vi | exact flatM flat_bool | (simp [flatV, flat_vi]; done)) (by intro h; first | exact h | rfl) (.flat rfl (by first | exact flatM flat_vi | exact flatM flat_bool | (simp [flatV, flat_vi]; done)) (by intro h; first | exact h | rfl) .nil)) rfl (.keep rfl (.keep rfl .nil)) frN (by decide) (.cons rfl rfl .nil) rfl rfl rfl rfl ?_
  refine AWo.pure (PureOp.move rfl) rfl rfl ?_
  refine AWo.pure (PureOp.move rfl) rfl rfl ?_
  refine AWo.buildSlice tbok 46000 [(0, vi .u64 3)] (out := [vi .u64 3]) rfl rfl (by decide) rfl rfl rfl (by decide) rfl rfl rfl rfl rfl ?_
  refine AWo.buildSlice tbok 47000 [(0, vi .u64 6)] (out := [vi .u64 6]) rfl rfl (by decide) rfl rfl rfl (by decide) rfl rfl rfl rfl rfl ?_
  refine AWo.callX (sp_exp) bd54 [(14000, 0), (14001, 0), (14002, 0), (46000, 0), (47000, 0)] [48000] rfl (.cons rfl (.cons rfl (.cons rfl .nil))) rfl (.cons rfl rfl (.cons rfl rfl (.cons rfl rfl .nil))) (.whole rfl rfl (OkL.all rfl) (by intro h; first | exact h | rfl) (.flat rfl (flatM flat_vi) (by intro h; first | exact h | rfl) (.flat rfl (flatM flat_vi) (by intro h; first | exact h | rfl) (.flat rfl (by first | exact flatM flat_vi | exact flatM flat_bool | (simp [flatV, flat_vi]; done)) (by intro h; first | exact h | rfl) (.flat rfl (by first | exact flatM flat_vi | exact flatM flat_bool | (simp [flatV, flat_vi]; done)) (by intro h; first | exact h | rfl) .nil))))) rfl (.keep rfl (.keep rfl (.keep rfl (.keep rfl (.keep rfl (.new (flat_map_ren (by first | exact flatM flat_vi | exact flatM flat_bool | (simp [flatV, flat_vi]; done))) (OkL.flat (by first | exact flatM flat_vi | exact flatM flat_bool | (simp [flatV, flat_vi]; done))) .nil)))))) (frC rfl frN) (by decide) (.cons rfl rfl .nil) rfl rfl rfl rfl ?_
  refine AWo.buildSlice tbok 49000 [(0, vi .u64 1)] (out := [vi .u64 1]) rfl rfl (by decide) rfl rfl rfl (by decide) rfl rfl rfl rfl rfl ?_
  refine AWo.callX (sp_same) bd53 [(48000, 0), (49000, 0)] [] rfl (.cons rfl (.cons rfl .nil)) rfl (.cons rfl rfl (.cons rfl rfl .nil)) (.flat rfl (by first | exact flatM flat_vi | exact flatM flat_bool | (simp [flatV, flat_vi]; done)) (by intro h; first | exact h | rfl) (.flat rfl (by first | exact flatM flat_vi | exact flatM flat_bool | (simp [flatV, flat_vi]; done)) (by intro h; first | exact h | rfl) .nil)) rfl (.keep rfl (.keep rfl .nil)) frN (by decide) (.cons rfl rfl .nil) rfl rfl rfl rfl ?_
  refine AWo.pure (PureOp.pickT rfl rfl) rfl rfl ?_
  refine AWo.pure (PureOp.assign rfl) rfl rfl ?_
  refine AWo.nil trivial ?_
  refine AW.ret ?_
  refine RetQ.gc [_] [] [.tmp 0] (.inl rfl) rfl (.tmp rfl .nil) rfl (.cons rfl rfl .nil) trivial (by decide) rfl
end Go.Proofs.Ytiikffiembcboaa
