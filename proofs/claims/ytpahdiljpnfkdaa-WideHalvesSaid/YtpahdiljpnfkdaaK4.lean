/- What the proof stands on, part 4: the walk of each function, and plain laws of numbers. -/
import Derived.Test.YtpahdiljpnfkdaaK3
import Derived.Test.YtpahdiljpnfkdaaRows
import Derived.ProofKit
namespace Go.Proofs.Ytpahdiljpnfkdaa
open Go Sim
set_option maxRecDepth 100000 in
theorem expoW_ctr : GC Try.prog 39 [] [] [.pointer (some ⟨0, 0, none⟩)] [⟨[.pointer (some ⟨1, 0, none⟩)], true, 1⟩, ⟨[.slice (some ⟨2, 0, none⟩) 12 0, vi .u64 (ninvR ((digs 18446744073709551616 12 QG).getD 0 0)), .slice (some ⟨3, 0, none⟩) 12 0], true, 1⟩, ⟨((digs 18446744073709551616 12 QG)).map (vi .u64), true, 1⟩, ⟨((digs 18446744073709551616 12 (RR2 QG))).map (vi .u64), true, 1⟩] := by
 refine gi Try.func39 ?_
 refine zS ?_
 refine yA ?_
 refine zN (zS ?_)
 refine yC (primeW_ctr) bd101 [] [] ?_
 refine yN 2000 1 ((List.replicate 12 0).map (vi .u64)) ?_
 refine AWo.storeAllN tbok rfl rfl rfl rfl (by rw [List.length_map, digs_len]) (by rfl) (oneM (fun _ => rfl) _) rfl ?_
 rw [show (digs 18446744073709551616 12 PG).map (vi .u64) = [vi .u64 18446744073709551615, vi .u64 17603518614768072224, vi .u64 16466767132611215046, vi .u64 5755940542857986629, vi .u64 3470879405153129527, vi .u64 17263733006627652379, vi .u64 5857503583518590173, vi .u64 147421033984662306, vi .u64 2955010104097229940, vi .u64 14179128828124470481, vi .u64 14488038916154245684, vi .u64 18446744073709551615] from by kernel_rfl]
 refine yA ?_
 refine zN (zQ (zS ?_))
 refine yA ?_
 refine zN (zB ?_)
 refine AW.rounds 13 ?_
 refine roundsA_succ ?_
 refine zQ (zS ?_)
 refine yM ?_
 refine yP (PureOp.geN (b := 0) rfl rfl) ?_
 refine zN (zC (zK (zT (zQ (zB ?_)))))
 refine AW.draw mixed ?_
 refine yM ?_
 refine yM ?_
 refine yP pA ?_
 refine AWo.load (v := vi .u64 18446744073709551615) tbok rfl rfl rfl rfl rfl rfl ?_
 refine yP ((PureOp.shrN (b := 1) 64 rfl rfl rfl (by decide)).mono (v' := vi .u64 9223372036854775807) (by kernel_rfl)) ?_
 refine yM ?_
 refine yP ((PureOp.shlUge (b := 63) 18446744073709551616 rfl rfl rfl rfl).mono (v' := vi .u64 0) (by kernel_rfl)) ?_
 refine yP ((PureOp.orN 18446744073709551616 rfl rfl (by decide) (by decide) (by decide) (by decide)).mono (v' := vi .u64 9223372036854775807) (by kernel_rfl)) ?_
 refine yM ?_
 refine yP pA ?_
 refine AWo.load (v := vi .u64 18446744073709551615) tbok rfl rfl rfl rfl rfl rfl ?_
 refine yP ((PureOp.andN (b := 1) 18446744073709551616 rfl rfl (by decide) (by decide) (by decide) (by decide)).mono (v' := vi .u64 1) (by kernel_rfl)) ?_
 refine yP pA ?_
 refine AWo.store (cells := [vi .u64 18446744073709551615, vi .u64 17603518614768072224, vi .u64 16466767132611215046, vi .u64 5755940542857986629, vi .u64 3470879405153129527, vi .u64 17263733006627652379, vi .u64 5857503583518590173, vi .u64 147421033984662306, vi .u64 2955010104097229940, vi .u64 14179128828124470481, vi .u64 14488038916154245684, vi .u64 9223372036854775807]) tbok rfl rfl rfl rfl rfl (by decide) rfl rfl rfl ?_
 refine yA ?_
 refine zD (zL (zT (zR ?_)))
 refine yM ?_
 refine yP (pSub (b := 1)) ?_
 refine yA ?_
 refine zN (zT ?_)
 refine roundsA_succ ?_
 refine zQ (zS ?_)
 refine yM ?_
 refine yP (PureOp.geN (b := 0) rfl rfl) ?_
 refine zN (zC (zK (zT (zQ (zB ?_)))))
 refine AW.draw mixed ?_
 refine yM ?_
 refine yM ?_
 refine yP pA ?_
 refine AWo.load (v := vi .u64 14488038916154245684) tbok rfl rfl rfl rfl rfl rfl ?_
 refine yP ((PureOp.shrN (b := 1) 64 rfl rfl rfl (by decide)).mono (v' := vi .u64 7244019458077122842) (by kernel_rfl)) ?_
 refine yM ?_
 refine yP ((PureOp.shlUge (b := 63) 18446744073709551616 rfl rfl rfl rfl).mono (v' := vi .u64 9223372036854775808) (by kernel_rfl)) ?_
 refine yP ((PureOp.orN 18446744073709551616 rfl rfl (by decide) (by decide) (by decide) (by decide)).mono (v' := vi .u64 16467391494931898650) (by kernel_rfl)) ?_
 refine yM ?_
 refine yP pA ?_
 refine AWo.load (v := vi .u64 14488038916154245684) tbok rfl rfl rfl rfl rfl rfl ?_
 refine yP ((PureOp.andN (b := 1) 18446744073709551616 rfl rfl (by decide) (by decide) (by decide) (by decide)).mono (v' := vi .u64 0) (by kernel_rfl)) ?_
 refine yP pA ?_
 refine AWo.store (cells := [vi .u64 18446744073709551615, vi .u64 17603518614768072224, vi .u64 16466767132611215046, vi .u64 5755940542857986629, vi .u64 3470879405153129527, vi .u64 17263733006627652379, vi .u64 5857503583518590173, vi .u64 147421033984662306, vi .u64 2955010104097229940, vi .u64 14179128828124470481, vi .u64 16467391494931898650, vi .u64 9223372036854775807]) tbok rfl rfl rfl rfl rfl (by decide) rfl rfl rfl ?_
 refine yA ?_
 refine zD (zL (zT (zR ?_)))
 refine yM ?_
 refine yP (pSub (b := 1)) ?_
 refine yA ?_
 refine zN (zT ?_)
 refine roundsA_succ ?_
 refine zQ (zS ?_)
 refine yM ?_
 refine yP (PureOp.geN (b := 0) rfl rfl) ?_
 refine zN (zC (zK (zT (zQ (zB ?_)))))
 refine AW.draw mixed ?_
 refine yM ?_
 refine yM ?_
 refine yP pA ?_
 refine AWo.load (v := vi .u64 14179128828124470481) tbok rfl rfl rfl rfl rfl rfl ?_
 refine yP ((PureOp.shrN (b := 1) 64 rfl rfl rfl (by decide)).mono (v' := vi .u64 7089564414062235240) (by kernel_rfl)) ?_
 refine yM ?_
 refine yP ((PureOp.shlUge (b := 63) 18446744073709551616 rfl rfl rfl rfl).mono (v' := vi .u64 0) (by kernel_rfl)) ?_
 refine yP ((PureOp.orN 18446744073709551616 rfl rfl (by decide) (by decide) (by decide) (by decide)).mono (v' := vi .u64 7089564414062235240) (by kernel_rfl)) ?_
 refine yM ?_
 refine yP pA ?_
 refine AWo.load (v := vi .u64 14179128828124470481) tbok rfl rfl rfl rfl rfl rfl ?_
 refine yP ((PureOp.andN (b := 1) 18446744073709551616 rfl rfl (by decide) (by decide) (by decide) (by decide)).mono (v' := vi .u64 1) (by kernel_rfl)) ?_
 refine yP pA ?_
 refine AWo.store (cells := [vi .u64 18446744073709551615, vi .u64 17603518614768072224, vi .u64 16466767132611215046, vi .u64 5755940542857986629, vi .u64 3470879405153129527, vi .u64 17263733006627652379, vi .u64 5857503583518590173, vi .u64 147421033984662306, vi .u64 2955010104097229940, vi .u64 7089564414062235240, vi .u64 16467391494931898650, vi .u64 9223372036854775807]) tbok rfl rfl rfl rfl rfl (by decide) rfl rfl rfl ?_
 refine yA ?_
 refine zD (zL (zT (zR ?_)))
 refine yM ?_
 refine yP (pSub (b := 1)) ?_
 refine yA ?_
 refine zN (zT ?_)
 refine roundsA_succ ?_
 refine zQ (zS ?_)
 refine yM ?_
 refine yP (PureOp.geN (b := 0) rfl rfl) ?_
 refine zN (zC (zK (zT (zQ (zB ?_)))))
 refine AW.draw mixed ?_
 refine yM ?_
 refine yM ?_
 refine yP pA ?_
 refine AWo.load (v := vi .u64 2955010104097229940) tbok rfl rfl rfl rfl rfl rfl ?_
 refine yP ((PureOp.shrN (b := 1) 64 rfl rfl rfl (by decide)).mono (v' := vi .u64 1477505052048614970) (by kernel_rfl)) ?_
 refine yM ?_
 refine yP ((PureOp.shlUge (b := 63) 18446744073709551616 rfl rfl rfl rfl).mono (v' := vi .u64 9223372036854775808) (by kernel_rfl)) ?_
 refine yP ((PureOp.orN 18446744073709551616 rfl rfl (by decide) (by decide) (by decide) (by decide)).mono (v' := vi .u64 10700877088903390778) (by kernel_rfl)) ?_
 refine yM ?_
 refine yP pA ?_
 refine AWo.load (v := vi .u64 2955010104097229940) tbok rfl rfl rfl rfl rfl rfl ?_
 refine yP ((PureOp.andN (b := 1) 18446744073709551616 rfl rfl (by decide) (by decide) (by decide) (by decide)).mono (v' := vi .u64 0) (by kernel_rfl)) ?_
 refine yP pA ?_
 refine AWo.store (cells := [vi .u64 18446744073709551615, vi .u64 17603518614768072224, vi .u64 16466767132611215046, vi .u64 5755940542857986629, vi .u64 3470879405153129527, vi .u64 17263733006627652379, vi .u64 5857503583518590173, vi .u64 147421033984662306, vi .u64 10700877088903390778, vi .u64 7089564414062235240, vi .u64 16467391494931898650, vi .u64 9223372036854775807]) tbok rfl rfl rfl rfl rfl (by decide) rfl rfl rfl ?_
 refine yA ?_
 refine zD (zL (zT (zR ?_)))
 refine yM ?_
 refine yP (pSub (b := 1)) ?_
 refine yA ?_
 refine zN (zT ?_)
 refine roundsA_succ ?_
 refine zQ (zS ?_)
 refine yM ?_
 refine yP (PureOp.geN (b := 0) rfl rfl) ?_
 refine zN (zC (zK (zT (zQ (zB ?_)))))
 refine AW.draw mixed ?_
 refine yM ?_
 refine yM ?_
 refine yP pA ?_
 refine AWo.load (v := vi .u64 147421033984662306) tbok rfl rfl rfl rfl rfl rfl ?_
 refine yP ((PureOp.shrN (b := 1) 64 rfl rfl rfl (by decide)).mono (v' := vi .u64 73710516992331153) (by kernel_rfl)) ?_
 refine yM ?_
 refine yP ((PureOp.shlUge (b := 63) 18446744073709551616 rfl rfl rfl rfl).mono (v' := vi .u64 0) (by kernel_rfl)) ?_
 refine yP ((PureOp.orN 18446744073709551616 rfl rfl (by decide) (by decide) (by decide) (by decide)).mono (v' := vi .u64 73710516992331153) (by kernel_rfl)) ?_
 refine yM ?_
 refine yP pA ?_
 refine AWo.load (v := vi .u64 147421033984662306) tbok rfl rfl rfl rfl rfl rfl ?_
 refine yP ((PureOp.andN (b := 1) 18446744073709551616 rfl rfl (by decide) (by decide) (by decide) (by decide)).mono (v' := vi .u64 0) (by kernel_rfl)) ?_
 refine yP pA ?_
 refine AWo.store (cells := [vi .u64 18446744073709551615, vi .u64 17603518614768072224, vi .u64 16466767132611215046, vi .u64 5755940542857986629, vi .u64 3470879405153129527, vi .u64 17263733006627652379, vi .u64 5857503583518590173, vi .u64 73710516992331153, vi .u64 10700877088903390778, vi .u64 7089564414062235240, vi .u64 16467391494931898650, vi .u64 9223372036854775807]) tbok rfl rfl rfl rfl rfl (by decide) rfl rfl rfl ?_
 refine yA ?_
 refine zD (zL (zT (zR ?_)))
 refine yM ?_
 refine yP (pSub (b := 1)) ?_
 refine yA ?_
 refine zN (zT ?_)
 refine roundsA_succ ?_
 refine zQ (zS ?_)
 refine yM ?_
 refine yP (PureOp.geN (b := 0) rfl rfl) ?_
 refine zN (zC (zK (zT (zQ (zB ?_)))))
 refine AW.draw mixed ?_
 refine yM ?_
 refine yM ?_
 refine yP pA ?_
 refine AWo.load (v := vi .u64 5857503583518590173) tbok rfl rfl rfl rfl rfl rfl ?_
 refine yP ((PureOp.shrN (b := 1) 64 rfl rfl rfl (by decide)).mono (v' := vi .u64 2928751791759295086) (by kernel_rfl)) ?_
 refine yM ?_
 refine yP ((PureOp.shlUge (b := 63) 18446744073709551616 rfl rfl rfl rfl).mono (v' := vi .u64 0) (by kernel_rfl)) ?_
 refine yP ((PureOp.orN 18446744073709551616 rfl rfl (by decide) (by decide) (by decide) (by decide)).mono (v' := vi .u64 2928751791759295086) (by kernel_rfl)) ?_
 refine yM ?_
 refine yP pA ?_
 refine AWo.load (v := vi .u64 5857503583518590173) tbok rfl rfl rfl rfl rfl rfl ?_
 refine yP ((PureOp.andN (b := 1) 18446744073709551616 rfl rfl (by decide) (by decide) (by decide) (by decide)).mono (v' := vi .u64 1) (by kernel_rfl)) ?_
 refine yP pA ?_
 refine AWo.store (cells := [vi .u64 18446744073709551615, vi .u64 17603518614768072224, vi .u64 16466767132611215046, vi .u64 5755940542857986629, vi .u64 3470879405153129527, vi .u64 17263733006627652379, vi .u64 2928751791759295086, vi .u64 73710516992331153, vi .u64 10700877088903390778, vi .u64 7089564414062235240, vi .u64 16467391494931898650, vi .u64 9223372036854775807]) tbok rfl rfl rfl rfl rfl (by decide) rfl rfl rfl ?_
 refine yA ?_
 refine zD (zL (zT (zR ?_)))
 refine yM ?_
 refine yP (pSub (b := 1)) ?_
 refine yA ?_
 refine zN (zT ?_)
 refine roundsA_succ ?_
 refine zQ (zS ?_)
 refine yM ?_
 refine yP (PureOp.geN (b := 0) rfl rfl) ?_
 refine zN (zC (zK (zT (zQ (zB ?_)))))
 refine AW.draw mixed ?_
 refine yM ?_
 refine yM ?_
 refine yP pA ?_
 refine AWo.load (v := vi .u64 17263733006627652379) tbok rfl rfl rfl rfl rfl rfl ?_
 refine yP ((PureOp.shrN (b := 1) 64 rfl rfl rfl (by decide)).mono (v' := vi .u64 8631866503313826189) (by kernel_rfl)) ?_
 refine yM ?_
 refine yP ((PureOp.shlUge (b := 63) 18446744073709551616 rfl rfl rfl rfl).mono (v' := vi .u64 9223372036854775808) (by kernel_rfl)) ?_
 refine yP ((PureOp.orN 18446744073709551616 rfl rfl (by decide) (by decide) (by decide) (by decide)).mono (v' := vi .u64 17855238540168601997) (by kernel_rfl)) ?_
 refine yM ?_
 refine yP pA ?_
 refine AWo.load (v := vi .u64 17263733006627652379) tbok rfl rfl rfl rfl rfl rfl ?_
 refine yP ((PureOp.andN (b := 1) 18446744073709551616 rfl rfl (by decide) (by decide) (by decide) (by decide)).mono (v' := vi .u64 1) (by kernel_rfl)) ?_
 refine yP pA ?_
 refine AWo.store (cells := [vi .u64 18446744073709551615, vi .u64 17603518614768072224, vi .u64 16466767132611215046, vi .u64 5755940542857986629, vi .u64 3470879405153129527, vi .u64 17855238540168601997, vi .u64 2928751791759295086, vi .u64 73710516992331153, vi .u64 10700877088903390778, vi .u64 7089564414062235240, vi .u64 16467391494931898650, vi .u64 9223372036854775807]) tbok rfl rfl rfl rfl rfl (by decide) rfl rfl rfl ?_
 refine yA ?_
 refine zD (zL (zT (zR ?_)))
 refine yM ?_
 refine yP (pSub (b := 1)) ?_
 refine yA ?_
 refine zN (zT ?_)
 refine roundsA_succ ?_
 refine zQ (zS ?_)
 refine yM ?_
 refine yP (PureOp.geN (b := 0) rfl rfl) ?_
 refine zN (zC (zK (zT (zQ (zB ?_)))))
 refine AW.draw mixed ?_
 refine yM ?_
 refine yM ?_
 refine yP pA ?_
 refine AWo.load (v := vi .u64 3470879405153129527) tbok rfl rfl rfl rfl rfl rfl ?_
 refine yP ((PureOp.shrN (b := 1) 64 rfl rfl rfl (by decide)).mono (v' := vi .u64 1735439702576564763) (by kernel_rfl)) ?_
 refine yM ?_
 refine yP ((PureOp.shlUge (b := 63) 18446744073709551616 rfl rfl rfl rfl).mono (v' := vi .u64 9223372036854775808) (by kernel_rfl)) ?_
 refine yP ((PureOp.orN 18446744073709551616 rfl rfl (by decide) (by decide) (by decide) (by decide)).mono (v' := vi .u64 10958811739431340571) (by kernel_rfl)) ?_
 refine yM ?_
 refine yP pA ?_
 refine AWo.load (v := vi .u64 3470879405153129527) tbok rfl rfl rfl rfl rfl rfl ?_
 refine yP ((PureOp.andN (b := 1) 18446744073709551616 rfl rfl (by decide) (by decide) (by decide) (by decide)).mono (v' := vi .u64 1) (by kernel_rfl)) ?_
 refine yP pA ?_
 refine AWo.store (cells := [vi .u64 18446744073709551615, vi .u64 17603518614768072224, vi .u64 16466767132611215046, vi .u64 5755940542857986629, vi .u64 10958811739431340571, vi .u64 17855238540168601997, vi .u64 2928751791759295086, vi .u64 73710516992331153, vi .u64 10700877088903390778, vi .u64 7089564414062235240, vi .u64 16467391494931898650, vi .u64 9223372036854775807]) tbok rfl rfl rfl rfl rfl (by decide) rfl rfl rfl ?_
 refine yA ?_
 refine zD (zL (zT (zR ?_)))
 refine yM ?_
 refine yP (pSub (b := 1)) ?_
 refine yA ?_
 refine zN (zT ?_)
 refine roundsA_succ ?_
 refine zQ (zS ?_)
 refine yM ?_
 refine yP (PureOp.geN (b := 0) rfl rfl) ?_
 refine zN (zC (zK (zT (zQ (zB ?_)))))
 refine AW.draw mixed ?_
 refine yM ?_
 refine yM ?_
 refine yP pA ?_
 refine AWo.load (v := vi .u64 5755940542857986629) tbok rfl rfl rfl rfl rfl rfl ?_
 refine yP ((PureOp.shrN (b := 1) 64 rfl rfl rfl (by decide)).mono (v' := vi .u64 2877970271428993314) (by kernel_rfl)) ?_
 refine yM ?_
 refine yP ((PureOp.shlUge (b := 63) 18446744073709551616 rfl rfl rfl rfl).mono (v' := vi .u64 9223372036854775808) (by kernel_rfl)) ?_
 refine yP ((PureOp.orN 18446744073709551616 rfl rfl (by decide) (by decide) (by decide) (by decide)).mono (v' := vi .u64 12101342308283769122) (by kernel_rfl)) ?_
 refine yM ?_
 refine yP pA ?_
 refine AWo.load (v := vi .u64 5755940542857986629) tbok rfl rfl rfl rfl rfl rfl ?_
 refine yP ((PureOp.andN (b := 1) 18446744073709551616 rfl rfl (by decide) (by decide) (by decide) (by decide)).mono (v' := vi .u64 1) (by kernel_rfl)) ?_
 refine yP pA ?_
 refine AWo.store (cells := [vi .u64 18446744073709551615, vi .u64 17603518614768072224, vi .u64 16466767132611215046, vi .u64 12101342308283769122, vi .u64 10958811739431340571, vi .u64 17855238540168601997, vi .u64 2928751791759295086, vi .u64 73710516992331153, vi .u64 10700877088903390778, vi .u64 7089564414062235240, vi .u64 16467391494931898650, vi .u64 9223372036854775807]) tbok rfl rfl rfl rfl rfl (by decide) rfl rfl rfl ?_
 refine yA ?_
 refine zD (zL (zT (zR ?_)))
 refine yM ?_
 refine yP (pSub (b := 1)) ?_
 refine yA ?_
 refine zN (zT ?_)
 refine roundsA_succ ?_
 refine zQ (zS ?_)
 refine yM ?_
 refine yP (PureOp.geN (b := 0) rfl rfl) ?_
 refine zN (zC (zK (zT (zQ (zB ?_)))))
 refine AW.draw mixed ?_
 refine yM ?_
 refine yM ?_
 refine yP pA ?_
 refine AWo.load (v := vi .u64 16466767132611215046) tbok rfl rfl rfl rfl rfl rfl ?_
 refine yP ((PureOp.shrN (b := 1) 64 rfl rfl rfl (by decide)).mono (v' := vi .u64 8233383566305607523) (by kernel_rfl)) ?_
 refine yM ?_
 refine yP ((PureOp.shlUge (b := 63) 18446744073709551616 rfl rfl rfl rfl).mono (v' := vi .u64 9223372036854775808) (by kernel_rfl)) ?_
 refine yP ((PureOp.orN 18446744073709551616 rfl rfl (by decide) (by decide) (by decide) (by decide)).mono (v' := vi .u64 17456755603160383331) (by kernel_rfl)) ?_
 refine yM ?_
 refine yP pA ?_
 refine AWo.load (v := vi .u64 16466767132611215046) tbok rfl rfl rfl rfl rfl rfl ?_
 refine yP ((PureOp.andN (b := 1) 18446744073709551616 rfl rfl (by decide) (by decide) (by decide) (by decide)).mono (v' := vi .u64 0) (by kernel_rfl)) ?_
 refine yP pA ?_
 refine AWo.store (cells := [vi .u64 18446744073709551615, vi .u64 17603518614768072224, vi .u64 17456755603160383331, vi .u64 12101342308283769122, vi .u64 10958811739431340571, vi .u64 17855238540168601997, vi .u64 2928751791759295086, vi .u64 73710516992331153, vi .u64 10700877088903390778, vi .u64 7089564414062235240, vi .u64 16467391494931898650, vi .u64 9223372036854775807]) tbok rfl rfl rfl rfl rfl (by decide) rfl rfl rfl ?_
 refine yA ?_
 refine zD (zL (zT (zR ?_)))
 refine yM ?_
 refine yP (pSub (b := 1)) ?_
 refine yA ?_
 refine zN (zT ?_)
 refine roundsA_succ ?_
 refine zQ (zS ?_)
 refine yM ?_
 refine yP (PureOp.geN (b := 0) rfl rfl) ?_
 refine zN (zC (zK (zT (zQ (zB ?_)))))
 refine AW.draw mixed ?_
 refine yM ?_
 refine yM ?_
 refine yP pA ?_
 refine AWo.load (v := vi .u64 17603518614768072224) tbok rfl rfl rfl rfl rfl rfl ?_
 refine yP ((PureOp.shrN (b := 1) 64 rfl rfl rfl (by decide)).mono (v' := vi .u64 8801759307384036112) (by kernel_rfl)) ?_
 refine yM ?_
 refine yP ((PureOp.shlUge (b := 63) 18446744073709551616 rfl rfl rfl rfl).mono (v' := vi .u64 0) (by kernel_rfl)) ?_
 refine yP ((PureOp.orN 18446744073709551616 rfl rfl (by decide) (by decide) (by decide) (by decide)).mono (v' := vi .u64 8801759307384036112) (by kernel_rfl)) ?_
 refine yM ?_
 refine yP pA ?_
 refine AWo.load (v := vi .u64 17603518614768072224) tbok rfl rfl rfl rfl rfl rfl ?_
 refine yP ((PureOp.andN (b := 1) 18446744073709551616 rfl rfl (by decide) (by decide) (by decide) (by decide)).mono (v' := vi .u64 0) (by kernel_rfl)) ?_
 refine yP pA ?_
 refine AWo.store (cells := [vi .u64 18446744073709551615, vi .u64 8801759307384036112, vi .u64 17456755603160383331, vi .u64 12101342308283769122, vi .u64 10958811739431340571, vi .u64 17855238540168601997, vi .u64 2928751791759295086, vi .u64 73710516992331153, vi .u64 10700877088903390778, vi .u64 7089564414062235240, vi .u64 16467391494931898650, vi .u64 9223372036854775807]) tbok rfl rfl rfl rfl rfl (by decide) rfl rfl rfl ?_
 refine yA ?_
 refine zD (zL (zT (zR ?_)))
 refine yM ?_
 refine yP (pSub (b := 1)) ?_
 refine yA ?_
 refine zN (zT ?_)
 refine roundsA_succ ?_
 refine zQ (zS ?_)
 refine yM ?_
 refine yP (PureOp.geN (b := 0) rfl rfl) ?_
 refine zN (zC (zK (zT (zQ (zB ?_)))))
 refine AW.draw mixed ?_
 refine yM ?_
 refine yM ?_
 refine yP pA ?_
 refine AWo.load (v := vi .u64 18446744073709551615) tbok rfl rfl rfl rfl rfl rfl ?_
 refine yP ((PureOp.shrN (b := 1) 64 rfl rfl rfl (by decide)).mono (v' := vi .u64 9223372036854775807) (by kernel_rfl)) ?_
 refine yM ?_
 refine yP ((PureOp.shlUge (b := 63) 18446744073709551616 rfl rfl rfl rfl).mono (v' := vi .u64 0) (by kernel_rfl)) ?_
 refine yP ((PureOp.orN 18446744073709551616 rfl rfl (by decide) (by decide) (by decide) (by decide)).mono (v' := vi .u64 9223372036854775807) (by kernel_rfl)) ?_
 refine yM ?_
 refine yP pA ?_
 refine AWo.load (v := vi .u64 18446744073709551615) tbok rfl rfl rfl rfl rfl rfl ?_
 refine yP ((PureOp.andN (b := 1) 18446744073709551616 rfl rfl (by decide) (by decide) (by decide) (by decide)).mono (v' := vi .u64 1) (by kernel_rfl)) ?_
 refine yP pA ?_
 refine AWo.store (cells := [vi .u64 9223372036854775807, vi .u64 8801759307384036112, vi .u64 17456755603160383331, vi .u64 12101342308283769122, vi .u64 10958811739431340571, vi .u64 17855238540168601997, vi .u64 2928751791759295086, vi .u64 73710516992331153, vi .u64 10700877088903390778, vi .u64 7089564414062235240, vi .u64 16467391494931898650, vi .u64 9223372036854775807]) tbok rfl rfl rfl rfl rfl (by decide) rfl rfl rfl ?_
 refine yA ?_
 refine zD (zL (zT (zR ?_)))
 refine yM ?_
 refine yP (PureOp.subP rfl rfl (by decide)) ?_
 refine yA ?_
 refine zN (zT ?_)
 refine roundsA_succ ?_
 refine zQ (zS ?_)
 refine yM ?_
 refine yP (PureOp.geP rfl rfl) ?_
 refine zN (zF (zX (zV (zV (zH (zT ?_))))))
 rw [show [vi .u64 9223372036854775807, vi .u64 8801759307384036112, vi .u64 17456755603160383331, vi .u64 12101342308283769122, vi .u64 10958811739431340571, vi .u64 17855238540168601997, vi .u64 2928751791759295086, vi .u64 73710516992331153, vi .u64 10700877088903390778, vi .u64 7089564414062235240, vi .u64 16467391494931898650, vi .u64 9223372036854775807] = (digs 18446744073709551616 12 QG).map (vi .u64) from by kernel_rfl]
 refine zS ?_
 refine AWo.loadAll tbok rfl rfl rfl rfl rfl rfl rfl ?_
 refine yC (ringW_ctr (N := QG) rn_q) bd100 [] [13024000, 13024001, 13024002, 13024003] ?_
 refine yA ?_
 refine zN (zE ?_)
 exact rq [13024000, 13024001, 13024002, 13024003] [.tmp 0]
def NG (g : Bool) : Nat := if g then PG else QG
theorem ring4_ctr {g : Bool} : GC Try.prog 18 [.bool g] [] [.pointer (some ⟨0, 0, none⟩)] [⟨[.pointer (some ⟨1, 0, none⟩)], true, 1⟩, ⟨[.slice (some ⟨2, 0, none⟩) 12 0, vi .u64 (ninvR ((digs 18446744073709551616 12 (NG g)).getD 0 0)), .slice (some ⟨3, 0, none⟩) 12 0], true, 1⟩, ⟨((digs 18446744073709551616 12 (NG g))).map (vi .u64), true, 1⟩, ⟨((digs 18446744073709551616 12 (RR2 (NG g)))).map (vi .u64), true, 1⟩] := by
 cases g
 ·
  refine gi Try.func18 ?_
  refine zS ?_
  refine yA ?_
  refine zN (zQ (zS ?_))
  refine yM ?_
  refine zN (zF (zK (zT (zS ?_))))
  refine yC (expoW_ctr) bd39 [] [6000, 6001, 6002, 6003] ?_
  refine yA ?_
  refine zN (zE ?_)
  exact rq [6000, 6001, 6002, 6003] [.tmp 2]
 ·
  refine gi Try.func18 ?_
  refine zS ?_
  refine yA ?_
  refine zN (zQ (zS ?_))
  refine yM ?_
  refine zN (zC (zS ?_))
  refine yC (groupW_ctr) bd38 [] [5000, 5001, 5002, 5003] ?_
  refine yA ?_
  refine zN (zE (zU ?_))
  exact rq [5000, 5001, 5002, 5003] [.tmp 2]
end Go.Proofs.Ytpahdiljpnfkdaa
namespace Go.Proofs.Ytpahdiljpnfkdaa
open Go Sim
theorem rn_g (g : Bool) : RN (NG g) := by cases g; exact rn_q; exact rn_p
theorem mod_lt12 {N : Nat} (h : RN N) (x : Nat) : x % N < 18446744073709551616 ^ 12 := Nat.lt_trans (Nat.mod_lt _ (rn_pos h)) h.lt
theorem two_q : 2 ^ QG % PG = 1 := by
  rw [← powm_eq PG 800 2 QG (by decide +kernel)]; decide +kernel
theorem speaks4_ctr : GC Try.prog 17 [] [] [.bool true] [] := by
  refine GC.intro Try.func17 rfl (by show 0 ≤ 28; decide) (by first | exact Nat.le_refl _ | decide | simp) ?_
  refine AW.seqR ?_
  refine AWo.pure (PureOp.assign rfl) rfl rfl ?_
  refine AWo.nil trivial ?_
  refine AW.seqR ?_
  refine AWo.callX (groupW_ctr) bd38 [] [4000, 4001, 4002, 4003] rfl .nil rfl .nil .nil rfl (.new rfl (OkL.all rfl) (.new rfl (OkL.all rfl) (.new (flat_map_ren (flatM flat_vi)) (OkL.flat (flatM flat_vi)) (.new (flat_map_ren (flatM flat_vi)) (OkL.flat (flatM flat_vi)) .nil)))) (frC rfl (frC rfl (frC rfl (frC rfl frN)))) (by decide) (.cons rfl rfl .nil) rfl rfl rfl rfl ?_
  refine AWo.callX (expoW_ctr) bd39 [] [5000, 5001, 5002, 5003] rfl .nil rfl .nil .nil rfl (.new rfl (OkL.all rfl) (.new rfl (OkL.all rfl) (.new (flat_map_ren (flatM flat_vi)) (OkL.flat (flatM flat_vi)) (.new (flat_map_ren (flatM flat_vi)) (OkL.flat (flatM flat_vi)) .nil)))) (frC rfl (frC rfl (frC rfl (frC rfl frN)))) (by decide) (.cons rfl rfl .nil) rfl rfl rfl rfl ?_
  refine AWo.pure (PureOp.assign rfl) rfl rfl ?_
  refine AWo.pure (PureOp.assign rfl) rfl rfl ?_
  refine AWo.nil trivial ?_
  refine AW.seqR ?_
  refine AWo.pure (PureOp.move rfl) rfl rfl ?_
  first | refine AWo.pure ((PureOp.ptrNeNil Try.underlying26 rfl).mono (v' := .bool true) (congrArg Value.bool (by rfl))) rfl rfl ?_ | refine AWo.pure ((PureOp.nilNeNil Try.underlying26 rfl rfl).mono (v' := .bool true) (congrArg Value.bool (by rfl))) rfl rfl ?_
  refine AWo.pure (PureOp.move rfl) rfl rfl ?_
  refine AWo.pure (PureOp.move rfl) rfl rfl ?_
  first | refine AWo.pure ((PureOp.ptrNeNil Try.underlying26 rfl).mono (v' := .bool true) (congrArg Value.bool (by rfl))) rfl rfl ?_ | refine AWo.pure ((PureOp.nilNeNil Try.underlying26 rfl rfl).mono (v' := .bool true) (congrArg Value.bool (by rfl))) rfl rfl ?_
  refine AWo.pure (PureOp.pickT rfl rfl) rfl rfl ?_
  refine AWo.pure (PureOp.move rfl) rfl rfl ?_
  refine AWo.pure (PureOp.move rfl) rfl rfl ?_
  refine AWo.pure ((PureOp.buildArr tbok [(0, .int .u64 2)] rfl rfl rfl (by decide) rfl rfl).mono (v' := .agg ((digs 18446744073709551616 12 2).map (vi .u64)).toArray) (by kernel_rfl)) rfl rfl ?_
  refine AWo.pure (PureOp.move rfl) rfl rfl ?_
  refine AWo.callX (sizeW_ctr rn_q) bd31 [(5000, 0), (5001, 0), (5002, 0), (5003, 0)] [] rfl (.cons rfl .nil) rfl (.cons rfl rfl .nil) (.whole rfl rfl (OkL.all rfl) (by intro h; first | exact h | rfl) (.whole rfl rfl (OkL.all rfl) (by intro h; first | exact h | rfl) (.flat rfl (flatM flat_vi) (by intro h; first | exact h | rfl) (.flat rfl (flatM flat_vi) (by intro h; first | exact h | rfl) .nil)))) rfl (.keep rfl (.keep rfl (.keep rfl (.keep rfl .nil)))) frN (by decide) (.pure (by first | rfl | exact pure_aggM flat_vi | exact pure_aggM flat_bool) .nil) rfl rfl rfl rfl ?_
  refine AWo.callX (expW_ctr (N := PG) (a := 2) (b := QG) rn_p (by decide +kernel) rn_q.lt) bd19 [(4000, 0), (4001, 0), (4002, 0), (4003, 0)] [] rfl (.cons rfl (.cons rfl (.cons rfl .nil))) rfl (.cons rfl rfl (.pure (by first | rfl | exact pure_aggM flat_vi | exact pure_aggM flat_bool) (.pure (by first | rfl | exact pure_aggM flat_vi | exact pure_aggM flat_bool) .nil))) (.whole rfl rfl (OkL.all rfl) (by intro h; first | exact h | rfl) (.whole rfl rfl (OkL.all rfl) (by intro h; first | exact h | rfl) (.flat rfl (flatM flat_vi) (by intro h; first | exact h | rfl) (.flat rfl (flatM flat_vi) (by intro h; first | exact h | rfl) .nil)))) rfl (.keep rfl (.keep rfl (.keep rfl (.keep rfl .nil)))) frN (by decide) (.pure (by first | rfl | exact pure_aggM flat_vi | exact pure_aggM flat_bool) .nil) rfl rfl rfl rfl ?_
  refine AWo.pure ((PureOp.buildArr tbok [(0, .int .u64 1)] rfl rfl rfl (by decide) rfl rfl).mono (v' := .agg ((digs 18446744073709551616 12 1).map (vi .u64)).toArray) (by kernel_rfl)) rfl rfl ?_
  refine yP ((PureOp.eqArr rfl rfl Try.eqGuardType24 Try.underlying24 Try.underlying22 (tbok.sz 22 _ rfl) (by kernel_rfl) (digs_len _ _) (digs_len _ _)).mono (v' := .bool true) (congrArg Value.bool (decide_eq_true (congrArg (digs 18446744073709551616 12) (two_q))))) ?_
  refine AWo.pure (PureOp.pickT rfl rfl) rfl rfl ?_
  refine AWo.pure (PureOp.move rfl) rfl rfl ?_
  refine AWo.pure (PureOp.move rfl) rfl rfl ?_
  refine AWo.pure ((PureOp.buildArr tbok [(0, .int .u64 2)] rfl rfl rfl (by decide) rfl rfl).mono (v' := .agg ((digs 18446744073709551616 12 2).map (vi .u64)).toArray) (by kernel_rfl)) rfl rfl ?_
  refine AWo.pure ((PureOp.buildArr tbok [(0, .int .u64 3)] rfl rfl rfl (by decide) rfl rfl).mono (v' := .agg ((digs 18446744073709551616 12 3).map (vi .u64)).toArray) (by kernel_rfl)) rfl rfl ?_
  refine AWo.callX (addW_ctr (N := PG) (a := 2) (b := 3) rn_p (by decide +kernel) (by decide +kernel)) bd24 [(4000, 0), (4001, 0), (4002, 0), (4003, 0)] [] rfl (.cons rfl (.cons rfl (.cons rfl .nil))) rfl (.cons rfl rfl (.pure (by first | rfl | exact pure_aggM flat_vi | exact pure_aggM flat_bool) (.pure (by first | rfl | exact pure_aggM flat_vi | exact pure_aggM flat_bool) .nil))) (.whole rfl rfl (OkL.all rfl) (by intro h; first | exact h | rfl) (.whole rfl rfl (OkL.all rfl) (by intro h; first | exact h | rfl) (.flat rfl (flatM flat_vi) (by intro h; first | exact h | rfl) (.flat rfl (flatM flat_vi) (by intro h; first | exact h | rfl) .nil)))) rfl (.keep rfl (.keep rfl (.keep rfl (.keep rfl .nil)))) frN (by decide) (.pure (by first | rfl | exact pure_aggM flat_vi | exact pure_aggM flat_bool) .nil) rfl rfl rfl rfl ?_
  refine AWo.pure ((PureOp.buildArr tbok [(0, .int .u64 5)] rfl rfl rfl (by decide) rfl rfl).mono (v' := .agg ((digs 18446744073709551616 12 5).map (vi .u64)).toArray) (by kernel_rfl)) rfl rfl ?_
  refine yP ((PureOp.eqArr rfl rfl Try.eqGuardType24 Try.underlying24 Try.underlying22 (tbok.sz 22 _ rfl) (by kernel_rfl) (digs_len _ _) (digs_len _ _)).mono (v' := .bool true) (congrArg Value.bool (decide_eq_true (congrArg (digs 18446744073709551616 12) (by decide +kernel))))) ?_
  refine AWo.pure (PureOp.pickT rfl rfl) rfl rfl ?_
  refine AWo.pure (PureOp.assign rfl) rfl rfl ?_
  refine AWo.nil trivial ?_
  refine AW.ret ?_
  refine RetQ.gc [_] [] [.tmp 0] (.inl rfl) rfl (.tmp rfl .nil) rfl (.cons rfl rfl .nil) trivial (by decide) rfl
end Go.Proofs.Ytpahdiljpnfkdaa
namespace Go.Proofs.Ytpahdiljpnfkdaa
open Go Sim
def cwq (i : Nat) : Nat := if i = 0 then 1 else QG / 18446744073709551616 ^ (i - 1) % 18446744073709551616 / 2 ^ 63
theorem cw_step {i : Nat} : QG / 18446744073709551616 ^ i % 18446744073709551616 / 2 ^ 63 = cwq (i + 1) := by
  rw [cwq, if_neg (Nat.succ_ne_zero i), Nat.add_sub_cancel]
theorem cwq_lt (i : Nat) : cwq i < 18446744073709551616 := by
  unfold cwq; split
  · decide
  · exact Nat.lt_of_le_of_lt (Nat.div_le_self _ _) (Nat.mod_lt _ (by decide))
def orB : Bool := (List.range 12).all fun i => (QG / 18446744073709551616 ^ i % 18446744073709551616 * 2 % 18446744073709551616 ||| cwq i) == PG / 18446744073709551616 ^ i % 18446744073709551616
theorem orB_t : orB = true := by decide +kernel
theorem or_pg {i : Nat} (h : i < 12) : (QG / 18446744073709551616 ^ i % 18446744073709551616 * 2 % 18446744073709551616 ||| cwq i) = PG / 18446744073709551616 ^ i % 18446744073709551616 := by
  have := List.all_eq_true.1 orB_t i (List.mem_range.2 h)
  simpa using this
theorem h_dist {N a b c : Nat} : a * ((b % N + c % N) % N) % N = (a * b % N % N + a * c % N % N) % N := by
  rw [← Nat.add_mod, Nat.mul_mod, Nat.mod_mod, ← Nat.mul_mod, Nat.mul_add, Nat.mod_mod, Nat.mod_mod, ← Nat.add_mod]
theorem h_back {N a b : Nat} (h : RN N) : ((a % N + (N - b % N)) % N % N + b % N) % N = (a % N + 0 % N) % N := by
  have hb := Nat.mod_lt b (rn_pos h)
  rw [Nat.mod_mod, Nat.mod_add_mod, Nat.add_assoc, Nat.sub_add_cancel (Nat.le_of_lt hb), Nat.add_mod_right, Nat.zero_mod, Nat.add_zero]
theorem h_zero {N a : Nat} : a % N = (a % N + 0 % N) % N := by rw [Nat.zero_mod, Nat.add_zero, Nat.mod_mod]
theorem bd_app0 {l : List Nat} (h : bd 256 l) : bd 256 (l ++ [0, 0]) := fun x hx => by
  rcases List.mem_append.1 hx with h1 | h1
  · exact h x h1
  · simp only [List.mem_cons, List.not_mem_nil, or_false, or_self] at h1
    subst h1; decide
theorem num_app0 : ∀ l : List Nat, num 256 (l ++ [0, 0]) = num 256 l
  | [] => rfl
  | x :: l => by rw [List.cons_append, num, num, num_app0 l]
theorem redk_ctr {N k v : Nat} {l : List Nat} (hN : RN N) (hb : bd 256 l) (hl : l.length = k) (hk : k ≤ 1000) (hv : num 256 l % N = v) : GC Try.prog 32 [.pointer (some ⟨0, 0, none⟩), .slice (some ⟨4, 0, none⟩) k 0] [⟨[.pointer (some ⟨1, 0, none⟩)], false, 1⟩, ⟨[.slice (some ⟨2, 0, none⟩) 12 0, vi .u64 (ninvR ((digs 18446744073709551616 12 N).getD 0 0)), .slice (some ⟨3, 0, none⟩) 12 0], false, 1⟩, ⟨((digs 18446744073709551616 12 N)).map (vi .u64), false, 1⟩, ⟨((digs 18446744073709551616 12 (RR2 N))).map (vi .u64), false, 1⟩, ⟨l.map (vi .u8), false, 1⟩] [.agg ((digs 18446744073709551616 12 v).map (vi .u64)).toArray] [⟨[.pointer (some ⟨1, 0, none⟩)], false, 1⟩, ⟨[.slice (some ⟨2, 0, none⟩) 12 0, vi .u64 (ninvR ((digs 18446744073709551616 12 N).getD 0 0)), .slice (some ⟨3, 0, none⟩) 12 0], false, 1⟩, ⟨((digs 18446744073709551616 12 N)).map (vi .u64), false, 1⟩, ⟨((digs 18446744073709551616 12 (RR2 N))).map (vi .u64), false, 1⟩, ⟨l.map (vi .u8), false, 1⟩] := by
  subst hl hv
  exact redW_ctr hN hb hk
theorem whalf_ctr {g : Bool} {a b c : Nat} (ha : a < 18446744073709551616 ^ 12) (hb : b < 18446744073709551616 ^ 12) (hc : c < 18446744073709551616 ^ 12) : GC Try.prog 7 [.bool g, .agg ((digs 18446744073709551616 12 a).map (vi .u64)).toArray, .agg ((digs 18446744073709551616 12 b).map (vi .u64)).toArray, .agg ((digs 18446744073709551616 12 c).map (vi .u64)).toArray] [] [.bool true] [] := by
  refine GC.intro Try.func7 rfl (by show 4 ≤ 116; decide) (by first | exact Nat.le_refl _ | decide | simp) ?_
  refine AW.seqR ?_
  refine AWo.box 6000 1 _ rfl rfl rfl rfl rfl ?_
  refine AWo.box 7000 1 _ rfl rfl rfl rfl rfl ?_
  refine AWo.box 8000 1 _ rfl rfl rfl rfl rfl ?_
  refine AWo.pure (PureOp.assign rfl) rfl rfl ?_
  refine AWo.nil trivial ?_
  refine AW.seq ?_
  refine AW.seqR ?_
  refine AWo.callX (speaks4_ctr) bd17 [] [] rfl .nil rfl .nil .nil rfl .nil frN (by decide) (.cons rfl rfl .nil) rfl rfl rfl rfl ?_
  first | refine AWo.pure ((PureOp.not rfl).mono (v' := .bool false) (congrArg Value.bool (by rfl))) rfl rfl ?_
  refine AWo.nil trivial ?_
  refine AW.condF rfl ?_
  refine AW.skip ?_
  refine thenA_normal ?_
  refine AW.seqR ?_
  refine AWo.callX (groupW_ctr) bd38 [] [18000, 18001, 18002, 18003] rfl .nil rfl .nil .nil rfl (.new rfl (OkL.all rfl) (.new rfl (OkL.all rfl) (.new (flat_map_ren (flatM flat_vi)) (OkL.flat (flatM flat_vi)) (.new (flat_map_ren (flatM flat_vi)) (OkL.flat (flatM flat_vi)) .nil)))) (frC rfl (frC rfl (frC rfl (frC rfl frN)))) (by decide) (.cons rfl rfl .nil) rfl rfl rfl rfl ?_
  refine AWo.callX (sizeW_ctr rn_p) bd31 [(18000, 0), (18001, 0), (18002, 0), (18003, 0)] [] rfl (.cons rfl .nil) rfl (.cons rfl rfl .nil) (.whole rfl rfl (OkL.all rfl) (by intro h; first | exact h | rfl) (.whole rfl rfl (OkL.all rfl) (by intro h; first | exact h | rfl) (.flat rfl (flatM flat_vi) (by intro h; first | exact h | rfl) (.flat rfl (flatM flat_vi) (by intro h; first | exact h | rfl) .nil)))) rfl (.keep rfl (.keep rfl (.keep rfl (.keep rfl .nil)))) frN (by decide) (.pure (by first | rfl | exact pure_aggM flat_vi | exact pure_aggM flat_bool) .nil) rfl rfl rfl rfl ?_
  refine AWo.callX (expoW_ctr) bd39 [] [20000, 20001, 20002, 20003] rfl .nil rfl .nil .nil rfl (.new rfl (OkL.all rfl) (.new rfl (OkL.all rfl) (.new (flat_map_ren (flatM flat_vi)) (OkL.flat (flatM flat_vi)) (.new (flat_map_ren (flatM flat_vi)) (OkL.flat (flatM flat_vi)) .nil)))) (frC rfl (frC rfl (frC rfl (frC rfl frN)))) (by decide) (.cons rfl rfl .nil) rfl rfl rfl rfl ?_
  refine AWo.callX (sizeW_ctr rn_q) bd31 [(20000, 0), (20001, 0), (20002, 0), (20003, 0)] [] rfl (.cons rfl .nil) rfl (.cons rfl rfl .nil) (.whole rfl rfl (OkL.all rfl) (by intro h; first | exact h | rfl) (.whole rfl rfl (OkL.all rfl) (by intro h; first | exact h | rfl) (.flat rfl (flatM flat_vi) (by intro h; first | exact h | rfl) (.flat rfl (flatM flat_vi) (by intro h; first | exact h | rfl) .nil)))) rfl (.keep rfl (.keep rfl (.keep rfl (.keep rfl .nil)))) frN (by decide) (.pure (by first | rfl | exact pure_aggM flat_vi | exact pure_aggM flat_bool) .nil) rfl rfl rfl rfl ?_
  refine AWo.alloc tbok 10000 1 ((List.replicate 12 0).map (vi .u64)) rfl rfl rfl rfl rfl rfl ?_
  refine AWo.alloc tbok 11000 1 ((List.replicate 12 0).map (vi .u64)) rfl rfl rfl rfl rfl rfl ?_
  refine AWo.storeAllN tbok rfl rfl rfl rfl (by rw [List.length_map, digs_len]) (by first | rfl | (simp [digs_len]; done)) (oneM (fun _ => rfl) _) rfl ?_
  refine AWo.storeAllN tbok rfl rfl rfl rfl (by rw [List.length_map, digs_len]) (by first | rfl | (simp [digs_len]; done)) (oneM (fun _ => rfl) _) rfl ?_
  refine AWo.nil trivial ?_
  refine AW.seqR ?_
  refine AWo.pure (PureOp.assign rfl) rfl rfl ?_
  refine AWo.nil trivial ?_
  refine AW.seq ?_
  refine AW.seqR ?_
  refine AWo.pure (PureOp.move rfl) rfl rfl ?_
  refine AWo.nil trivial ?_
  refine AW.block ?_
  refine AW.loopw (fun mm σ => ∃ i, (i ≤ 12) ∧ mm = 12 - i ∧ σ = ⟨(upd (upd (upd (upd (upd (upd (upd (upd emp 0 (.bool g)) 5 (.pointer (some ⟨6000, 0, none⟩))) 6 (.pointer (some ⟨7000, 0, none⟩))) 7 (.pointer (some ⟨8000, 0, none⟩))) 9 (.pointer (some ⟨10000, 0, none⟩))) 10 (.pointer (some ⟨11000, 0, none⟩))) 11 (vi .u64 (cwq i))) 21 (vi .i64 i)), (upd (upd (upd (upd (upd emp 6000 ⟨(digs 18446744073709551616 12 a).map (vi .u64), true, 1⟩) 7000 ⟨(digs 18446744073709551616 12 b).map (vi .u64), true, 1⟩) 8000 ⟨(digs 18446744073709551616 12 c).map (vi .u64), true, 1⟩) 10000 ⟨(digs 18446744073709551616 12 PG).map (vi .u64), true, 1⟩) 11000 ⟨(digs 18446744073709551616 12 QG).map (vi .u64), true, 1⟩)⟩) (fm := []) ?_ ⟨0, Nat.zero_le _, rfl, rfl⟩ ?_
  ·
    refine Wk.of [6000, 7000, 8000, 10000, 11000] ?_ ?_ ?_ (by decide) rfl
    ·
      refine WkE.upd rfl (by first | exact VR.flat _ rfl | exact VR.eqv (vp_succ _) rfl | exact VR.eqv (vp_succ _).symm rfl | exact VR.eqv (by first | rfl | (congr 1; omega) | (simp; done) | (simp; omega)) rfl) ?_
      refine WkE.upd rfl (VR.flat _ rfl) ?_
      refine WkE.upd rfl (.ptr (11000) 0 ⟨_, rfl⟩) ?_
      refine WkE.upd rfl (.ptr (10000) 0 ⟨_, rfl⟩) ?_
      refine WkE.upd rfl (.ptr (8000) 0 ⟨_, rfl⟩) ?_
      refine WkE.upd rfl (.ptr (7000) 0 ⟨_, rfl⟩) ?_
      refine WkE.upd rfl (.ptr (6000) 0 ⟨_, rfl⟩) ?_
      refine WkE.upd rfl (by first | exact VR.flat _ rfl | exact VR.eqv (vp_succ _) rfl | exact VR.eqv (vp_succ _).symm rfl | exact VR.eqv (by first | rfl | (congr 1; omega) | (simp; done) | (simp; omega)) rfl) ?_
      exact WkE.emp
    ·
      refine WkM.flat rfl (flatM flat_vi) (fun h => h) ?_
      refine WkM.flat rfl (flatM flat_vi) (fun h => h) ?_
      refine WkM.flat rfl (flatM flat_vi) (fun h => h) ?_
      refine WkM.flat rfl (flatM flat_vi) (fun h => h) ?_
      refine WkM.flat rfl (flatM flat_vi) (fun h => h) ?_
      exact WkM.emp
    ·
      repeat (refine dom_upd_mem (by decide) ?_)
      exact dom_emp
  ·
    rintro mm σ ⟨i, hinv, rfl, rfl⟩
    refine AW.seqR ?_
    first | refine AWo.pure (PureOp.ltN (b := 12) rfl rfl) rfl rfl ?_ | refine AWo.pure (PureOp.bin rfl rfl rfl) rfl rfl ?_
    refine AWo.nil trivial ?_
    refine AW.seq ?_
    refine AW.cond rfl (fun hb0 => ?_) (fun hb0 => ?_)
    ·
      have hi : i < 12 := by simpa using hb0
      have hcw := cwq_lt i
      have hqi : QG / 18446744073709551616 ^ i % 18446744073709551616 < 18446744073709551616 := Nat.mod_lt _ (by decide)
      refine AW.skip ?_
      refine thenA_normal ?_
      refine AW.seq ?_
      refine AW.block ?_
      refine AW.seqR ?_
      refine AWo.pure (PureOp.move rfl) rfl rfl ?_
      refine AWo.pure (PureOp.assign rfl) rfl rfl ?_
      refine AWo.nil trivial ?_
      refine AW.seq ?_
      refine AW.seqD mixed ?_
      refine AWo.pure (PureOp.move rfl) rfl rfl ?_
      refine yP (PureOp.arr1 tbok (j := i) rfl rfl rfl rfl hi) ?_
      refine AWo.loadM tbok 0 rfl rfl rfl (by rw [digs_len]; exact hi) rfl rfl ?_
      rw [digs_getD (by decide) hi]
      refine AWo.pure (PureOp.move rfl) rfl rfl ?_
      refine yP (PureOp.arr1 tbok (j := i) rfl rfl rfl rfl hi) ?_
      refine AWo.loadM tbok 0 rfl rfl rfl (by rw [digs_len]; exact hi) rfl rfl ?_
      rw [digs_getD (by decide) hi]
      first | refine AWo.pure ((PureOp.shlUge (b := 1) 18446744073709551616 rfl rfl rfl rfl).mono (v' := vi .u64 (QG / 18446744073709551616 ^ i % 18446744073709551616 * 2 % 18446744073709551616)) (congrArg (vi .u64) (by rw [Nat.pow_one]))) rfl rfl ?_ | refine AWo.pure ((PureOp.shl rfl rfl (by first | decide | omega)).mono (v' := vi .u64 (QG / 18446744073709551616 ^ i % 18446744073709551616 * 2 % 18446744073709551616)) (congrArg (vi .u64) (by rw [Nat.pow_one]))) rfl rfl ?_
      refine AWo.pure (PureOp.move rfl) rfl rfl ?_
      first | refine AWo.pure ((PureOp.orN 18446744073709551616 rfl rfl (by decide) (by decide) (by first | decide | omega) (by first | decide | omega)).mono (v' := vi .u64 (PG / 18446744073709551616 ^ i % 18446744073709551616)) (congrArg (vi .u64) (or_pg hi))) rfl rfl ?_ | refine AWo.pure ((PureOp.bin rfl rfl rfl).mono (v' := vi .u64 (PG / 18446744073709551616 ^ i % 18446744073709551616)) (congrArg (vi .u64) (or_pg hi))) rfl rfl ?_
      first | refine AWo.pure ((PureOp.neN rfl rfl).mono (v' := .bool false) (congrArg Value.bool (by simp))) rfl rfl ?_ | refine AWo.pure ((PureOp.bin rfl rfl rfl).mono (v' := .bool false) (congrArg Value.bool (by simp))) rfl rfl ?_
      refine AWo.nil (by kernel_rfl) ?_
      refine AW.condF rfl ?_
      refine AW.skip ?_
      refine thenA_normal ?_
      refine AW.region ?_
      refine AWo.pure (PureOp.move rfl) rfl rfl ?_
      refine yP (PureOp.arr1 tbok (j := i) rfl rfl rfl rfl hi) ?_
      refine AWo.loadM tbok 0 rfl rfl rfl (by rw [digs_len]; exact hi) rfl rfl ?_
      rw [digs_getD (by decide) hi]
      first | refine AWo.pure (PureOp.shrN (b := 63) 64 rfl rfl rfl (by first | decide | omega)) rfl rfl ?_ | refine AWo.pure (PureOp.shr rfl rfl (by first | decide | omega)) rfl rfl ?_
      refine AWo.pure (PureOp.assign rfl) rfl rfl ?_
      refine AWo.nil trivial ?_
      refine inBlockA_normal ?_
      refine thenA_normal ?_
      refine AW.region ?_
      first | refine AWo.pure (PureOp.addI (b := 1) rfl rfl (by first | decide | omega)) rfl rfl ?_ | refine AWo.pure (PureOp.bin rfl rfl rfl) rfl rfl ?_
      refine AWo.pure (PureOp.move rfl) rfl rfl ?_
      refine AWo.nil trivial ?_
      refine thenA_normal ?_
      rw [cw_step]
      refine ⟨12 - (i + 1), [], _, by omega, ?_, i + 1, by omega, rfl, rfl⟩
      refine Wk.of [6000, 7000, 8000, 10000, 11000] ?_ ?_ ?_ (by decide) rfl
      ·
        refine WkE.upd rfl (by first | exact VR.flat _ rfl | exact VR.eqv (vp_succ _) rfl | exact VR.eqv (vp_succ _).symm rfl | exact VR.eqv (by first | rfl | (congr 1; omega) | (simp; done) | (simp; omega)) rfl) ?_
        refine WkE.upd rfl (VR.flat _ rfl) ?_
        refine WkE.upd rfl (.ptr (11000) 0 ⟨_, rfl⟩) ?_
        refine WkE.upd rfl (.ptr (10000) 0 ⟨_, rfl⟩) ?_
        refine WkE.upd rfl (.ptr (8000) 0 ⟨_, rfl⟩) ?_
        refine WkE.upd rfl (.ptr (7000) 0 ⟨_, rfl⟩) ?_
        refine WkE.upd rfl (.ptr (6000) 0 ⟨_, rfl⟩) ?_
        refine WkE.upd rfl (by first | exact VR.flat _ rfl | exact VR.eqv (vp_succ _) rfl | exact VR.eqv (vp_succ _).symm rfl | exact VR.eqv (by first | rfl | (congr 1; omega) | (simp; done) | (simp; omega)) rfl) ?_
        exact WkE.emp
      ·
        refine WkM.flat rfl (flatM flat_vi) (fun h => h) ?_
        refine WkM.flat rfl (flatM flat_vi) (fun h => h) ?_
        refine WkM.flat rfl (flatM flat_vi) (fun h => h) ?_
        refine WkM.flat rfl (flatM flat_vi) (fun h => h) ?_
        refine WkM.flat rfl (flatM flat_vi) (fun h => h) ?_
        exact WkM.emp
      ·
        repeat (refine dom_upd_mem (by decide) ?_)
        exact dom_emp
    ·
      obtain rfl : i = 12 := by simp at hb0; omega
      refine AW.exit ?_
      refine thenA_exit ?_
      refine thenA_exit ?_
      refine inBlockA_hit ?_
      refine thenA_normal ?_
      refine AW.seqR ?_
      refine AWo.pure (PureOp.move rfl) rfl rfl ?_
      refine AWo.callX (ring4_ctr) bd18 [] [41000, 41001, 41002, 41003] rfl (.cons rfl .nil) rfl (.cons rfl rfl .nil) .nil rfl (.new rfl (OkL.all rfl) (.new rfl (OkL.all rfl) (.new (flat_map_ren (flatM flat_vi)) (OkL.flat (flatM flat_vi)) (.new (flat_map_ren (flatM flat_vi)) (OkL.flat (flatM flat_vi)) .nil)))) (frC rfl (frC rfl (frC rfl (frC rfl frN)))) (by decide) (.cons rfl rfl .nil) rfl rfl rfl rfl ?_
      refine AWo.pure (PureOp.assign rfl) rfl rfl ?_
      refine AWo.nil trivial ?_
      refine AW.seq ?_
      refine AW.seqD mixed ?_
      refine AWo.pure (PureOp.move rfl) rfl rfl ?_
      refine AWo.loadAll tbok rfl rfl rfl rfl (by show ((digs 18446744073709551616 12 a).map (vi .u64)).length = 12; rw [List.length_map, digs_len]) rfl rfl ?_
      refine AWo.loadAll tbok rfl rfl rfl rfl (by show ((digs 18446744073709551616 12 b).map (vi .u64)).length = 12; rw [List.length_map, digs_len]) rfl rfl ?_
      refine AWo.callX (addW_ctr (N := NG g) (a := a) (b := b) (rn_g g) ha hb) bd24 [(41000, 0), (41001, 0), (41002, 0), (41003, 0)] [] rfl (.cons rfl (.cons rfl (.cons rfl .nil))) rfl (.cons rfl rfl (.pure (by first | rfl | exact pure_aggM flat_vi | exact pure_aggM flat_bool) (.pure (by first | rfl | exact pure_aggM flat_vi | exact pure_aggM flat_bool) .nil))) (.whole rfl rfl (OkL.all rfl) (by intro h; first | exact h | rfl) (.whole rfl rfl (OkL.all rfl) (by intro h; first | exact h | rfl) (.flat rfl (flatM flat_vi) (by intro h; first | exact h | rfl) (.flat rfl (flatM flat_vi) (by intro h; first | exact h | rfl) .nil)))) rfl (.keep rfl (.keep rfl (.keep rfl (.keep rfl .nil)))) frN (by decide) (.pure (by first | rfl | exact pure_aggM flat_vi | exact pure_aggM flat_bool) .nil) rfl rfl rfl rfl ?_
      refine AWo.pure (PureOp.move rfl) rfl rfl ?_
      refine AWo.loadAll tbok rfl rfl rfl rfl (by show ((digs 18446744073709551616 12 b).map (vi .u64)).length = 12; rw [List.length_map, digs_len]) rfl rfl ?_
      refine AWo.loadAll tbok rfl rfl rfl rfl (by show ((digs 18446744073709551616 12 a).map (vi .u64)).length = 12; rw [List.length_map, digs_len]) rfl rfl ?_
      refine AWo.callX (addW_ctr (N := NG g) (a := b) (b := a) (rn_g g) hb ha) bd24 [(41000, 0), (41001, 0), (41002, 0), (41003, 0)] [] rfl (.cons rfl (.cons rfl (.cons rfl .nil))) rfl (.cons rfl rfl (.pure (by first | rfl | exact pure_aggM flat_vi | exact pure_aggM flat_bool) (.pure (by first | rfl | exact pure_aggM flat_vi | exact pure_aggM flat_bool) .nil))) (.whole rfl rfl (OkL.all rfl) (by intro h; first | exact h | rfl) (.whole rfl rfl (OkL.all rfl) (by intro h; first | exact h | rfl) (.flat rfl (flatM flat_vi) (by intro h; first | exact h | rfl) (.flat rfl (flatM flat_vi) (by intro h; first | exact h | rfl) .nil)))) rfl (.keep rfl (.keep rfl (.keep rfl (.keep rfl .nil)))) frN (by decide) (.pure (by first | rfl | exact pure_aggM flat_vi | exact pure_aggM flat_bool) .nil) rfl rfl rfl rfl ?_
      refine yP ((PureOp.neArr rfl rfl Try.eqGuardType24 Try.underlying24 Try.underlying22 (tbok.sz 22 _ rfl) (by kernel_rfl) (digs_len _ _) (digs_len _ _)).mono (v' := .bool false) (congrArg Value.bool (by rw [decide_eq_true (congrArg (digs 18446744073709551616 12) (by rw [Nat.add_comm]))]; rfl))) ?_
      refine AWo.pure (PureOp.move rfl) rfl rfl ?_
      refine AWo.pure (PureOp.move rfl) rfl rfl ?_
      refine AWo.loadAll tbok rfl rfl rfl rfl (by show ((digs 18446744073709551616 12 a).map (vi .u64)).length = 12; rw [List.length_map, digs_len]) rfl rfl ?_
      refine AWo.loadAll tbok rfl rfl rfl rfl (by show ((digs 18446744073709551616 12 b).map (vi .u64)).length = 12; rw [List.length_map, digs_len]) rfl rfl ?_
      refine AWo.callX (mulW_ctr (N := NG g) (a := a) (b := b) (rn_g g) ha hb) bd29 [(41000, 0), (41001, 0), (41002, 0), (41003, 0)] [] rfl (.cons rfl (.cons rfl (.cons rfl .nil))) rfl (.cons rfl rfl (.pure (by first | rfl | exact pure_aggM flat_vi | exact pure_aggM flat_bool) (.pure (by first | rfl | exact pure_aggM flat_vi | exact pure_aggM flat_bool) .nil))) (.whole rfl rfl (OkL.all rfl) (by intro h; first | exact h | rfl) (.whole rfl rfl (OkL.all rfl) (by intro h; first | exact h | rfl) (.flat rfl (flatM flat_vi) (by intro h; first | exact h | rfl) (.flat rfl (flatM flat_vi) (by intro h; first | exact h | rfl) .nil)))) rfl (.keep rfl (.keep rfl (.keep rfl (.keep rfl .nil)))) frN (by decide) (.pure (by first | rfl | exact pure_aggM flat_vi | exact pure_aggM flat_bool) .nil) rfl rfl rfl rfl ?_
      refine AWo.pure (PureOp.move rfl) rfl rfl ?_
      refine AWo.loadAll tbok rfl rfl rfl rfl (by show ((digs 18446744073709551616 12 b).map (vi .u64)).length = 12; rw [List.length_map, digs_len]) rfl rfl ?_
      refine AWo.loadAll tbok rfl rfl rfl rfl (by show ((digs 18446744073709551616 12 a).map (vi .u64)).length = 12; rw [List.length_map, digs_len]) rfl rfl ?_
      refine AWo.callX (mulW_ctr (N := NG g) (a := b) (b := a) (rn_g g) hb ha) bd29 [(41000, 0), (41001, 0), (41002, 0), (41003, 0)] [] rfl (.cons rfl (.cons rfl (.cons rfl .nil))) rfl (.cons rfl rfl (.pure (by first | rfl | exact pure_aggM flat_vi | exact pure_aggM flat_bool) (.pure (by first | rfl | exact pure_aggM flat_vi | exact pure_aggM flat_bool) .nil))) (.whole rfl rfl (OkL.all rfl) (by intro h; first | exact h | rfl) (.whole rfl rfl (OkL.all rfl) (by intro h; first | exact h | rfl) (.flat rfl (flatM flat_vi) (by intro h; first | exact h | rfl) (.flat rfl (flatM flat_vi) (by intro h; first | exact h | rfl) .nil)))) rfl (.keep rfl (.keep rfl (.keep rfl (.keep rfl .nil)))) frN (by decide) (.pure (by first | rfl | exact pure_aggM flat_vi | exact pure_aggM flat_bool) .nil) rfl rfl rfl rfl ?_
      refine yP ((PureOp.neArr rfl rfl Try.eqGuardType24 Try.underlying24 Try.underlying22 (tbok.sz 22 _ rfl) (by kernel_rfl) (digs_len _ _) (digs_len _ _)).mono (v' := .bool false) (congrArg Value.bool (by rw [decide_eq_true (congrArg (digs 18446744073709551616 12) (by rw [Nat.mul_comm]))]; rfl))) ?_
      refine AWo.pure (PureOp.pickF rfl rfl) rfl rfl ?_
      refine AWo.pure (PureOp.move rfl) rfl rfl ?_
      refine AWo.pure (PureOp.move rfl) rfl rfl ?_
      refine AWo.loadAll tbok rfl rfl rfl rfl (by show ((digs 18446744073709551616 12 a).map (vi .u64)).length = 12; rw [List.length_map, digs_len]) rfl rfl ?_
      refine AWo.pure (PureOp.move rfl) rfl rfl ?_
      refine AWo.loadAll tbok rfl rfl rfl rfl (by show ((digs 18446744073709551616 12 b).map (vi .u64)).length = 12; rw [List.length_map, digs_len]) rfl rfl ?_
      refine AWo.loadAll tbok rfl rfl rfl rfl (by show ((digs 18446744073709551616 12 c).map (vi .u64)).length = 12; rw [List.length_map, digs_len]) rfl rfl ?_
      refine AWo.callX (addW_ctr (N := NG g) (a := b) (b := c) (rn_g g) hb hc) bd24 [(41000, 0), (41001, 0), (41002, 0), (41003, 0)] [] rfl (.cons rfl (.cons rfl (.cons rfl .nil))) rfl (.cons rfl rfl (.pure (by first | rfl | exact pure_aggM flat_vi | exact pure_aggM flat_bool) (.pure (by first | rfl | exact pure_aggM flat_vi | exact pure_aggM flat_bool) .nil))) (.whole rfl rfl (OkL.all rfl) (by intro h; first | exact h | rfl) (.whole rfl rfl (OkL.all rfl) (by intro h; first | exact h | rfl) (.flat rfl (flatM flat_vi) (by intro h; first | exact h | rfl) (.flat rfl (flatM flat_vi) (by intro h; first | exact h | rfl) .nil)))) rfl (.keep rfl (.keep rfl (.keep rfl (.keep rfl .nil)))) frN (by decide) (.pure (by first | rfl | exact pure_aggM flat_vi | exact pure_aggM flat_bool) .nil) rfl rfl rfl rfl ?_
      refine AWo.callX (mulW_ctr (N := NG g) (a := a) (b := ((b % NG g + c % NG g) % NG g)) (rn_g g) ha (mod_lt12 (rn_g g) _)) bd29 [(41000, 0), (41001, 0), (41002, 0), (41003, 0)] [] rfl (.cons rfl (.cons rfl (.cons rfl .nil))) rfl (.cons rfl rfl (.pure (by first | rfl | exact pure_aggM flat_vi | exact pure_aggM flat_bool) (.pure (by first | rfl | exact pure_aggM flat_vi | exact pure_aggM flat_bool) .nil))) (.whole rfl rfl (OkL.all rfl) (by intro h; first | exact h | rfl) (.whole rfl rfl (OkL.all rfl) (by intro h; first | exact h | rfl) (.flat rfl (flatM flat_vi) (by intro h; first | exact h | rfl) (.flat rfl (flatM flat_vi) (by intro h; first | exact h | rfl) .nil)))) rfl (.keep rfl (.keep rfl (.keep rfl (.keep rfl .nil)))) frN (by decide) (.pure (by first | rfl | exact pure_aggM flat_vi | exact pure_aggM flat_bool) .nil) rfl rfl rfl rfl ?_
      refine AWo.pure (PureOp.move rfl) rfl rfl ?_
      refine AWo.pure (PureOp.move rfl) rfl rfl ?_
      refine AWo.loadAll tbok rfl rfl rfl rfl (by show ((digs 18446744073709551616 12 a).map (vi .u64)).length = 12; rw [List.length_map, digs_len]) rfl rfl ?_
      refine AWo.loadAll tbok rfl rfl rfl rfl (by show ((digs 18446744073709551616 12 b).map (vi .u64)).length = 12; rw [List.length_map, digs_len]) rfl rfl ?_
      refine AWo.callX (mulW_ctr (N := NG g) (a := a) (b := b) (rn_g g) ha hb) bd29 [(41000, 0), (41001, 0), (41002, 0), (41003, 0)] [] rfl (.cons rfl (.cons rfl (.cons rfl .nil))) rfl (.cons rfl rfl (.pure (by first | rfl | exact pure_aggM flat_vi | exact pure_aggM flat_bool) (.pure (by first | rfl | exact pure_aggM flat_vi | exact pure_aggM flat_bool) .nil))) (.whole rfl rfl (OkL.all rfl) (by intro h; first | exact h | rfl) (.whole rfl rfl (OkL.all rfl) (by intro h; first | exact h | rfl) (.flat rfl (flatM flat_vi) (by intro h; first | exact h | rfl) (.flat rfl (flatM flat_vi) (by intro h; first | exact h | rfl) .nil)))) rfl (.keep rfl (.keep rfl (.keep rfl (.keep rfl .nil)))) frN (by decide) (.pure (by first | rfl | exact pure_aggM flat_vi | exact pure_aggM flat_bool) .nil) rfl rfl rfl rfl ?_
      refine AWo.pure (PureOp.move rfl) rfl rfl ?_
      refine AWo.loadAll tbok rfl rfl rfl rfl (by show ((digs 18446744073709551616 12 a).map (vi .u64)).length = 12; rw [List.length_map, digs_len]) rfl rfl ?_
      refine AWo.loadAll tbok rfl rfl rfl rfl (by show ((digs 18446744073709551616 12 c).map (vi .u64)).length = 12; rw [List.length_map, digs_len]) rfl rfl ?_
      refine AWo.callX (mulW_ctr (N := NG g) (a := a) (b := c) (rn_g g) ha hc) bd29 [(41000, 0), (41001, 0), (41002, 0), (41003, 0)] [] rfl (.cons rfl (.cons rfl (.cons rfl .nil))) rfl (.cons rfl rfl (.pure (by first | rfl | exact pure_aggM flat_vi | exact pure_aggM flat_bool) (.pure (by first | rfl | exact pure_aggM flat_vi | exact pure_aggM flat_bool) .nil))) (.whole rfl rfl (OkL.all rfl) (by intro h; first | exact h | rfl) (.whole rfl rfl (OkL.all rfl) (by intro h; first | exact h | rfl) (.flat rfl (flatM flat_vi) (by intro h; first | exact h | rfl) (.flat rfl (flatM flat_vi) (by intro h; first | exact h | rfl) .nil)))) rfl (.keep rfl (.keep rfl (.keep rfl (.keep rfl .nil)))) frN (by decide) (.pure (by first | rfl | exact pure_aggM flat_vi | exact pure_aggM flat_bool) .nil) rfl rfl rfl rfl ?_
      refine AWo.callX (addW_ctr (N := NG g) (a := (a * b % NG g)) (b := (a * c % NG g)) (rn_g g) (mod_lt12 (rn_g g) _) (mod_lt12 (rn_g g) _)) bd24 [(41000, 0), (41001, 0), (41002, 0), (41003, 0)] [] rfl (.cons rfl (.cons rfl (.cons rfl .nil))) rfl (.cons rfl rfl (.pure (by first | rfl | exact pure_aggM flat_vi | exact pure_aggM flat_bool) (.pure (by first | rfl | exact pure_aggM flat_vi | exact pure_aggM flat_bool) .nil))) (.whole rfl rfl (OkL.all rfl) (by intro h; first | exact h | rfl) (.whole rfl rfl (OkL.all rfl) (by intro h; first | exact h | rfl) (.flat rfl (flatM flat_vi) (by intro h; first | exact h | rfl) (.flat rfl (flatM flat_vi) (by intro h; first | exact h | rfl) .nil)))) rfl (.keep rfl (.keep rfl (.keep rfl (.keep rfl .nil)))) frN (by decide) (.pure (by first | rfl | exact pure_aggM flat_vi | exact pure_aggM flat_bool) .nil) rfl rfl rfl rfl ?_
      refine yP ((PureOp.neArr rfl rfl Try.eqGuardType24 Try.underlying24 Try.underlying22 (tbok.sz 22 _ rfl) (by kernel_rfl) (digs_len _ _) (digs_len _ _)).mono (v' := .bool false) (congrArg Value.bool (by rw [decide_eq_true (congrArg (digs 18446744073709551616 12) (h_dist))]; rfl))) ?_
      refine AWo.pure (PureOp.pickF rfl rfl) rfl rfl ?_
      refine AWo.pure (PureOp.move rfl) rfl rfl ?_
      refine AWo.pure (PureOp.move rfl) rfl rfl ?_
      refine AWo.pure (PureOp.move rfl) rfl rfl ?_
      refine AWo.loadAll tbok rfl rfl rfl rfl (by show ((digs 18446744073709551616 12 a).map (vi .u64)).length = 12; rw [List.length_map, digs_len]) rfl rfl ?_
      refine AWo.loadAll tbok rfl rfl rfl rfl (by show ((digs 18446744073709551616 12 b).map (vi .u64)).length = 12; rw [List.length_map, digs_len]) rfl rfl ?_
      refine AWo.callX (subW_ctr (N := NG g) (a := a) (b := b) (rn_g g) ha hb) bd26 [(41000, 0), (41001, 0), (41002, 0), (41003, 0)] [] rfl (.cons rfl (.cons rfl (.cons rfl .nil))) rfl (.cons rfl rfl (.pure (by first | rfl | exact pure_aggM flat_vi | exact pure_aggM flat_bool) (.pure (by first | rfl | exact pure_aggM flat_vi | exact pure_aggM flat_bool) .nil))) (.whole rfl rfl (OkL.all rfl) (by intro h; first | exact h | rfl) (.whole rfl rfl (OkL.all rfl) (by intro h; first | exact h | rfl) (.flat rfl (flatM flat_vi) (by intro h; first | exact h | rfl) (.flat rfl (flatM flat_vi) (by intro h; first | exact h | rfl) .nil)))) rfl (.keep rfl (.keep rfl (.keep rfl (.keep rfl .nil)))) frN (by decide) (.pure (by first | rfl | exact pure_aggM flat_vi | exact pure_aggM flat_bool) .nil) rfl rfl rfl rfl ?_
      refine AWo.loadAll tbok rfl rfl rfl rfl (by show ((digs 18446744073709551616 12 b).map (vi .u64)).length = 12; rw [List.length_map, digs_len]) rfl rfl ?_
      refine AWo.callX (addW_ctr (N := NG g) (a := ((a % NG g + (NG g - b % NG g)) % NG g)) (b := b) (rn_g g) (mod_lt12 (rn_g g) _) hb) bd24 [(41000, 0), (41001, 0), (41002, 0), (41003, 0)] [] rfl (.cons rfl (.cons rfl (.cons rfl .nil))) rfl (.cons rfl rfl (.pure (by first | rfl | exact pure_aggM flat_vi | exact pure_aggM flat_bool) (.pure (by first | rfl | exact pure_aggM flat_vi | exact pure_aggM flat_bool) .nil))) (.whole rfl rfl (OkL.all rfl) (by intro h; first | exact h | rfl) (.whole rfl rfl (OkL.all rfl) (by intro h; first | exact h | rfl) (.flat rfl (flatM flat_vi) (by intro h; first | exact h | rfl) (.flat rfl (flatM flat_vi) (by intro h; first | exact h | rfl) .nil)))) rfl (.keep rfl (.keep rfl (.keep rfl (.keep rfl .nil)))) frN (by decide) (.pure (by first | rfl | exact pure_aggM flat_vi | exact pure_aggM flat_bool) .nil) rfl rfl rfl rfl ?_
      refine AWo.pure (PureOp.move rfl) rfl rfl ?_
      refine AWo.loadAll tbok rfl rfl rfl rfl (by show ((digs 18446744073709551616 12 a).map (vi .u64)).length = 12; rw [List.length_map, digs_len]) rfl rfl ?_
      refine AWo.pure ((PureOp.buildArr tbok [] rfl rfl rfl (by decide) rfl rfl).mono (v' := .agg ((digs 18446744073709551616 12 0).map (vi .u64)).toArray) (by kernel_rfl)) rfl rfl ?_
      refine AWo.callX (addW_ctr (N := NG g) (a := a) (b := 0) (rn_g g) ha (by decide +kernel)) bd24 [(41000, 0), (41001, 0), (41002, 0), (41003, 0)] [] rfl (.cons rfl (.cons rfl (.cons rfl .nil))) rfl (.cons rfl rfl (.pure (by first | rfl | exact pure_aggM flat_vi | exact pure_aggM flat_bool) (.pure (by first | rfl | exact pure_aggM flat_vi | exact pure_aggM flat_bool) .nil))) (.whole rfl rfl (OkL.all rfl) (by intro h; first | exact h | rfl) (.whole rfl rfl (OkL.all rfl) (by intro h; first | exact h | rfl) (.flat rfl (flatM flat_vi) (by intro h; first | exact h | rfl) (.flat rfl (flatM flat_vi) (by intro h; first | exact h | rfl) .nil)))) rfl (.keep rfl (.keep rfl (.keep rfl (.keep rfl .nil)))) frN (by decide) (.pure (by first | rfl | exact pure_aggM flat_vi | exact pure_aggM flat_bool) .nil) rfl rfl rfl rfl ?_
      refine yP ((PureOp.neArr rfl rfl Try.eqGuardType24 Try.underlying24 Try.underlying22 (tbok.sz 22 _ rfl) (by kernel_rfl) (digs_len _ _) (digs_len _ _)).mono (v' := .bool false) (congrArg Value.bool (by rw [decide_eq_true (congrArg (digs 18446744073709551616 12) (h_back (rn_g g)))]; rfl))) ?_
      refine AWo.pure (PureOp.pickF rfl rfl) rfl rfl ?_
      refine AWo.nil (by kernel_rfl) ?_
      refine AW.condF rfl ?_
      refine AW.skip ?_
      refine thenA_normal ?_
      refine AW.seqR ?_
      refine AWo.loadAll tbok rfl rfl rfl rfl (by show ((digs 18446744073709551616 12 a).map (vi .u64)).length = 12; rw [List.length_map, digs_len]) rfl rfl ?_
      refine AWo.callX (writeW_ctr ha) bd35 [] [] rfl (.cons rfl .nil) rfl (.pure (by first | rfl | exact pure_aggM flat_vi | exact pure_aggM flat_bool) .nil) .nil rfl .nil frN (by decide) (.pure (by first | rfl | exact pure_aggM flat_vi | exact pure_aggM flat_bool) .nil) rfl rfl rfl rfl ?_
      refine AWo.alloc tbok 15000 1 ((List.replicate 96 0).map (vi .u8)) rfl rfl rfl rfl rfl rfl ?_
      refine AWo.storeAllN tbok rfl rfl rfl rfl (by rw [List.length_map, digs_len]) (by first | rfl | (simp [digs_len]; done)) (oneM (fun _ => rfl) _) rfl ?_
      refine AWo.nil trivial ?_
      refine AW.seqD mixed ?_
      refine AWo.pure (PureOp.move rfl) rfl rfl ?_
      refine AWo.sliceA tbok (h := 96) rfl .none .none rfl rfl rfl rfl (by decide) (by decide) (.inl rfl) (by simp [digs_len]) rfl rfl rfl ?_
      refine AWo.callX (redk_ctr (N := NG g) (l := digs 256 96 a) (k := 96) (v := a % NG g) (rn_g g) (digs_bd (by decide) _ _) (digs_len _ _) (by decide) (by rw [num_digs_lt (by rw [w96]; exact ha)])) bd32 [(41000, 0), (41001, 0), (41002, 0), (41003, 0), (15000, 0)] [] rfl (.cons rfl (.cons rfl .nil)) rfl (.cons rfl rfl (.cons rfl rfl .nil)) (.whole rfl rfl (OkL.all rfl) (by intro h; first | exact h | rfl) (.whole rfl rfl (OkL.all rfl) (by intro h; first | exact h | rfl) (.flat rfl (flatM flat_vi) (by intro h; first | exact h | rfl) (.flat rfl (flatM flat_vi) (by intro h; first | exact h | rfl) (.flat rfl (by first | exact flatM flat_vi | exact flatM flat_bool | (simp [flatV, flat_vi]; done)) (by intro h; first | exact h | rfl) .nil))))) rfl (.keep rfl (.keep rfl (.keep rfl (.keep rfl (.keep rfl .nil))))) frN (by decide) (.pure (by first | rfl | exact pure_aggM flat_vi | exact pure_aggM flat_bool) .nil) rfl rfl rfl rfl ?_
      refine AWo.pure (PureOp.move rfl) rfl rfl ?_
      refine AWo.loadAll tbok rfl rfl rfl rfl (by show ((digs 18446744073709551616 12 a).map (vi .u64)).length = 12; rw [List.length_map, digs_len]) rfl rfl ?_
      refine AWo.pure ((PureOp.buildArr tbok [] rfl rfl rfl (by decide) rfl rfl).mono (v' := .agg ((digs 18446744073709551616 12 0).map (vi .u64)).toArray) (by kernel_rfl)) rfl rfl ?_
      refine AWo.callX (addW_ctr (N := NG g) (a := a) (b := 0) (rn_g g) ha (by decide +kernel)) bd24 [(41000, 0), (41001, 0), (41002, 0), (41003, 0)] [] rfl (.cons rfl (.cons rfl (.cons rfl .nil))) rfl (.cons rfl rfl (.pure (by first | rfl | exact pure_aggM flat_vi | exact pure_aggM flat_bool) (.pure (by first | rfl | exact pure_aggM flat_vi | exact pure_aggM flat_bool) .nil))) (.whole rfl rfl (OkL.all rfl) (by intro h; first | exact h | rfl) (.whole rfl rfl (OkL.all rfl) (by intro h; first | exact h | rfl) (.flat rfl (flatM flat_vi) (by intro h; first | exact h | rfl) (.flat rfl (flatM flat_vi) (by intro h; first | exact h | rfl) .nil)))) rfl (.keep rfl (.keep rfl (.keep rfl (.keep rfl .nil)))) frN (by decide) (.pure (by first | rfl | exact pure_aggM flat_vi | exact pure_aggM flat_bool) .nil) rfl rfl rfl rfl ?_
      refine yP ((PureOp.eqArr rfl rfl Try.eqGuardType24 Try.underlying24 Try.underlying22 (tbok.sz 22 _ rfl) (by kernel_rfl) (digs_len _ _) (digs_len _ _)).mono (v' := .bool true) (congrArg Value.bool (decide_eq_true (congrArg (digs 18446744073709551616 12) (h_zero))))) ?_
      refine AWo.pure (PureOp.move rfl) rfl rfl ?_
      refine AWo.pure (PureOp.move rfl) rfl rfl ?_
      refine AWo.sliceT tbok rfl rfl rfl rfl rfl ?_
      refine AWo.buildSlice tbok 109000 [(0, vi .u8 0), (1, vi .u8 0)] (out := [vi .u8 0, vi .u8 0]) rfl rfl (by decide) rfl rfl rfl (by decide) rfl rfl rfl rfl rfl ?_
      refine AWo.appendX tbok (cs := (digs 256 96 a).map (vi .u8)) (all := ((digs 256 96 a ++ [0, 0]).map (vi .u8))) (news := [vi .u8 0, vi .u8 0]) 110000 rfl rfl rfl rfl (by show List.take _ (List.drop 0 _) = _; rw [List.drop_zero]; exact List.take_of_length_le (by simp [digs_len])) (by simp [digs_len]) rfl (by decide) (by decide) rfl rfl rfl Nat.one_ne_zero rfl rfl rfl (by decide) (by decide) (by rw [List.map_append]; rfl) rfl rfl ?_
      refine AWo.callX (redk_ctr (N := NG g) (l := digs 256 96 a ++ [0, 0]) (k := 98) (v := a % NG g) (rn_g g) (bd_app0 (digs_bd (by decide) _ _)) (by simp [digs_len]) (by decide) (by rw [num_app0, num_digs_lt (by rw [w96]; exact ha)])) bd32 [(41000, 0), (41001, 0), (41002, 0), (41003, 0), (110000, 0)] [] rfl (.cons rfl (.cons rfl .nil)) rfl (.cons rfl rfl (.cons rfl rfl .nil)) (.whole rfl rfl (OkL.all rfl) (by intro h; first | exact h | rfl) (.whole rfl rfl (OkL.all rfl) (by intro h; first | exact h | rfl) (.flat rfl (flatM flat_vi) (by intro h; first | exact h | rfl) (.flat rfl (flatM flat_vi) (by intro h; first | exact h | rfl) (.flat rfl (by first | exact flatM flat_vi | exact flatM flat_bool | (simp [flatV, flat_vi]; done)) (by intro h; first | exact h | rfl) .nil))))) rfl (.keep rfl (.keep rfl (.keep rfl (.keep rfl (.keep rfl .nil))))) frN (by decide) (.pure (by first | rfl | exact pure_aggM flat_vi | exact pure_aggM flat_bool) .nil) rfl rfl rfl rfl ?_
      refine AWo.pure (PureOp.move rfl) rfl rfl ?_
      refine AWo.sliceA tbok (h := 96) rfl .none .none rfl rfl rfl rfl (by decide) (by decide) (.inl rfl) (by simp [digs_len]) rfl rfl rfl ?_
      refine AWo.callX (redk_ctr (N := NG g) (l := digs 256 96 a) (k := 96) (v := a % NG g) (rn_g g) (digs_bd (by decide) _ _) (digs_len _ _) (by decide) (by rw [num_digs_lt (by rw [w96]; exact ha)])) bd32 [(41000, 0), (41001, 0), (41002, 0), (41003, 0), (15000, 0)] [] rfl (.cons rfl (.cons rfl .nil)) rfl (.cons rfl rfl (.cons rfl rfl .nil)) (.whole rfl rfl (OkL.all rfl) (by intro h; first | exact h | rfl) (.whole rfl rfl (OkL.all rfl) (by intro h; first | exact h | rfl) (.flat rfl (flatM flat_vi) (by intro h; first | exact h | rfl) (.flat rfl (flatM flat_vi) (by intro h; first | exact h | rfl) (.flat rfl (by first | exact flatM flat_vi | exact flatM flat_bool | (simp [flatV, flat_vi]; done)) (by intro h; first | exact h | rfl) .nil))))) rfl (.keep rfl (.keep rfl (.keep rfl (.keep rfl (.keep rfl .nil))))) frN (by decide) (.pure (by first | rfl | exact pure_aggM flat_vi | exact pure_aggM flat_bool) .nil) rfl rfl rfl rfl ?_
      refine yP ((PureOp.eqArr rfl rfl Try.eqGuardType24 Try.underlying24 Try.underlying22 (tbok.sz 22 _ rfl) (by kernel_rfl) (digs_len _ _) (digs_len _ _)).mono (v' := .bool true) (congrArg Value.bool (decide_eq_true (congrArg (digs 18446744073709551616 12) (rfl))))) ?_
      refine AWo.pure (PureOp.pickT rfl rfl) rfl rfl ?_
      refine AWo.pure (PureOp.assign rfl) rfl rfl ?_
      refine AWo.nil (by kernel_rfl) ?_
      refine AW.ret ?_
      refine RetQ.gc [_] [] [.tmp 8] (.inl rfl) rfl (.tmp rfl .nil) rfl (.cons rfl rfl .nil) trivial (by decide) rfl
end Go.Proofs.Ytpahdiljpnfkdaa
namespace Go.Proofs.Ytpahdiljpnfkdaa
open Go
namespace Head
set_option maxRecDepth 100000 in
theorem words : ∃ l, Try.prog.initOrder = String.ofList l ∧ (behindMainWord (wordsSigns l)).head? = some "cut".toList := ⟨_, rfl, by kernel_rfl⟩
theorem head_of {P : Program} (h : ∃ l, P.initOrder = String.ofList l ∧ (behindMainWord (wordsSigns l)).head? = some "cut".toList) :
    ∃ rest, behindMainWord (wordsSigns P.initOrder.toList) = "cut".toList :: rest := by
  obtain ⟨l, h, hh⟩ := h
  rw [h, String.toList_ofList]
  cases hb : behindMainWord (wordsSigns l) with
  | nil => rw [hb] at hh; cases hh
  | cons c r => rw [hb] at hh; simp only [List.head?_cons, Option.some.injEq] at hh; exact ⟨r, by rw [hh]⟩
theorem cut_words : (liftWords.all fun s => !("cut".toList == s.toList)) = true := by decide +kernel
theorem strip_cut (rest : List (List Char)) : stripLifts liftWords ("cut".toList :: rest) = ([], "cut".toList :: rest) := by
  have key : ∀ o : List String, (o.all fun s => !("cut".toList == s.toList)) = true → stripLifts o ("cut".toList :: rest) = ([], "cut".toList :: rest) := by
    intro o
    induction o with
    | nil => intro _; rfl
    | cons s o ih =>
      intro h
      simp only [List.all_cons, Bool.and_eq_true, Bool.not_eq_true'] at h
      rw [stripLifts, if_neg (by rw [h.1]; exact Bool.false_ne_true)]
      exact ih h.2
  exact key liftWords cut_words
theorem mayEnter_of {P : Program} {rest : List (List Char)} (hr : behindMainWord (wordsSigns P.initOrder.toList) = "cut".toList :: rest) (e1 : P.laysLater = false) (e2 : P.bearsReflect = false) (e3 : P.doorFits [] = true) : P.mayEnter = true := by
  unfold Program.mayEnter
  rw [hr]
  simp only [strip_cut, e1, e2, e3]
  simp
theorem headLifts_of {P : Program} {rest : List (List Char)} (hr : behindMainWord (wordsSigns P.initOrder.toList) = "cut".toList :: rest) : P.headLifts = [] := by
  unfold Program.headLifts
  rw [hr, strip_cut]
  simp
theorem cut_ne : ("cut".toList == "carried".toList) = false ∧ ("cut".toList == "gc".toList) = false ∧ ("cut".toList == "spec".toList) = false := by decide +kernel
theorem liftsFinal_of {P : Program} {rest : List (List Char)} (hr : behindMainWord (wordsSigns P.initOrder.toList) = "cut".toList :: rest) : P.liftsFinal = false := by
  unfold Program.liftsFinal
  rw [hr, headLifts_of hr]
  simp
theorem make_of {P : Program} {rest : List (List Char)} (hr : behindMainWord (wordsSigns P.initOrder.toList) = "cut".toList :: rest) : P.make = some .cut := by
  unfold Program.make
  rw [hr]
  simp only [cut_ne.2.1, cut_ne.2.2, beq_self_eq_true]
  simp
theorem laysLater : Try.prog.laysLater = false := by kernel_rfl
theorem bearsReflect : Try.prog.bearsReflect = false := by kernel_rfl
theorem doorFits : Try.prog.doorFits [] = true := by kernel_rfl
theorem mayEnter : Try.prog.mayEnter = true := let ⟨_, hr⟩ := head_of words; mayEnter_of hr laysLater bearsReflect doorFits
theorem liftsFinal : Try.prog.liftsFinal = false := let ⟨_, hr⟩ := head_of words; liftsFinal_of hr
theorem make_cut : Try.prog.make = some .cut := let ⟨_, hr⟩ := head_of words; make_of hr
theorem band {a b : Bool} (ha : a = true) (hb : b = true) : (a && b) = true := by rw [ha, hb]; rfl
end Head
end Go.Proofs.Ytpahdiljpnfkdaa
