/- What the proof stands on, part 6: the walk of each function, and plain laws of numbers. -/
import Derived.Test.YtpahdiljpnfkdaaK5
import Derived.Test.YtpahdiljpnfkdaaRows
import Derived.ProofKit
namespace Go.Proofs.Ytpahdiljpnfkdaa
open Go Sim
theorem bS56 {E : Env} {v : Operand} {x : Nat} (h : aev E v = some (.agg ((digs 18446744073709551616 12 x).map (vi .u64)).toArray)) : PureOp Try.prog (.build 56 #[(0, v)]) E (.agg ((digs 18446744073709551616 12 x).map (vi .u64)).toArray) :=
  PureOp.buildStruct [(0, .agg ((digs 18446744073709551616 12 x).map (vi .u64)).toArray)] pl56.choose_spec.1 zr56 (by decide) pl56.choose_spec.2 (by simp [h]) rfl
theorem bS61 {E : Env} {v : Operand} {x : Nat} (h : aev E v = some (.agg ((digs 18446744073709551616 12 x).map (vi .u64)).toArray)) : PureOp Try.prog (.build 61 #[(0, v)]) E (.agg ((digs 18446744073709551616 12 x).map (vi .u64)).toArray) :=
  PureOp.buildStruct [(0, .agg ((digs 18446744073709551616 12 x).map (vi .u64)).toArray)] pl61.choose_spec.1 zr61 (by decide) pl61.choose_spec.2 (by simp [h]) rfl
theorem eS {E : Env} {x y : Operand} {a b : Nat} {s' : TypeId} (h1 : aev E x = some (.agg ((digs 18446744073709551616 12 a).map (vi .u64)).toArray)) (h2 : aev E y = some (.agg ((digs 18446744073709551616 12 b).map (vi .u64)).toArray)) :
    PureOp Try.prog (.binOp .eql 56 x y s') E (.bool (decide (digs 18446744073709551616 12 a = digs 18446744073709551616 12 b))) :=
  PureOp.eqSt h1 h2 Try.underlying56 (by decide) rfl rfl Try.stoodInHeld56 Try.eqGuardType56 Try.underlying24 Try.underlying22 (tbok.sz 22 _ rfl) (tbok.sz 24 _ rfl) (by kernel_rfl) (digs_len _ _) (digs_len _ _)
theorem d12_inj {a b : Nat} (ha : a < 18446744073709551616 ^ 12) (hb : b < 18446744073709551616 ^ 12) (h : digs 18446744073709551616 12 a = digs 18446744073709551616 12 b) : a = b := by
  have := congrArg (num 18446744073709551616) h
  rwa [num_digs_lt ha, num_digs_lt hb] at this
theorem d12_eq {a b : Nat} (ha : a < 18446744073709551616 ^ 12) (hb : b < 18446744073709551616 ^ 12) : digs 18446744073709551616 12 a = digs 18446744073709551616 12 b ↔ a = b := ⟨d12_inj ha hb, fun h => by rw [h]⟩
theorem add0 {a : Nat} : (a % QG + 0 % QG) % QG = a % QG := by rw [Nat.zero_mod, Nat.add_zero, Nat.mod_mod]
theorem pow_lt (a k : Nat) : a ^ k % PG < 18446744073709551616 ^ 12 := Nat.lt_trans (Nat.mod_lt _ (by decide +kernel)) rn_p.lt
theorem pow_ltA (a : Nat) : a % PG < 18446744073709551616 ^ 12 := Nat.lt_trans (Nat.mod_lt _ (by decide +kernel)) rn_p.lt
theorem lt_q (a : Nat) : a % QG < 18446744073709551616 ^ 12 := Nat.lt_trans (Nat.mod_lt _ (by decide +kernel)) rn_q.lt
theorem lt_qA (a : Nat) : a % QG < 18446744073709551616 ^ 12 := lt_q a
theorem rm_q (a : Nat) : (D 4294967296 (a % QG)).length < 100000000 := Nat.lt_trans (num_rm (lt_q a)) (by decide)
theorem two_deep : deep 1 1 [vi .u64 2] = dd 2 := rfl
theorem last_q : ¬ (PG - 1) ^ QG % PG = 1 := by
  rw [← powm_eq PG 800 (PG - 1) QG (by decide +kernel)]; decide +kernel
theorem fld_q {x : Fp} : num 256 (digs 256 32 x.val) % QG = x.val := by
  rw [num_digs_lt (Nat.lt_trans x.isLt (by decide)), Nat.mod_eq_of_lt (Nat.lt_trans x.isLt (by decide +kernel))]
theorem qq_add {a b : Nat} : (a % QG % QG + b % QG % QG) % QG = (a % QG + b % QG) % QG := by rw [Nat.mod_mod, Nat.mod_mod]
theorem qq_sub {a b : Nat} : (a % QG % QG + (QG - b % QG % QG)) % QG = (a % QG + QG - b % QG) % QG := by
  rw [Nat.mod_mod, Nat.mod_mod, Nat.add_sub_assoc (Nat.le_of_lt (Nat.mod_lt _ (by decide +kernel)))]
theorem four_q : 4 ^ QG % PG = 1 := by
  rw [← powm_eq PG 800 4 QG (by decide +kernel)]; decide +kernel
theorem g_mod (k : Nat) : 4 ^ (k % QG) % PG = 4 ^ k % PG := by
  have h : 4 ^ k % PG = (4 ^ (k % QG) % PG * ((4 ^ QG % PG) ^ (k / QG) % PG)) % PG := by
    conv => lhs; rw [← Nat.mod_add_div k QG, Nat.pow_add, Nat.pow_mul]
    rw [Nat.mul_mod, Nat.pow_mod (4 ^ QG)]
  rw [h, four_q, Nat.one_pow, Nat.mod_eq_of_lt (show 1 < PG by decide +kernel), Nat.mul_one, Nat.mod_mod]
theorem g_pow (s k : Nat) : (4 ^ s % PG) ^ k % PG = 4 ^ (s * k) % PG := by rw [← Nat.pow_mod, ← Nat.pow_mul]
theorem g_mul (s t : Nat) : 4 ^ s % PG * (4 ^ t % PG) % PG = 4 ^ (s + t) % PG := by rw [← Nat.mul_mod, ← Nat.pow_add]
theorem gl_add {a b : Nat} : 4 ^ (a % QG) % PG * (4 ^ (b % QG) % PG) % PG = 4 ^ ((a % QG % QG + b % QG % QG) % QG) % PG := by rw [g_mul, qq_add, g_mod]
theorem gl_comm {a b : Nat} : (4 ^ (a % QG) % PG) ^ (b % QG) % PG = (4 ^ (b % QG) % PG) ^ (a % QG) % PG := by rw [g_pow, g_pow, Nat.mul_comm]
theorem gl_mul {a b : Nat} : (4 ^ (a % QG) % PG) ^ (b % QG) % PG = 4 ^ (a % QG * (b % QG) % QG) % PG := by rw [g_pow, g_mod]
theorem gl_one {a : Nat} : 4 ^ (a % QG) % PG * 1 % PG = 4 ^ (a % QG) % PG := by rw [Nat.mul_one, Nat.mod_mod]
theorem gl_sub {a b : Nat} : 4 ^ ((a % QG % QG + (QG - b % QG % QG)) % QG) % PG * (4 ^ (b % QG) % PG) % PG = 4 ^ (a % QG) % PG := by
  rw [g_mul, qq_sub]
  have hb : b % QG < QG := Nat.mod_lt _ (by decide +kernel)
  rw [← g_mod, Nat.mod_add_mod]
  have : a % QG + QG - b % QG + b % QG = a % QG + QG := by omega
  rw [this, Nat.add_mod_right, Nat.mod_mod]
theorem gl_zero {a : Nat} : (4 ^ (a % QG) % PG) ^ 0 % PG = 1 := by rw [Nat.pow_zero]; exact Nat.mod_eq_of_lt (by decide +kernel)
theorem gl_mem {a : Nat} : (4 ^ (a % QG) % PG) ^ QG % PG = 1 := by
  rw [g_pow, Nat.mul_comm, Nat.pow_mul, Nat.pow_mod, four_q, Nat.one_pow]; exact Nat.mod_eq_of_lt (by decide +kernel)
theorem gMul_ctr {a b : Nat} (ha : a < 18446744073709551616 ^ 12) (hb : b < 18446744073709551616 ^ 12) : GC Try.prog 51 [.agg ((digs 18446744073709551616 12 a).map (vi .u64)).toArray, .agg ((digs 18446744073709551616 12 b).map (vi .u64)).toArray] [] [.agg ((digs 18446744073709551616 12 (a * b % PG)).map (vi .u64)).toArray] [] := by
  refine GC.intro Try.func51 rfl (by show 2 ≤ 12; decide) (by first | exact Nat.le_refl _ | decide | simp) ?_
  refine AW.seqR ?_
  refine AWo.box 3000 1 _ rfl rfl rfl rfl rfl ?_
  refine AWo.box 4000 1 _ rfl rfl rfl rfl rfl ?_
  refine AWo.alloc tbok 5000 1 _ rfl rfl rfl rfl rfl rfl ?_
  refine AWo.nil trivial ?_
  refine AW.seqD mixed ?_
  refine AWo.callX (groupW_ctr) bd38 [] [6000, 6001, 6002, 6003] rfl .nil rfl .nil .nil rfl (.new rfl (OkL.all rfl) (.new rfl (OkL.all rfl) (.new (flat_map_ren (flatM flat_vi)) (OkL.flat (flatM flat_vi)) (.new (flat_map_ren (flatM flat_vi)) (OkL.flat (flatM flat_vi)) .nil)))) (frC rfl (frC rfl (frC rfl (frC rfl frN)))) (by decide) (.cons rfl rfl .nil) rfl rfl rfl rfl ?_
  refine AWo.pure (PureOp.fld tbok rfl rfl rfl (by decide)) rfl rfl ?_
  refine AWo.loadAll tbok rfl rfl rfl rfl (by show ((digs 18446744073709551616 12 (a)).map (vi .u64)).length = 12; rw [List.length_map, digs_len]) rfl rfl ?_
  refine AWo.pure (PureOp.fld tbok rfl rfl rfl (by decide)) rfl rfl ?_
  refine AWo.loadAll tbok rfl rfl rfl rfl (by show ((digs 18446744073709551616 12 (b)).map (vi .u64)).length = 12; rw [List.length_map, digs_len]) rfl rfl ?_
  refine AWo.callX (mulW_ctr (N := PG) rn_p ha hb) bd29 [(6000, 0), (6001, 0), (6002, 0), (6003, 0)] [] rfl (.cons rfl (.cons rfl (.cons rfl .nil))) rfl (.cons rfl rfl (.pure (by first | rfl | exact pure_aggM flat_vi | exact pure_aggM flat_bool) (.pure (by first | rfl | exact pure_aggM flat_vi | exact pure_aggM flat_bool) .nil))) (.whole rfl rfl (OkL.all rfl) (by intro h; first | exact h | rfl) (.whole rfl rfl (OkL.all rfl) (by intro h; first | exact h | rfl) (.flat rfl (flatM flat_vi) (by intro h; first | exact h | rfl) (.flat rfl (flatM flat_vi) (by intro h; first | exact h | rfl) .nil)))) rfl (.keep rfl (.keep rfl (.keep rfl (.keep rfl .nil)))) frN (by decide) (.pure (by first | rfl | exact pure_aggM flat_vi | exact pure_aggM flat_bool) .nil) rfl rfl rfl rfl ?_
  refine yP (bS56 (x := a * b % PG) rfl) ?_
  refine AWo.storeAllN tbok rfl rfl rfl rfl (by rw [List.length_map, digs_len]) (by first | rfl | (simp [digs_len]; done)) (oneM (fun _ => rfl) _) rfl ?_
  refine AWo.nil (by kernel_rfl) ?_
  refine AW.ret ?_
  refine RetQ.gc [_] [] [.cell 4 56] (.inl rfl) rfl (.val (RVal.cellAll tbok rfl rfl rfl rfl (by first | (simp [*]; done) | rfl)) .nil) rfl (.pure (by first | rfl | exact pure_aggM flat_vi | exact pure_aggM flat_bool) .nil) trivial (by decide) rfl
theorem gExp_ctr {a b : Nat} (ha : a < 18446744073709551616 ^ 12) (hb : b < 18446744073709551616 ^ 12) : GC Try.prog 52 [.agg ((digs 18446744073709551616 12 a).map (vi .u64)).toArray, .agg ((digs 18446744073709551616 12 b).map (vi .u64)).toArray] [] [.agg ((digs 18446744073709551616 12 (a ^ b % PG)).map (vi .u64)).toArray] [] := by
  refine GC.intro Try.func52 rfl (by show 2 ≤ 12; decide) (by first | exact Nat.le_refl _ | decide | simp) ?_
  refine AW.seqR ?_
  refine AWo.box 3000 1 _ rfl rfl rfl rfl rfl ?_
  refine AWo.box 4000 1 _ rfl rfl rfl rfl rfl ?_
  refine AWo.alloc tbok 5000 1 _ rfl rfl rfl rfl rfl rfl ?_
  refine AWo.nil trivial ?_
  refine AW.seqD mixed ?_
  refine AWo.callX (groupW_ctr) bd38 [] [6000, 6001, 6002, 6003] rfl .nil rfl .nil .nil rfl (.new rfl (OkL.all rfl) (.new rfl (OkL.all rfl) (.new (flat_map_ren (flatM flat_vi)) (OkL.flat (flatM flat_vi)) (.new (flat_map_ren (flatM flat_vi)) (OkL.flat (flatM flat_vi)) .nil)))) (frC rfl (frC rfl (frC rfl (frC rfl frN)))) (by decide) (.cons rfl rfl .nil) rfl rfl rfl rfl ?_
  refine AWo.pure (PureOp.fld tbok rfl rfl rfl (by decide)) rfl rfl ?_
  refine AWo.loadAll tbok rfl rfl rfl rfl (by show ((digs 18446744073709551616 12 (a)).map (vi .u64)).length = 12; rw [List.length_map, digs_len]) rfl rfl ?_
  refine AWo.pure (PureOp.fld tbok rfl rfl rfl (by decide)) rfl rfl ?_
  refine AWo.loadAll tbok rfl rfl rfl rfl (by show ((digs 18446744073709551616 12 (b)).map (vi .u64)).length = 12; rw [List.length_map, digs_len]) rfl rfl ?_
  refine AWo.callX (expW_ctr (N := PG) rn_p ha hb) bd19 [(6000, 0), (6001, 0), (6002, 0), (6003, 0)] [] rfl (.cons rfl (.cons rfl (.cons rfl .nil))) rfl (.cons rfl rfl (.pure (by first | rfl | exact pure_aggM flat_vi | exact pure_aggM flat_bool) (.pure (by first | rfl | exact pure_aggM flat_vi | exact pure_aggM flat_bool) .nil))) (.whole rfl rfl (OkL.all rfl) (by intro h; first | exact h | rfl) (.whole rfl rfl (OkL.all rfl) (by intro h; first | exact h | rfl) (.flat rfl (flatM flat_vi) (by intro h; first | exact h | rfl) (.flat rfl (flatM flat_vi) (by intro h; first | exact h | rfl) .nil)))) rfl (.keep rfl (.keep rfl (.keep rfl (.keep rfl .nil)))) frN (by decide) (.pure (by first | rfl | exact pure_aggM flat_vi | exact pure_aggM flat_bool) .nil) rfl rfl rfl rfl ?_
  refine yP (bS56 (x := a ^ b % PG) rfl) ?_
  refine AWo.storeAllN tbok rfl rfl rfl rfl (by rw [List.length_map, digs_len]) (by first | rfl | (simp [digs_len]; done)) (oneM (fun _ => rfl) _) rfl ?_
  refine AWo.nil (by kernel_rfl) ?_
  refine AW.ret ?_
  refine RetQ.gc [_] [] [.cell 4 56] (.inl rfl) rfl (.val (RVal.cellAll tbok rfl rfl rfl rfl (by first | (simp [*]; done) | rfl)) .nil) rfl (.pure (by first | rfl | exact pure_aggM flat_vi | exact pure_aggM flat_bool) .nil) trivial (by decide) rfl
theorem gNum_ctr {a : Nat} (ha : a < 18446744073709551616 ^ 12) : GC Try.prog 53 [.agg ((digs 18446744073709551616 12 a).map (vi .u64)).toArray] [] [.agg ((digs 18446744073709551616 12 (a % QG)).map (vi .u64)).toArray] [] := by
  refine GC.intro Try.func53 rfl (by show 1 ≤ 8; decide) (by first | exact Nat.le_refl _ | decide | simp) ?_
  refine AW.seqR ?_
  refine AWo.box 2000 1 _ rfl rfl rfl rfl rfl ?_
  refine AWo.alloc tbok 3000 1 _ rfl rfl rfl rfl rfl rfl ?_
  refine AWo.nil trivial ?_
  refine AW.seqD mixed ?_
  refine AWo.callX (expoW_ctr) bd39 [] [4000, 4001, 4002, 4003] rfl .nil rfl .nil .nil rfl (.new rfl (OkL.all rfl) (.new rfl (OkL.all rfl) (.new (flat_map_ren (flatM flat_vi)) (OkL.flat (flatM flat_vi)) (.new (flat_map_ren (flatM flat_vi)) (OkL.flat (flatM flat_vi)) .nil)))) (frC rfl (frC rfl (frC rfl (frC rfl frN)))) (by decide) (.cons rfl rfl .nil) rfl rfl rfl rfl ?_
  refine AWo.loadAll tbok rfl rfl rfl rfl (by show ((digs 18446744073709551616 12 (a)).map (vi .u64)).length = 12; rw [List.length_map, digs_len]) rfl rfl ?_
  refine AWo.pure ((PureOp.buildArr tbok [] rfl rfl rfl (by decide) rfl rfl).mono (v' := .agg ((digs 18446744073709551616 12 0).map (vi .u64)).toArray) (by kernel_rfl)) rfl rfl ?_
  refine AWo.callX (v := .agg ((digs 18446744073709551616 12 (a % QG)).map (vi .u64)).toArray) (addW_ctr (N := QG) (a := a) (b := 0) rn_q ha (by decide +kernel)) bd24 [(4000, 0), (4001, 0), (4002, 0), (4003, 0)] [] rfl (.cons rfl (.cons rfl (.cons rfl .nil))) rfl (.cons rfl rfl (.pure (by first | rfl | exact pure_aggM flat_vi | exact pure_aggM flat_bool) (.pure (by first | rfl | exact pure_aggM flat_vi | exact pure_aggM flat_bool) .nil))) (.whole rfl rfl (OkL.all rfl) (by intro h; first | exact h | rfl) (.whole rfl rfl (OkL.all rfl) (by intro h; first | exact h | rfl) (.flat rfl (flatM flat_vi) (by intro h; first | exact h | rfl) (.flat rfl (flatM flat_vi) (by intro h; first | exact h | rfl) .nil)))) rfl (.keep rfl (.keep rfl (.keep rfl (.keep rfl .nil)))) frN (by decide) (.pure (by first | rfl | exact pure_aggM flat_vi | exact pure_aggM flat_bool) .nil) (by rw [add0]; rfl) rfl rfl rfl ?_
  refine yP (bS61 (x := a % QG) rfl) ?_
  refine AWo.storeAllN tbok rfl rfl rfl rfl (by rw [List.length_map, digs_len]) (by first | rfl | (simp [digs_len]; done)) (oneM (fun _ => rfl) _) rfl ?_
  refine AWo.nil (by kernel_rfl) ?_
  refine AW.ret ?_
  refine RetQ.gc [_] [] [.cell 2 61] (.inl rfl) rfl (.val (RVal.cellAll tbok rfl rfl rfl rfl (by first | (simp [*]; done) | rfl)) .nil) rfl (.pure (by first | rfl | exact pure_aggM flat_vi | exact pure_aggM flat_bool) .nil) trivial (by decide) rfl
theorem gOne_ctr  : GC Try.prog 55 [] [] [.agg ((digs 18446744073709551616 12 1).map (vi .u64)).toArray] [] := by
  refine GC.intro Try.func55 rfl (by show 0 ≤ 3; decide) (by first | exact Nat.le_refl _ | decide | simp) ?_
  refine AW.seqR ?_
  refine AWo.alloc tbok 1000 1 _ rfl rfl rfl rfl rfl rfl ?_
  refine AWo.nil trivial ?_
  refine AW.seqR ?_
  refine AWo.pure ((PureOp.buildArr tbok [(0, .int .u64 1)] rfl rfl rfl (by decide) rfl rfl).mono (v' := .agg ((digs 18446744073709551616 12 1).map (vi .u64)).toArray) (by kernel_rfl)) rfl rfl ?_
  refine yP (bS56 (x := 1) rfl) ?_
  refine AWo.storeAllN tbok rfl rfl rfl rfl (by rw [List.length_map, digs_len]) (by first | rfl | (simp [digs_len]; done)) (oneM (fun _ => rfl) _) rfl ?_
  refine AWo.nil trivial ?_
  refine AW.ret ?_
  refine RetQ.gc [_] [] [.cell 0 56] (.inl rfl) rfl (.val (RVal.cellAll tbok rfl rfl rfl rfl (by first | (simp [*]; done) | rfl)) .nil) rfl (.pure (by first | rfl | exact pure_aggM flat_vi | exact pure_aggM flat_bool) .nil) trivial (by decide) rfl
theorem gGen_ctr  : GC Try.prog 56 [] [] [.agg ((digs 18446744073709551616 12 4).map (vi .u64)).toArray] [] := by
  refine GC.intro Try.func56 rfl (by show 0 ≤ 3; decide) (by first | exact Nat.le_refl _ | decide | simp) ?_
  refine AW.seqR ?_
  refine AWo.alloc tbok 1000 1 _ rfl rfl rfl rfl rfl rfl ?_
  refine AWo.nil trivial ?_
  refine AW.seqR ?_
  refine AWo.pure ((PureOp.buildArr tbok [(0, .int .u64 4)] rfl rfl rfl (by decide) rfl rfl).mono (v' := .agg ((digs 18446744073709551616 12 4).map (vi .u64)).toArray) (by kernel_rfl)) rfl rfl ?_
  refine yP (bS56 (x := 4) rfl) ?_
  refine AWo.storeAllN tbok rfl rfl rfl rfl (by rw [List.length_map, digs_len]) (by first | rfl | (simp [digs_len]; done)) (oneM (fun _ => rfl) _) rfl ?_
  refine AWo.nil trivial ?_
  refine AW.ret ?_
  refine RetQ.gc [_] [] [.cell 0 56] (.inl rfl) rfl (.val (RVal.cellAll tbok rfl rfl rfl rfl (by first | (simp [*]; done) | rfl)) .nil) rfl (.pure (by first | rfl | exact pure_aggM flat_vi | exact pure_aggM flat_bool) .nil) trivial (by decide) rfl
theorem gEq_ctr {a b : Nat} (ha : a < 18446744073709551616 ^ 12) (hb : b < 18446744073709551616 ^ 12) : GC Try.prog 48 [.agg ((digs 18446744073709551616 12 a).map (vi .u64)).toArray, .agg ((digs 18446744073709551616 12 b).map (vi .u64)).toArray] [] [.bool (decide (a = b))] [] := by
  refine GC.intro Try.func48 rfl (by show 2 ≤ 8; decide) (by first | exact Nat.le_refl _ | decide | simp) ?_
  refine AW.seqR ?_
  refine AWo.box 3000 1 _ rfl rfl rfl rfl rfl ?_
  refine AWo.box 4000 1 _ rfl rfl rfl rfl rfl ?_
  refine AWo.pure (PureOp.assign rfl) rfl rfl ?_
  refine AWo.nil trivial ?_
  refine AW.seqR ?_
  refine AWo.loadAll tbok rfl rfl rfl rfl (by show ((digs 18446744073709551616 12 (a)).map (vi .u64)).length = 12; rw [List.length_map, digs_len]) rfl rfl ?_
  refine AWo.loadAll tbok rfl rfl rfl rfl (by show ((digs 18446744073709551616 12 (b)).map (vi .u64)).length = 12; rw [List.length_map, digs_len]) rfl rfl ?_
  refine yP ((eS rfl rfl).mono (v' := .bool (decide (a = b))) (congrArg Value.bool (decide_eq_decide.2 (d12_eq ha hb)))) ?_
  refine AWo.pure (PureOp.assign rfl) rfl rfl ?_
  refine AWo.nil trivial ?_
  refine AW.ret ?_
  refine RetQ.gc [_] [] [.tmp 4] (.inl rfl) rfl (.tmp rfl .nil) rfl (.cons rfl rfl .nil) trivial (by decide) rfl
theorem wthA_ctr {a b : Nat} (ha : a < 18446744073709551616 ^ 12) (hb : b < 18446744073709551616 ^ 12) : GC Try.prog 105 [.agg ((digs 18446744073709551616 12 a).map (vi .u64)).toArray, .func (.func 24) #[] #[], .agg ((digs 18446744073709551616 12 b).map (vi .u64)).toArray] [] [.agg ((digs 18446744073709551616 12 ((a % QG + b % QG) % QG)).map (vi .u64)).toArray] [] := by
  refine GC.intro Try.func105 rfl (by show 3 ≤ 15; decide) (by first | exact Nat.le_refl _ | decide | simp) ?_
  refine AW.seqR ?_
  refine AWo.box 4000 1 _ rfl rfl rfl rfl rfl ?_
  refine AWo.box 6000 1 _ rfl rfl rfl rfl rfl ?_
  refine AWo.alloc tbok 7000 1 _ rfl rfl rfl rfl rfl rfl ?_
  refine AWo.nil trivial ?_
  refine AW.seqD mixed ?_
  refine AWo.pure (PureOp.move rfl) rfl rfl ?_
  refine AWo.callX (expoW_ctr) bd39 [] [9000, 9001, 9002, 9003] rfl .nil rfl .nil .nil rfl (.new rfl (OkL.all rfl) (.new rfl (OkL.all rfl) (.new (flat_map_ren (flatM flat_vi)) (OkL.flat (flatM flat_vi)) (.new (flat_map_ren (flatM flat_vi)) (OkL.flat (flatM flat_vi)) .nil)))) (frC rfl (frC rfl (frC rfl (frC rfl frN)))) (by decide) (.cons rfl rfl .nil) rfl rfl rfl rfl ?_
  refine AWo.pure (PureOp.fld tbok rfl rfl rfl (by decide)) rfl rfl ?_
  refine AWo.loadAll tbok rfl rfl rfl rfl (by show ((digs 18446744073709551616 12 (a)).map (vi .u64)).length = 12; rw [List.length_map, digs_len]) rfl rfl ?_
  refine AWo.pure (PureOp.fld tbok rfl rfl rfl (by decide)) rfl rfl ?_
  refine AWo.loadAll tbok rfl rfl rfl rfl (by show ((digs 18446744073709551616 12 (b)).map (vi .u64)).length = 12; rw [List.length_map, digs_len]) rfl rfl ?_
  refine AWo.callX (addW_ctr (N := QG) rn_q ha hb) bd24 [(9000, 0), (9001, 0), (9002, 0), (9003, 0)] [] rfl (.cons rfl (.cons rfl (.cons rfl .nil))) rfl (.cons rfl rfl (.pure (by first | rfl | exact pure_aggM flat_vi | exact pure_aggM flat_bool) (.pure (by first | rfl | exact pure_aggM flat_vi | exact pure_aggM flat_bool) .nil))) (.whole rfl rfl (OkL.all rfl) (by intro h; first | exact h | rfl) (.whole rfl rfl (OkL.all rfl) (by intro h; first | exact h | rfl) (.flat rfl (flatM flat_vi) (by intro h; first | exact h | rfl) (.flat rfl (flatM flat_vi) (by intro h; first | exact h | rfl) .nil)))) rfl (.keep rfl (.keep rfl (.keep rfl (.keep rfl .nil)))) frN (by decide) (.pure (by first | rfl | exact pure_aggM flat_vi | exact pure_aggM flat_bool) .nil) rfl rfl rfl rfl ?_
  refine yP (bS61 (x := (a % QG + b % QG) % QG) rfl) ?_
  refine AWo.storeAllN tbok rfl rfl rfl rfl (by rw [List.length_map, digs_len]) (by first | rfl | (simp [digs_len]; done)) (oneM (fun _ => rfl) _) rfl ?_
  refine AWo.nil (by kernel_rfl) ?_
  refine AW.ret ?_
  refine RetQ.gc [_] [] [.cell 6 61] (.inl rfl) rfl (.val (RVal.cellAll tbok rfl rfl rfl rfl (by first | (simp [*]; done) | rfl)) .nil) rfl (.pure (by first | rfl | exact pure_aggM flat_vi | exact pure_aggM flat_bool) .nil) trivial (by decide) rfl
theorem gSA_ctr {a b : Nat} (ha : a < 18446744073709551616 ^ 12) (hb : b < 18446744073709551616 ^ 12) : GC Try.prog 59 [.agg ((digs 18446744073709551616 12 a).map (vi .u64)).toArray, .agg ((digs 18446744073709551616 12 b).map (vi .u64)).toArray] [] [.agg ((digs 18446744073709551616 12 ((a % QG + b % QG) % QG)).map (vi .u64)).toArray] [] := by
  refine GC.intro Try.func59 rfl (by show 2 ≤ 8; decide) (by first | exact Nat.le_refl _ | decide | simp) ?_
  refine AW.seqR ?_
  refine AWo.box 3000 1 _ rfl rfl rfl rfl rfl ?_
  refine AWo.box 4000 1 _ rfl rfl rfl rfl rfl ?_
  refine AWo.alloc tbok 5000 1 _ rfl rfl rfl rfl rfl rfl ?_
  refine AWo.nil trivial ?_
  refine AW.seqR ?_
  refine AWo.loadAll tbok rfl rfl rfl rfl (by show ((digs 18446744073709551616 12 (a)).map (vi .u64)).length = 12; rw [List.length_map, digs_len]) rfl rfl ?_
  refine AWo.loadAll tbok rfl rfl rfl rfl (by show ((digs 18446744073709551616 12 (b)).map (vi .u64)).length = 12; rw [List.length_map, digs_len]) rfl rfl ?_
  refine AWo.callX (wthA_ctr ha hb) bd105 [] [] rfl (.cons rfl (.cons rfl (.cons rfl .nil))) rfl (.pure (by first | rfl | exact pure_aggM flat_vi | exact pure_aggM flat_bool) (.cons rfl rfl (.pure (by first | rfl | exact pure_aggM flat_vi | exact pure_aggM flat_bool) .nil))) .nil rfl .nil frN (by decide) (.pure (by first | rfl | exact pure_aggM flat_vi | exact pure_aggM flat_bool) .nil) rfl rfl rfl rfl ?_
  refine AWo.storeAllN tbok rfl rfl rfl rfl (by rw [List.length_map, digs_len]) (by first | rfl | (simp [digs_len]; done)) (oneM (fun _ => rfl) _) rfl ?_
  refine AWo.nil trivial ?_
  refine AW.ret ?_
  refine RetQ.gc [_] [] [.cell 4 61] (.inl rfl) rfl (.val (RVal.cellAll tbok rfl rfl rfl rfl (by first | (simp [*]; done) | rfl)) .nil) rfl (.pure (by first | rfl | exact pure_aggM flat_vi | exact pure_aggM flat_bool) .nil) trivial (by decide) rfl
theorem wthS_ctr {a b : Nat} (ha : a < 18446744073709551616 ^ 12) (hb : b < 18446744073709551616 ^ 12) : GC Try.prog 105 [.agg ((digs 18446744073709551616 12 a).map (vi .u64)).toArray, .func (.func 26) #[] #[], .agg ((digs 18446744073709551616 12 b).map (vi .u64)).toArray] [] [.agg ((digs 18446744073709551616 12 ((a % QG + (QG - b % QG)) % QG)).map (vi .u64)).toArray] [] := by
  refine GC.intro Try.func105 rfl (by show 3 ≤ 15; decide) (by first | exact Nat.le_refl _ | decide | simp) ?_
  refine AW.seqR ?_
  refine AWo.box 4000 1 _ rfl rfl rfl rfl rfl ?_
  refine AWo.box 6000 1 _ rfl rfl rfl rfl rfl ?_
  refine AWo.alloc tbok 7000 1 _ rfl rfl rfl rfl rfl rfl ?_
  refine AWo.nil trivial ?_
  refine AW.seqD mixed ?_
  refine AWo.pure (PureOp.move rfl) rfl rfl ?_
  refine AWo.callX (expoW_ctr) bd39 [] [9000, 9001, 9002, 9003] rfl .nil rfl .nil .nil rfl (.new rfl (OkL.all rfl) (.new rfl (OkL.all rfl) (.new (flat_map_ren (flatM flat_vi)) (OkL.flat (flatM flat_vi)) (.new (flat_map_ren (flatM flat_vi)) (OkL.flat (flatM flat_vi)) .nil)))) (frC rfl (frC rfl (frC rfl (frC rfl frN)))) (by decide) (.cons rfl rfl .nil) rfl rfl rfl rfl ?_
  refine AWo.pure (PureOp.fld tbok rfl rfl rfl (by decide)) rfl rfl ?_
  refine AWo.loadAll tbok rfl rfl rfl rfl (by show ((digs 18446744073709551616 12 (a)).map (vi .u64)).length = 12; rw [List.length_map, digs_len]) rfl rfl ?_
  refine AWo.pure (PureOp.fld tbok rfl rfl rfl (by decide)) rfl rfl ?_
  refine AWo.loadAll tbok rfl rfl rfl rfl (by show ((digs 18446744073709551616 12 (b)).map (vi .u64)).length = 12; rw [List.length_map, digs_len]) rfl rfl ?_
  refine AWo.callX (subW_ctr (N := QG) rn_q ha hb) bd26 [(9000, 0), (9001, 0), (9002, 0), (9003, 0)] [] rfl (.cons rfl (.cons rfl (.cons rfl .nil))) rfl (.cons rfl rfl (.pure (by first | rfl | exact pure_aggM flat_vi | exact pure_aggM flat_bool) (.pure (by first | rfl | exact pure_aggM flat_vi | exact pure_aggM flat_bool) .nil))) (.whole rfl rfl (OkL.all rfl) (by intro h; first | exact h | rfl) (.whole rfl rfl (OkL.all rfl) (by intro h; first | exact h | rfl) (.flat rfl (flatM flat_vi) (by intro h; first | exact h | rfl) (.flat rfl (flatM flat_vi) (by intro h; first | exact h | rfl) .nil)))) rfl (.keep rfl (.keep rfl (.keep rfl (.keep rfl .nil)))) frN (by decide) (.pure (by first | rfl | exact pure_aggM flat_vi | exact pure_aggM flat_bool) .nil) rfl rfl rfl rfl ?_
  refine yP (bS61 (x := (a % QG + (QG - b % QG)) % QG) rfl) ?_
  refine AWo.storeAllN tbok rfl rfl rfl rfl (by rw [List.length_map, digs_len]) (by first | rfl | (simp [digs_len]; done)) (oneM (fun _ => rfl) _) rfl ?_
  refine AWo.nil (by kernel_rfl) ?_
  refine AW.ret ?_
  refine RetQ.gc [_] [] [.cell 6 61] (.inl rfl) rfl (.val (RVal.cellAll tbok rfl rfl rfl rfl (by first | (simp [*]; done) | rfl)) .nil) rfl (.pure (by first | rfl | exact pure_aggM flat_vi | exact pure_aggM flat_bool) .nil) trivial (by decide) rfl
theorem gSS_ctr {a b : Nat} (ha : a < 18446744073709551616 ^ 12) (hb : b < 18446744073709551616 ^ 12) : GC Try.prog 57 [.agg ((digs 18446744073709551616 12 a).map (vi .u64)).toArray, .agg ((digs 18446744073709551616 12 b).map (vi .u64)).toArray] [] [.agg ((digs 18446744073709551616 12 ((a % QG + (QG - b % QG)) % QG)).map (vi .u64)).toArray] [] := by
  refine GC.intro Try.func57 rfl (by show 2 ≤ 8; decide) (by first | exact Nat.le_refl _ | decide | simp) ?_
  refine AW.seqR ?_
  refine AWo.box 3000 1 _ rfl rfl rfl rfl rfl ?_
  refine AWo.box 4000 1 _ rfl rfl rfl rfl rfl ?_
  refine AWo.alloc tbok 5000 1 _ rfl rfl rfl rfl rfl rfl ?_
  refine AWo.nil trivial ?_
  refine AW.seqR ?_
  refine AWo.loadAll tbok rfl rfl rfl rfl (by show ((digs 18446744073709551616 12 (a)).map (vi .u64)).length = 12; rw [List.length_map, digs_len]) rfl rfl ?_
  refine AWo.loadAll tbok rfl rfl rfl rfl (by show ((digs 18446744073709551616 12 (b)).map (vi .u64)).length = 12; rw [List.length_map, digs_len]) rfl rfl ?_
  refine AWo.callX (wthS_ctr ha hb) bd105 [] [] rfl (.cons rfl (.cons rfl (.cons rfl .nil))) rfl (.pure (by first | rfl | exact pure_aggM flat_vi | exact pure_aggM flat_bool) (.cons rfl rfl (.pure (by first | rfl | exact pure_aggM flat_vi | exact pure_aggM flat_bool) .nil))) .nil rfl .nil frN (by decide) (.pure (by first | rfl | exact pure_aggM flat_vi | exact pure_aggM flat_bool) .nil) rfl rfl rfl rfl ?_
  refine AWo.storeAllN tbok rfl rfl rfl rfl (by rw [List.length_map, digs_len]) (by first | rfl | (simp [digs_len]; done)) (oneM (fun _ => rfl) _) rfl ?_
  refine AWo.nil trivial ?_
  refine AW.ret ?_
  refine RetQ.gc [_] [] [.cell 4 61] (.inl rfl) rfl (.val (RVal.cellAll tbok rfl rfl rfl rfl (by first | (simp [*]; done) | rfl)) .nil) rfl (.pure (by first | rfl | exact pure_aggM flat_vi | exact pure_aggM flat_bool) .nil) trivial (by decide) rfl
theorem wthM_ctr {a b : Nat} (ha : a < 18446744073709551616 ^ 12) (hb : b < 18446744073709551616 ^ 12) : GC Try.prog 105 [.agg ((digs 18446744073709551616 12 a).map (vi .u64)).toArray, .func (.func 29) #[] #[], .agg ((digs 18446744073709551616 12 b).map (vi .u64)).toArray] [] [.agg ((digs 18446744073709551616 12 (a * b % QG)).map (vi .u64)).toArray] [] := by
  refine GC.intro Try.func105 rfl (by show 3 ≤ 15; decide) (by first | exact Nat.le_refl _ | decide | simp) ?_
  refine AW.seqR ?_
  refine AWo.box 4000 1 _ rfl rfl rfl rfl rfl ?_
  refine AWo.box 6000 1 _ rfl rfl rfl rfl rfl ?_
  refine AWo.alloc tbok 7000 1 _ rfl rfl rfl rfl rfl rfl ?_
  refine AWo.nil trivial ?_
  refine AW.seqD mixed ?_
  refine AWo.pure (PureOp.move rfl) rfl rfl ?_
  refine AWo.callX (expoW_ctr) bd39 [] [9000, 9001, 9002, 9003] rfl .nil rfl .nil .nil rfl (.new rfl (OkL.all rfl) (.new rfl (OkL.all rfl) (.new (flat_map_ren (flatM flat_vi)) (OkL.flat (flatM flat_vi)) (.new (flat_map_ren (flatM flat_vi)) (OkL.flat (flatM flat_vi)) .nil)))) (frC rfl (frC rfl (frC rfl (frC rfl frN)))) (by decide) (.cons rfl rfl .nil) rfl rfl rfl rfl ?_
  refine AWo.pure (PureOp.fld tbok rfl rfl rfl (by decide)) rfl rfl ?_
  refine AWo.loadAll tbok rfl rfl rfl rfl (by show ((digs 18446744073709551616 12 (a)).map (vi .u64)).length = 12; rw [List.length_map, digs_len]) rfl rfl ?_
  refine AWo.pure (PureOp.fld tbok rfl rfl rfl (by decide)) rfl rfl ?_
  refine AWo.loadAll tbok rfl rfl rfl rfl (by show ((digs 18446744073709551616 12 (b)).map (vi .u64)).length = 12; rw [List.length_map, digs_len]) rfl rfl ?_
  refine AWo.callX (mulW_ctr (N := QG) rn_q ha hb) bd29 [(9000, 0), (9001, 0), (9002, 0), (9003, 0)] [] rfl (.cons rfl (.cons rfl (.cons rfl .nil))) rfl (.cons rfl rfl (.pure (by first | rfl | exact pure_aggM flat_vi | exact pure_aggM flat_bool) (.pure (by first | rfl | exact pure_aggM flat_vi | exact pure_aggM flat_bool) .nil))) (.whole rfl rfl (OkL.all rfl) (by intro h; first | exact h | rfl) (.whole rfl rfl (OkL.all rfl) (by intro h; first | exact h | rfl) (.flat rfl (flatM flat_vi) (by intro h; first | exact h | rfl) (.flat rfl (flatM flat_vi) (by intro h; first | exact h | rfl) .nil)))) rfl (.keep rfl (.keep rfl (.keep rfl (.keep rfl .nil)))) frN (by decide) (.pure (by first | rfl | exact pure_aggM flat_vi | exact pure_aggM flat_bool) .nil) rfl rfl rfl rfl ?_
  refine yP (bS61 (x := a * b % QG) rfl) ?_
  refine AWo.storeAllN tbok rfl rfl rfl rfl (by rw [List.length_map, digs_len]) (by first | rfl | (simp [digs_len]; done)) (oneM (fun _ => rfl) _) rfl ?_
  refine AWo.nil (by kernel_rfl) ?_
  refine AW.ret ?_
  refine RetQ.gc [_] [] [.cell 6 61] (.inl rfl) rfl (.val (RVal.cellAll tbok rfl rfl rfl rfl (by first | (simp [*]; done) | rfl)) .nil) rfl (.pure (by first | rfl | exact pure_aggM flat_vi | exact pure_aggM flat_bool) .nil) trivial (by decide) rfl
theorem gSM_ctr {a b : Nat} (ha : a < 18446744073709551616 ^ 12) (hb : b < 18446744073709551616 ^ 12) : GC Try.prog 60 [.agg ((digs 18446744073709551616 12 a).map (vi .u64)).toArray, .agg ((digs 18446744073709551616 12 b).map (vi .u64)).toArray] [] [.agg ((digs 18446744073709551616 12 (a * b % QG)).map (vi .u64)).toArray] [] := by
  refine GC.intro Try.func60 rfl (by show 2 ≤ 8; decide) (by first | exact Nat.le_refl _ | decide | simp) ?_
  refine AW.seqR ?_
  refine AWo.box 3000 1 _ rfl rfl rfl rfl rfl ?_
  refine AWo.box 4000 1 _ rfl rfl rfl rfl rfl ?_
  refine AWo.alloc tbok 5000 1 _ rfl rfl rfl rfl rfl rfl ?_
  refine AWo.nil trivial ?_
  refine AW.seqR ?_
  refine AWo.loadAll tbok rfl rfl rfl rfl (by show ((digs 18446744073709551616 12 (a)).map (vi .u64)).length = 12; rw [List.length_map, digs_len]) rfl rfl ?_
  refine AWo.loadAll tbok rfl rfl rfl rfl (by show ((digs 18446744073709551616 12 (b)).map (vi .u64)).length = 12; rw [List.length_map, digs_len]) rfl rfl ?_
  refine AWo.callX (wthM_ctr ha hb) bd105 [] [] rfl (.cons rfl (.cons rfl (.cons rfl .nil))) rfl (.pure (by first | rfl | exact pure_aggM flat_vi | exact pure_aggM flat_bool) (.cons rfl rfl (.pure (by first | rfl | exact pure_aggM flat_vi | exact pure_aggM flat_bool) .nil))) .nil rfl .nil frN (by decide) (.pure (by first | rfl | exact pure_aggM flat_vi | exact pure_aggM flat_bool) .nil) rfl rfl rfl rfl ?_
  refine AWo.storeAllN tbok rfl rfl rfl rfl (by rw [List.length_map, digs_len]) (by first | rfl | (simp [digs_len]; done)) (oneM (fun _ => rfl) _) rfl ?_
  refine AWo.nil trivial ?_
  refine AW.ret ?_
  refine RetQ.gc [_] [] [.cell 4 61] (.inl rfl) rfl (.val (RVal.cellAll tbok rfl rfl rfl rfl (by first | (simp [*]; done) | rfl)) .nil) rfl (.pure (by first | rfl | exact pure_aggM flat_vi | exact pure_aggM flat_bool) .nil) trivial (by decide) rfl
theorem gBy_ctr {a : Nat} (ha : a < 18446744073709551616 ^ 12) : GC Try.prog 58 [.agg ((digs 18446744073709551616 12 a).map (vi .u64)).toArray] [] [.agg ((digs 256 96 a).map (vi .u8)).toArray] [] := by
  refine GC.intro Try.func58 rfl (by show 1 ≤ 6; decide) (by first | exact Nat.le_refl _ | decide | simp) ?_
  refine AW.seqR ?_
  refine AWo.box 2000 1 _ rfl rfl rfl rfl rfl ?_
  refine AWo.alloc tbok 3000 1 ((List.replicate 96 0).map (vi .u8)) rfl rfl rfl rfl rfl rfl ?_
  refine AWo.nil trivial ?_
  refine AW.seqR ?_
  refine AWo.pure (PureOp.fld tbok rfl rfl rfl (by decide)) rfl rfl ?_
  refine AWo.loadAll tbok rfl rfl rfl rfl (by show ((digs 18446744073709551616 12 (a)).map (vi .u64)).length = 12; rw [List.length_map, digs_len]) rfl rfl ?_
  refine AWo.callX (writeW_ctr ha) bd35 [] [] rfl (.cons rfl .nil) rfl (.pure (by first | rfl | exact pure_aggM flat_vi | exact pure_aggM flat_bool) .nil) .nil rfl .nil frN (by decide) (.pure (by first | rfl | exact pure_aggM flat_vi | exact pure_aggM flat_bool) .nil) rfl rfl rfl rfl ?_
  refine AWo.storeAllN tbok rfl rfl rfl rfl (by rw [List.length_map, digs_len]) (by first | rfl | (simp [digs_len]; done)) (oneM (fun _ => rfl) _) rfl ?_
  refine AWo.nil trivial ?_
  refine AW.ret ?_
  refine RetQ.gc [_] [] [.cell 2 47] (.inl rfl) rfl (.val (RVal.cellAll tbok rfl rfl rfl rfl (by first | (simp [*]; done) | rfl)) .nil) rfl (.pure (by first | rfl | exact pure_aggM flat_vi | exact pure_aggM flat_bool) .nil) trivial (by decide) rfl
theorem sBy_ctr {a : Nat} (ha : a < 18446744073709551616 ^ 12) : GC Try.prog 103 [.agg ((digs 18446744073709551616 12 a).map (vi .u64)).toArray] [] [.agg ((digs 256 96 a).map (vi .u8)).toArray] [] := by
  refine GC.intro Try.func103 rfl (by show 1 ≤ 6; decide) (by first | exact Nat.le_refl _ | decide | simp) ?_
  refine AW.seqR ?_
  refine AWo.box 2000 1 _ rfl rfl rfl rfl rfl ?_
  refine AWo.alloc tbok 3000 1 ((List.replicate 96 0).map (vi .u8)) rfl rfl rfl rfl rfl rfl ?_
  refine AWo.nil trivial ?_
  refine AW.seqR ?_
  refine AWo.pure (PureOp.fld tbok rfl rfl rfl (by decide)) rfl rfl ?_
  refine AWo.loadAll tbok rfl rfl rfl rfl (by show ((digs 18446744073709551616 12 (a)).map (vi .u64)).length = 12; rw [List.length_map, digs_len]) rfl rfl ?_
  refine AWo.callX (writeW_ctr ha) bd35 [] [] rfl (.cons rfl .nil) rfl (.pure (by first | rfl | exact pure_aggM flat_vi | exact pure_aggM flat_bool) .nil) .nil rfl .nil frN (by decide) (.pure (by first | rfl | exact pure_aggM flat_vi | exact pure_aggM flat_bool) .nil) rfl rfl rfl rfl ?_
  refine AWo.storeAllN tbok rfl rfl rfl rfl (by rw [List.length_map, digs_len]) (by first | rfl | (simp [digs_len]; done)) (oneM (fun _ => rfl) _) rfl ?_
  refine AWo.nil trivial ?_
  refine AW.ret ?_
  refine RetQ.gc [_] [] [.cell 2 47] (.inl rfl) rfl (.val (RVal.cellAll tbok rfl rfl rfl rfl (by first | (simp [*]; done) | rfl)) .nil) rfl (.pure (by first | rfl | exact pure_aggM flat_vi | exact pure_aggM flat_bool) .nil) trivial (by decide) rfl
theorem rd96_ctr {N x : Nat} {b : List Nat} (hb : bd 256 b) (hl : b.length = 96) (hx : num 256 b = x) (hx2 : x < PG) (hN : N = PG) : GC Try.prog 33 [.pointer (some ⟨0, 0, none⟩), .slice (some ⟨4, 0, none⟩) 96 0] [⟨[.pointer (some ⟨1, 0, none⟩)], false, 1⟩, ⟨[.slice (some ⟨2, 0, none⟩) 12 0, vi .u64 (ninvR ((digs 18446744073709551616 12 N).getD 0 0)), .slice (some ⟨3, 0, none⟩) 12 0], false, 1⟩, ⟨((digs 18446744073709551616 12 N)).map (vi .u64), false, 1⟩, ⟨((digs 18446744073709551616 12 (RR2 N))).map (vi .u64), false, 1⟩, ⟨b.map (vi .u8), false, 1⟩] [.agg ((digs 18446744073709551616 12 x).map (vi .u64)).toArray, .int .i64 0] [⟨[.pointer (some ⟨1, 0, none⟩)], false, 1⟩, ⟨[.slice (some ⟨2, 0, none⟩) 12 0, vi .u64 (ninvR ((digs 18446744073709551616 12 N).getD 0 0)), .slice (some ⟨3, 0, none⟩) 12 0], false, 1⟩, ⟨((digs 18446744073709551616 12 N)).map (vi .u64), false, 1⟩, ⟨((digs 18446744073709551616 12 (RR2 N))).map (vi .u64), false, 1⟩, ⟨b.map (vi .u8), false, 1⟩] := by
  subst hx hN
  have h := readO_ctr rn_p hb hl hx2
  rw [hl] at h
  exact h
theorem gRdO_ctr {b : List Nat} {x : Nat} (hb : bd 256 b) (hl : b.length = 96) (hx : num 256 b = x) (hx2 : x < PG) (hm : x ^ QG % PG = 1) : GC Try.prog 41 [.slice (some ⟨0, 0, none⟩) 96 0] [⟨b.map (vi .u8), false, 1⟩] [.agg ((digs 18446744073709551616 12 x).map (vi .u64)).toArray, .int .i64 0] [⟨b.map (vi .u8), false, 1⟩] := by
  refine GC.intro Try.func41 rfl (by show 1 ≤ 31; decide) (by first | exact Nat.le_refl _ | decide | simp) ?_
  refine AW.seqR ?_
  refine AWo.alloc tbok 3000 1 _ rfl rfl rfl rfl rfl rfl ?_
  refine AWo.pure (PureOp.assign rfl) rfl rfl ?_
  refine AWo.nil trivial ?_
  refine AW.seqR ?_
  refine AWo.callX (groupW_ctr) bd38 [] [8000, 8001, 8002, 8003] rfl .nil rfl .nil .nil rfl (.new rfl (OkL.all rfl) (.new rfl (OkL.all rfl) (.new (flat_map_ren (flatM flat_vi)) (OkL.flat (flatM flat_vi)) (.new (flat_map_ren (flatM flat_vi)) (OkL.flat (flatM flat_vi)) .nil)))) (frC rfl (frC rfl (frC rfl (frC rfl frN)))) (by decide) (.cons rfl rfl .nil) rfl rfl rfl rfl ?_
  refine AWo.pure (PureOp.assign rfl) rfl rfl ?_
  refine AWo.nil trivial ?_
  refine AW.seqR ?_
  refine AWo.pure (PureOp.move rfl) rfl rfl ?_
  refine AWo.pure (PureOp.move rfl) rfl rfl ?_
  refine AWo.callX (rd96_ctr (N := PG) hb hl hx hx2 rfl) bd33 [(8000, 0), (8001, 0), (8002, 0), (8003, 0), (0, 0)] [] rfl (.cons rfl (.cons rfl .nil)) rfl (.cons rfl rfl (.cons rfl rfl .nil)) (.whole rfl rfl (OkL.all rfl) (by intro h; first | exact h | rfl) (.whole rfl rfl (OkL.all rfl) (by intro h; first | exact h | rfl) (.flat rfl (flatM flat_vi) (by intro h; first | exact h | rfl) (.flat rfl (flatM flat_vi) (by intro h; first | exact h | rfl) (.flat rfl (by first | exact flatM flat_vi | exact flatM flat_bool | (simp [flatV, flat_vi]; done)) (by intro h; first | exact h | rfl) .nil))))) rfl (.keep rfl (.keep rfl (.keep rfl (.keep rfl (.keep rfl .nil))))) frN (by decide) (.pure (by first | rfl | exact pure_aggM flat_vi | exact pure_aggM flat_bool) (.cons rfl rfl .nil)) rfl rfl rfl rfl ?_
  refine AWo.pure (PureOp.move rfl) rfl rfl ?_
  refine AWo.pure (PureOp.extract rfl rfl) rfl rfl ?_
  refine AWo.pure (PureOp.extract rfl rfl) rfl rfl ?_
  refine AWo.alloc tbok 6000 1 ((List.replicate 12 0).map (vi .u64)) rfl rfl rfl rfl rfl rfl ?_
  refine AWo.storeAllN tbok rfl rfl rfl rfl (by rw [List.length_map, digs_len]) (by first | rfl | (simp [digs_len]; done)) (oneM (fun _ => rfl) _) rfl ?_
  refine AWo.pure (PureOp.assign rfl) rfl rfl ?_
  refine AWo.nil trivial ?_
  refine AW.seq ?_
  refine AW.block ?_
  refine AW.seqR ?_
  refine AWo.pure (PureOp.move rfl) rfl rfl ?_
  first | refine AWo.pure ((PureOp.neN (b := 0) rfl rfl).mono (v' := .bool false) (congrArg Value.bool (by rfl))) rfl rfl ?_ | refine AWo.pure ((PureOp.bin rfl rfl rfl).mono (v' := .bool false) (congrArg Value.bool (by rfl))) rfl rfl ?_
  refine AWo.pure (PureOp.assign rfl) rfl rfl ?_
  refine AWo.nil trivial ?_
  refine AW.condF rfl ?_
  refine AW.seqD mixed ?_
  refine AWo.pure (PureOp.move rfl) rfl rfl ?_
  refine AWo.loadAll tbok rfl rfl rfl rfl (by show ((digs 18446744073709551616 12 (x)).map (vi .u64)).length = 12; rw [List.length_map, digs_len]) rfl rfl ?_
  refine AWo.callX (expoW_ctr) bd39 [] [23000, 23001, 23002, 23003] rfl .nil rfl .nil .nil rfl (.new rfl (OkL.all rfl) (.new rfl (OkL.all rfl) (.new (flat_map_ren (flatM flat_vi)) (OkL.flat (flatM flat_vi)) (.new (flat_map_ren (flatM flat_vi)) (OkL.flat (flatM flat_vi)) .nil)))) (frC rfl (frC rfl (frC rfl (frC rfl frN)))) (by decide) (.cons rfl rfl .nil) rfl rfl rfl rfl ?_
  refine AWo.callX (sizeW_ctr rn_q) bd31 [(23000, 0), (23001, 0), (23002, 0), (23003, 0)] [] rfl (.cons rfl .nil) rfl (.cons rfl rfl .nil) (.whole rfl rfl (OkL.all rfl) (by intro h; first | exact h | rfl) (.whole rfl rfl (OkL.all rfl) (by intro h; first | exact h | rfl) (.flat rfl (flatM flat_vi) (by intro h; first | exact h | rfl) (.flat rfl (flatM flat_vi) (by intro h; first | exact h | rfl) .nil)))) rfl (.keep rfl (.keep rfl (.keep rfl (.keep rfl .nil)))) frN (by decide) (.pure (by first | rfl | exact pure_aggM flat_vi | exact pure_aggM flat_bool) .nil) rfl rfl rfl rfl ?_
  refine AWo.callX (expW_ctr (N := PG) (a := x) (b := QG) rn_p (Nat.lt_trans hx2 rn_p.lt) rn_q.lt) bd19 [(8000, 0), (8001, 0), (8002, 0), (8003, 0)] [] rfl (.cons rfl (.cons rfl (.cons rfl .nil))) rfl (.cons rfl rfl (.pure (by first | rfl | exact pure_aggM flat_vi | exact pure_aggM flat_bool) (.pure (by first | rfl | exact pure_aggM flat_vi | exact pure_aggM flat_bool) .nil))) (.whole rfl rfl (OkL.all rfl) (by intro h; first | exact h | rfl) (.whole rfl rfl (OkL.all rfl) (by intro h; first | exact h | rfl) (.flat rfl (flatM flat_vi) (by intro h; first | exact h | rfl) (.flat rfl (flatM flat_vi) (by intro h; first | exact h | rfl) .nil)))) rfl (.keep rfl (.keep rfl (.keep rfl (.keep rfl .nil)))) frN (by decide) (.pure (by first | rfl | exact pure_aggM flat_vi | exact pure_aggM flat_bool) .nil) rfl rfl rfl rfl ?_
  refine AWo.callX (gOne_ctr) bd55 [] [] rfl .nil rfl .nil .nil rfl .nil frN (by decide) (.pure (by first | rfl | exact pure_aggM flat_vi | exact pure_aggM flat_bool) .nil) rfl rfl rfl rfl ?_
  refine AWo.pure (PureOp.fldV tbok rfl rfl rfl rfl (List.take_of_length_le (by rw [List.length_drop, List.length_map, digs_len]; decide))) rfl rfl ?_
  refine yP ((PureOp.neArr rfl rfl Try.eqGuardType24 Try.underlying24 Try.underlying22 (tbok.sz 22 _ rfl) (by kernel_rfl) (digs_len _ _) (digs_len _ _)).mono (v' := .bool false) (congrArg Value.bool (by rw [decide_eq_true (congrArg (digs 18446744073709551616 12) hm)]; rfl))) ?_
  refine AWo.pure (PureOp.assign rfl) rfl rfl ?_
  refine AWo.nil (by kernel_rfl) ?_
  refine AW.condF rfl ?_
  refine AW.skip ?_
  refine inBlockA_normal ?_
  refine thenA_normal ?_
  refine AW.seqR ?_
  refine AWo.loadAll tbok rfl rfl rfl rfl (by show ((digs 18446744073709551616 12 (x)).map (vi .u64)).length = 12; rw [List.length_map, digs_len]) rfl rfl ?_
  refine yP (bS56 (x := x) rfl) ?_
  refine AWo.storeAllN tbok rfl rfl rfl rfl (by rw [List.length_map, digs_len]) (by first | rfl | (simp [digs_len]; done)) (oneM (fun _ => rfl) _) rfl ?_
  refine AWo.pure (PureOp.assign rfl) rfl rfl ?_
  refine AWo.nil trivial ?_
  refine AW.ret ?_
  refine RetQ.gc [_, _] [] [.cell 2 56, .tmp 3] (.inl rfl) rfl (.val (RVal.cellAll tbok rfl rfl rfl rfl (by first | (simp [*]; done) | rfl)) (.tmp rfl .nil)) rfl (.pure (by first | rfl | exact pure_aggM flat_vi | exact pure_aggM flat_bool) (.cons rfl rfl .nil)) (OutL.flat rfl (by first | exact flatM flat_vi | exact flatM flat_bool | (simp [flatV, flat_vi]; done)) (by intro h; first | rfl | exact h.elim id fun h => absurd h.1 (by simp)) trivial) (by decide) rfl
theorem gRdN_ctr {b : List Nat} {x : Nat} (hb : bd 256 b) (hl : b.length = 96) (hx : num 256 b = x) (hx2 : x < PG) (hm : ¬ x ^ QG % PG = 1) : GC Try.prog 41 [.slice (some ⟨0, 0, none⟩) 96 0] [⟨b.map (vi .u8), false, 1⟩] [.agg ((digs 18446744073709551616 12 0).map (vi .u64)).toArray, .int .i64 4] [⟨b.map (vi .u8), false, 1⟩] := by
  refine GC.intro Try.func41 rfl (by show 1 ≤ 31; decide) (by first | exact Nat.le_refl _ | decide | simp) ?_
  refine AW.seqR ?_
  refine AWo.alloc tbok 3000 1 _ rfl rfl rfl rfl rfl rfl ?_
  refine AWo.pure (PureOp.assign rfl) rfl rfl ?_
  refine AWo.nil trivial ?_
  refine AW.seqR ?_
  refine AWo.callX (groupW_ctr) bd38 [] [8000, 8001, 8002, 8003] rfl .nil rfl .nil .nil rfl (.new rfl (OkL.all rfl) (.new rfl (OkL.all rfl) (.new (flat_map_ren (flatM flat_vi)) (OkL.flat (flatM flat_vi)) (.new (flat_map_ren (flatM flat_vi)) (OkL.flat (flatM flat_vi)) .nil)))) (frC rfl (frC rfl (frC rfl (frC rfl frN)))) (by decide) (.cons rfl rfl .nil) rfl rfl rfl rfl ?_
  refine AWo.pure (PureOp.assign rfl) rfl rfl ?_
  refine AWo.nil trivial ?_
  refine AW.seqR ?_
  refine AWo.pure (PureOp.move rfl) rfl rfl ?_
  refine AWo.pure (PureOp.move rfl) rfl rfl ?_
  refine AWo.callX (rd96_ctr (N := PG) hb hl hx hx2 rfl) bd33 [(8000, 0), (8001, 0), (8002, 0), (8003, 0), (0, 0)] [] rfl (.cons rfl (.cons rfl .nil)) rfl (.cons rfl rfl (.cons rfl rfl .nil)) (.whole rfl rfl (OkL.all rfl) (by intro h; first | exact h | rfl) (.whole rfl rfl (OkL.all rfl) (by intro h; first | exact h | rfl) (.flat rfl (flatM flat_vi) (by intro h; first | exact h | rfl) (.flat rfl (flatM flat_vi) (by intro h; first | exact h | rfl) (.flat rfl (by first | exact flatM flat_vi | exact flatM flat_bool | (simp [flatV, flat_vi]; done)) (by intro h; first | exact h | rfl) .nil))))) rfl (.keep rfl (.keep rfl (.keep rfl (.keep rfl (.keep rfl .nil))))) frN (by decide) (.pure (by first | rfl | exact pure_aggM flat_vi | exact pure_aggM flat_bool) (.cons rfl rfl .nil)) rfl rfl rfl rfl ?_
  refine AWo.pure (PureOp.move rfl) rfl rfl ?_
  refine AWo.pure (PureOp.extract rfl rfl) rfl rfl ?_
  refine AWo.pure (PureOp.extract rfl rfl) rfl rfl ?_
  refine AWo.alloc tbok 6000 1 ((List.replicate 12 0).map (vi .u64)) rfl rfl rfl rfl rfl rfl ?_
  refine AWo.storeAllN tbok rfl rfl rfl rfl (by rw [List.length_map, digs_len]) (by first | rfl | (simp [digs_len]; done)) (oneM (fun _ => rfl) _) rfl ?_
  refine AWo.pure (PureOp.assign rfl) rfl rfl ?_
  refine AWo.nil trivial ?_
  refine AW.seq ?_
  refine AW.block ?_
  refine AW.seqR ?_
  refine AWo.pure (PureOp.move rfl) rfl rfl ?_
  first | refine AWo.pure ((PureOp.neN (b := 0) rfl rfl).mono (v' := .bool false) (congrArg Value.bool (by rfl))) rfl rfl ?_ | refine AWo.pure ((PureOp.bin rfl rfl rfl).mono (v' := .bool false) (congrArg Value.bool (by rfl))) rfl rfl ?_
  refine AWo.pure (PureOp.assign rfl) rfl rfl ?_
  refine AWo.nil trivial ?_
  refine AW.condF rfl ?_
  refine AW.seqD mixed ?_
  refine AWo.pure (PureOp.move rfl) rfl rfl ?_
  refine AWo.loadAll tbok rfl rfl rfl rfl (by show ((digs 18446744073709551616 12 (x)).map (vi .u64)).length = 12; rw [List.length_map, digs_len]) rfl rfl ?_
  refine AWo.callX (expoW_ctr) bd39 [] [23000, 23001, 23002, 23003] rfl .nil rfl .nil .nil rfl (.new rfl (OkL.all rfl) (.new rfl (OkL.all rfl) (.new (flat_map_ren (flatM flat_vi)) (OkL.flat (flatM flat_vi)) (.new (flat_map_ren (flatM flat_vi)) (OkL.flat (flatM flat_vi)) .nil)))) (frC rfl (frC rfl (frC rfl (frC rfl frN)))) (by decide) (.cons rfl rfl .nil) rfl rfl rfl rfl ?_
  refine AWo.callX (sizeW_ctr rn_q) bd31 [(23000, 0), (23001, 0), (23002, 0), (23003, 0)] [] rfl (.cons rfl .nil) rfl (.cons rfl rfl .nil) (.whole rfl rfl (OkL.all rfl) (by intro h; first | exact h | rfl) (.whole rfl rfl (OkL.all rfl) (by intro h; first | exact h | rfl) (.flat rfl (flatM flat_vi) (by intro h; first | exact h | rfl) (.flat rfl (flatM flat_vi) (by intro h; first | exact h | rfl) .nil)))) rfl (.keep rfl (.keep rfl (.keep rfl (.keep rfl .nil)))) frN (by decide) (.pure (by first | rfl | exact pure_aggM flat_vi | exact pure_aggM flat_bool) .nil) rfl rfl rfl rfl ?_
  refine AWo.callX (expW_ctr (N := PG) (a := x) (b := QG) rn_p (Nat.lt_trans hx2 rn_p.lt) rn_q.lt) bd19 [(8000, 0), (8001, 0), (8002, 0), (8003, 0)] [] rfl (.cons rfl (.cons rfl (.cons rfl .nil))) rfl (.cons rfl rfl (.pure (by first | rfl | exact pure_aggM flat_vi | exact pure_aggM flat_bool) (.pure (by first | rfl | exact pure_aggM flat_vi | exact pure_aggM flat_bool) .nil))) (.whole rfl rfl (OkL.all rfl) (by intro h; first | exact h | rfl) (.whole rfl rfl (OkL.all rfl) (by intro h; first | exact h | rfl) (.flat rfl (flatM flat_vi) (by intro h; first | exact h | rfl) (.flat rfl (flatM flat_vi) (by intro h; first | exact h | rfl) .nil)))) rfl (.keep rfl (.keep rfl (.keep rfl (.keep rfl .nil)))) frN (by decide) (.pure (by first | rfl | exact pure_aggM flat_vi | exact pure_aggM flat_bool) .nil) rfl rfl rfl rfl ?_
  refine AWo.callX (gOne_ctr) bd55 [] [] rfl .nil rfl .nil .nil rfl .nil frN (by decide) (.pure (by first | rfl | exact pure_aggM flat_vi | exact pure_aggM flat_bool) .nil) rfl rfl rfl rfl ?_
  refine AWo.pure (PureOp.fldV tbok rfl rfl rfl rfl (List.take_of_length_le (by rw [List.length_drop, List.length_map, digs_len]; decide))) rfl rfl ?_
  refine yP ((PureOp.neArr rfl rfl Try.eqGuardType24 Try.underlying24 Try.underlying22 (tbok.sz 22 _ rfl) (by kernel_rfl) (digs_len _ _) (digs_len _ _)).mono (v' := .bool true) (congrArg Value.bool (by rw [decide_eq_false (fun h => hm (d12_inj (pow_lt _ _) (by decide +kernel) h))]; rfl))) ?_
  refine AWo.pure (PureOp.assign rfl) rfl rfl ?_
  refine AWo.nil (by kernel_rfl) ?_
  refine AW.condT rfl ?_
  refine AW.seqR ?_
  refine yP ((PureOp.buildStruct [] pl56.choose_spec.1 zr56 (by decide) pl56.choose_spec.2 rfl rfl).mono (v' := .agg ((digs 18446744073709551616 12 0).map (vi .u64)).toArray) (by kernel_rfl)) ?_
  refine AWo.storeAllN tbok rfl rfl rfl rfl (by rw [List.length_map, digs_len]) (by first | rfl | (simp [digs_len]; done)) (oneM (fun _ => rfl) _) rfl ?_
  refine AWo.pure (PureOp.assign rfl) rfl rfl ?_
  refine AWo.nil trivial ?_
  refine AW.ret ?_
  refine inBlockA_ret ?_
  refine thenA_ret ?_
  refine RetQ.gc [_, _] [] [.cell 2 56, .tmp 3] (.inl rfl) rfl (.val (RVal.cellAll tbok rfl rfl rfl rfl (by first | (simp [*]; done) | rfl)) (.tmp rfl .nil)) rfl (.pure (by first | rfl | exact pure_aggM flat_vi | exact pure_aggM flat_bool) (.cons rfl rfl .nil)) (OutL.flat rfl (by first | exact flatM flat_vi | exact flatM flat_bool | (simp [flatV, flat_vi]; done)) (by intro h; first | rfl | exact h.elim id fun h => absurd h.1 (by simp)) trivial) (by decide) rfl
theorem isS_ctr {x : Nat} (hx : x < 18446744073709551616 ^ 12) : GC Try.prog 45 [.agg ((digs 18446744073709551616 12 x).map (vi .u64)).toArray, dd x] [] [.bool true] [] := by
  refine GC.intro Try.func45 rfl (by show 2 ≤ 14; decide) (by first | exact Nat.le_refl _ | decide | simp) ?_
  refine AW.seqR ?_
  refine AWo.box 3000 1 _ rfl rfl rfl rfl rfl ?_
  refine AWo.pure (PureOp.assign rfl) rfl rfl ?_
  refine AWo.nil trivial ?_
  refine AW.seqR ?_
  refine AWo.loadAll tbok rfl rfl rfl rfl (by show ((digs 18446744073709551616 12 (x)).map (vi .u64)).length = 12; rw [List.length_map, digs_len]) rfl rfl ?_
  refine AWo.callX (sBy_ctr hx) bd103 [] [] rfl (.cons rfl .nil) rfl (.pure (by first | rfl | exact pure_aggM flat_vi | exact pure_aggM flat_bool) .nil) .nil rfl .nil frN (by decide) (.pure (by first | rfl | exact pure_aggM flat_vi | exact pure_aggM flat_bool) .nil) rfl rfl rfl rfl ?_
  refine AWo.alloc tbok 6000 1 ((List.replicate 96 0).map (vi .u8)) rfl rfl rfl rfl rfl rfl ?_
  refine AWo.storeAllN tbok rfl rfl rfl rfl (by rw [List.length_map, digs_len]) (by first | rfl | (simp [digs_len]; done)) (oneM (fun _ => rfl) _) rfl ?_
  refine AWo.nil trivial ?_
  refine AW.seqD mixed ?_
  refine AWo.sliceA tbok (h := 96) rfl .none .none rfl rfl rfl rfl (by decide) (by decide) (.inl rfl) (by simp [digs_len]) rfl rfl rfl ?_
  refine AWo.bytesStr tbok (digs 256 96 x) rfl rfl (List.take_of_length_le (by simp [digs_len])) (digs_len _ _) rfl Try.underlying5 Try.underlying9 rfl rfl ?_
  refine AWo.pure (PureOp.move rfl) rfl rfl ?_
  refine AWo.callX (bytes4_ctr hx) bd36 [] [12000] rfl (.cons rfl .nil) rfl (.cons rfl rfl .nil) .nil rfl (.new (flat_map_ren (by first | exact flatM flat_vi | exact flatM flat_bool | (simp [flatV, flat_vi]; done))) (OkL.flat (by first | exact flatM flat_vi | exact flatM flat_bool | (simp [flatV, flat_vi]; done))) .nil) (frC rfl frN) (by decide) (.cons rfl rfl .nil) rfl rfl rfl rfl ?_
  refine AWo.bytesStr tbok (digs 256 96 x) rfl rfl (List.take_of_length_le (by simp [digs_len])) (digs_len _ _) rfl Try.underlying5 Try.underlying9 rfl rfl ?_
  refine yP (PureOp.sameStr rfl rfl) ?_
  refine AWo.pure (PureOp.assign rfl) rfl rfl ?_
  refine AWo.nil (by kernel_rfl) ?_
  refine AW.ret ?_
  refine RetQ.gc [_] [] [.tmp 4] (.inl rfl) rfl (.tmp rfl .nil) rfl (.cons rfl rfl .nil) trivial (by decide) rfl
theorem red32_ctr {N : Nat} {b : List Nat} (hN : RN N) (hb : bd 256 b) (hl : b.length = 32) : GC Try.prog 32 [.pointer (some ⟨0, 0, none⟩), .slice (some ⟨4, 0, none⟩) 32 0] [⟨[.pointer (some ⟨1, 0, none⟩)], false, 1⟩, ⟨[.slice (some ⟨2, 0, none⟩) 12 0, vi .u64 (ninvR ((digs 18446744073709551616 12 N).getD 0 0)), .slice (some ⟨3, 0, none⟩) 12 0], false, 1⟩, ⟨((digs 18446744073709551616 12 N)).map (vi .u64), false, 1⟩, ⟨((digs 18446744073709551616 12 (RR2 N))).map (vi .u64), false, 1⟩, ⟨b.map (vi .u8), false, 1⟩] [.agg ((digs 18446744073709551616 12 (num 256 b % N)).map (vi .u64)).toArray] [⟨[.pointer (some ⟨1, 0, none⟩)], false, 1⟩, ⟨[.slice (some ⟨2, 0, none⟩) 12 0, vi .u64 (ninvR ((digs 18446744073709551616 12 N).getD 0 0)), .slice (some ⟨3, 0, none⟩) 12 0], false, 1⟩, ⟨((digs 18446744073709551616 12 N)).map (vi .u64), false, 1⟩, ⟨((digs 18446744073709551616 12 (RR2 N))).map (vi .u64), false, 1⟩, ⟨b.map (vi .u8), false, 1⟩] := by
  have h := redW_ctr hN hb (by omega)
  rw [hl] at h
  exact h
theorem gOf_ctr {x : Fp} : GC Try.prog 63 [.agg ((fe x).map (vi .u64)).toArray] [] [.agg ((digs 18446744073709551616 12 (x.val)).map (vi .u64)).toArray] [] := by
  refine GC.intro Try.func63 rfl (by show 1 ≤ 10; decide) (by first | exact Nat.le_refl _ | decide | simp) ?_
  refine AW.seqR ?_
  refine AWo.box 2000 1 _ rfl rfl rfl rfl rfl ?_
  refine AWo.alloc tbok 3000 1 _ rfl rfl rfl rfl rfl rfl ?_
  refine AWo.nil trivial ?_
  refine AW.seqR ?_
  first | refine yLE ?_ | refine yLEi ?_
  refine AWo.callX (bytesF_ctr (x := x)) bd107 [] [] rfl (.cons rfl .nil) rfl (.pure (by first | rfl | exact pure_aggM flat_vi | exact pure_aggM flat_bool) .nil) .nil rfl .nil frN (by decide) (.pure (by first | rfl | exact pure_aggM flat_vi | exact pure_aggM flat_bool) .nil) rfl rfl rfl rfl ?_
  refine AWo.alloc tbok 4000 1 ((List.replicate 32 0).map (vi .u8)) rfl rfl rfl rfl rfl rfl ?_
  refine AWo.storeAllN tbok rfl rfl rfl rfl (by rw [List.length_map, digs_len]) (by first | rfl | (simp [digs_len]; done)) (oneM (fun _ => rfl) _) rfl ?_
  refine AWo.nil trivial ?_
  refine AW.seqD mixed ?_
  refine AWo.callX (expoW_ctr) bd39 [] [7000, 7001, 7002, 7003] rfl .nil rfl .nil .nil rfl (.new rfl (OkL.all rfl) (.new rfl (OkL.all rfl) (.new (flat_map_ren (flatM flat_vi)) (OkL.flat (flatM flat_vi)) (.new (flat_map_ren (flatM flat_vi)) (OkL.flat (flatM flat_vi)) .nil)))) (frC rfl (frC rfl (frC rfl (frC rfl frN)))) (by decide) (.cons rfl rfl .nil) rfl rfl rfl rfl ?_
  refine AWo.sliceA tbok (h := 32) rfl .none .none rfl rfl rfl rfl (by decide) (by decide) (.inl rfl) (by simp [digs_len]) rfl rfl rfl ?_
  refine AWo.callX (v := .agg ((digs 18446744073709551616 12 x.val).map (vi .u64)).toArray) (red32_ctr (N := QG) (b := digs 256 32 x.val) rn_q (digs_bd (by decide) _ _) (digs_len _ _)) bd32 [(7000, 0), (7001, 0), (7002, 0), (7003, 0), (4000, 0)] [] rfl (.cons rfl (.cons rfl .nil)) rfl (.cons rfl rfl (.cons rfl rfl .nil)) (.whole rfl rfl (OkL.all rfl) (by intro h; first | exact h | rfl) (.whole rfl rfl (OkL.all rfl) (by intro h; first | exact h | rfl) (.flat rfl (flatM flat_vi) (by intro h; first | exact h | rfl) (.flat rfl (flatM flat_vi) (by intro h; first | exact h | rfl) (.flat rfl (by first | exact flatM flat_vi | exact flatM flat_bool | (simp [flatV, flat_vi]; done)) (by intro h; first | exact h | rfl) .nil))))) rfl (.keep rfl (.keep rfl (.keep rfl (.keep rfl (.keep rfl .nil))))) frN (by decide) (.pure (by first | rfl | exact pure_aggM flat_vi | exact pure_aggM flat_bool) .nil) (by rw [fld_q]; rfl) rfl rfl rfl ?_
  refine yP (bS61 (x := x.val) rfl) ?_
  refine AWo.storeAllN tbok rfl rfl rfl rfl (by rw [List.length_map, digs_len]) (by first | rfl | (simp [digs_len]; done)) (oneM (fun _ => rfl) _) rfl ?_
  refine AWo.nil (by kernel_rfl) ?_
  refine AW.ret ?_
  refine RetQ.gc [_] [] [.cell 2 61] (.inl rfl) rfl (.val (RVal.cellAll tbok rfl rfl rfl rfl (by first | (simp [*]; done) | rfl)) .nil) rfl (.pure (by first | rfl | exact pure_aggM flat_vi | exact pure_aggM flat_bool) .nil) trivial (by decide) rfl
set_option maxRecDepth 10000 in
theorem sp5_ctr  : GC Try.prog 40 [] [] [.bool true] [] := by
  refine GC.intro Try.func40 rfl (by show 0 ≤ 46; decide) (by first | exact Nat.le_refl _ | decide | simp) ?_
  refine AW.seqR ?_
  refine AWo.pure (PureOp.assign rfl) rfl rfl ?_
  refine AWo.nil trivial ?_
  refine AW.seqR ?_
  refine AWo.callX (p04_ctr) bd91 [] [] rfl .nil rfl .nil .nil rfl .nil frN (by decide) (.cons rfl rfl .nil) rfl rfl rfl rfl ?_
  refine AWo.buildSliceF tbok 9000 [(0, vi .u64 1)] (out := [vi .u64 1]) rfl rfl (by decide) rfl rfl rfl (by decide) rfl rfl rfl rfl (fun x hx => by simp at hx; subst hx; rfl) rfl rfl ?_
  rw [one_deep]
  refine AWo.callX (subd (x := PG) (y := 1) (by rw [pg_len]; decide) (by decide +kernel) (by decide +kernel)) bd27 [] [] rfl (.cons rfl (.cons rfl .nil)) rfl (.cons rfl rfl (.cons rfl rfl .nil)) .nil rfl .nil frN (by decide) (.cons rfl rfl .nil) rfl rfl rfl rfl ?_
  refine AWo.pure (PureOp.assign rfl) rfl rfl ?_
  refine AWo.nil trivial ?_
  refine AW.seqR ?_
  refine AWo.buildSliceF tbok 12000 [(0, vi .u64 2)] (out := [vi .u64 2]) rfl rfl (by decide) rfl rfl rfl (by decide) rfl rfl rfl rfl (fun x hx => by simp at hx; subst hx; rfl) rfl rfl ?_
  rw [two_deep]
  refine AWo.callX (bytes4_ctr (x := 2) (by decide +kernel)) bd36 [] [13000] rfl (.cons rfl .nil) rfl (.cons rfl rfl .nil) .nil rfl (.new (flat_map_ren (by first | exact flatM flat_vi | exact flatM flat_bool | (simp [flatV, flat_vi]; done))) (OkL.flat (by first | exact flatM flat_vi | exact flatM flat_bool | (simp [flatV, flat_vi]; done))) .nil) (frC rfl frN) (by decide) (.cons rfl rfl .nil) rfl rfl rfl rfl ?_
  refine AWo.callX (gRdO_ctr (b := digs 256 96 2) (x := 2) (digs_bd (by decide) _ _) (digs_len _ _) (by decide +kernel) (by decide +kernel) two_q) bd41 [(13000, 0)] [] rfl (.cons rfl .nil) rfl (.cons rfl rfl .nil) (.flat rfl (by first | exact flatM flat_vi | exact flatM flat_bool | (simp [flatV, flat_vi]; done)) (by intro h; first | exact h | rfl) .nil) rfl (.keep rfl .nil) frN (by decide) (.pure (by first | rfl | exact pure_aggM flat_vi | exact pure_aggM flat_bool) (.cons rfl rfl .nil)) rfl rfl rfl rfl ?_
  refine AWo.pure (PureOp.move rfl) rfl rfl ?_
  refine AWo.pure (PureOp.extract rfl rfl) rfl rfl ?_
  refine AWo.pure (PureOp.extract rfl rfl) rfl rfl ?_
  refine AWo.alloc tbok 3000 1 _ rfl rfl rfl rfl rfl rfl ?_
  refine AWo.storeAllN tbok rfl rfl rfl rfl (by rw [List.length_map, digs_len]) (by first | rfl | (simp [digs_len]; done)) (oneM (fun _ => rfl) _) rfl ?_
  refine AWo.pure (PureOp.assign rfl) rfl rfl ?_
  refine AWo.nil trivial ?_
  refine AW.seqR ?_
  refine AWo.pure (PureOp.move rfl) rfl rfl ?_
  refine AWo.callX (bytes4_ctr (x := PG - 1) (by decide +kernel)) bd36 [] [19000] rfl (.cons rfl .nil) rfl (.cons rfl rfl .nil) .nil rfl (.new (flat_map_ren (by first | exact flatM flat_vi | exact flatM flat_bool | (simp [flatV, flat_vi]; done))) (OkL.flat (by first | exact flatM flat_vi | exact flatM flat_bool | (simp [flatV, flat_vi]; done))) .nil) (frC rfl frN) (by decide) (.cons rfl rfl .nil) rfl rfl rfl rfl ?_
  refine AWo.callX (gRdN_ctr (b := digs 256 96 (PG - 1)) (x := PG - 1) (digs_bd (by decide) _ _) (digs_len _ _) (by decide +kernel) (by decide +kernel) last_q) bd41 [(19000, 0)] [] rfl (.cons rfl .nil) rfl (.cons rfl rfl .nil) (.flat rfl (by first | exact flatM flat_vi | exact flatM flat_bool | (simp [flatV, flat_vi]; done)) (by intro h; first | exact h | rfl) .nil) rfl (.keep rfl .nil) frN (by decide) (.pure (by first | rfl | exact pure_aggM flat_vi | exact pure_aggM flat_bool) (.cons rfl rfl .nil)) rfl rfl rfl rfl ?_
  refine AWo.pure (PureOp.move rfl) rfl rfl ?_
  refine AWo.pure (PureOp.extract rfl rfl) rfl rfl ?_
  refine AWo.pure (PureOp.extract rfl rfl) rfl rfl ?_
  refine AWo.alloc tbok 5000 1 _ rfl rfl rfl rfl rfl rfl ?_
  refine AWo.storeAllN tbok rfl rfl rfl rfl (by rw [List.length_map, digs_len]) (by first | rfl | (simp [digs_len]; done)) (oneM (fun _ => rfl) _) rfl ?_
  refine AWo.pure (PureOp.assign rfl) rfl rfl ?_
  refine AWo.nil trivial ?_
  refine AW.seq ?_
  refine AW.seqR ?_
  refine AWo.pure (PureOp.move rfl) rfl rfl ?_
  first | refine AWo.pure ((PureOp.neN (b := 0) rfl rfl).mono (v' := .bool false) (congrArg Value.bool (by rfl))) rfl rfl ?_ | refine AWo.pure ((PureOp.bin rfl rfl rfl).mono (v' := .bool false) (congrArg Value.bool (by rfl))) rfl rfl ?_
  refine AWo.pure (PureOp.move rfl) rfl rfl ?_
  refine AWo.pure (PureOp.move rfl) rfl rfl ?_
  first | refine AWo.pure ((PureOp.neN (b := 4) rfl rfl).mono (v' := .bool false) (congrArg Value.bool (by rfl))) rfl rfl ?_ | refine AWo.pure ((PureOp.bin rfl rfl rfl).mono (v' := .bool false) (congrArg Value.bool (by rfl))) rfl rfl ?_
  refine AWo.pure (PureOp.pickF rfl rfl) rfl rfl ?_
  refine AWo.nil trivial ?_
  refine AW.condF rfl ?_
  refine AW.skip ?_
  refine thenA_normal ?_
  refine AW.seqR ?_
  refine AWo.loadAll tbok rfl rfl rfl rfl (by show ((digs 18446744073709551616 12 (2)).map (vi .u64)).length = 12; rw [List.length_map, digs_len]) rfl rfl ?_
  refine AWo.callX (gBy_ctr (a := 2) (by decide +kernel)) bd58 [] [] rfl (.cons rfl .nil) rfl (.pure (by first | rfl | exact pure_aggM flat_vi | exact pure_aggM flat_bool) .nil) .nil rfl .nil frN (by decide) (.pure (by first | rfl | exact pure_aggM flat_vi | exact pure_aggM flat_bool) .nil) rfl rfl rfl rfl ?_
  refine AWo.alloc tbok 7000 1 ((List.replicate 96 0).map (vi .u8)) rfl rfl rfl rfl rfl rfl ?_
  refine AWo.storeAllN tbok rfl rfl rfl rfl (by rw [List.length_map, digs_len]) (by first | rfl | (simp [digs_len]; done)) (oneM (fun _ => rfl) _) rfl ?_
  refine AWo.nil trivial ?_
  refine AW.seqD mixed ?_
  refine yP (PureOp.arr1 tbok (j := 0) rfl rfl rfl rfl (by decide)) ?_
  first | refine AWo.loadM tbok 0 rfl rfl rfl (by first | decide | omega) rfl rfl ?_ | refine AWo.load tbok rfl rfl rfl rfl rfl rfl ?_
  first | refine AWo.pure ((PureOp.eqN (b := 2) rfl rfl).mono (v' := .bool true) rfl) rfl rfl ?_ | refine AWo.pure ((PureOp.bin rfl rfl rfl).mono (v' := .bool true) rfl) rfl rfl ?_
  refine AWo.pure (PureOp.move rfl) rfl rfl ?_
  refine AWo.loadAll tbok rfl rfl rfl rfl (by show ((digs 18446744073709551616 12 (2)).map (vi .u64)).length = 12; rw [List.length_map, digs_len]) rfl rfl ?_
  refine AWo.loadAll tbok rfl rfl rfl rfl (by show ((digs 18446744073709551616 12 (2)).map (vi .u64)).length = 12; rw [List.length_map, digs_len]) rfl rfl ?_
  refine AWo.callX (gMul_ctr (a := 2) (b := 2) (by decide +kernel) (by decide +kernel)) bd51 [] [] rfl (.cons rfl (.cons rfl .nil)) rfl (.pure (by first | rfl | exact pure_aggM flat_vi | exact pure_aggM flat_bool) (.pure (by first | rfl | exact pure_aggM flat_vi | exact pure_aggM flat_bool) .nil)) .nil rfl .nil frN (by decide) (.pure (by first | rfl | exact pure_aggM flat_vi | exact pure_aggM flat_bool) .nil) rfl rfl rfl rfl ?_
  refine AWo.callX (gGen_ctr) bd56 [] [] rfl .nil rfl .nil .nil rfl .nil frN (by decide) (.pure (by first | rfl | exact pure_aggM flat_vi | exact pure_aggM flat_bool) .nil) rfl rfl rfl rfl ?_
  refine AWo.callX (v := .bool true) (gEq_ctr (a := 2 * 2 % PG) (b := 4) (by decide +kernel) (by decide +kernel)) bd48 [] [] rfl (.cons rfl (.cons rfl .nil)) rfl (.pure (by first | rfl | exact pure_aggM flat_vi | exact pure_aggM flat_bool) (.pure (by first | rfl | exact pure_aggM flat_vi | exact pure_aggM flat_bool) .nil)) .nil rfl .nil frN (by decide) (.cons rfl rfl .nil) (congrArg Value.bool (by decide +kernel)) rfl rfl rfl ?_
  refine AWo.pure (PureOp.pickT rfl rfl) rfl rfl ?_
  refine AWo.pure (PureOp.move rfl) rfl rfl ?_
  refine AWo.loadAll tbok rfl rfl rfl rfl (by show ((digs 18446744073709551616 12 (2)).map (vi .u64)).length = 12; rw [List.length_map, digs_len]) rfl rfl ?_
  refine AWo.callX (gGen_ctr) bd56 [] [] rfl .nil rfl .nil .nil rfl .nil frN (by decide) (.pure (by first | rfl | exact pure_aggM flat_vi | exact pure_aggM flat_bool) .nil) rfl rfl rfl rfl ?_
  refine AWo.callX (v := .bool false) (gEq_ctr (a := 2) (b := 4) (by decide +kernel) (by decide +kernel)) bd48 [] [] rfl (.cons rfl (.cons rfl .nil)) rfl (.pure (by first | rfl | exact pure_aggM flat_vi | exact pure_aggM flat_bool) (.pure (by first | rfl | exact pure_aggM flat_vi | exact pure_aggM flat_bool) .nil)) .nil rfl .nil frN (by decide) (.cons rfl rfl .nil) (congrArg Value.bool (by decide +kernel)) rfl rfl rfl ?_
  refine AWo.pure (PureOp.not rfl) rfl rfl ?_
  refine AWo.pure (PureOp.pickT rfl rfl) rfl rfl ?_
  refine AWo.pure (PureOp.assign rfl) rfl rfl ?_
  refine AWo.nil (by kernel_rfl) ?_
  refine AW.ret ?_
  refine RetQ.gc [_] [] [.tmp 0] (.inl rfl) rfl (.tmp rfl .nil) rfl (.cons rfl rfl .nil) trivial (by decide) rfl
theorem gscal_ctr {a b : Nat} {c : List Nat} (ha : a < 18446744073709551616 ^ 12) (hb : b < 18446744073709551616 ^ 12) (hc : bd 256 c) : GC Try.prog 12 [.agg ((digs 18446744073709551616 12 a).map (vi .u64)).toArray, .agg ((digs 18446744073709551616 12 b).map (vi .u64)).toArray, .slice (some ⟨0, 0, none⟩) c.length 0] [⟨c.map (vi .u8), false, 1⟩] [.bool true] [⟨c.map (vi .u8), false, 1⟩] := by
  refine GC.intro Try.func12 rfl (by show 3 ≤ 73; decide) (by first | exact Nat.le_refl _ | decide | simp) ?_
  refine AW.seqR ?_
  refine AWo.box 4000 1 _ rfl rfl rfl rfl rfl ?_
  refine AWo.box 5000 1 _ rfl rfl rfl rfl rfl ?_
  refine AWo.pure (PureOp.assign rfl) rfl rfl ?_
  refine AWo.nil trivial ?_
  refine AW.seq ?_
  refine AW.seqR ?_
  refine AWo.callX (sp5_ctr) bd40 [] [] rfl .nil rfl .nil .nil rfl .nil frN (by decide) (.cons rfl rfl .nil) rfl rfl rfl rfl ?_
  first | refine AWo.pure ((PureOp.not rfl).mono (v' := .bool false) (congrArg Value.bool (by rfl))) rfl rfl ?_
  refine AWo.pure (PureOp.move rfl) rfl rfl ?_
  refine AWo.pure (PureOp.move rfl) rfl rfl ?_
  first | refine AWo.pure (PureOp.lenS tbok rfl rfl) rfl rfl ?_ | refine AWo.pure (PureOp.lenD tbok rfl rfl) rfl rfl ?_
  first | refine AWo.pure (PureOp.gtN (b := 40) rfl rfl) rfl rfl ?_ | refine AWo.pure (PureOp.bin rfl rfl rfl) rfl rfl ?_
  refine AWo.pure (PureOp.pickF rfl rfl) rfl rfl ?_
  refine AWo.nil trivial ?_
  refine AW.cond rfl (fun hb0 => ?_) (fun hb0 => ?_)
  ·
    refine AW.seqR ?_
    refine AWo.callX (sp5_ctr) bd40 [] [] rfl .nil rfl .nil .nil rfl .nil frN (by decide) (.cons rfl rfl .nil) rfl rfl rfl rfl ?_
    refine AWo.pure (PureOp.assign rfl) rfl rfl ?_
    refine AWo.nil trivial ?_
    refine AW.ret ?_
    refine thenA_ret ?_
    refine RetQ.gc [_] [] [.tmp 6] (.inl rfl) rfl (.tmp rfl .nil) rfl (.cons rfl rfl .nil) (OutL.flat rfl (by first | exact flatM flat_vi | exact flatM flat_bool | (simp [flatV, flat_vi]; done)) (by intro h; first | rfl | exact h.elim id fun h => absurd h.1 (by simp)) trivial) (by decide) rfl
  ·
    have hcl : c.length ≤ 40 := by simpa using hb0
    refine AW.skip ?_
    refine thenA_normal ?_
    refine AW.seqD mixed ?_
    refine AWo.loadAll tbok rfl rfl rfl rfl (by show ((digs 18446744073709551616 12 (a)).map (vi .u64)).length = 12; rw [List.length_map, digs_len]) rfl rfl ?_
    refine AWo.callX (digits4_ctr ha) bd22 [] [] rfl (.cons rfl .nil) rfl (.pure (by first | rfl | exact pure_aggM flat_vi | exact pure_aggM flat_bool) .nil) .nil rfl .nil frN (by decide) (.cons rfl rfl .nil) rfl rfl rfl rfl ?_
    refine AWo.callX (modQ_ctr (x := a) (num_rm ha)) bd50 [] [] rfl (.cons rfl .nil) rfl (.cons rfl rfl .nil) .nil rfl .nil frN (by decide) (.cons rfl rfl .nil) rfl rfl rfl rfl ?_
    refine AWo.loadAll tbok rfl rfl rfl rfl (by show ((digs 18446744073709551616 12 (b)).map (vi .u64)).length = 12; rw [List.length_map, digs_len]) rfl rfl ?_
    refine AWo.callX (digits4_ctr hb) bd22 [] [] rfl (.cons rfl .nil) rfl (.pure (by first | rfl | exact pure_aggM flat_vi | exact pure_aggM flat_bool) .nil) .nil rfl .nil frN (by decide) (.cons rfl rfl .nil) rfl rfl rfl rfl ?_
    refine AWo.callX (modQ_ctr (x := b) (num_rm hb)) bd50 [] [] rfl (.cons rfl .nil) rfl (.cons rfl rfl .nil) .nil rfl .nil frN (by decide) (.cons rfl rfl .nil) rfl rfl rfl rfl ?_
    refine AWo.pure (PureOp.assign rfl) rfl rfl ?_
    refine AWo.pure (PureOp.assign rfl) rfl rfl ?_
    refine AWo.nil (by kernel_rfl) ?_
    refine AW.seqD mixed ?_
    refine AWo.loadAll tbok rfl rfl rfl rfl (by show ((digs 18446744073709551616 12 (a)).map (vi .u64)).length = 12; rw [List.length_map, digs_len]) rfl rfl ?_
    refine AWo.callX (gNum_ctr ha) bd53 [] [] rfl (.cons rfl .nil) rfl (.pure (by first | rfl | exact pure_aggM flat_vi | exact pure_aggM flat_bool) .nil) .nil rfl .nil frN (by decide) (.pure (by first | rfl | exact pure_aggM flat_vi | exact pure_aggM flat_bool) .nil) rfl rfl rfl rfl ?_
    refine AWo.loadAll tbok rfl rfl rfl rfl (by show ((digs 18446744073709551616 12 (b)).map (vi .u64)).length = 12; rw [List.length_map, digs_len]) rfl rfl ?_
    refine AWo.callX (gNum_ctr hb) bd53 [] [] rfl (.cons rfl .nil) rfl (.pure (by first | rfl | exact pure_aggM flat_vi | exact pure_aggM flat_bool) .nil) .nil rfl .nil frN (by decide) (.pure (by first | rfl | exact pure_aggM flat_vi | exact pure_aggM flat_bool) .nil) rfl rfl rfl rfl ?_
    refine AWo.alloc tbok 10000 1 _ rfl rfl rfl rfl rfl rfl ?_
    refine AWo.alloc tbok 11000 1 _ rfl rfl rfl rfl rfl rfl ?_
    refine AWo.storeAllN tbok rfl rfl rfl rfl (by rw [List.length_map, digs_len]) (by first | rfl | (simp [digs_len]; done)) (oneM (fun _ => rfl) _) rfl ?_
    refine AWo.storeAllN tbok rfl rfl rfl rfl (by rw [List.length_map, digs_len]) (by first | rfl | (simp [digs_len]; done)) (oneM (fun _ => rfl) _) rfl ?_
    refine AWo.nil (by kernel_rfl) ?_
    refine AW.seq ?_
    refine AW.seqR ?_
    refine AWo.loadAll tbok rfl rfl rfl rfl (by show ((digs 18446744073709551616 12 (a % QG)).map (vi .u64)).length = 12; rw [List.length_map, digs_len]) rfl rfl ?_
    refine AWo.pure (PureOp.move rfl) rfl rfl ?_
    refine AWo.callX (isS_ctr (x := a % QG) (lt_q _)) bd45 [] [] rfl (.cons rfl (.cons rfl .nil)) rfl (.pure (by first | rfl | exact pure_aggM flat_vi | exact pure_aggM flat_bool) (.cons rfl rfl .nil)) .nil rfl .nil frN (by decide) (.cons rfl rfl .nil) rfl rfl rfl rfl ?_
    first | refine AWo.pure ((PureOp.not rfl).mono (v' := .bool false) (congrArg Value.bool (by rfl))) rfl rfl ?_
    refine AWo.pure (PureOp.move rfl) rfl rfl ?_
    refine AWo.loadAll tbok rfl rfl rfl rfl (by show ((digs 18446744073709551616 12 (a % QG)).map (vi .u64)).length = 12; rw [List.length_map, digs_len]) rfl rfl ?_
    refine AWo.loadAll tbok rfl rfl rfl rfl (by show ((digs 18446744073709551616 12 (b % QG)).map (vi .u64)).length = 12; rw [List.length_map, digs_len]) rfl rfl ?_
    refine AWo.callX (gSA_ctr (a := a % QG) (b := b % QG) (lt_q _) (lt_q _)) bd59 [] [] rfl (.cons rfl (.cons rfl .nil)) rfl (.pure (by first | rfl | exact pure_aggM flat_vi | exact pure_aggM flat_bool) (.pure (by first | rfl | exact pure_aggM flat_vi | exact pure_aggM flat_bool) .nil)) .nil rfl .nil frN (by decide) (.pure (by first | rfl | exact pure_aggM flat_vi | exact pure_aggM flat_bool) .nil) rfl rfl rfl rfl ?_
    refine AWo.pure (PureOp.move rfl) rfl rfl ?_
    refine AWo.pure (PureOp.move rfl) rfl rfl ?_
    refine AWo.callX (addd (x := a % QG) (y := b % QG) (rm_q _) (rm_q _)) bd25 [] [] rfl (.cons rfl (.cons rfl .nil)) rfl (.cons rfl rfl (.cons rfl rfl .nil)) .nil rfl .nil frN (by decide) (.cons rfl rfl .nil) rfl rfl rfl rfl ?_
    refine AWo.callX (modQ_ctr (x := a % QG + b % QG) (two_rm (lt_q _) (lt_q _))) bd50 [] [] rfl (.cons rfl .nil) rfl (.cons rfl rfl .nil) .nil rfl .nil frN (by decide) (.cons rfl rfl .nil) rfl rfl rfl rfl ?_
    rw [qq_add]
    refine AWo.callX (isS_ctr (x := (a % QG + b % QG) % QG) (lt_q _)) bd45 [] [] rfl (.cons rfl (.cons rfl .nil)) rfl (.pure (by first | rfl | exact pure_aggM flat_vi | exact pure_aggM flat_bool) (.cons rfl rfl .nil)) .nil rfl .nil frN (by decide) (.cons rfl rfl .nil) rfl rfl rfl rfl ?_
    first | refine AWo.pure ((PureOp.not rfl).mono (v' := .bool false) (congrArg Value.bool (by rfl))) rfl rfl ?_
    refine AWo.pure (PureOp.pickF rfl rfl) rfl rfl ?_
    refine AWo.pure (PureOp.move rfl) rfl rfl ?_
    refine AWo.loadAll tbok rfl rfl rfl rfl (by show ((digs 18446744073709551616 12 (a % QG)).map (vi .u64)).length = 12; rw [List.length_map, digs_len]) rfl rfl ?_
    refine AWo.loadAll tbok rfl rfl rfl rfl (by show ((digs 18446744073709551616 12 (b % QG)).map (vi .u64)).length = 12; rw [List.length_map, digs_len]) rfl rfl ?_
    refine AWo.callX (gSS_ctr (a := a % QG) (b := b % QG) (lt_q _) (lt_q _)) bd57 [] [] rfl (.cons rfl (.cons rfl .nil)) rfl (.pure (by first | rfl | exact pure_aggM flat_vi | exact pure_aggM flat_bool) (.pure (by first | rfl | exact pure_aggM flat_vi | exact pure_aggM flat_bool) .nil)) .nil rfl .nil frN (by decide) (.pure (by first | rfl | exact pure_aggM flat_vi | exact pure_aggM flat_bool) .nil) rfl rfl rfl rfl ?_
    refine AWo.pure (PureOp.move rfl) rfl rfl ?_
    refine AWo.callX (q04_ctr) bd61 [] [] rfl .nil rfl .nil .nil rfl .nil frN (by decide) (.cons rfl rfl .nil) rfl rfl rfl rfl ?_
    refine AWo.callX (addd (x := a % QG) (y := QG) (rm_q _) (by rw [qg_len]; decide)) bd25 [] [] rfl (.cons rfl (.cons rfl .nil)) rfl (.cons rfl rfl (.cons rfl rfl .nil)) .nil rfl .nil frN (by decide) (.cons rfl rfl .nil) rfl rfl rfl rfl ?_
    refine AWo.pure (PureOp.move rfl) rfl rfl ?_
    refine AWo.callX (subd (x := a % QG + QG) (y := b % QG) (Nat.lt_trans (two_rm (lt_q _) rn_q.lt) (by decide)) (rm_q _) (sub_ok rn_q)) bd27 [] [] rfl (.cons rfl (.cons rfl .nil)) rfl (.cons rfl rfl (.cons rfl rfl .nil)) .nil rfl .nil frN (by decide) (.cons rfl rfl .nil) rfl rfl rfl rfl ?_
    refine AWo.callX (modQ_ctr (x := a % QG + QG - b % QG) (dl_le (Nat.sub_le _ _) (two_rm (lt_q _) rn_q.lt))) bd50 [] [] rfl (.cons rfl .nil) rfl (.cons rfl rfl .nil) .nil rfl .nil frN (by decide) (.cons rfl rfl .nil) rfl rfl rfl rfl ?_
    rw [qq_sub]
    refine AWo.callX (isS_ctr (x := (a % QG + QG - b % QG) % QG) (lt_q _)) bd45 [] [] rfl (.cons rfl (.cons rfl .nil)) rfl (.pure (by first | rfl | exact pure_aggM flat_vi | exact pure_aggM flat_bool) (.cons rfl rfl .nil)) .nil rfl .nil frN (by decide) (.cons rfl rfl .nil) rfl rfl rfl rfl ?_
    first | refine AWo.pure ((PureOp.not rfl).mono (v' := .bool false) (congrArg Value.bool (by rfl))) rfl rfl ?_
    refine AWo.pure (PureOp.pickF rfl rfl) rfl rfl ?_
    refine AWo.nil trivial ?_
    refine AW.condF rfl ?_
    refine AW.skip ?_
    refine thenA_normal ?_
    refine AW.seqR ?_
    refine AWo.loadAll tbok rfl rfl rfl rfl (by show ((digs 18446744073709551616 12 (a % QG)).map (vi .u64)).length = 12; rw [List.length_map, digs_len]) rfl rfl ?_
    refine AWo.loadAll tbok rfl rfl rfl rfl (by show ((digs 18446744073709551616 12 (b % QG)).map (vi .u64)).length = 12; rw [List.length_map, digs_len]) rfl rfl ?_
    refine AWo.callX (gSM_ctr (a := a % QG) (b := b % QG) (lt_q _) (lt_q _)) bd60 [] [] rfl (.cons rfl (.cons rfl .nil)) rfl (.pure (by first | rfl | exact pure_aggM flat_vi | exact pure_aggM flat_bool) (.pure (by first | rfl | exact pure_aggM flat_vi | exact pure_aggM flat_bool) .nil)) .nil rfl .nil frN (by decide) (.pure (by first | rfl | exact pure_aggM flat_vi | exact pure_aggM flat_bool) .nil) rfl rfl rfl rfl ?_
    refine AWo.pure (PureOp.move rfl) rfl rfl ?_
    refine AWo.pure (PureOp.move rfl) rfl rfl ?_
    refine AWo.callX (times4_ctr (g := false) (a := a % QG) (b := b % QG) (num_rm3 (lt_q _)) (b24_w ▸ lt_q _)) bd62 [] [] rfl (.cons rfl (.cons rfl (.cons rfl .nil))) rfl (.cons rfl rfl (.cons rfl rfl (.cons rfl rfl .nil))) .nil rfl .nil frN (by decide) (.cons rfl rfl .nil) rfl rfl rfl rfl ?_
    refine AWo.callX (isS_ctr (x := a % QG * (b % QG) % QG) (lt_q _)) bd45 [] [] rfl (.cons rfl (.cons rfl .nil)) rfl (.pure (by first | rfl | exact pure_aggM flat_vi | exact pure_aggM flat_bool) (.cons rfl rfl .nil)) .nil rfl .nil frN (by decide) (.cons rfl rfl .nil) rfl rfl rfl rfl ?_
    refine AWo.pure (PureOp.move rfl) rfl rfl ?_
    refine AWo.pure (PureOp.move rfl) rfl rfl ?_
    refine AWo.callX (fromwideF_ctr (b := c) hc (by omega)) bd64 [(0, 0)] [] rfl (.cons rfl .nil) rfl (.cons rfl rfl .nil) (.flat rfl (by first | exact flatM flat_vi | exact flatM flat_bool | (simp [flatV, flat_vi]; done)) (by intro h; first | exact h | rfl) .nil) rfl (.keep rfl .nil) frN (by decide) (.pure (by first | rfl | exact pure_aggM flat_vi | exact pure_aggM flat_bool) .nil) rfl rfl rfl rfl ?_
    refine AWo.callX (gOf_ctr (x := fp (num 256 c))) bd63 [] [] rfl (.cons rfl .nil) rfl (.pure (by first | rfl | exact pure_aggM flat_vi | exact pure_aggM flat_bool) .nil) .nil rfl .nil frN (by decide) (.pure (by first | rfl | exact pure_aggM flat_vi | exact pure_aggM flat_bool) .nil) rfl rfl rfl rfl ?_
    refine AWo.pure (PureOp.move rfl) rfl rfl ?_
    refine AWo.callX (ofbN hc (by omega)) bd37 [(0, 0)] [] rfl (.cons rfl .nil) rfl (.cons rfl rfl .nil) (.flat rfl (by first | exact flatM flat_vi | exact flatM flat_bool | (simp [flatV, flat_vi]; done)) (by intro h; first | exact h | rfl) .nil) rfl (.keep rfl .nil) frN (by decide) (.cons rfl rfl .nil) rfl rfl rfl rfl ?_
    refine AWo.callX (modRd (v := num 256 c) (bytes_room hc (by omega))) bd65 [] [] rfl (.cons rfl .nil) rfl (.cons rfl rfl .nil) .nil rfl .nil frN (by decide) (.cons rfl rfl .nil) rfl rfl rfl rfl ?_
    refine AWo.callX (isS_ctr (x := (fp (num 256 c)).val) (Nat.lt_trans (fp (num 256 c)).isLt (by decide +kernel))) bd45 [] [] rfl (.cons rfl (.cons rfl .nil)) rfl (.pure (by first | rfl | exact pure_aggM flat_vi | exact pure_aggM flat_bool) (.cons rfl rfl .nil)) .nil rfl .nil frN (by decide) (.cons rfl rfl .nil) rfl rfl rfl rfl ?_
    refine AWo.pure (PureOp.pickT rfl rfl) rfl rfl ?_
    refine AWo.pure (PureOp.assign rfl) rfl rfl ?_
    refine AWo.nil trivial ?_
    refine AW.ret ?_
    refine RetQ.gc [_] [] [.tmp 6] (.inl rfl) rfl (.tmp rfl .nil) rfl (.cons rfl rfl .nil) (OutL.flat rfl (by first | exact flatM flat_vi | exact flatM flat_bool | (simp [flatV, flat_vi]; done)) (by intro h; first | rfl | exact h.elim id fun h => absurd h.1 (by simp)) trivial) (by decide) rfl
theorem glaws_ctr {a b : Nat} (ha : a < 18446744073709551616 ^ 12) (hb : b < 18446744073709551616 ^ 12) : GC Try.prog 11 [.agg ((digs 18446744073709551616 12 a).map (vi .u64)).toArray, .agg ((digs 18446744073709551616 12 b).map (vi .u64)).toArray] [] [.bool true] [] := by
  refine GC.intro Try.func11 rfl (by show 2 ≤ 98; decide) (by first | exact Nat.le_refl _ | decide | simp) ?_
  refine AW.seqR ?_
  refine AWo.box 3000 1 _ rfl rfl rfl rfl rfl ?_
  refine AWo.box 4000 1 _ rfl rfl rfl rfl rfl ?_
  refine AWo.pure (PureOp.assign rfl) rfl rfl ?_
  refine AWo.nil trivial ?_
  refine AW.seq ?_
  refine AW.seqR ?_
  refine AWo.callX (sp5_ctr) bd40 [] [] rfl .nil rfl .nil .nil rfl .nil frN (by decide) (.cons rfl rfl .nil) rfl rfl rfl rfl ?_
  first | refine AWo.pure ((PureOp.not rfl).mono (v' := .bool false) (congrArg Value.bool (by rfl))) rfl rfl ?_
  refine AWo.nil trivial ?_
  refine AW.condF rfl ?_
  refine AW.skip ?_
  refine thenA_normal ?_
  refine AW.seqD mixed ?_
  refine AWo.loadAll tbok rfl rfl rfl rfl (by show ((digs 18446744073709551616 12 (a)).map (vi .u64)).length = 12; rw [List.length_map, digs_len]) rfl rfl ?_
  refine AWo.callX (gNum_ctr ha) bd53 [] [] rfl (.cons rfl .nil) rfl (.pure (by first | rfl | exact pure_aggM flat_vi | exact pure_aggM flat_bool) .nil) .nil rfl .nil frN (by decide) (.pure (by first | rfl | exact pure_aggM flat_vi | exact pure_aggM flat_bool) .nil) rfl rfl rfl rfl ?_
  refine AWo.loadAll tbok rfl rfl rfl rfl (by show ((digs 18446744073709551616 12 (b)).map (vi .u64)).length = 12; rw [List.length_map, digs_len]) rfl rfl ?_
  refine AWo.callX (gNum_ctr hb) bd53 [] [] rfl (.cons rfl .nil) rfl (.pure (by first | rfl | exact pure_aggM flat_vi | exact pure_aggM flat_bool) .nil) .nil rfl .nil frN (by decide) (.pure (by first | rfl | exact pure_aggM flat_vi | exact pure_aggM flat_bool) .nil) rfl rfl rfl rfl ?_
  refine AWo.alloc tbok 6000 1 _ rfl rfl rfl rfl rfl rfl ?_
  refine AWo.alloc tbok 7000 1 _ rfl rfl rfl rfl rfl rfl ?_
  refine AWo.storeAllN tbok rfl rfl rfl rfl (by rw [List.length_map, digs_len]) (by first | rfl | (simp [digs_len]; done)) (oneM (fun _ => rfl) _) rfl ?_
  refine AWo.storeAllN tbok rfl rfl rfl rfl (by rw [List.length_map, digs_len]) (by first | rfl | (simp [digs_len]; done)) (oneM (fun _ => rfl) _) rfl ?_
  refine AWo.nil (by kernel_rfl) ?_
  refine AW.seqR ?_
  refine AWo.callX (gGen_ctr) bd56 [] [] rfl .nil rfl .nil .nil rfl .nil frN (by decide) (.pure (by first | rfl | exact pure_aggM flat_vi | exact pure_aggM flat_bool) .nil) rfl rfl rfl rfl ?_
  refine AWo.alloc tbok 8000 1 _ rfl rfl rfl rfl rfl rfl ?_
  refine AWo.storeAllN tbok rfl rfl rfl rfl (by rw [List.length_map, digs_len]) (by first | rfl | (simp [digs_len]; done)) (oneM (fun _ => rfl) _) rfl ?_
  refine AWo.nil trivial ?_
  refine AW.seqD mixed ?_
  refine AWo.loadAll tbok rfl rfl rfl rfl (by show ((digs 18446744073709551616 12 (4)).map (vi .u64)).length = 12; rw [List.length_map, digs_len]) rfl rfl ?_
  refine AWo.loadAll tbok rfl rfl rfl rfl (by show ((digs 18446744073709551616 12 ((a % QG))).map (vi .u64)).length = 12; rw [List.length_map, digs_len]) rfl rfl ?_
  refine AWo.callX (gExp_ctr (a := 4) (b := (a % QG)) (by first | exact pow_ltA _ | decide +kernel) (lt_qA _)) bd52 [] [] rfl (.cons rfl (.cons rfl .nil)) rfl (.pure (by first | rfl | exact pure_aggM flat_vi | exact pure_aggM flat_bool) (.pure (by first | rfl | exact pure_aggM flat_vi | exact pure_aggM flat_bool) .nil)) .nil rfl .nil frN (by decide) (.pure (by first | rfl | exact pure_aggM flat_vi | exact pure_aggM flat_bool) .nil) rfl rfl rfl rfl ?_
  refine AWo.loadAll tbok rfl rfl rfl rfl (by show ((digs 18446744073709551616 12 (4)).map (vi .u64)).length = 12; rw [List.length_map, digs_len]) rfl rfl ?_
  refine AWo.loadAll tbok rfl rfl rfl rfl (by show ((digs 18446744073709551616 12 ((b % QG))).map (vi .u64)).length = 12; rw [List.length_map, digs_len]) rfl rfl ?_
  refine AWo.callX (gExp_ctr (a := 4) (b := (b % QG)) (by first | exact pow_ltA _ | decide +kernel) (lt_qA _)) bd52 [] [] rfl (.cons rfl (.cons rfl .nil)) rfl (.pure (by first | rfl | exact pure_aggM flat_vi | exact pure_aggM flat_bool) (.pure (by first | rfl | exact pure_aggM flat_vi | exact pure_aggM flat_bool) .nil)) .nil rfl .nil frN (by decide) (.pure (by first | rfl | exact pure_aggM flat_vi | exact pure_aggM flat_bool) .nil) rfl rfl rfl rfl ?_
  refine AWo.alloc tbok 9000 1 _ rfl rfl rfl rfl rfl rfl ?_
  refine AWo.alloc tbok 10000 1 _ rfl rfl rfl rfl rfl rfl ?_
  refine AWo.storeAllN tbok rfl rfl rfl rfl (by rw [List.length_map, digs_len]) (by first | rfl | (simp [digs_len]; done)) (oneM (fun _ => rfl) _) rfl ?_
  refine AWo.storeAllN tbok rfl rfl rfl rfl (by rw [List.length_map, digs_len]) (by first | rfl | (simp [digs_len]; done)) (oneM (fun _ => rfl) _) rfl ?_
  refine AWo.nil (by kernel_rfl) ?_
  refine AW.seq ?_
  refine AW.seqD mixed ?_
  refine AWo.loadAll tbok rfl rfl rfl rfl (by show ((digs 18446744073709551616 12 ((4 ^ (a % QG) % PG))).map (vi .u64)).length = 12; rw [List.length_map, digs_len]) rfl rfl ?_
  refine AWo.loadAll tbok rfl rfl rfl rfl (by show ((digs 18446744073709551616 12 ((4 ^ (b % QG) % PG))).map (vi .u64)).length = 12; rw [List.length_map, digs_len]) rfl rfl ?_
  refine AWo.callX (gMul_ctr (a := (4 ^ (a % QG) % PG)) (b := (4 ^ (b % QG) % PG)) (by first | exact pow_ltA _ | decide +kernel) (by first | exact pow_ltA _ | decide +kernel)) bd51 [] [] rfl (.cons rfl (.cons rfl .nil)) rfl (.pure (by first | rfl | exact pure_aggM flat_vi | exact pure_aggM flat_bool) (.pure (by first | rfl | exact pure_aggM flat_vi | exact pure_aggM flat_bool) .nil)) .nil rfl .nil frN (by decide) (.pure (by first | rfl | exact pure_aggM flat_vi | exact pure_aggM flat_bool) .nil) rfl rfl rfl rfl ?_
  refine AWo.loadAll tbok rfl rfl rfl rfl (by show ((digs 18446744073709551616 12 (4)).map (vi .u64)).length = 12; rw [List.length_map, digs_len]) rfl rfl ?_
  refine AWo.loadAll tbok rfl rfl rfl rfl (by show ((digs 18446744073709551616 12 ((a % QG))).map (vi .u64)).length = 12; rw [List.length_map, digs_len]) rfl rfl ?_
  refine AWo.loadAll tbok rfl rfl rfl rfl (by show ((digs 18446744073709551616 12 ((b % QG))).map (vi .u64)).length = 12; rw [List.length_map, digs_len]) rfl rfl ?_
  refine AWo.callX (gSA_ctr (a := (a % QG)) (b := (b % QG)) (lt_qA _) (lt_qA _)) bd59 [] [] rfl (.cons rfl (.cons rfl .nil)) rfl (.pure (by first | rfl | exact pure_aggM flat_vi | exact pure_aggM flat_bool) (.pure (by first | rfl | exact pure_aggM flat_vi | exact pure_aggM flat_bool) .nil)) .nil rfl .nil frN (by decide) (.pure (by first | rfl | exact pure_aggM flat_vi | exact pure_aggM flat_bool) .nil) rfl rfl rfl rfl ?_
  refine AWo.callX (gExp_ctr (a := 4) (b := ((a % QG % QG + b % QG % QG) % QG)) (by first | exact pow_ltA _ | decide +kernel) (lt_qA _)) bd52 [] [] rfl (.cons rfl (.cons rfl .nil)) rfl (.pure (by first | rfl | exact pure_aggM flat_vi | exact pure_aggM flat_bool) (.pure (by first | rfl | exact pure_aggM flat_vi | exact pure_aggM flat_bool) .nil)) .nil rfl .nil frN (by decide) (.pure (by first | rfl | exact pure_aggM flat_vi | exact pure_aggM flat_bool) .nil) rfl rfl rfl rfl ?_
  refine AWo.callX (v := .bool true) (gEq_ctr (a := (4 ^ (a % QG) % PG) * (4 ^ (b % QG) % PG) % PG) (b := 4 ^ ((a % QG % QG + b % QG % QG) % QG) % PG) (pow_ltA _) (pow_ltA _)) bd48 [] [] rfl (.cons rfl (.cons rfl .nil)) rfl (.pure (by first | rfl | exact pure_aggM flat_vi | exact pure_aggM flat_bool) (.pure (by first | rfl | exact pure_aggM flat_vi | exact pure_aggM flat_bool) .nil)) .nil rfl .nil frN (by decide) (.cons rfl rfl .nil) (congrArg Value.bool (decide_eq_true (gl_add))) rfl rfl rfl ?_
  first | refine AWo.pure ((PureOp.not rfl).mono (v' := .bool false) (congrArg Value.bool (by rfl))) rfl rfl ?_
  refine AWo.pure (PureOp.move rfl) rfl rfl ?_
  refine AWo.loadAll tbok rfl rfl rfl rfl (by show ((digs 18446744073709551616 12 ((4 ^ (a % QG) % PG))).map (vi .u64)).length = 12; rw [List.length_map, digs_len]) rfl rfl ?_
  refine AWo.loadAll tbok rfl rfl rfl rfl (by show ((digs 18446744073709551616 12 ((b % QG))).map (vi .u64)).length = 12; rw [List.length_map, digs_len]) rfl rfl ?_
  refine AWo.callX (gExp_ctr (a := (4 ^ (a % QG) % PG)) (b := (b % QG)) (by first | exact pow_ltA _ | decide +kernel) (lt_qA _)) bd52 [] [] rfl (.cons rfl (.cons rfl .nil)) rfl (.pure (by first | rfl | exact pure_aggM flat_vi | exact pure_aggM flat_bool) (.pure (by first | rfl | exact pure_aggM flat_vi | exact pure_aggM flat_bool) .nil)) .nil rfl .nil frN (by decide) (.pure (by first | rfl | exact pure_aggM flat_vi | exact pure_aggM flat_bool) .nil) rfl rfl rfl rfl ?_
  refine AWo.loadAll tbok rfl rfl rfl rfl (by show ((digs 18446744073709551616 12 ((4 ^ (b % QG) % PG))).map (vi .u64)).length = 12; rw [List.length_map, digs_len]) rfl rfl ?_
  refine AWo.loadAll tbok rfl rfl rfl rfl (by show ((digs 18446744073709551616 12 ((a % QG))).map (vi .u64)).length = 12; rw [List.length_map, digs_len]) rfl rfl ?_
  refine AWo.callX (gExp_ctr (a := (4 ^ (b % QG) % PG)) (b := (a % QG)) (by first | exact pow_ltA _ | decide +kernel) (lt_qA _)) bd52 [] [] rfl (.cons rfl (.cons rfl .nil)) rfl (.pure (by first | rfl | exact pure_aggM flat_vi | exact pure_aggM flat_bool) (.pure (by first | rfl | exact pure_aggM flat_vi | exact pure_aggM flat_bool) .nil)) .nil rfl .nil frN (by decide) (.pure (by first | rfl | exact pure_aggM flat_vi | exact pure_aggM flat_bool) .nil) rfl rfl rfl rfl ?_
  refine AWo.callX (v := .bool true) (gEq_ctr (a := (4 ^ (a % QG) % PG) ^ (b % QG) % PG) (b := (4 ^ (b % QG) % PG) ^ (a % QG) % PG) (pow_ltA _) (pow_ltA _)) bd48 [] [] rfl (.cons rfl (.cons rfl .nil)) rfl (.pure (by first | rfl | exact pure_aggM flat_vi | exact pure_aggM flat_bool) (.pure (by first | rfl | exact pure_aggM flat_vi | exact pure_aggM flat_bool) .nil)) .nil rfl .nil frN (by decide) (.cons rfl rfl .nil) (congrArg Value.bool (decide_eq_true (gl_comm))) rfl rfl rfl ?_
  first | refine AWo.pure ((PureOp.not rfl).mono (v' := .bool false) (congrArg Value.bool (by rfl))) rfl rfl ?_
  refine AWo.pure (PureOp.pickF rfl rfl) rfl rfl ?_
  refine AWo.pure (PureOp.move rfl) rfl rfl ?_
  refine AWo.loadAll tbok rfl rfl rfl rfl (by show ((digs 18446744073709551616 12 ((4 ^ (a % QG) % PG))).map (vi .u64)).length = 12; rw [List.length_map, digs_len]) rfl rfl ?_
  refine AWo.loadAll tbok rfl rfl rfl rfl (by show ((digs 18446744073709551616 12 ((b % QG))).map (vi .u64)).length = 12; rw [List.length_map, digs_len]) rfl rfl ?_
  refine AWo.callX (gExp_ctr (a := (4 ^ (a % QG) % PG)) (b := (b % QG)) (by first | exact pow_ltA _ | decide +kernel) (lt_qA _)) bd52 [] [] rfl (.cons rfl (.cons rfl .nil)) rfl (.pure (by first | rfl | exact pure_aggM flat_vi | exact pure_aggM flat_bool) (.pure (by first | rfl | exact pure_aggM flat_vi | exact pure_aggM flat_bool) .nil)) .nil rfl .nil frN (by decide) (.pure (by first | rfl | exact pure_aggM flat_vi | exact pure_aggM flat_bool) .nil) rfl rfl rfl rfl ?_
  refine AWo.loadAll tbok rfl rfl rfl rfl (by show ((digs 18446744073709551616 12 (4)).map (vi .u64)).length = 12; rw [List.length_map, digs_len]) rfl rfl ?_
  refine AWo.loadAll tbok rfl rfl rfl rfl (by show ((digs 18446744073709551616 12 ((a % QG))).map (vi .u64)).length = 12; rw [List.length_map, digs_len]) rfl rfl ?_
  refine AWo.loadAll tbok rfl rfl rfl rfl (by show ((digs 18446744073709551616 12 ((b % QG))).map (vi .u64)).length = 12; rw [List.length_map, digs_len]) rfl rfl ?_
  refine AWo.callX (gSM_ctr (a := (a % QG)) (b := (b % QG)) (lt_qA _) (lt_qA _)) bd60 [] [] rfl (.cons rfl (.cons rfl .nil)) rfl (.pure (by first | rfl | exact pure_aggM flat_vi | exact pure_aggM flat_bool) (.pure (by first | rfl | exact pure_aggM flat_vi | exact pure_aggM flat_bool) .nil)) .nil rfl .nil frN (by decide) (.pure (by first | rfl | exact pure_aggM flat_vi | exact pure_aggM flat_bool) .nil) rfl rfl rfl rfl ?_
  refine AWo.callX (gExp_ctr (a := 4) (b := (a % QG * (b % QG) % QG)) (by first | exact pow_ltA _ | decide +kernel) (lt_qA _)) bd52 [] [] rfl (.cons rfl (.cons rfl .nil)) rfl (.pure (by first | rfl | exact pure_aggM flat_vi | exact pure_aggM flat_bool) (.pure (by first | rfl | exact pure_aggM flat_vi | exact pure_aggM flat_bool) .nil)) .nil rfl .nil frN (by decide) (.pure (by first | rfl | exact pure_aggM flat_vi | exact pure_aggM flat_bool) .nil) rfl rfl rfl rfl ?_
  refine AWo.callX (v := .bool true) (gEq_ctr (a := (4 ^ (a % QG) % PG) ^ (b % QG) % PG) (b := 4 ^ (a % QG * (b % QG) % QG) % PG) (pow_ltA _) (pow_ltA _)) bd48 [] [] rfl (.cons rfl (.cons rfl .nil)) rfl (.pure (by first | rfl | exact pure_aggM flat_vi | exact pure_aggM flat_bool) (.pure (by first | rfl | exact pure_aggM flat_vi | exact pure_aggM flat_bool) .nil)) .nil rfl .nil frN (by decide) (.cons rfl rfl .nil) (congrArg Value.bool (decide_eq_true (gl_mul))) rfl rfl rfl ?_
  first | refine AWo.pure ((PureOp.not rfl).mono (v' := .bool false) (congrArg Value.bool (by rfl))) rfl rfl ?_
  refine AWo.pure (PureOp.pickF rfl rfl) rfl rfl ?_
  refine AWo.pure (PureOp.move rfl) rfl rfl ?_
  refine AWo.loadAll tbok rfl rfl rfl rfl (by show ((digs 18446744073709551616 12 ((4 ^ (a % QG) % PG))).map (vi .u64)).length = 12; rw [List.length_map, digs_len]) rfl rfl ?_
  refine AWo.callX (gOne_ctr) bd55 [] [] rfl .nil rfl .nil .nil rfl .nil frN (by decide) (.pure (by first | rfl | exact pure_aggM flat_vi | exact pure_aggM flat_bool) .nil) rfl rfl rfl rfl ?_
  refine AWo.callX (gMul_ctr (a := (4 ^ (a % QG) % PG)) (b := 1) (by first | exact pow_ltA _ | decide +kernel) (by first | exact pow_ltA _ | decide +kernel)) bd51 [] [] rfl (.cons rfl (.cons rfl .nil)) rfl (.pure (by first | rfl | exact pure_aggM flat_vi | exact pure_aggM flat_bool) (.pure (by first | rfl | exact pure_aggM flat_vi | exact pure_aggM flat_bool) .nil)) .nil rfl .nil frN (by decide) (.pure (by first | rfl | exact pure_aggM flat_vi | exact pure_aggM flat_bool) .nil) rfl rfl rfl rfl ?_
  refine AWo.loadAll tbok rfl rfl rfl rfl (by show ((digs 18446744073709551616 12 ((4 ^ (a % QG) % PG))).map (vi .u64)).length = 12; rw [List.length_map, digs_len]) rfl rfl ?_
  refine AWo.callX (v := .bool true) (gEq_ctr (a := (4 ^ (a % QG) % PG) * 1 % PG) (b := (4 ^ (a % QG) % PG)) (pow_ltA _) (pow_ltA _)) bd48 [] [] rfl (.cons rfl (.cons rfl .nil)) rfl (.pure (by first | rfl | exact pure_aggM flat_vi | exact pure_aggM flat_bool) (.pure (by first | rfl | exact pure_aggM flat_vi | exact pure_aggM flat_bool) .nil)) .nil rfl .nil frN (by decide) (.cons rfl rfl .nil) (congrArg Value.bool (decide_eq_true (gl_one))) rfl rfl rfl ?_
  first | refine AWo.pure ((PureOp.not rfl).mono (v' := .bool false) (congrArg Value.bool (by rfl))) rfl rfl ?_
  refine AWo.pure (PureOp.pickF rfl rfl) rfl rfl ?_
  refine AWo.nil (by kernel_rfl) ?_
  refine AW.condF rfl ?_
  refine AW.skip ?_
  refine thenA_normal ?_
  refine AW.seq ?_
  refine AW.seqD mixed ?_
  refine AWo.loadAll tbok rfl rfl rfl rfl (by show ((digs 18446744073709551616 12 (4)).map (vi .u64)).length = 12; rw [List.length_map, digs_len]) rfl rfl ?_
  refine AWo.loadAll tbok rfl rfl rfl rfl (by show ((digs 18446744073709551616 12 ((a % QG))).map (vi .u64)).length = 12; rw [List.length_map, digs_len]) rfl rfl ?_
  refine AWo.loadAll tbok rfl rfl rfl rfl (by show ((digs 18446744073709551616 12 ((b % QG))).map (vi .u64)).length = 12; rw [List.length_map, digs_len]) rfl rfl ?_
  refine AWo.callX (gSS_ctr (a := (a % QG)) (b := (b % QG)) (lt_qA _) (lt_qA _)) bd57 [] [] rfl (.cons rfl (.cons rfl .nil)) rfl (.pure (by first | rfl | exact pure_aggM flat_vi | exact pure_aggM flat_bool) (.pure (by first | rfl | exact pure_aggM flat_vi | exact pure_aggM flat_bool) .nil)) .nil rfl .nil frN (by decide) (.pure (by first | rfl | exact pure_aggM flat_vi | exact pure_aggM flat_bool) .nil) rfl rfl rfl rfl ?_
  refine AWo.callX (gExp_ctr (a := 4) (b := ((a % QG % QG + (QG - b % QG % QG)) % QG)) (by first | exact pow_ltA _ | decide +kernel) (lt_qA _)) bd52 [] [] rfl (.cons rfl (.cons rfl .nil)) rfl (.pure (by first | rfl | exact pure_aggM flat_vi | exact pure_aggM flat_bool) (.pure (by first | rfl | exact pure_aggM flat_vi | exact pure_aggM flat_bool) .nil)) .nil rfl .nil frN (by decide) (.pure (by first | rfl | exact pure_aggM flat_vi | exact pure_aggM flat_bool) .nil) rfl rfl rfl rfl ?_
  refine AWo.loadAll tbok rfl rfl rfl rfl (by show ((digs 18446744073709551616 12 ((4 ^ (b % QG) % PG))).map (vi .u64)).length = 12; rw [List.length_map, digs_len]) rfl rfl ?_
  refine AWo.callX (gMul_ctr (a := 4 ^ ((a % QG % QG + (QG - b % QG % QG)) % QG) % PG) (b := (4 ^ (b % QG) % PG)) (by first | exact pow_ltA _ | decide +kernel) (by first | exact pow_ltA _ | decide +kernel)) bd51 [] [] rfl (.cons rfl (.cons rfl .nil)) rfl (.pure (by first | rfl | exact pure_aggM flat_vi | exact pure_aggM flat_bool) (.pure (by first | rfl | exact pure_aggM flat_vi | exact pure_aggM flat_bool) .nil)) .nil rfl .nil frN (by decide) (.pure (by first | rfl | exact pure_aggM flat_vi | exact pure_aggM flat_bool) .nil) rfl rfl rfl rfl ?_
  refine AWo.loadAll tbok rfl rfl rfl rfl (by show ((digs 18446744073709551616 12 ((4 ^ (a % QG) % PG))).map (vi .u64)).length = 12; rw [List.length_map, digs_len]) rfl rfl ?_
  refine AWo.callX (v := .bool true) (gEq_ctr (a := 4 ^ ((a % QG % QG + (QG - b % QG % QG)) % QG) % PG * (4 ^ (b % QG) % PG) % PG) (b := (4 ^ (a % QG) % PG)) (pow_ltA _) (pow_ltA _)) bd48 [] [] rfl (.cons rfl (.cons rfl .nil)) rfl (.pure (by first | rfl | exact pure_aggM flat_vi | exact pure_aggM flat_bool) (.pure (by first | rfl | exact pure_aggM flat_vi | exact pure_aggM flat_bool) .nil)) .nil rfl .nil frN (by decide) (.cons rfl rfl .nil) (congrArg Value.bool (decide_eq_true (gl_sub))) rfl rfl rfl ?_
  first | refine AWo.pure ((PureOp.not rfl).mono (v' := .bool false) (congrArg Value.bool (by rfl))) rfl rfl ?_
  refine AWo.pure (PureOp.move rfl) rfl rfl ?_
  refine AWo.loadAll tbok rfl rfl rfl rfl (by show ((digs 18446744073709551616 12 ((4 ^ (a % QG) % PG))).map (vi .u64)).length = 12; rw [List.length_map, digs_len]) rfl rfl ?_
  refine yP ((PureOp.buildStruct [] pl61.choose_spec.1 zr61 (by decide) pl61.choose_spec.2 rfl rfl).mono (v' := .agg ((digs 18446744073709551616 12 0).map (vi .u64)).toArray) (by kernel_rfl)) ?_
  refine AWo.callX (gExp_ctr (a := (4 ^ (a % QG) % PG)) (b := 0) (pow_ltA _) (by decide +kernel)) bd52 [] [] rfl (.cons rfl (.cons rfl .nil)) rfl (.pure (by first | rfl | exact pure_aggM flat_vi | exact pure_aggM flat_bool) (.pure (by first | rfl | exact pure_aggM flat_vi | exact pure_aggM flat_bool) .nil)) .nil rfl .nil frN (by decide) (.pure (by first | rfl | exact pure_aggM flat_vi | exact pure_aggM flat_bool) .nil) rfl rfl rfl rfl ?_
  refine AWo.callX (gOne_ctr) bd55 [] [] rfl .nil rfl .nil .nil rfl .nil frN (by decide) (.pure (by first | rfl | exact pure_aggM flat_vi | exact pure_aggM flat_bool) .nil) rfl rfl rfl rfl ?_
  refine AWo.callX (v := .bool true) (gEq_ctr (a := (4 ^ (a % QG) % PG) ^ 0 % PG) (b := 1) (pow_ltA _) (by decide +kernel)) bd48 [] [] rfl (.cons rfl (.cons rfl .nil)) rfl (.pure (by first | rfl | exact pure_aggM flat_vi | exact pure_aggM flat_bool) (.pure (by first | rfl | exact pure_aggM flat_vi | exact pure_aggM flat_bool) .nil)) .nil rfl .nil frN (by decide) (.cons rfl rfl .nil) (congrArg Value.bool (decide_eq_true gl_zero)) rfl rfl rfl ?_
  first | refine AWo.pure ((PureOp.not rfl).mono (v' := .bool false) (congrArg Value.bool (by rfl))) rfl rfl ?_
  refine AWo.pure (PureOp.pickF rfl rfl) rfl rfl ?_
  refine AWo.nil (by kernel_rfl) ?_
  refine AW.condF rfl ?_
  refine AW.skip ?_
  refine thenA_normal ?_
  refine AW.seqR ?_
  refine AWo.loadAll tbok rfl rfl rfl rfl (by show ((digs 18446744073709551616 12 ((4 ^ (a % QG) % PG))).map (vi .u64)).length = 12; rw [List.length_map, digs_len]) rfl rfl ?_
  refine AWo.callX (gBy_ctr (a := (4 ^ (a % QG) % PG)) (pow_ltA _)) bd58 [] [] rfl (.cons rfl .nil) rfl (.pure (by first | rfl | exact pure_aggM flat_vi | exact pure_aggM flat_bool) .nil) .nil rfl .nil frN (by decide) (.pure (by first | rfl | exact pure_aggM flat_vi | exact pure_aggM flat_bool) .nil) rfl rfl rfl rfl ?_
  refine AWo.alloc tbok 11000 1 ((List.replicate 96 0).map (vi .u8)) rfl rfl rfl rfl rfl rfl ?_
  refine AWo.storeAllN tbok rfl rfl rfl rfl (by rw [List.length_map, digs_len]) (by first | rfl | (simp [digs_len]; done)) (oneM (fun _ => rfl) _) rfl ?_
  refine AWo.nil trivial ?_
  refine AW.seqR ?_
  refine AWo.sliceA tbok (h := 96) rfl .none .none rfl rfl rfl rfl (by decide) (by decide) (.inl rfl) (by simp [digs_len]) rfl rfl rfl ?_
  refine AWo.callX (gRdO_ctr (b := digs 256 96 (4 ^ (a % QG) % PG)) (x := (4 ^ (a % QG) % PG)) (digs_bd (by decide) _ _) (digs_len _ _) (num_digs_lt (by rw [w96]; exact pow_ltA _)) (Nat.mod_lt _ (by decide +kernel)) gl_mem) bd41 [(11000, 0)] [] rfl (.cons rfl .nil) rfl (.cons rfl rfl .nil) (.flat rfl (by first | exact flatM flat_vi | exact flatM flat_bool | (simp [flatV, flat_vi]; done)) (by intro h; first | exact h | rfl) .nil) rfl (.keep rfl .nil) frN (by decide) (.pure (by first | rfl | exact pure_aggM flat_vi | exact pure_aggM flat_bool) (.cons rfl rfl .nil)) rfl rfl rfl rfl ?_
  refine AWo.pure (PureOp.move rfl) rfl rfl ?_
  refine AWo.pure (PureOp.extract rfl rfl) rfl rfl ?_
  refine AWo.pure (PureOp.extract rfl rfl) rfl rfl ?_
  refine AWo.alloc tbok 12000 1 _ rfl rfl rfl rfl rfl rfl ?_
  refine AWo.storeAllN tbok rfl rfl rfl rfl (by rw [List.length_map, digs_len]) (by first | rfl | (simp [digs_len]; done)) (oneM (fun _ => rfl) _) rfl ?_
  refine AWo.pure (PureOp.assign rfl) rfl rfl ?_
  refine AWo.nil trivial ?_
  refine AW.seqR ?_
  refine AWo.pure (PureOp.move rfl) rfl rfl ?_
  first | refine AWo.pure ((PureOp.eqN (b := 0) rfl rfl).mono (v' := .bool true) rfl) rfl rfl ?_ | refine AWo.pure ((PureOp.bin rfl rfl rfl).mono (v' := .bool true) rfl) rfl rfl ?_
  refine AWo.pure (PureOp.move rfl) rfl rfl ?_
  refine AWo.loadAll tbok rfl rfl rfl rfl (by show ((digs 18446744073709551616 12 ((4 ^ (a % QG) % PG))).map (vi .u64)).length = 12; rw [List.length_map, digs_len]) rfl rfl ?_
  refine AWo.loadAll tbok rfl rfl rfl rfl (by show ((digs 18446744073709551616 12 ((4 ^ (a % QG) % PG))).map (vi .u64)).length = 12; rw [List.length_map, digs_len]) rfl rfl ?_
  refine AWo.callX (v := .bool true) (gEq_ctr (a := (4 ^ (a % QG) % PG)) (b := (4 ^ (a % QG) % PG)) (pow_ltA _) (pow_ltA _)) bd48 [] [] rfl (.cons rfl (.cons rfl .nil)) rfl (.pure (by first | rfl | exact pure_aggM flat_vi | exact pure_aggM flat_bool) (.pure (by first | rfl | exact pure_aggM flat_vi | exact pure_aggM flat_bool) .nil)) .nil rfl .nil frN (by decide) (.cons rfl rfl .nil) (congrArg Value.bool (decide_eq_true (rfl))) rfl rfl rfl ?_
  refine AWo.pure (PureOp.pickT rfl rfl) rfl rfl ?_
  refine AWo.pure (PureOp.assign rfl) rfl rfl ?_
  refine AWo.nil trivial ?_
  refine AW.ret ?_
  refine RetQ.gc [_] [] [.tmp 4] (.inl rfl) rfl (.tmp rfl .nil) rfl (.cons rfl rfl .nil) trivial (by decide) rfl
end Go.Proofs.Ytpahdiljpnfkdaa
namespace Go.Proofs.Ytpahdiljpnfkdaa
open Go
namespace Head
set_option maxRecDepth 100000 in
theorem words : ∃ l, Try.prog.initOrder = String.ofList l ∧ (behindMainWord (wordsSigns l)).head? = some "cut".toList := ⟨_, rfl, by kernel_rfl⟩
theorem head_of {P : Program} (h : ∃ l, P.initOrder = String.ofList l ∧ (behindMainWord (wordsSigns l)).head? = some "cut".toList) :
    ∃ rest, behindMainWord (wordsSigns P.initOrder.toList) = "cut".toList :: rest := by
  obtain ⟨l, h, hh⟩ := h
  rw [h, String.toList_ofList]
  cases hb : behindMainWord (wordsSigns l) with
  | nil => rw [hb] at hh; cases hh
  | cons c r => rw [hb] at hh; simp only [List.head?_cons, Option.some.injEq] at hh; exact ⟨r, by rw [hh]⟩
theorem cut_words : (liftWords.all fun s => !("cut".toList == s.toList)) = true := by decide +kernel
theorem strip_cut (rest : List (List Char)) : stripLifts liftWords ("cut".toList :: rest) = ([], "cut".toList :: rest) := by
  have key : ∀ o : List String, (o.all fun s => !("cut".toList == s.toList)) = true → stripLifts o ("cut".toList :: rest) = ([], "cut".toList :: rest) := by
    intro o
    induction o with
    | nil => intro _; rfl
    | cons s o ih =>
      intro h
      simp only [List.all_cons, Bool.and_eq_true, Bool.not_eq_true'] at h
      rw [stripLifts, if_neg (by rw [h.1]; exact Bool.false_ne_true)]
      exact ih h.2
  exact key liftWords cut_words
theorem mayEnter_of {P : Program} {rest : List (List Char)} (hr : behindMainWord (wordsSigns P.initOrder.toList) = "cut".toList :: rest) (e1 : P.laysLater = false) (e2 : P.bearsReflect = false) (e3 : P.doorFits [] = true) : P.mayEnter = true := by
  unfold Program.mayEnter
  rw [hr]
  simp only [strip_cut, e1, e2, e3]
  simp
theorem headLifts_of {P : Program} {rest : List (List Char)} (hr : behindMainWord (wordsSigns P.initOrder.toList) = "cut".toList :: rest) : P.headLifts = [] := by
  unfold Program.headLifts
  rw [hr, strip_cut]
  simp
theorem cut_ne : ("cut".toList == "carried".toList) = false ∧ ("cut".toList == "gc".toList) = false ∧ ("cut".toList == "spec".toList) = false := by decide +kernel
theorem liftsFinal_of {P : Program} {rest : List (List Char)} (hr : behindMainWord (wordsSigns P.initOrder.toList) = "cut".toList :: rest) : P.liftsFinal = false := by
  unfold Program.liftsFinal
  rw [hr, headLifts_of hr]
  simp
theorem make_of {P : Program} {rest : List (List Char)} (hr : behindMainWord (wordsSigns P.initOrder.toList) = "cut".toList :: rest) : P.make = some .cut := by
  unfold Program.make
  rw [hr]
  simp only [cut_ne.2.1, cut_ne.2.2, beq_self_eq_true]
  simp
theorem laysLater : Try.prog.laysLater = false := by kernel_rfl
theorem bearsReflect : Try.prog.bearsReflect = false := by kernel_rfl
theorem doorFits : Try.prog.doorFits [] = true := by kernel_rfl
theorem mayEnter : Try.prog.mayEnter = true := let ⟨_, hr⟩ := head_of words; mayEnter_of hr laysLater bearsReflect doorFits
theorem liftsFinal : Try.prog.liftsFinal = false := let ⟨_, hr⟩ := head_of words; liftsFinal_of hr
theorem make_cut : Try.prog.make = some .cut := let ⟨_, hr⟩ := head_of words; make_of hr
theorem band {a b : Bool} (ha : a = true) (hb : b = true) : (a && b) = true := by rw [ha, hb]; rfl
end Head
end Go.Proofs.Ytpahdiljpnfkdaa
