/- The field's elements: in and out. -/
import Derived.Test.YtiikffiembcboaaField2
import Derived.Test.YtiikffiembcboaaSim25
namespace Go.Proofs.Ytiikffiembcboaa
open Go Sim

/-- an element as the program keeps it: its number times 2^256 -/
def fel (v : Nat) : List Nat := digs 18446744073709551616 4 (v * 18446744073709551616 ^ 4 % 21888242871839275222246405745257275088548364400416034343698204186575808495617)

theorem fel_len (v : Nat) : (fel v).length = 4 := digs_len _ _
theorem bd_fel (v : Nat) : bd 18446744073709551616 (fel v) := digs_bd (by decide) _ _
theorem num_fel (v : Nat) : num 18446744073709551616 (fel v) = v * 18446744073709551616 ^ 4 % 21888242871839275222246405745257275088548364400416034343698204186575808495617 := num_digs_lt (Nat.lt_of_lt_of_le (Nat.mod_lt _ (by decide)) (by decide))
theorem fel_lt (v : Nat) : num 18446744073709551616 (fel v) < 21888242871839275222246405745257275088548364400416034343698204186575808495617 := by rw [num_fel]; exact Nat.mod_lt _ (by decide)
theorem fel_mod (v : Nat) : fel (v % 21888242871839275222246405745257275088548364400416034343698204186575808495617) = fel v := by simp only [fel]; rw [Nat.mod_mul_mod]
theorem fel_zero : fel 0 = List.replicate 4 0 := by kernel_rfl

theorem fel_inj {u v : Nat} (hu : u < 21888242871839275222246405745257275088548364400416034343698204186575808495617) (hv : v < 21888242871839275222246405745257275088548364400416034343698204186575808495617) (h : fel u = fel v) : u = v := by
  refine mont_uniq (R := 18446744073709551616 ^ 4) (by decide) hu hv ?_
  rw [← num_fel, ← num_fel, h]

theorem fel_eq {u v : Nat} (hu : u < 21888242871839275222246405745257275088548364400416034343698204186575808495617) (hv : v < 21888242871839275222246405745257275088548364400416034343698204186575808495617) : (fel u = fel v) ↔ u = v := ⟨fel_inj hu hv, fun h => by rw [h]⟩

theorem ld4 {l : List Nat} (h : l.length = 4) : ((l.map (vi .u64)).drop 0).take 4 = l.map (vi .u64) := List.take_of_length_le (by simp [h])

theorem four_nat : ∀ {l : List Nat}, l.length = 4 → ∃ a b c d, l = [a, b, c, d]
  | [a, b, c, d], _ => ⟨a, b, c, d, rfl⟩

theorem build50 {E : Env} {x : Operand} {l : List Nat} (hl : l.length = 4) (h : aev E x = some (.agg (l.map (vi .u64)).toArray)) : PureOp Try.prog (.build 50 #[(0, x)]) E (.agg (l.map (vi .u64)).toArray) := by
  obtain ⟨a, b, c, d, rfl⟩ := four_nat hl
  exact PureOp.buildStruct [(0, .agg ([a, b, c, d].map (vi .u64)).toArray)] pl50.choose_spec.1 zr50 (by decide) pl50.choose_spec.2 (by simp [h]) rfl

theorem elemEq {E : Env} {x y : Operand} {a b : List Nat} {s' : TypeId} (h1 : aev E x = some (.agg (a.map (vi .u64)).toArray)) (h2 : aev E y = some (.agg (b.map (vi .u64)).toArray)) (ha : a.length = 4) (hb : b.length = 4) :
    PureOp Try.prog (.binOp .eql 50 x y s') E (.bool (decide (a = b))) :=
  PureOp.eqSt h1 h2 Try.underlying50 (by decide) rfl rfl Try.stoodInHeld50 Try.eqGuardType50 Try.underlying48 Try.underlying33 sz33 sz48 (by kernel_rfl) ha hb

/-- powers of 2 -/
def sq2 : Nat → Nat
  | 0 => 1
  | i + 1 => 2 * sq2 i % 21888242871839275222246405745257275088548364400416034343698204186575808495617

theorem sq2_lt (i : Nat) : sq2 i < 21888242871839275222246405745257275088548364400416034343698204186575808495617 := by
  cases i with
  | zero => decide
  | succ i => exact Nat.mod_lt _ (by decide)

theorem sq2_pow (i : Nat) : sq2 i = 2 ^ i % 21888242871839275222246405745257275088548364400416034343698204186575808495617 := by
  induction i with
  | zero => rfl
  | succ i ih => rw [sq2, ih, Nat.pow_succ, Nat.mul_mod_mod, Nat.mul_comm]

theorem pow_512 (a b c : Nat) : 2 ^ (a * (b + c)) = (2 ^ a) ^ b * (2 ^ a) ^ c := by rw [Nat.pow_mul, Nat.pow_add]

theorem sq2_512 {i : Nat} (h : i = 512) : sq2 i = 18446744073709551616 ^ 4 * 18446744073709551616 ^ 4 % 21888242871839275222246405745257275088548364400416034343698204186575808495617 := by
  have h2 : i = 64 * (4 + 4) := by omega
  have e : 2 ^ i = (2 ^ 64) ^ 4 * (2 ^ 64) ^ 4 := (congrArg (fun n => 2 ^ n) h2).trans (pow_512 64 4 4)
  exact (sq2_pow i).trans (congrArg (fun n => n % 21888242871839275222246405745257275088548364400416034343698204186575808495617) e)

theorem dbl_pre (i : Nat) : bd 18446744073709551616 (digs 18446744073709551616 4 (num 18446744073709551616 (digs 18446744073709551616 4 (sq2 i)) + num 18446744073709551616 (digs 18446744073709551616 4 (sq2 i)))) ∧ (digs 18446744073709551616 4 (num 18446744073709551616 (digs 18446744073709551616 4 (sq2 i)) + num 18446744073709551616 (digs 18446744073709551616 4 (sq2 i)))).length = 4 ∧
    num 18446744073709551616 (digs 18446744073709551616 4 (num 18446744073709551616 (digs 18446744073709551616 4 (sq2 i)) + num 18446744073709551616 (digs 18446744073709551616 4 (sq2 i)))) < 2 * 21888242871839275222246405745257275088548364400416034343698204186575808495617 := by
  have h := sq2_lt i
  have e : num 18446744073709551616 (digs 18446744073709551616 4 (sq2 i)) = sq2 i := num_digs_lt (by omega)
  refine ⟨digs_bd (by decide) _ _, digs_len _ _, ?_⟩
  rw [e, num_digs_lt (by omega)]
  omega

theorem dbl_step (i : Nat) : digs 18446744073709551616 4 (sq2 (i + 1)) = digs 18446744073709551616 4 (num 18446744073709551616 (digs 18446744073709551616 4 (num 18446744073709551616 (digs 18446744073709551616 4 (sq2 i)) + num 18446744073709551616 (digs 18446744073709551616 4 (sq2 i)))) % 21888242871839275222246405745257275088548364400416034343698204186575808495617) := by
  have h := sq2_lt i
  have e : num 18446744073709551616 (digs 18446744073709551616 4 (sq2 i)) = sq2 i := num_digs_lt (by omega)
  rw [e, num_digs_lt (by omega), sq2]
  congr 2
  omega

theorem rsq_num : num 18446744073709551616 (digs 18446744073709551616 4 (18446744073709551616 ^ 4 * 18446744073709551616 ^ 4 % 21888242871839275222246405745257275088548364400416034343698204186575808495617)) = 18446744073709551616 ^ 4 * 18446744073709551616 ^ 4 % 21888242871839275222246405745257275088548364400416034343698204186575808495617 := num_digs_lt (Nat.lt_of_lt_of_le (Nat.mod_lt _ (by decide)) (by decide))

theorem enter_modG (a w p : Nat) : a * w % p * w % p = a * (w * w % p) % p := by
  rw [Nat.mod_mul_mod, Nat.mul_mod_mod, Nat.mul_assoc]

theorem enter_mod (a : Nat) : a * 18446744073709551616 ^ 4 % 21888242871839275222246405745257275088548364400416034343698204186575808495617 * 18446744073709551616 ^ 4 % 21888242871839275222246405745257275088548364400416034343698204186575808495617 = a * num 18446744073709551616 (digs 18446744073709551616 4 (18446744073709551616 ^ 4 * 18446744073709551616 ^ 4 % 21888242871839275222246405745257275088548364400416034343698204186575808495617)) % 21888242871839275222246405745257275088548364400416034343698204186575808495617 := by
  have h := enter_modG a (18446744073709551616 ^ 4) 21888242871839275222246405745257275088548364400416034343698204186575808495617
  have e := rsq_num
  generalize num 18446744073709551616 (digs 18446744073709551616 4 (18446744073709551616 ^ 4 * 18446744073709551616 ^ 4 % 21888242871839275222246405745257275088548364400416034343698204186575808495617)) = z at *
  rw [h, e]

theorem mul_modG (u v w p : Nat) : u * v * w % p * w % p = u * w % p * (v * w % p) % p := by
  rw [Nat.mod_mul_mod, ← Nat.mul_mod]
  congr 1
  grind

theorem mul_mod (u v : Nat) : u * v * 18446744073709551616 ^ 4 % 21888242871839275222246405745257275088548364400416034343698204186575808495617 * 18446744073709551616 ^ 4 % 21888242871839275222246405745257275088548364400416034343698204186575808495617 = num 18446744073709551616 (fel u) * num 18446744073709551616 (fel v) % 21888242871839275222246405745257275088548364400416034343698204186575808495617 := by
  rw [num_fel, num_fel]
  exact mul_modG u v (18446744073709551616 ^ 4) 21888242871839275222246405745257275088548364400416034343698204186575808495617

set_option maxRecDepth 10000 in
theorem enter_ctr {a : List Nat} (ha : bd 18446744073709551616 a) (hla : a.length = 4) (_ : num 18446744073709551616 a < 21888242871839275222246405745257275088548364400416034343698204186575808495617) : GC Try.prog 134 [.agg ((a).map (vi .u64)).toArray] [] [.agg ((fel (num 18446744073709551616 a)).map (vi .u64)).toArray] [] := by
  refine GC.intro Try.func134 rfl (by show 1 ≤ 16; decide) (by first | exact Nat.le_refl _ | decide | simp) ?_
  have hd4 := fel_len (num 18446744073709551616 a)
  refine AW.seqR ?_
  refine AWo.box 2000 1 ((a).map (vi .u64)) rfl rfl rfl rfl rfl ?_
  refine AWo.alloc tbok 3000 1 _ rfl rfl rfl rfl rfl rfl ?_
  refine AWo.nil trivial ?_
  refine AW.seqR ?_
  refine AWo.pure ((PureOp.buildArr tbok [(0, .int .u64 1)] rfl rfl rfl (by decide) rfl rfl).mono (v' := .agg ((digs 18446744073709551616 4 (sq2 0)).map (vi .u64)).toArray) (by kernel_rfl)) rfl rfl ?_
  refine AWo.alloc tbok 4000 1 ((List.replicate 4 0).map (vi .u64)) rfl rfl rfl rfl rfl rfl ?_
  refine AWo.storeAllN tbok rfl rfl rfl rfl (by first | (simp [*]; done) | rfl) (by first | (simp [*]; done) | rfl) (by first | exact oneM (fun _ => rfl) _ | rfl | (simp; done)) rfl ?_
  refine AWo.nil trivial ?_
  refine AW.seq ?_
  refine AW.seqR ?_
  refine AWo.pure (PureOp.move rfl) rfl rfl ?_
  refine AWo.nil trivial ?_
  refine AW.block ?_
  refine AW.loopw (fun mm σ => ∃ i, (i ≤ 512) ∧ mm = 512 - i ∧ σ = ⟨(upd (upd (upd (upd emp 1 (.pointer (some ⟨2000, 0, none⟩))) 2 (.pointer (some ⟨3000, 0, none⟩))) 3 (.pointer (some ⟨4000, 0, none⟩))) 5 (vi .i64 i)), (upd (upd (upd emp 2000 ⟨a.map (vi .u64), true, 1⟩) 3000 ⟨(List.replicate 4 0).map (vi .u64), true, 1⟩) 4000 ⟨(digs 18446744073709551616 4 (sq2 i)).map (vi .u64), true, 1⟩)⟩) (fm := []) ?_ ⟨0, by decide, rfl, rfl⟩ ?_
  ·
    refine Wk.of [2000, 3000, 4000] ?_ ?_ ?_ (by decide) rfl
    ·
      refine WkE.upd rfl (by first | exact VR.flat _ rfl | exact VR.eqv (vp_succ _) rfl | exact VR.eqv (vp_succ _).symm rfl | exact VR.eqv (by first | rfl | (congr 1; omega) | (simp; done) | (simp; omega)) rfl) ?_
      refine WkE.upd rfl (.ptr (4000) 0 ⟨_, rfl⟩) ?_
      refine WkE.upd rfl (.ptr (3000) 0 ⟨_, rfl⟩) ?_
      refine WkE.upd rfl (.ptr (2000) 0 ⟨_, rfl⟩) ?_
      exact WkE.emp
    ·
      refine WkM.flatM rfl (by first | exact dbl_step i | rfl) flat_vi (fun h => h) ?_
      refine WkM.flat rfl (flatM flat_vi) (fun h => h) ?_
      refine WkM.flatM rfl (by first | rfl | assumption | simp) (fun _ => rfl) (fun h => h) ?_
      exact WkM.emp
    ·
      repeat (refine dom_upd_mem (by decide) ?_)
      exact dom_emp
  ·
    rintro mm σ ⟨i, hinv, rfl, rfl⟩
    have hb2 := digs_bd (B := 18446744073709551616) (by decide) 4 (sq2 i)
    have hl2 := digs_len (B := 18446744073709551616) 4 (sq2 i)
    obtain ⟨hb3, hl3, hn3⟩ := dbl_pre i
    have hl4 := digs_len (B := 18446744073709551616) 4 (num 18446744073709551616 (digs 18446744073709551616 4 (num 18446744073709551616 (digs 18446744073709551616 4 (sq2 i)) + num 18446744073709551616 (digs 18446744073709551616 4 (sq2 i)))) % 21888242871839275222246405745257275088548364400416034343698204186575808495617)
    refine AW.seqR ?_
    first | refine AWo.pure (PureOp.ltN (b := 512) rfl rfl) rfl rfl ?_ | refine AWo.pure (PureOp.bin rfl rfl rfl) rfl rfl ?_
    refine AWo.nil trivial ?_
    refine AW.seq ?_
    refine AW.cond rfl (fun hb0 => ?_) (fun hb0 => ?_)
    ·
      have hi : i < 512 := by simpa using hb0
      refine AW.skip ?_
      refine thenA_normal ?_
      refine AW.seq ?_
      refine AW.block ?_
      refine AW.region ?_
      first | refine AWo.loadAll tbok rfl rfl rfl rfl (by first | (simp [*]; done) | rfl) rfl rfl ?_ | refine AWo.loadAgg tbok rfl rfl rfl rfl (by first | decide | omega) rfl rfl rfl ?_
      first | refine AWo.loadAll tbok rfl rfl rfl rfl (by first | (simp [*]; done) | rfl) rfl rfl ?_ | refine AWo.loadAgg tbok rfl rfl rfl rfl (by first | decide | omega) rfl rfl rfl ?_
      refine AWo.callX (plus_ctr hb2 hb2 hl2 hl2) bd139 [] [] rfl (.cons rfl (.cons rfl .nil)) rfl (.pure (by first | rfl | exact pure_aggM flat_vi | exact pure_aggM flat_bool) (.pure (by first | rfl | exact pure_aggM flat_vi | exact pure_aggM flat_bool) .nil)) .nil rfl .nil frN (by decide) (.pure (by first | rfl | exact pure_aggM flat_vi | exact pure_aggM flat_bool) .nil) rfl rfl rfl rfl ?_
      refine AWo.callX (below_ctr hb3 hl3 hn3) bd138 [] [] rfl (.cons rfl .nil) rfl (.pure (by first | rfl | exact pure_aggM flat_vi | exact pure_aggM flat_bool) .nil) .nil rfl .nil frN (by decide) (.pure (by first | rfl | exact pure_aggM flat_vi | exact pure_aggM flat_bool) .nil) rfl rfl rfl rfl ?_
      refine AWo.storeAllN tbok rfl rfl rfl rfl (by first | (simp [*]; done) | rfl) (by first | (simp [*]; done) | rfl) (by first | exact oneM (fun _ => rfl) _ | rfl | (simp; done)) rfl ?_
      refine AWo.nil trivial ?_
      refine inBlockA_normal ?_
      refine thenA_normal ?_
      refine AW.region ?_
      first | refine AWo.pure (PureOp.addI (b := 1) rfl rfl (by first | decide | omega)) rfl rfl ?_ | refine AWo.pure (PureOp.bin rfl rfl rfl) rfl rfl ?_
      refine AWo.pure (PureOp.move rfl) rfl rfl ?_
      refine AWo.nil trivial ?_
      refine thenA_normal ?_
      refine ⟨512 - (i + 1), [], _, by omega, ?_, i + 1, by omega, rfl, rfl⟩
      refine Wk.of [2000, 3000, 4000] ?_ ?_ ?_ (by decide) rfl
      ·
        refine WkE.upd rfl (by first | exact VR.flat _ rfl | exact VR.eqv (vp_succ _) rfl | exact VR.eqv (vp_succ _).symm rfl | exact VR.eqv (by first | rfl | (congr 1; omega) | (simp; done) | (simp; omega)) rfl) ?_
        refine WkE.upd rfl (.ptr (4000) 0 ⟨_, rfl⟩) ?_
        refine WkE.upd rfl (.ptr (3000) 0 ⟨_, rfl⟩) ?_
        refine WkE.upd rfl (.ptr (2000) 0 ⟨_, rfl⟩) ?_
        exact WkE.emp
      ·
        refine WkM.flatM rfl (by first | exact dbl_step i | rfl) flat_vi (fun h => h) ?_
        refine WkM.flat rfl (flatM flat_vi) (fun h => h) ?_
        refine WkM.flatM rfl (by first | rfl | assumption | simp) (fun _ => rfl) (fun h => h) ?_
        exact WkM.emp
      ·
        repeat (refine dom_upd_mem (by decide) ?_)
        exact dom_emp
    ·
      have hi : i = 512 := by simp at hb0; omega
      have hsq := sq2_512 hi
      rw [hsq] at hb2 hl2
      rw [hsq]
      refine AW.exit ?_
      refine thenA_exit ?_
      refine thenA_exit ?_
      refine inBlockA_hit ?_
      refine thenA_normal ?_
      refine AW.seqR ?_
      first | refine AWo.loadAll tbok rfl rfl rfl rfl (by first | (simp [*]; done) | rfl) rfl rfl ?_ | refine AWo.loadAgg tbok rfl rfl rfl rfl (by first | decide | omega) rfl rfl rfl ?_
      first | refine AWo.loadAll tbok rfl rfl rfl rfl (by first | (simp [*]; done) | rfl) rfl rfl ?_ | refine AWo.loadAgg tbok rfl rfl rfl rfl (by first | decide | omega) rfl rfl rfl ?_
      refine AWo.callX (product_ctr (r := num 18446744073709551616 a * 18446744073709551616 ^ 4 % 21888242871839275222246405745257275088548364400416034343698204186575808495617) ha hb2 hla hl2 (by rw [rsq_num]; exact Nat.mod_lt _ (by decide)) (Nat.mod_lt _ (by decide)) (enter_mod _)) bd137 [] [] rfl (.cons rfl (.cons rfl .nil)) rfl (.pure (by first | rfl | exact pure_aggM flat_vi | exact pure_aggM flat_bool) (.pure (by first | rfl | exact pure_aggM flat_vi | exact pure_aggM flat_bool) .nil)) .nil rfl .nil frN (by decide) (.pure (by first | rfl | exact pure_aggM flat_vi | exact pure_aggM flat_bool) .nil) rfl rfl rfl rfl ?_
      refine AWo.pure (build50 (by first | exact digs_len _ _ | exact fel_len _) rfl) rfl rfl ?_
      refine AWo.storeAllN tbok rfl rfl rfl rfl (by first | (simp [*]; done) | rfl) (by first | (simp [*]; done) | rfl) (by first | exact oneM (fun _ => rfl) _ | rfl | (simp; done)) rfl ?_
      refine AWo.nil trivial ?_
      refine AW.ret ?_
      refine RetQ.gc [_] [] [.cell 2 50] (.inl rfl) rfl (.val (RVal.cellAll tbok rfl rfl rfl rfl (by first | (simp [*]; done) | rfl)) .nil) rfl (.pure (by first | rfl | exact pure_aggM flat_vi | exact pure_aggM flat_bool) .nil) trivial (by decide) rfl

set_option maxRecDepth 10000 in
theorem leave_ctr {v : Nat} (hv : v < 21888242871839275222246405745257275088548364400416034343698204186575808495617) : GC Try.prog 117 [.agg ((fel v).map (vi .u64)).toArray] [] [.agg ((digs 18446744073709551616 4 v).map (vi .u64)).toArray] [] := by
  refine GC.intro Try.func117 rfl (by show 1 ≤ 7; decide) (by first | exact Nat.le_refl _ | decide | simp) ?_
  have hd4 := fel_len v
  have hd5 := digs_len (B := 18446744073709551616) 4 v
  refine AW.seqR ?_
  refine AWo.box 2000 1 ((fel v).map (vi .u64)) rfl rfl rfl rfl rfl ?_
  refine AWo.alloc tbok 3000 1 ((List.replicate 4 0).map (vi .u64)) rfl rfl rfl rfl rfl rfl ?_
  refine AWo.nil trivial ?_
  refine AW.seqR ?_
  refine AWo.pure (PureOp.fld tbok rfl rfl rfl (by decide)) rfl rfl ?_
  refine AWo.loadAgg tbok (vs := (fel v).map (vi .u64)) rfl rfl rfl rfl (by simp [fel_len]) (ld4 (fel_len _)) rfl rfl ?_
  refine AWo.pure ((PureOp.buildArr tbok [(0, .int .u64 1)] rfl rfl rfl (by decide) rfl rfl).mono (v' := .agg ((digs 18446744073709551616 4 1).map (vi .u64)).toArray) (by kernel_rfl)) rfl rfl ?_
  refine AWo.callX (product_ctr (r := v) (bd_fel v) (digs_bd (by decide) 4 1) (fel_len v) (digs_len 4 1) (by decide) hv (by rw [num_fel, show num 18446744073709551616 (digs 18446744073709551616 4 1) = 1 from by kernel_rfl, Nat.mul_one, Nat.mod_mod])) bd137 [] [] rfl (.cons rfl (.cons rfl .nil)) rfl (.pure (by first | rfl | exact pure_aggM flat_vi | exact pure_aggM flat_bool) (.pure (by first | rfl | exact pure_aggM flat_vi | exact pure_aggM flat_bool) .nil)) .nil rfl .nil frN (by decide) (.pure (by first | rfl | exact pure_aggM flat_vi | exact pure_aggM flat_bool) .nil) rfl rfl rfl rfl ?_
  refine AWo.storeAllN tbok rfl rfl rfl rfl (by first | (simp [*]; done) | rfl) (by first | (simp [*]; done) | rfl) (by first | exact oneM (fun _ => rfl) _ | rfl | (simp; done)) rfl ?_
  refine AWo.nil trivial ?_
  refine AW.ret ?_
  refine RetQ.gc [_] [] [.cell 2 48] (.inl rfl) rfl (.val (RVal.cellAll tbok rfl rfl rfl rfl (by first | (simp [*]; done) | rfl)) .nil) rfl (.pure (by first | rfl | exact pure_aggM flat_vi | exact pure_aggM flat_bool) .nil) trivial (by decide) rfl

set_option maxRecDepth 10000 in
theorem ebytes_ctr {v : Nat} (hv : v < 21888242871839275222246405745257275088548364400416034343698204186575808495617) : GC Try.prog 43 [.agg ((fel v).map (vi .u64)).toArray] [] [.agg ((digs 256 32 v).map (vi .u8)).toArray] [] := by
  refine GC.intro Try.func43 rfl (by show 1 ≤ 10; decide) (by first | exact Nat.le_refl _ | decide | simp) ?_
  have hd4 := fel_len v
  have hd5 := digs_len (B := 18446744073709551616) 4 v
  have hn5 : num 18446744073709551616 (digs 18446744073709551616 4 v) = v := num_digs_lt (by omega)
  have hb5 := digs_bd (B := 18446744073709551616) (by decide) 4 v
  have hd6 := digs_len (B := 256) (8 * (digs 18446744073709551616 4 v).length) (num 18446744073709551616 (digs 18446744073709551616 4 v))
  have hd7 := digs_len (B := 256) 32 v
  refine AW.seqR ?_
  refine AWo.box 2000 1 ((fel v).map (vi .u64)) rfl rfl rfl rfl rfl ?_
  refine AWo.alloc tbok 3000 1 ((List.replicate 32 0).map (vi .u8)) rfl rfl rfl rfl rfl rfl ?_
  refine AWo.nil trivial ?_
  refine AW.seqR ?_
  first | refine AWo.loadAll tbok rfl rfl rfl rfl (by first | (simp [*]; done) | rfl) rfl rfl ?_ | refine AWo.loadAgg tbok rfl rfl rfl rfl (by first | decide | omega) rfl rfl rfl ?_
  refine AWo.callX (leave_ctr (by first | assumption | omega)) bd117 [] [] rfl (.cons rfl .nil) rfl (.pure (by first | rfl | exact pure_aggM flat_vi | exact pure_aggM flat_bool) .nil) .nil rfl .nil frN (by decide) (.pure (by first | rfl | exact pure_aggM flat_vi | exact pure_aggM flat_bool) .nil) rfl rfl rfl rfl ?_
  refine AWo.alloc tbok 4000 1 ((List.replicate 4 0).map (vi .u64)) rfl rfl rfl rfl rfl rfl ?_
  refine AWo.storeAllN tbok rfl rfl rfl rfl (by first | (simp [*]; done) | rfl) (by first | (simp [*]; done) | rfl) (by first | exact oneM (fun _ => rfl) _ | rfl | (simp; done)) rfl ?_
  refine AWo.nil trivial ?_
  refine AW.seqR ?_
  refine AWo.sliceA tbok (h := 4) rfl .none .none rfl rfl rfl rfl (by decide) (by decide) (.inl rfl) (by simp [digs_len]) rfl rfl rfl ?_
  refine AWo.callX (lbytes_ctr hb5 (by rw [hd5]; decide)) bd74 [(4000, 0)] [8000] rfl (.cons rfl .nil) rfl (.cons rfl rfl .nil) (.flat rfl (by first | exact flatM flat_vi | exact flatM flat_bool | (simp [flatV, flat_vi]; done)) (by intro h; first | exact h | rfl) .nil) rfl (.keep rfl (.new (flat_map_ren (by first | exact flatM flat_vi | exact flatM flat_bool | (simp [flatV, flat_vi]; done))) (OkL.flat (by first | exact flatM flat_vi | exact flatM flat_bool | (simp [flatV, flat_vi]; done))) .nil)) (frC rfl frN) (by decide) (.cons rfl rfl .nil) rfl rfl rfl rfl ?_
  refine AWo.pure (PureOp.toArrT tbok rfl rfl (by rw [hd5]; decide) (by rw [hd5]; decide)) rfl rfl ?_
  refine AWo.loadAgg tbok (vs := (digs 256 32 v).map (vi .u8)) rfl rfl rfl rfl (by show 0 + 32 ≤ _; simp [digs_len]) (by rw [hd5, hn5]; exact List.take_of_length_le (by simp [digs_len])) rfl rfl ?_
  refine AWo.storeAllN tbok rfl rfl rfl rfl (by first | (simp [*]; done) | rfl) (by first | (simp [*]; done) | rfl) (by first | exact oneM (fun _ => rfl) _ | rfl | (simp; done)) rfl ?_
  refine AWo.nil trivial ?_
  refine AW.ret ?_
  refine RetQ.gc [_] [] [.cell 2 40] (.inl rfl) rfl (.val (RVal.cellAll tbok rfl rfl rfl rfl (by first | (simp [*]; done) | rfl)) .nil) rfl (.pure (by first | rfl | exact pure_aggM flat_vi | exact pure_aggM flat_bool) .nil) trivial (by decide) rfl

set_option maxRecDepth 10000 in
theorem equal_ctr {a b : List Nat} (hla : a.length = 4) (hlb : b.length = 4) : GC Try.prog 40 [.agg ((a).map (vi .u64)).toArray, .agg ((b).map (vi .u64)).toArray] [] [.bool (decide (a = b))] [] := by
  refine GC.intro Try.func40 rfl (by show 2 ≤ 8; decide) (by first | exact Nat.le_refl _ | decide | simp) ?_
  refine AW.seqR ?_
  refine AWo.box 3000 1 ((a).map (vi .u64)) rfl rfl rfl rfl rfl ?_
  refine AWo.box 4000 1 ((b).map (vi .u64)) rfl rfl rfl rfl rfl ?_
  refine AWo.pure (PureOp.assign rfl) rfl rfl ?_
  refine AWo.nil trivial ?_
  refine AW.seqR ?_
  first | refine AWo.loadAll tbok rfl rfl rfl rfl (by first | (simp [*]; done) | rfl) rfl rfl ?_ | refine AWo.loadAgg tbok rfl rfl rfl rfl (by first | decide | omega) rfl rfl rfl ?_
  first | refine AWo.loadAll tbok rfl rfl rfl rfl (by first | (simp [*]; done) | rfl) rfl rfl ?_ | refine AWo.loadAgg tbok rfl rfl rfl rfl (by first | decide | omega) rfl rfl rfl ?_
  refine AWo.pure (elemEq rfl rfl hla hlb) rfl rfl ?_
  refine AWo.pure (PureOp.assign rfl) rfl rfl ?_
  refine AWo.nil trivial ?_
  refine AW.ret ?_
  refine RetQ.gc [_] [] [.tmp 4] (.inl rfl) rfl (.tmp rfl .nil) rfl (.cons rfl rfl .nil) trivial (by decide) rfl

set_option maxRecDepth 10000 in
theorem iszero_ctr {a : List Nat} (hla : a.length = 4) : GC Try.prog 39 [.agg ((a).map (vi .u64)).toArray] [] [.bool (decide (a = List.replicate 4 0))] [] := by
  refine GC.intro Try.func39 rfl (by show 1 ≤ 6; decide) (by first | exact Nat.le_refl _ | decide | simp) ?_
  refine AW.seqR ?_
  refine AWo.box 2000 1 ((a).map (vi .u64)) rfl rfl rfl rfl rfl ?_
  refine AWo.pure (PureOp.assign rfl) rfl rfl ?_
  refine AWo.nil trivial ?_
  refine AW.seqR ?_
  first | refine AWo.loadAll tbok rfl rfl rfl rfl (by first | (simp [*]; done) | rfl) rfl rfl ?_ | refine AWo.loadAgg tbok rfl rfl rfl rfl (by first | decide | omega) rfl rfl rfl ?_
  refine AWo.pure ((PureOp.buildStruct [] pl50.choose_spec.1 zr50 (by decide) pl50.choose_spec.2 rfl rfl).mono (v' := .agg ((List.replicate 4 0).map (vi .u64)).toArray) (by rfl)) rfl rfl ?_
  refine AWo.pure (elemEq rfl rfl hla (by simp)) rfl rfl ?_
  refine AWo.pure (PureOp.assign rfl) rfl rfl ?_
  refine AWo.nil trivial ?_
  refine AW.ret ?_
  refine RetQ.gc [_] [] [.tmp 2] (.inl rfl) rfl (.tmp rfl .nil) rfl (.cons rfl rfl .nil) trivial (by decide) rfl

set_option maxRecDepth 10000 in
theorem emul_ctr {u v : Nat} : GC Try.prog 91 [.agg ((fel u).map (vi .u64)).toArray, .agg ((fel v).map (vi .u64)).toArray] [] [.agg ((fel (u * v)).map (vi .u64)).toArray] [] := by
  refine GC.intro Try.func91 rfl (by show 2 ≤ 11; decide) (by first | exact Nat.le_refl _ | decide | simp) ?_
  have hd4 := fel_len (u * v)
  have hd1 := fel_len u
  have hd2 := fel_len v
  refine AW.seqR ?_
  refine AWo.box 3000 1 ((fel u).map (vi .u64)) rfl rfl rfl rfl rfl ?_
  refine AWo.box 4000 1 ((fel v).map (vi .u64)) rfl rfl rfl rfl rfl ?_
  refine AWo.alloc tbok 5000 1 _ rfl rfl rfl rfl rfl rfl ?_
  refine AWo.nil trivial ?_
  refine AW.seqR ?_
  refine AWo.pure (PureOp.fld tbok rfl rfl rfl (by decide)) rfl rfl ?_
  refine AWo.loadAgg tbok (vs := (fel u).map (vi .u64)) rfl rfl rfl rfl (by simp [fel_len]) (ld4 (fel_len _)) rfl rfl ?_
  refine AWo.pure (PureOp.fld tbok rfl rfl rfl (by decide)) rfl rfl ?_
  refine AWo.loadAgg tbok (vs := (fel v).map (vi .u64)) rfl rfl rfl rfl (by simp [fel_len]) (ld4 (fel_len _)) rfl rfl ?_
  refine AWo.callX (product_ctr (r := u * v * 18446744073709551616 ^ 4 % 21888242871839275222246405745257275088548364400416034343698204186575808495617) (bd_fel u) (bd_fel v) (fel_len u) (fel_len v) (fel_lt v) (Nat.mod_lt _ (by decide)) (mul_mod _ _)) bd137 [] [] rfl (.cons rfl (.cons rfl .nil)) rfl (.pure (by first | rfl | exact pure_aggM flat_vi | exact pure_aggM flat_bool) (.pure (by first | rfl | exact pure_aggM flat_vi | exact pure_aggM flat_bool) .nil)) .nil rfl .nil frN (by decide) (.pure (by first | rfl | exact pure_aggM flat_vi | exact pure_aggM flat_bool) .nil) rfl rfl rfl rfl ?_
  refine AWo.pure (build50 (by first | exact digs_len _ _ | exact fel_len _) rfl) rfl rfl ?_
  refine AWo.storeAllN tbok rfl rfl rfl rfl (by first | (simp [*]; done) | rfl) (by first | (simp [*]; done) | rfl) (by first | exact oneM (fun _ => rfl) _ | rfl | (simp; done)) rfl ?_
  refine AWo.nil trivial ?_
  refine AW.ret ?_
  refine RetQ.gc [_] [] [.cell 4 50] (.inl rfl) rfl (.val (RVal.cellAll tbok rfl rfl rfl rfl (by first | (simp [*]; done) | rfl)) .nil) rfl (.pure (by first | rfl | exact pure_aggM flat_vi | exact pure_aggM flat_bool) .nil) trivial (by decide) rfl

set_option maxRecDepth 10000 in
theorem fbok_ctr {b : List Nat} (hb : bd 256 b) (hlb : b.length = 32) (hlt : num 256 b < 21888242871839275222246405745257275088548364400416034343698204186575808495617) : GC Try.prog 96 [.slice (some ⟨0, 0, none⟩) b.length 0] [⟨b.map (vi .u8), false, 1⟩] [.agg ((fel (num 256 b)).map (vi .u64)).toArray, .int .i64 0] [⟨b.map (vi .u8), false, 1⟩] := by
  refine GC.intro Try.func96 rfl (by show 1 ≤ 26; decide) (by first | exact Nat.le_refl _ | decide | simp) ?_
  have hl4 : (b.length + 7) / 8 = 4 := by rw [hlb]
  have hnb := num_lt hb
  rw [hlb] at hnb
  have hd4 := fel_len (num 256 b)
  have hd5 := digs_len (B := 18446744073709551616) 4 (num 256 b)
  have hn5 : num 18446744073709551616 (digs 18446744073709551616 4 (num 256 b)) = num 256 b := num_digs_lt (by omega)
  have hb5 := digs_bd (B := 18446744073709551616) (by decide) 4 (num 256 b)
  have hnp : num 18446744073709551616 (digs 18446744073709551616 4 21888242871839275222246405745257275088548364400416034343698204186575808495617) = 21888242871839275222246405745257275088548364400416034343698204186575808495617 := num_digs_lt (by decide)
  have hbp := digs_bd (B := 18446744073709551616) (by decide) 4 21888242871839275222246405745257275088548364400416034343698204186575808495617
  have hlp := digs_len (B := 18446744073709551616) 4 21888242871839275222246405745257275088548364400416034343698204186575808495617
  have hd6 := digs_len (B := 18446744073709551616) 4 (num 18446744073709551616 (digs 18446744073709551616 4 (num 256 b)) + 18446744073709551616 ^ 4 - num 18446744073709551616 (digs 18446744073709551616 4 21888242871839275222246405745257275088548364400416034343698204186575808495617))
  refine AW.seqR ?_
  refine AWo.alloc tbok 3000 1 _ rfl rfl rfl rfl rfl rfl ?_
  refine AWo.pure (PureOp.assign rfl) rfl rfl ?_
  refine AWo.nil trivial ?_
  refine AW.seq ?_
  refine AW.seqR ?_
  refine AWo.pure (PureOp.move rfl) rfl rfl ?_
  refine AWo.pure (PureOp.lenS tbok rfl rfl) rfl rfl ?_
  first | refine AWo.pure ((PureOp.neN (b := 32) rfl rfl).mono (v' := .bool false) (by rw [hlb]; rfl)) rfl rfl ?_ | refine AWo.pure ((PureOp.bin rfl rfl rfl).mono (v' := .bool false) (by rw [hlb]; rfl)) rfl rfl ?_
  refine AWo.nil trivial ?_
  refine AW.condF rfl ?_
  refine AW.skip ?_
  refine thenA_normal ?_
  refine AW.seqR ?_
  refine AWo.pure (PureOp.move rfl) rfl rfl ?_
  refine AWo.callX (lwords_ctr hb (by omega)) bd73 [(0, 0)] [13000] rfl (.cons rfl .nil) rfl (.cons rfl rfl .nil) (.flat rfl (by first | exact flatM flat_vi | exact flatM flat_bool | (simp [flatV, flat_vi]; done)) (by intro h; first | exact h | rfl) .nil) rfl (.keep rfl (.new (flat_map_ren (by first | exact flatM flat_vi | exact flatM flat_bool | (simp [flatV, flat_vi]; done))) (OkL.flat (by first | exact flatM flat_vi | exact flatM flat_bool | (simp [flatV, flat_vi]; done))) .nil)) (frC rfl frN) (by decide) (.cons rfl rfl .nil) rfl rfl rfl rfl ?_
  refine AWo.pure (PureOp.toArrT tbok rfl rfl (by rw [hl4]; decide) (by rw [hl4]; decide)) rfl rfl ?_
  rw [hl4]
  refine AWo.loadAgg tbok (vs := (digs 18446744073709551616 4 (num 256 b)).map (vi .u64)) rfl rfl rfl rfl (by show 0 + 4 ≤ _; simp [digs_len]) (ld4 hd5) rfl rfl ?_
  refine AWo.alloc tbok 5000 1 ((List.replicate 4 0).map (vi .u64)) rfl rfl rfl rfl rfl rfl ?_
  refine AWo.storeAllN tbok rfl rfl rfl rfl (by first | (simp [*]; done) | rfl) (by first | (simp [*]; done) | rfl) (by first | exact oneM (fun _ => rfl) _ | rfl | (simp; done)) rfl ?_
  refine AWo.nil trivial ?_
  refine AW.seq ?_
  refine AW.seqD mixed ?_
  first | refine AWo.loadAll tbok rfl rfl rfl rfl (by first | (simp [*]; done) | rfl) rfl rfl ?_ | refine AWo.loadAgg tbok rfl rfl rfl rfl (by first | decide | omega) rfl rfl rfl ?_
  refine AWo.callX (prime_ctr) bd136 [] [] rfl .nil rfl .nil .nil rfl .nil frN (by decide) (.pure (by first | rfl | exact pure_aggM flat_vi | exact pure_aggM flat_bool) .nil) rfl rfl rfl rfl ?_
  refine AWo.callX (borrow_ctr hb5 hbp hd5 hlp) bd140 [] [] rfl (.cons rfl (.cons rfl .nil)) rfl (.pure (by first | rfl | exact pure_aggM flat_vi | exact pure_aggM flat_bool) (.pure (by first | rfl | exact pure_aggM flat_vi | exact pure_aggM flat_bool) .nil)) .nil rfl .nil frN (by decide) (.pure (by first | rfl | exact pure_aggM flat_vi | exact pure_aggM flat_bool) (.cons rfl rfl .nil)) rfl rfl rfl rfl ?_
  refine AWo.pure (PureOp.move rfl) rfl rfl ?_
  refine AWo.pure (PureOp.extract rfl rfl) rfl rfl ?_
  refine AWo.pure (PureOp.extract rfl rfl) rfl rfl ?_
  refine AWo.alloc tbok 6000 1 ((List.replicate 4 0).map (vi .u64)) rfl rfl rfl rfl rfl rfl ?_
  refine AWo.storeAllN tbok rfl rfl rfl rfl (by first | (simp [*]; done) | rfl) (by first | (simp [*]; done) | rfl) (by first | exact oneM (fun _ => rfl) _ | rfl | (simp; done)) rfl ?_
  refine AWo.pure (PureOp.assign rfl) rfl rfl ?_
  refine AWo.nil (by kernel_rfl) ?_
  refine AW.seqR ?_
  refine AWo.pure (PureOp.move rfl) rfl rfl ?_
  first | refine AWo.pure ((PureOp.eqN (b := 0) rfl rfl).mono (v' := .bool false) (by rw [hn5, hnp, if_pos hlt]; rfl)) rfl rfl ?_ | refine AWo.pure ((PureOp.bin rfl rfl rfl).mono (v' := .bool false) (by rw [hn5, hnp, if_pos hlt]; rfl)) rfl rfl ?_
  refine AWo.nil trivial ?_
  refine AW.condF rfl ?_
  refine AW.skip ?_
  refine thenA_normal ?_
  refine AW.seqR ?_
  first | refine AWo.loadAll tbok rfl rfl rfl rfl (by first | (simp [*]; done) | rfl) rfl rfl ?_ | refine AWo.loadAgg tbok rfl rfl rfl rfl (by first | decide | omega) rfl rfl rfl ?_
  refine AWo.callX (enter_ctr hb5 hd5 (by rw [hn5]; exact hlt)) bd134 [] [] rfl (.cons rfl .nil) rfl (.pure (by first | rfl | exact pure_aggM flat_vi | exact pure_aggM flat_bool) .nil) .nil rfl .nil frN (by decide) (.pure (by first | rfl | exact pure_aggM flat_vi | exact pure_aggM flat_bool) .nil) rfl rfl rfl rfl ?_
  refine AWo.storeAllN tbok rfl rfl rfl rfl (by first | (simp [*]; done) | rfl) (by first | (simp [*]; done) | rfl) (by first | exact oneM (fun _ => rfl) _ | rfl | (simp; done)) rfl ?_
  refine AWo.pure (PureOp.assign rfl) rfl rfl ?_
  refine AWo.nil trivial ?_
  refine AW.ret ?_
  rw [hn5]
  refine RetQ.gc [_, _] [] [.cell 2 50, .tmp 3] (.inl rfl) rfl (.val (RVal.cellAll tbok rfl rfl rfl rfl (by first | (simp [*]; done) | rfl)) (.tmp rfl .nil)) rfl (.pure (by first | rfl | exact pure_aggM flat_vi | exact pure_aggM flat_bool) (.cons rfl rfl .nil)) (OutL.flat rfl (by first | exact flatM flat_vi | exact flatM flat_bool | (simp [flatV, flat_vi]; done)) (by intro h; first | rfl | exact h.elim id fun h => absurd h.1 (by simp)) trivial) (by decide) rfl

set_option maxRecDepth 10000 in
theorem fbcanon_ctr {b : List Nat} (hb : bd 256 b) (hlb : b.length = 32) (hge : 21888242871839275222246405745257275088548364400416034343698204186575808495617 ≤ num 256 b) : GC Try.prog 96 [.slice (some ⟨0, 0, none⟩) b.length 0] [⟨b.map (vi .u8), false, 1⟩] [.agg ((List.replicate 4 0).map (vi .u64)).toArray, .int .i64 4] [⟨b.map (vi .u8), false, 1⟩] := by
  refine GC.intro Try.func96 rfl (by show 1 ≤ 26; decide) (by first | exact Nat.le_refl _ | decide | simp) ?_
  have hl4 : (b.length + 7) / 8 = 4 := by rw [hlb]
  have hnb := num_lt hb
  rw [hlb] at hnb
  have hd4 := fel_len (num 256 b)
  have hd5 := digs_len (B := 18446744073709551616) 4 (num 256 b)
  have hn5 : num 18446744073709551616 (digs 18446744073709551616 4 (num 256 b)) = num 256 b := num_digs_lt (by omega)
  have hb5 := digs_bd (B := 18446744073709551616) (by decide) 4 (num 256 b)
  have hnp : num 18446744073709551616 (digs 18446744073709551616 4 21888242871839275222246405745257275088548364400416034343698204186575808495617) = 21888242871839275222246405745257275088548364400416034343698204186575808495617 := num_digs_lt (by decide)
  have hbp := digs_bd (B := 18446744073709551616) (by decide) 4 21888242871839275222246405745257275088548364400416034343698204186575808495617
  have hlp := digs_len (B := 18446744073709551616) 4 21888242871839275222246405745257275088548364400416034343698204186575808495617
  have hd6 := digs_len (B := 18446744073709551616) 4 (num 18446744073709551616 (digs 18446744073709551616 4 (num 256 b)) + 18446744073709551616 ^ 4 - num 18446744073709551616 (digs 18446744073709551616 4 21888242871839275222246405745257275088548364400416034343698204186575808495617))
  refine AW.seqR ?_
  refine AWo.alloc tbok 3000 1 _ rfl rfl rfl rfl rfl rfl ?_
  refine AWo.pure (PureOp.assign rfl) rfl rfl ?_
  refine AWo.nil trivial ?_
  refine AW.seq ?_
  refine AW.seqR ?_
  refine AWo.pure (PureOp.move rfl) rfl rfl ?_
  refine AWo.pure (PureOp.lenS tbok rfl rfl) rfl rfl ?_
  first | refine AWo.pure ((PureOp.neN (b := 32) rfl rfl).mono (v' := .bool false) (by rw [hlb]; rfl)) rfl rfl ?_ | refine AWo.pure ((PureOp.bin rfl rfl rfl).mono (v' := .bool false) (by rw [hlb]; rfl)) rfl rfl ?_
  refine AWo.nil trivial ?_
  refine AW.condF rfl ?_
  refine AW.skip ?_
  refine thenA_normal ?_
  refine AW.seqR ?_
  refine AWo.pure (PureOp.move rfl) rfl rfl ?_
  refine AWo.callX (lwords_ctr hb (by omega)) bd73 [(0, 0)] [13000] rfl (.cons rfl .nil) rfl (.cons rfl rfl .nil) (.flat rfl (by first | exact flatM flat_vi | exact flatM flat_bool | (simp [flatV, flat_vi]; done)) (by intro h; first | exact h | rfl) .nil) rfl (.keep rfl (.new (flat_map_ren (by first | exact flatM flat_vi | exact flatM flat_bool | (simp [flatV, flat_vi]; done))) (OkL.flat (by first | exact flatM flat_vi | exact flatM flat_bool | (simp [flatV, flat_vi]; done))) .nil)) (frC rfl frN) (by decide) (.cons rfl rfl .nil) rfl rfl rfl rfl ?_
  refine AWo.pure (PureOp.toArrT tbok rfl rfl (by rw [hl4]; decide) (by rw [hl4]; decide)) rfl rfl ?_
  rw [hl4]
  refine AWo.loadAgg tbok (vs := (digs 18446744073709551616 4 (num 256 b)).map (vi .u64)) rfl rfl rfl rfl (by show 0 + 4 ≤ _; simp [digs_len]) (ld4 hd5) rfl rfl ?_
  refine AWo.alloc tbok 5000 1 ((List.replicate 4 0).map (vi .u64)) rfl rfl rfl rfl rfl rfl ?_
  refine AWo.storeAllN tbok rfl rfl rfl rfl (by first | (simp [*]; done) | rfl) (by first | (simp [*]; done) | rfl) (by first | exact oneM (fun _ => rfl) _ | rfl | (simp; done)) rfl ?_
  refine AWo.nil trivial ?_
  refine AW.seq ?_
  refine AW.seqD mixed ?_
  first | refine AWo.loadAll tbok rfl rfl rfl rfl (by first | (simp [*]; done) | rfl) rfl rfl ?_ | refine AWo.loadAgg tbok rfl rfl rfl rfl (by first | decide | omega) rfl rfl rfl ?_
  refine AWo.callX (prime_ctr) bd136 [] [] rfl .nil rfl .nil .nil rfl .nil frN (by decide) (.pure (by first | rfl | exact pure_aggM flat_vi | exact pure_aggM flat_bool) .nil) rfl rfl rfl rfl ?_
  refine AWo.callX (borrow_ctr hb5 hbp hd5 hlp) bd140 [] [] rfl (.cons rfl (.cons rfl .nil)) rfl (.pure (by first | rfl | exact pure_aggM flat_vi | exact pure_aggM flat_bool) (.pure (by first | rfl | exact pure_aggM flat_vi | exact pure_aggM flat_bool) .nil)) .nil rfl .nil frN (by decide) (.pure (by first | rfl | exact pure_aggM flat_vi | exact pure_aggM flat_bool) (.cons rfl rfl .nil)) rfl rfl rfl rfl ?_
  refine AWo.pure (PureOp.move rfl) rfl rfl ?_
  refine AWo.pure (PureOp.extract rfl rfl) rfl rfl ?_
  refine AWo.pure (PureOp.extract rfl rfl) rfl rfl ?_
  refine AWo.alloc tbok 6000 1 ((List.replicate 4 0).map (vi .u64)) rfl rfl rfl rfl rfl rfl ?_
  refine AWo.storeAllN tbok rfl rfl rfl rfl (by first | (simp [*]; done) | rfl) (by first | (simp [*]; done) | rfl) (by first | exact oneM (fun _ => rfl) _ | rfl | (simp; done)) rfl ?_
  refine AWo.pure (PureOp.assign rfl) rfl rfl ?_
  refine AWo.nil (by kernel_rfl) ?_
  refine AW.seqR ?_
  refine AWo.pure (PureOp.move rfl) rfl rfl ?_
  first | refine AWo.pure ((PureOp.eqN (b := 0) rfl rfl).mono (v' := .bool true) (by rw [hn5, hnp, if_neg (by omega)]; rfl)) rfl rfl ?_ | refine AWo.pure ((PureOp.bin rfl rfl rfl).mono (v' := .bool true) (by rw [hn5, hnp, if_neg (by omega)]; rfl)) rfl rfl ?_
  refine AWo.nil trivial ?_
  refine AW.condT rfl ?_
  refine AW.seqR ?_
  refine AWo.pure ((PureOp.buildStruct [] pl50.choose_spec.1 zr50 (by decide) pl50.choose_spec.2 rfl rfl).mono (v' := .agg ((List.replicate 4 0).map (vi .u64)).toArray) (by rfl)) rfl rfl ?_
  refine AWo.storeAllN tbok rfl rfl rfl rfl (by first | (simp [*]; done) | rfl) (by first | (simp [*]; done) | rfl) (by first | exact oneM (fun _ => rfl) _ | rfl | (simp; done)) rfl ?_
  refine AWo.pure (PureOp.assign rfl) rfl rfl ?_
  refine AWo.nil trivial ?_
  refine AW.ret ?_
  refine thenA_ret ?_
  refine RetQ.gc [_, _] [] [.cell 2 50, .tmp 3] (.inl rfl) rfl (.val (RVal.cellAll tbok rfl rfl rfl rfl (by first | (simp [*]; done) | rfl)) (.tmp rfl .nil)) rfl (.pure (by first | rfl | exact pure_aggM flat_vi | exact pure_aggM flat_bool) (.cons rfl rfl .nil)) (OutL.flat rfl (by first | exact flatM flat_vi | exact flatM flat_bool | (simp [flatV, flat_vi]; done)) (by intro h; first | rfl | exact h.elim id fun h => absurd h.1 (by simp)) trivial) (by decide) rfl

set_option maxRecDepth 10000 in
theorem fbarg_ctr {b : List Nat} (hlb : b.length ≠ 32) : GC Try.prog 96 [.slice (some ⟨0, 0, none⟩) b.length 0] [⟨b.map (vi .u8), false, 1⟩] [.agg ((List.replicate 4 0).map (vi .u64)).toArray, .int .i64 1] [⟨b.map (vi .u8), false, 1⟩] := by
  refine GC.intro Try.func96 rfl (by show 1 ≤ 26; decide) (by first | exact Nat.le_refl _ | decide | simp) ?_
  refine AW.seqR ?_
  refine AWo.alloc tbok 3000 1 _ rfl rfl rfl rfl rfl rfl ?_
  refine AWo.pure (PureOp.assign rfl) rfl rfl ?_
  refine AWo.nil trivial ?_
  refine AW.seq ?_
  refine AW.seqR ?_
  refine AWo.pure (PureOp.move rfl) rfl rfl ?_
  refine AWo.pure (PureOp.lenS tbok rfl rfl) rfl rfl ?_
  first | refine AWo.pure ((PureOp.neN (b := 32) rfl rfl).mono (v' := .bool true) (congrArg Value.bool (by simpa using hlb))) rfl rfl ?_ | refine AWo.pure ((PureOp.bin rfl rfl rfl).mono (v' := .bool true) (congrArg Value.bool (by simpa using hlb))) rfl rfl ?_
  refine AWo.nil trivial ?_
  refine AW.condT rfl ?_
  refine AW.seqR ?_
  refine AWo.pure ((PureOp.buildStruct [] pl50.choose_spec.1 zr50 (by decide) pl50.choose_spec.2 rfl rfl).mono (v' := .agg ((List.replicate 4 0).map (vi .u64)).toArray) (by rfl)) rfl rfl ?_
  refine AWo.storeAllN tbok rfl rfl rfl rfl (by first | (simp [*]; done) | rfl) (by first | (simp [*]; done) | rfl) (by first | exact oneM (fun _ => rfl) _ | rfl | (simp; done)) rfl ?_
  refine AWo.pure (PureOp.assign rfl) rfl rfl ?_
  refine AWo.nil trivial ?_
  refine AW.ret ?_
  refine thenA_ret ?_
  refine RetQ.gc [_, _] [] [.cell 2 50, .tmp 3] (.inl rfl) rfl (.val (RVal.cellAll tbok rfl rfl rfl rfl (by first | (simp [*]; done) | rfl)) (.tmp rfl .nil)) rfl (.pure (by first | rfl | exact pure_aggM flat_vi | exact pure_aggM flat_bool) (.cons rfl rfl .nil)) (OutL.flat rfl (by first | exact flatM flat_vi | exact flatM flat_bool | (simp [flatV, flat_vi]; done)) (by intro h; first | rfl | exact h.elim id fun h => absurd h.1 (by simp)) trivial) (by decide) rfl
end Go.Proofs.Ytiikffiembcboaa
