/- The machine's words: sums with carry, products. -/
import Derived.Test.YtiikffiembcboaaTy
import Derived.Test.YtiikffiembcboaaSim22
import Derived.Test.YtiikffiembcboaaNum
import Derived.Laws.Externs
namespace Go.Proofs.Ytiikffiembcboaa
open Go Sim

theorem add64_run (x y c : Nat) (hc : c ≤ 1) (w : World) : (callFunc 127 #[vi .u64 x, vi .u64 y, vi .u64 c]).run Try.prog w =
   .ok (.value (.tuple #[vi .u64 ((x + y + c) % 18446744073709551616), vi .u64 ((x + y + c) / 18446744073709551616)])) w := by
  simp only [vi]
  rw [run_callFunc_extern (fn := Try.f127) (by kernel_rfl) (by kernel_rfl) (by kernel_rfl) (by kernel_rfl) (e := add64Entry) (by kernel_rfl), run_add64 x y c (by omega) (by omega) (by omega) (by omega)]
  simp only [Result.andThen]
  congr 5 <;> omega

theorem add64 {aops : Array Operand} {tys : Array TypeId} {E : Env} {x y c : Nat} {fop : Operand} (hf : aev E fop = some (.func (.func 127) #[] #[])) (hv : aops.toList.map (aev E) = [some (vi .u64 x), some (vi .u64 y), some (vi .u64 c)]) (hc : c ≤ 1) :
    PureOp Try.prog (.call ⟨.value fop, aops, tys⟩) E (.tuple #[vi .u64 ((x + y + c) % 18446744073709551616), vi .u64 ((x + y + c) / 18446744073709551616)]) :=
  PureOp.extern (f := 127) (vals := [vi .u64 x, vi .u64 y, vi .u64 c]) hf hv rfl (.inr rfl) (add64_run x y c hc)

def sub64E : Array Value → Sem Value := fun args => do
  let (x, y, b) ← Extern.MathBitsCarry.three "Sub64" args
  pure (Extern.MathBitsCarry.pair ((x + Extern.MathBitsCarry.m64 - y - b) % Extern.MathBitsCarry.m64) (if x < y + b then 1 else 0))

theorem sub64_run (x y c : Nat) (hc : c ≤ 1) (w : World) : (callFunc 129 #[vi .u64 x, vi .u64 y, vi .u64 c]).run Try.prog w =
   .ok (.value (.tuple #[vi .u64 ((x + 18446744073709551616 - y - c) % 18446744073709551616), vi .u64 (if x < y + c then 1 else 0)])) w := by
  simp only [vi]
  rw [run_callFunc_extern (fn := Try.f129) (by kernel_rfl) (by kernel_rfl) (by kernel_rfl) (by kernel_rfl) (e := sub64E) (by kernel_rfl)]
  have : c = 0 ∨ c = 1 := by omega
  rcases this with rfl | rfl <;> rfl

theorem sub64 {aops : Array Operand} {tys : Array TypeId} {E : Env} {x y c : Nat} {fop : Operand} (hf : aev E fop = some (.func (.func 129) #[] #[])) (hv : aops.toList.map (aev E) = [some (vi .u64 x), some (vi .u64 y), some (vi .u64 c)]) (hc : c ≤ 1) :
    PureOp Try.prog (.call ⟨.value fop, aops, tys⟩) E (.tuple #[vi .u64 ((x + 18446744073709551616 - y - c) % 18446744073709551616), vi .u64 (if x < y + c then 1 else 0)]) :=
  PureOp.extern (f := 129) (vals := [vi .u64 x, vi .u64 y, vi .u64 c]) hf hv rfl (.inr rfl) (sub64_run x y c hc)

theorem and32 {P : Program} {E : Env} {t t' : TypeId} {x y : Operand} {a : Nat} (h1 : aev E x = some (vi .u64 a)) (h2 : aev E y = some (vi .u64 4294967295)) (ha : a < 18446744073709551616) : PureOp P (.binOp .and t x y t') E (vi .u64 (a % 4294967296)) :=
  (PureOp.andN 18446744073709551616 h1 h2 (by decide) (by decide) ha (by decide)).mono (by
    rw [show (4294967295 : Nat) = 2 ^ 32 - 1 by decide, Nat.and_two_pow_sub_one_eq_mod])

theorem prod_le (x y : Nat) (hx : x < 18446744073709551616) (hy : y < 18446744073709551616) : x % 4294967296 * (y % 4294967296) ≤ 18446744065119617025 ∧ x / 4294967296 * (y % 4294967296) ≤ 18446744065119617025 ∧
    x % 4294967296 * (y / 4294967296) ≤ 18446744065119617025 ∧ x / 4294967296 * (y / 4294967296) ≤ 18446744065119617025 ∧
    x * y = x / 4294967296 * (y / 4294967296) * 18446744073709551616 + x / 4294967296 * (y % 4294967296) * 4294967296 + x % 4294967296 * (y / 4294967296) * 4294967296 + x % 4294967296 * (y % 4294967296) := by
  have h1 : x % 4294967296 ≤ 4294967295 := by omega
  have h2 : x / 4294967296 ≤ 4294967295 := by omega
  have h3 : y % 4294967296 ≤ 4294967295 := by omega
  have h4 : y / 4294967296 ≤ 4294967295 := by omega
  refine ⟨Nat.mul_le_mul h1 h3, Nat.mul_le_mul h2 h3, Nat.mul_le_mul h1 h4, Nat.mul_le_mul h2 h4, ?_⟩
  have e1 : x = x / 4294967296 * 4294967296 + x % 4294967296 := by omega
  have e2 : y = y / 4294967296 * 4294967296 + y % 4294967296 := by omega
  conv => lhs; rw [e1, e2]
  generalize x / 4294967296 = a
  generalize x % 4294967296 = b
  generalize y / 4294967296 = c
  generalize y % 4294967296 = d
  grind

set_option maxRecDepth 10000 in
theorem mul64 {x y : Nat} (hx : x < 18446744073709551616) (hy : y < 18446744073709551616) : GC Try.prog 146 [vi .u64 (x), vi .u64 (y)] [] [vi .u64 (x * y / 18446744073709551616), vi .u64 (x * y % 18446744073709551616)] [] := by
  refine GC.intro Try.func146 rfl (by show 2 ≤ 51; decide) (by first | exact Nat.le_refl _ | decide | simp) ?_
  have h1 := prod_le x y hx hy
  obtain ⟨h1, h2, h3, h4, h5⟩ := h1
  refine AW.seqR ?_
  refine AWo.pure (PureOp.assign rfl) rfl rfl ?_
  refine AWo.pure (PureOp.assign rfl) rfl rfl ?_
  refine AWo.nil trivial ?_
  refine AW.seqR ?_
  refine AWo.pure (PureOp.move rfl) rfl rfl ?_
  refine AWo.pure (and32 rfl rfl hx) rfl rfl ?_
  refine AWo.pure (PureOp.assign rfl) rfl rfl ?_
  refine AWo.nil trivial ?_
  refine AW.seqR ?_
  refine AWo.pure (PureOp.move rfl) rfl rfl ?_
  first | refine AWo.pure ((PureOp.shrN (b := 32) 64 rfl rfl rfl (by first | decide | omega)).mono (v' := vi .u64 (x / 4294967296)) rfl) rfl rfl ?_ | refine AWo.pure ((PureOp.shr rfl rfl (by first | decide | omega)).mono (v' := vi .u64 (x / 4294967296)) rfl) rfl rfl ?_
  refine AWo.pure (PureOp.assign rfl) rfl rfl ?_
  refine AWo.nil trivial ?_
  refine AW.seqR ?_
  refine AWo.pure (PureOp.move rfl) rfl rfl ?_
  refine AWo.pure (and32 rfl rfl hy) rfl rfl ?_
  refine AWo.pure (PureOp.assign rfl) rfl rfl ?_
  refine AWo.nil trivial ?_
  refine AW.seqR ?_
  refine AWo.pure (PureOp.move rfl) rfl rfl ?_
  first | refine AWo.pure ((PureOp.shrN (b := 32) 64 rfl rfl rfl (by first | decide | omega)).mono (v' := vi .u64 (y / 4294967296)) rfl) rfl rfl ?_ | refine AWo.pure ((PureOp.shr rfl rfl (by first | decide | omega)).mono (v' := vi .u64 (y / 4294967296)) rfl) rfl rfl ?_
  refine AWo.pure (PureOp.assign rfl) rfl rfl ?_
  refine AWo.nil trivial ?_
  refine AW.seqR ?_
  refine AWo.pure (PureOp.move rfl) rfl rfl ?_
  refine AWo.pure (PureOp.move rfl) rfl rfl ?_
  first | refine AWo.pure ((PureOp.mulU 18446744073709551616 rfl rfl rfl rfl).mono (v' := vi .u64 ((x % 4294967296) * (y % 4294967296))) (by rw [Nat.mod_eq_of_lt (by omega)])) rfl rfl ?_ | refine AWo.pure ((PureOp.bin rfl rfl rfl).mono (v' := vi .u64 ((x % 4294967296) * (y % 4294967296))) (by rw [Nat.mod_eq_of_lt (by omega)])) rfl rfl ?_
  refine AWo.pure (PureOp.assign rfl) rfl rfl ?_
  refine AWo.nil trivial ?_
  refine AW.seqR ?_
  refine AWo.pure (PureOp.move rfl) rfl rfl ?_
  refine AWo.pure (PureOp.move rfl) rfl rfl ?_
  first | refine AWo.pure ((PureOp.mulU 18446744073709551616 rfl rfl rfl rfl).mono (v' := vi .u64 ((x / 4294967296) * (y % 4294967296))) (by rw [Nat.mod_eq_of_lt (by omega)])) rfl rfl ?_ | refine AWo.pure ((PureOp.bin rfl rfl rfl).mono (v' := vi .u64 ((x / 4294967296) * (y % 4294967296))) (by rw [Nat.mod_eq_of_lt (by omega)])) rfl rfl ?_
  refine AWo.pure (PureOp.move rfl) rfl rfl ?_
  first | refine AWo.pure ((PureOp.shrN (b := 32) 64 rfl rfl rfl (by first | decide | omega)).mono (v' := vi .u64 ((x % 4294967296) * (y % 4294967296) / 4294967296)) rfl) rfl rfl ?_ | refine AWo.pure ((PureOp.shr rfl rfl (by first | decide | omega)).mono (v' := vi .u64 ((x % 4294967296) * (y % 4294967296) / 4294967296)) rfl) rfl rfl ?_
  first | refine AWo.pure ((PureOp.addU 18446744073709551616 rfl rfl rfl rfl).mono (v' := vi .u64 ((x / 4294967296) * (y % 4294967296) + (x % 4294967296) * (y % 4294967296) / 4294967296)) (by rw [Nat.mod_eq_of_lt (by omega)])) rfl rfl ?_ | refine AWo.pure ((PureOp.bin rfl rfl rfl).mono (v' := vi .u64 ((x / 4294967296) * (y % 4294967296) + (x % 4294967296) * (y % 4294967296) / 4294967296)) (by rw [Nat.mod_eq_of_lt (by omega)])) rfl rfl ?_
  refine AWo.pure (PureOp.assign rfl) rfl rfl ?_
  refine AWo.nil trivial ?_
  refine AW.seqR ?_
  refine AWo.pure (PureOp.move rfl) rfl rfl ?_
  refine AWo.pure (and32 rfl rfl (by omega)) rfl rfl ?_
  refine AWo.pure (PureOp.assign rfl) rfl rfl ?_
  refine AWo.nil trivial ?_
  refine AW.seqR ?_
  refine AWo.pure (PureOp.move rfl) rfl rfl ?_
  first | refine AWo.pure ((PureOp.shrN (b := 32) 64 rfl rfl rfl (by first | decide | omega)).mono (v' := vi .u64 (((x / 4294967296) * (y % 4294967296) + (x % 4294967296) * (y % 4294967296) / 4294967296) / 4294967296)) rfl) rfl rfl ?_ | refine AWo.pure ((PureOp.shr rfl rfl (by first | decide | omega)).mono (v' := vi .u64 (((x / 4294967296) * (y % 4294967296) + (x % 4294967296) * (y % 4294967296) / 4294967296) / 4294967296)) rfl) rfl rfl ?_
  refine AWo.pure (PureOp.assign rfl) rfl rfl ?_
  refine AWo.nil trivial ?_
  refine AW.seqR ?_
  refine AWo.pure (PureOp.move rfl) rfl rfl ?_
  refine AWo.pure (PureOp.move rfl) rfl rfl ?_
  refine AWo.pure (PureOp.move rfl) rfl rfl ?_
  first | refine AWo.pure ((PureOp.mulU 18446744073709551616 rfl rfl rfl rfl).mono (v' := vi .u64 ((x % 4294967296) * (y / 4294967296))) (by rw [Nat.mod_eq_of_lt (by omega)])) rfl rfl ?_ | refine AWo.pure ((PureOp.bin rfl rfl rfl).mono (v' := vi .u64 ((x % 4294967296) * (y / 4294967296))) (by rw [Nat.mod_eq_of_lt (by omega)])) rfl rfl ?_
  first | refine AWo.pure ((PureOp.addU 18446744073709551616 rfl rfl rfl rfl).mono (v' := vi .u64 (((x / 4294967296) * (y % 4294967296) + (x % 4294967296) * (y % 4294967296) / 4294967296) % 4294967296 + (x % 4294967296) * (y / 4294967296))) (by rw [Nat.mod_eq_of_lt (by omega)])) rfl rfl ?_ | refine AWo.pure ((PureOp.bin rfl rfl rfl).mono (v' := vi .u64 (((x / 4294967296) * (y % 4294967296) + (x % 4294967296) * (y % 4294967296) / 4294967296) % 4294967296 + (x % 4294967296) * (y / 4294967296))) (by rw [Nat.mod_eq_of_lt (by omega)])) rfl rfl ?_
  refine AWo.pure (PureOp.assign rfl) rfl rfl ?_
  refine AWo.nil trivial ?_
  refine AW.seqR ?_
  refine AWo.pure (PureOp.move rfl) rfl rfl ?_
  refine AWo.pure (PureOp.move rfl) rfl rfl ?_
  first | refine AWo.pure ((PureOp.mulU 18446744073709551616 rfl rfl rfl rfl).mono (v' := vi .u64 ((x / 4294967296) * (y / 4294967296))) (by rw [Nat.mod_eq_of_lt (by omega)])) rfl rfl ?_ | refine AWo.pure ((PureOp.bin rfl rfl rfl).mono (v' := vi .u64 ((x / 4294967296) * (y / 4294967296))) (by rw [Nat.mod_eq_of_lt (by omega)])) rfl rfl ?_
  refine AWo.pure (PureOp.move rfl) rfl rfl ?_
  first | refine AWo.pure ((PureOp.addU 18446744073709551616 rfl rfl rfl rfl).mono (v' := vi .u64 ((x / 4294967296) * (y / 4294967296) + ((x / 4294967296) * (y % 4294967296) + (x % 4294967296) * (y % 4294967296) / 4294967296) / 4294967296)) (by rw [Nat.mod_eq_of_lt (by omega)])) rfl rfl ?_ | refine AWo.pure ((PureOp.bin rfl rfl rfl).mono (v' := vi .u64 ((x / 4294967296) * (y / 4294967296) + ((x / 4294967296) * (y % 4294967296) + (x % 4294967296) * (y % 4294967296) / 4294967296) / 4294967296)) (by rw [Nat.mod_eq_of_lt (by omega)])) rfl rfl ?_
  refine AWo.pure (PureOp.move rfl) rfl rfl ?_
  first | refine AWo.pure ((PureOp.shrN (b := 32) 64 rfl rfl rfl (by first | decide | omega)).mono (v' := vi .u64 ((((x / 4294967296) * (y % 4294967296) + (x % 4294967296) * (y % 4294967296) / 4294967296) % 4294967296 + (x % 4294967296) * (y / 4294967296)) / 4294967296)) rfl) rfl rfl ?_ | refine AWo.pure ((PureOp.shr rfl rfl (by first | decide | omega)).mono (v' := vi .u64 ((((x / 4294967296) * (y % 4294967296) + (x % 4294967296) * (y % 4294967296) / 4294967296) % 4294967296 + (x % 4294967296) * (y / 4294967296)) / 4294967296)) rfl) rfl rfl ?_
  first | refine AWo.pure ((PureOp.addU 18446744073709551616 rfl rfl rfl rfl).mono (v' := vi .u64 (x * y / 18446744073709551616)) (by rw [Nat.mod_eq_of_lt (by omega)]; congr 1; omega)) rfl rfl ?_ | refine AWo.pure ((PureOp.bin rfl rfl rfl).mono (v' := vi .u64 (x * y / 18446744073709551616)) (by rw [Nat.mod_eq_of_lt (by omega)]; congr 1; omega)) rfl rfl ?_
  refine AWo.pure (PureOp.assign rfl) rfl rfl ?_
  refine AWo.nil trivial ?_
  refine AW.seqR ?_
  refine AWo.pure (PureOp.move rfl) rfl rfl ?_
  refine AWo.pure (PureOp.move rfl) rfl rfl ?_
  first | refine AWo.pure (PureOp.mulU 18446744073709551616 rfl rfl rfl rfl) rfl rfl ?_ | refine AWo.pure (PureOp.bin rfl rfl rfl) rfl rfl ?_
  refine AWo.pure (PureOp.assign rfl) rfl rfl ?_
  refine AWo.nil trivial ?_
  refine AW.ret ?_
  refine RetQ.gc [_, _] [] [.tmp 4, .tmp 5] (.inl rfl) rfl (.tmp rfl (.tmp rfl .nil)) rfl (.cons rfl rfl (.cons rfl rfl .nil)) trivial (by decide) rfl
end Go.Proofs.Ytiikffiembcboaa
