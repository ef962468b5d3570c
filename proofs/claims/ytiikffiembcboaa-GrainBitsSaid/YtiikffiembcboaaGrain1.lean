/- The shift register in plain Lean: its bits end, unless it is all zeros. -/
import Derived.KernelRfl
namespace Go.Proofs.Ytiikffiembcboaa
open Go

abbrev GS := List Bool × Nat
def gbit (s : GS) : Bool := (not ((not ((not ((not ((not ((s.1.getD s.2 false) == s.1.getD ((s.2 + 13) % 80) false)) == s.1.getD ((s.2 + 23) % 80) false)) == s.1.getD ((s.2 + 38) % 80) false)) == s.1.getD ((s.2 + 51) % 80) false)) == s.1.getD ((s.2 + 62) % 80) false))
def gst (s : GS) : GS := (s.1.set s.2 (gbit s), (s.2 + 1) % 80)
def GV (s : GS) : Prop := s.1.length = 80 ∧ s.2 < 80
def gw (s : GS) (j : Nat) : Bool := s.1.getD ((s.2 + j) % 80) false
def git : Nat → GS → GS
  | 0, s => s
  | n + 1, s => git n (gst s)

theorem GV.gst {s : GS} (h : GV s) : GV (gst s) := ⟨by simp [Proofs.Ytiikffiembcboaa.gst, h.1], Nat.mod_lt _ (by decide)⟩
theorem GV.git {s : GS} (h : GV s) : ∀ (n : Nat), GV (git n s) := by
  intro n
  induction n generalizing s with
  | zero => exact h
  | succ n ih => exact ih h.gst

theorem gbit_w {s : GS} (h : GV s) : gbit s = (gw s 0 ^^ gw s 13 ^^ gw s 23 ^^ gw s 38 ^^ gw s 51 ^^ gw s 62) := by
  have e : gw s 0 = s.1.getD s.2 false := by simp only [gw, Nat.add_zero, Nat.mod_eq_of_lt h.2]
  simp only [gbit, e]
  simp only [gw]
  generalize s.1.getD s.2 false = a
  generalize s.1.getD ((s.2 + 13) % 80) false = b
  generalize s.1.getD ((s.2 + 23) % 80) false = c
  generalize s.1.getD ((s.2 + 38) % 80) false = d
  generalize s.1.getD ((s.2 + 51) % 80) false = e
  generalize s.1.getD ((s.2 + 62) % 80) false = f
  cases a <;> cases b <;> cases c <;> cases d <;> cases e <;> cases f <;> rfl

theorem gw_gst {s : GS} (h : GV s) {j : Nat} (hj : j < 79) : gw (gst s) j = gw s (j + 1) := by
  simp only [gw, gst]
  have e : ((s.2 + 1) % 80 + j) % 80 = (s.2 + (j + 1)) % 80 := by omega
  rw [e, List.getD_eq_getElem?_getD, List.getD_eq_getElem?_getD, List.getElem?_set_ne]
  have := h.2
  omega

theorem gw_gst79 {s : GS} (h : GV s) : gw (gst s) 79 = gbit s := by
  simp only [gw, gst]
  have h2 := h.2
  have e : ((s.2 + 1) % 80 + 79) % 80 = s.2 := by omega
  rw [e, List.getD_eq_getElem?_getD, List.getElem?_set_self (by rw [h.1]; exact h2)]
  rfl

/-! ### sums of bits -/

def lin (m : Nat) (w : Nat → Bool) : Nat → Bool
  | 0 => false
  | n + 1 => lin m w n ^^ (m.testBit n && w n)

theorem lin_xor (m m' : Nat) (w : Nat → Bool) (n : Nat) : lin (m ^^^ m') w n = (lin m w n ^^ lin m' w n) := by
  induction n with
  | zero => rfl
  | succ n ih =>
    simp only [lin, ih, Nat.testBit_xor]
    generalize lin m w n = a
    generalize lin m' w n = b
    generalize m.testBit n = c
    generalize m'.testBit n = d
    generalize w n = e
    cases a <;> cases b <;> cases c <;> cases d <;> cases e <;> rfl

theorem lin_zero (w : Nat → Bool) (n : Nat) : lin 0 w n = false := by
  induction n with
  | zero => rfl
  | succ n ih => simp [lin, ih]

theorem lin_congr {m m' : Nat} {w w' : Nat → Bool} {n : Nat} (h : ∀ j, j < n → m.testBit j = m'.testBit j ∧ w j = w' j) : lin m w n = lin m' w' n := by
  induction n with
  | zero => rfl
  | succ n ih => rw [lin, lin, ih fun j hj => h j (by omega), (h n (by omega)).1, (h n (by omega)).2]

theorem lin_pow (w : Nat → Bool) (i n : Nat) : lin (2 ^ i) w n = (decide (i < n) && w i) := by
  induction n with
  | zero => rfl
  | succ n ih =>
    rw [lin, ih, Nat.testBit_two_pow]
    rcases Nat.lt_trichotomy i n with h | h | h
    · have h1 : ¬ i = n := by omega
      have h2 : i < n + 1 := by omega
      simp [h, h1, h2]
    · subst h; simp
    · have h1 : ¬ i = n := by omega
      have h2 : ¬ i < n := by omega
      have h3 : ¬ i < n + 1 := by omega
      simp [h1, h2, h3]

theorem lin_two (m : Nat) (w : Nat → Bool) (n : Nat) : lin (2 * m) w (n + 1) = lin m (fun j => w (j + 1)) n := by
  induction n with
  | zero => simp [lin]
  | succ n ih =>
    rw [lin, ih, lin]
    congr 2
    rw [Nat.testBit_succ]
    congr 1
    omega

def gtap : Nat := 4613937818241073152 * 0 + (2 ^ 0 ^^^ 2 ^ 13 ^^^ 2 ^ 23 ^^^ 2 ^ 38 ^^^ 2 ^ 51 ^^^ 2 ^ 62)
def gL (m : Nat) (s : GS) : Bool := lin m (gw s) 80

theorem gL_tap {s : GS} (h : GV s) : gbit s = gL gtap s := by
  rw [gbit_w h]
  simp only [gL, gtap, Nat.mul_zero, Nat.zero_add, lin_xor, lin_pow]
  simp

def gsh (m : Nat) : Nat := (2 * (m % 604462909807314587353088)) ^^^ (if m.testBit 79 then gtap else 0)

theorem gL_sh {s : GS} (h : GV s) (m : Nat) : gL m (gst s) = gL (gsh m) s := by
  have h1 : gL m (gst s) = (lin m (fun j => gw s (j + 1)) 79 ^^ (m.testBit 79 && gbit s)) := by
    rw [gL, lin, gw_gst79 h, lin_congr (n := 79) fun j hj => ⟨rfl, gw_gst h hj⟩]
  rw [h1, gL, gsh, lin_xor, lin_two]
  have h2 : lin m (fun j => gw s (j + 1)) 79 = lin (m % 604462909807314587353088) (fun j => gw s (j + 1)) 79 := lin_congr fun j hj => ⟨by
    rw [show (604462909807314587353088 : Nat) = 2 ^ 79 by decide, Nat.testBit_mod_two_pow]
    simp [hj], rfl⟩
  have h3 : (m.testBit 79 && gbit s) = lin (if m.testBit 79 = true then gtap else 0) (gw s) 80 := by
    cases m.testBit 79 with
    | true => rw [Bool.true_and, if_pos rfl]; exact gL_tap h
    | false => rw [Bool.false_and, if_neg (by decide), lin_zero]
  rw [← h2, h3]

theorem gL_xor (m m' : Nat) (s : GS) : gL (m ^^^ m') s = (gL m s ^^ gL m' s) := lin_xor m m' _ 80

theorem git_two (j : Nat) (s : GS) : git (2 * (j + 1)) s = git (2 * j) (gst (gst s)) := rfl

theorem git_gst (n : Nat) (s : GS) : git n (gst s) = gst (git n s) := by
  induction n generalizing s with
  | zero => rfl
  | succ n ih => exact ih (gst s)

def gcomb (c m : Nat) : Nat → Nat
  | 0 => 0
  | n + 1 => (if c % 2 = 1 then m else 0) ^^^ gcomb (c / 2) (gsh (gsh m)) n

theorem gcomb_false {s : GS} (h : GV s) : ∀ (n c m : Nat), (∀ j, j < n → gL m (git (2 * j) s) = false) → gL (gcomb c m n) s = false := by
  intro n
  induction n with
  | zero => intro c m _; exact lin_zero _ _
  | succ n ih =>
    intro c m hj
    rw [gcomb, gL_xor, ih (c / 2) (gsh (gsh m)) fun j hj' => ?_, Bool.xor_false]
    · split
      · exact hj 0 (by omega)
      · exact lin_zero _ _
    · have h1 := h.git (2 * j)
      rw [← gL_sh h1, ← gL_sh h1.gst, ← git_gst, ← git_gst]
      exact hj (j + 1) (by omega)

def gcs : List Nat := [906780844837745629076032, 250779265704994904930841, 604631256123318728660097, 501558531409989809861682, 332078693915172014339, 1003117062819979619723364, 664157387830344028678, 797312915459823564746953, 1328314775660688057356, 385695397367474600001939, 2656629551321376114712, 771390794734949200003878, 5313259102642752229424, 333851155917725853754957, 10626518205285504458848, 667702311835451707509914, 21253036410571008917696, 126474194621780740323637, 42506072821142017835392, 252948389243561480647274, 85012145642284035670784, 505896778487122961294548, 170024291284568071341568, 1011793556974245922589096, 340048582569136142683136, 814656684899918926295889, 680097165138272285366272, 420382940751264933693091, 151263896724372024463361, 840765881502529867386182, 302527793448744048926722, 472610552824374304258701, 605055586897488097853444, 945221105648748608517402, 1180740242253893640201, 681521001116811786504757, 2361480484507787280402, 154120792052938125718635, 4722960969015574560804, 308241584105876251437270, 9445921938031149121608, 616483168211752502874540, 18891843876062298243216, 24045130746968958403417, 37783687752124596486432, 48090261493937916806834, 75567375504249192972864, 96180522987875833613668, 151134751008498385945728, 192361045975751667227336, 302269502016996771891456, 384722091951503334454672, 604539004033993543782912, 769444183903006668909344, 147574515814541296641, 329957934253840808343105, 295149031629082593282, 659915868507681616686210, 590298063258165186564, 110910526835227541895429, 1180596126516330373128, 221821053670455083790858, 2361192253032660746256, 443642107340910167581716, 4722384506065321492512, 887284214681820335163432, 9444769012130642985024, 565647219183504995627089, 18889538024261285970048, 1131294438367009991254178, 37779076048522571940096, 1053667671056934162587973, 75558152097045143880192, 898404913064745650479755, 151116304194090287760384, 587879392576768998892823, 302232608388180575520768, 1175758785153537997785646, 604465216776361151041536, 1142596360126940304094301]

theorem gcs_ok : ((List.range 80).all fun i => gcomb (gcs.getD i 0) gtap 80 == 2 ^ i) = true := by kernel_rfl

def GZ (s : GS) : Prop := ∀ i, i < 80 → gw s i = false

theorem gz_of {s : GS} (h : GV s) (h0 : ∀ j, j < 80 → gbit (git (2 * j) s) = false) : GZ s := by
  intro i hi
  have h1 := List.all_eq_true.1 gcs_ok i (List.mem_range.2 hi)
  have h2 := gcomb_false h 80 (gcs.getD i 0) gtap fun j hj => by rw [← gL_tap (h.git _)]; exact h0 j hj
  rw [eq_of_beq h1, gL, lin_pow] at h2
  simpa [hi] using h2

theorem gz_back {s : GS} (h : GV s) (hz : GZ (gst s)) : GZ s := by
  have h1 : ∀ i, i < 79 → gw s (i + 1) = false := fun i hi => by rw [← gw_gst h hi]; exact hz i (by omega)
  intro i hi
  rcases Nat.eq_zero_or_pos i with h0 | h0
  · subst h0
    have h2 := hz 79 (by decide)
    rw [gw_gst79 h, gbit_w h, h1 12 (by decide), h1 22 (by decide), h1 37 (by decide), h1 50 (by decide), h1 61 (by decide)] at h2
    simpa using h2
  · have := h1 (i - 1) (by omega)
    rwa [Nat.sub_add_cancel h0] at this

/-! ### the bits that are given -/

def gN : Nat → GS → Option (GS × Bool)
  | 0, _ => none
  | k + 1, s => if gbit s then some (gst (gst s), gbit (gst s)) else gN k (gst (gst s))

theorem gN_none {k : Nat} : ∀ {s : GS}, gN k s = none → ∀ j, j < k → gbit (git (2 * j) s) = false := by
  induction k with
  | zero => intro s _ j hj; omega
  | succ k ih =>
    intro s h j hj
    simp only [gN] at h
    split at h
    · cases h
    · rename_i hb
      cases j with
      | zero => show gbit s = false; simpa using hb
      | succ j => exact ih h j (by omega)

theorem gN_good {k : Nat} : ∀ {s : GS} {p : GS × Bool}, GV s → ¬ GZ s → gN k s = some p → GV p.1 ∧ ¬ GZ p.1 := by
  induction k with
  | zero => intro s p _ _ h; cases h
  | succ k ih =>
    intro s p hv hz h
    simp only [gN] at h
    have h1 : ¬ GZ (gst (gst s)) := fun e => hz (gz_back hv (gz_back hv.gst e))
    split at h
    · cases h; exact ⟨hv.gst.gst, h1⟩
    · exact ih hv.gst.gst h1 h

def gnx (s : GS) : GS × Bool := (gN 80 s).getD (s, false)

def GG (s : GS) : Prop := GV s ∧ ¬ GZ s

theorem gnx_eq {s : GS} (h : GG s) : gN 80 s = some (gnx s) := by
  cases hn : gN 80 s with
  | none => exact absurd (gz_of h.1 (gN_none hn)) h.2
  | some p => simp [gnx, hn]

theorem GG.nx {s : GS} (h : GG s) : GG (gnx s).1 := gN_good h.1 h.2 (gnx_eq h)

/-- a number's bits -/
def gpre : Nat → GS → Nat × GS
  | 0, s => (0, s)
  | i + 1, s => (if (gnx (gpre i s).2).2 then (gpre i s).1 * 2 % 18446744073709551616 ||| 1 else (gpre i s).1 * 2 % 18446744073709551616, (gnx (gpre i s).2).1)

theorem GG.pre {s : GS} (h : GG s) (i : Nat) : GG (gpre i s).2 := by
  induction i with
  | zero => exact h
  | succ i ih => exact ih.nx

theorem gpre_step {x : Nat} (b : Bool) {i : Nat} (hx : x < 2 ^ i) (hi : i < 64) : (if b then x * 2 % 18446744073709551616 ||| 1 else x * 2 % 18446744073709551616) = 2 * x + b.toNat := by
  have h1 : 2 ^ i ≤ 2 ^ 63 := Nat.pow_le_pow_right (by decide) (by omega)
  have h2 : (2 : Nat) ^ 63 = 9223372036854775808 := by decide
  rw [Nat.mod_eq_of_lt (by omega)]
  cases b with
  | true =>
    have h3 := Nat.two_pow_add_eq_or_of_lt (i := 1) (b := 1) (by decide) x
    simp only [if_true, Bool.toNat_true]
    rw [Nat.mul_comm x 2]
    simpa using h3.symm
  | false => simp [Nat.mul_comm]

theorem gpre_lt (s : GS) {i : Nat} (hi : i ≤ 64) : (gpre i s).1 < 2 ^ i := by
  induction i with
  | zero => simp [gpre]
  | succ i ih =>
    have h := ih (by omega)
    simp only [gpre]
    rw [gpre_step _ h (by omega), Nat.pow_succ]
    have : ((gnx (gpre i s).2).2).toNat ≤ 1 := by cases (gnx (gpre i s).2).2 <;> decide
    omega

theorem gpre_add2 (s : GS) (i j : Nat) : (gpre (i + j) s).2 = (gpre j (gpre i s).2).2 := by
  induction j with
  | zero => rfl
  | succ j ih =>
    rw [show i + (j + 1) = i + j + 1 from rfl]
    simp only [gpre, ih]

theorem gpre_add1 (s : GS) (i j : Nat) (h : i + j ≤ 64) : (gpre (i + j) s).1 = 2 ^ j * (gpre i s).1 + (gpre j (gpre i s).2).1 := by
  induction j with
  | zero => simp [gpre]
  | succ j ih =>
    have ih := ih (by omega)
    rw [show i + (j + 1) = i + j + 1 from rfl]
    simp only [gpre]
    rw [gpre_step _ (gpre_lt s (by omega : i + j ≤ 64)) (by omega), gpre_step _ (gpre_lt _ (by omega : j ≤ 64)) (by omega), ih, gpre_add2, Nat.pow_succ]
    rw [Nat.mul_add, Nat.mul_comm (2 ^ j) 2, Nat.mul_assoc, Nat.add_assoc]

/-- in pieces -/
theorem gpre_pieces (s : GS) {n k : Nat} (hn : n ≤ 64) (hk : k ≤ n) : (if n - k < 64 then (gpre (n - k) (gpre k s).2).1 ||| (gpre k s).1 * 2 ^ (n - k) % 18446744073709551616 else (gpre (n - k) (gpre k s).2).1) = (gpre n s).1 := by
  have h := gpre_add1 s k (n - k) (by omega)
  rw [show k + (n - k) = n by omega] at h
  have h1 := gpre_lt (gpre k s).2 (show n - k ≤ 64 by omega)
  have h2 := gpre_lt s hn
  have h3 : 2 ^ n ≤ 2 ^ 64 := Nat.pow_le_pow_right (by decide) hn
  have h4 : (2 : Nat) ^ 64 = 18446744073709551616 := by decide
  split
  · rw [Nat.mul_comm (gpre k s).1, Nat.mod_eq_of_lt (by omega), Nat.or_comm, ← Nat.two_pow_add_eq_or_of_lt h1, h]
  · have : k = 0 := by omega
    subst this
    rw [h]; simp [gpre]

theorem gpre_pieces2 (s : GS) {n k : Nat} (hk : k ≤ n) : (gpre (n - k) (gpre k s).2).2 = (gpre n s).2 := by
  rw [← gpre_add2, show k + (n - k) = n by omega]

end Go.Proofs.Ytiikffiembcboaa
