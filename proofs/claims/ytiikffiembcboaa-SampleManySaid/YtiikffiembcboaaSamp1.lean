/- Samples: blocks that go round, and the elements that they give. -/
import Derived.Test.YtiikffiembcboaaField3
import Derived.Test.YtiikffiembcboaaSim26
namespace Go.Proofs.Ytiikffiembcboaa
open Go Sim

def pdig : List Nat := [4026531841, 1138881939, 2042196113, 674490440, 2172737629, 3092268470, 3778125865, 811880050]
theorem pdig_bd : bd 4294967296 pdig := by intro x hx; simp only [pdig, List.mem_cons, List.not_mem_nil, or_false] at hx; omega
theorem pdig_num : num 4294967296 pdig = 21888242871839275222246405745257275088548364400416034343698204186575808495617 := by kernel_rfl

def maskL (b : List Nat) : List Nat := b.set 31 (b.getD 31 0 % 64)
theorem maskL_bd {b : List Nat} (h : bd 256 b) : bd 256 (maskL b) := bd_set h (by omega)
theorem maskL_len {b : List Nat} : (maskL b).length = b.length := by simp [maskL]
theorem and63 (x : Nat) : x &&& 63 = x % 64 := Nat.and_two_pow_sub_one_eq_mod x 6

def blk (L : List (List Nat)) (c : Nat) : List Nat := L.getD (c % L.length) []
def sval (L : List (List Nat)) (c : Nat) : Nat := num 256 (maskL (blk L c))
def okL (L : List (List Nat)) : Prop := ∀ x ∈ L, x.length = 32 ∧ bd 256 x

theorem blk_mem {L : List (List Nat)} (h0 : 0 < L.length) (c : Nat) : blk L c ∈ L := by
  have := Nat.mod_lt c h0
  rw [blk, List.getD_eq_getElem?_getD, List.getElem?_eq_getElem this]
  exact List.getElem_mem _
theorem blk_len {L : List (List Nat)} (h : okL L) (h0 : 0 < L.length) (c : Nat) : (blk L c).length = 32 := (h _ (blk_mem h0 c)).1
theorem blk_bd {L : List (List Nat)} (h : okL L) (h0 : 0 < L.length) (c : Nat) : bd 256 (blk L c) := (h _ (blk_mem h0 c)).2
theorem blk_at {L : List (List Nat)} {c : Nat} (h : okL L) (hin : c % L.length < L.length) : ((L.flatten.map (vi .u8)).drop (0 + c % L.length * 32)).take 32 = (blk L c).map (vi .u8) := by
  rw [Nat.zero_add]; exact flat_take_map (fun x hx => (h x hx).1) hin
theorem blk_room {L : List (List Nat)} {c : Nat} (h : okL L) (hin : c % L.length < L.length) : 0 + c % L.length * 32 + 32 ≤ (L.flatten.map (vi .u8)).length := by
  rw [List.length_map, flat_len (n := 32) fun x hx => (h x hx).1]
  omega

def fbE (v : Nat) : List Nat := if v < 21888242871839275222246405745257275088548364400416034343698204186575808495617 then fel v else List.replicate 4 0
def fbC (v : Nat) : Int := if v < 21888242871839275222246405745257275088548364400416034343698204186575808495617 then 0 else 4
theorem fbE_len (v : Nat) : (fbE v).length = 4 := by
  simp only [fbE]; split
  · exact fel_len v
  · rfl
theorem fbC_zero {v : Nat} (h : fbC v = 0) : v < 21888242871839275222246405745257275088548364400416034343698204186575808495617 := by
  simp only [fbC] at h; split at h
  · assumption
  · cases h
theorem fbC_ne {v : Nat} (h : ¬ fbC v = 0) : 21888242871839275222246405745257275088548364400416034343698204186575808495617 ≤ v := by
  simp only [fbC] at h; split at h
  · exact absurd rfl h
  · omega

def sfirst (p : Nat → Bool) : Nat → Nat → Option Nat
  | 0, _ => none
  | n + 1, i => if p i then some i else sfirst p n (i + 1)

theorem sfirst_hit {p : Nat → Bool} : ∀ {n s i : Nat}, s ≤ i → i < s + n → (∀ j, s ≤ j → j < i → p j = false) → p i = true → sfirst p n s = some i := by
  intro n
  induction n with
  | zero => intro s i h1 h2; omega
  | succ n ih =>
    intro s i h1 h2 h3 h4
    simp only [sfirst]
    rcases Nat.lt_or_ge s i with h | h
    · rw [h3 s (Nat.le_refl _) h]
      exact ih (by omega) (by omega) (fun j hj => h3 j (by omega)) h4
    · obtain rfl : s = i := by omega
      rw [h4]; rfl

theorem sfirst_miss {p : Nat → Bool} : ∀ {n s : Nat}, (∀ j, s ≤ j → j < s + n → p j = false) → sfirst p n s = none := by
  intro n
  induction n with
  | zero => intro s _; rfl
  | succ n ih =>
    intro s h
    simp only [sfirst]
    rw [h s (Nat.le_refl _) (by omega)]
    exact ih fun j h1 h2 => h j (by omega) (by omega)

def sI (L : List (List Nat)) (c : Nat) : Option Nat := sfirst (fun i => decide (sval L (c + i) < 21888242871839275222246405745257275088548364400416034343698204186575808495617)) 64 0
def sE (L : List (List Nat)) (c : Nat) : List Nat := match sI L c with
  | some i => fbE (sval L (c + i))
  | none => List.replicate 4 0
def sK (L : List (List Nat)) (c : Nat) : Nat := match sI L c with
  | some i => i + 1
  | none => 64
def sC (L : List (List Nat)) (c : Nat) : Int := match sI L c with
  | some _ => 0
  | none => 11

theorem s_hit {L : List (List Nat)} {c i : Nat} (hi : i < 64) (hbad : ∀ j, j < i → 21888242871839275222246405745257275088548364400416034343698204186575808495617 ≤ sval L (c + j)) (hlt : sval L (c + i) < 21888242871839275222246405745257275088548364400416034343698204186575808495617) : sE L c = fbE (sval L (c + i)) ∧ sK L c = i + 1 ∧ sC L c = 0 := by
  have : sI L c = some i := sfirst_hit (Nat.zero_le _) (by omega) (fun j _ hj => decide_eq_false (by have := hbad j hj; omega)) (decide_eq_true hlt)
  simp only [sE, sK, sC, this, and_self]

theorem s_miss {L : List (List Nat)} {c : Nat} (hbad : ∀ j, j < 64 → 21888242871839275222246405745257275088548364400416034343698204186575808495617 ≤ sval L (c + j)) : sE L c = List.replicate 4 0 ∧ sK L c = 64 ∧ sC L c = 11 := by
  have : sI L c = none := sfirst_miss (fun j _ hj => decide_eq_false (by have := hbad j (by omega); omega))
  simp only [sE, sK, sC, this, and_self]

theorem ofb_ctr32 {a : List Nat} (h : bd 256 a) (hl : a.length = 32) : GC Try.prog 75 [.slice (some ⟨0, 0, none⟩) 32 0] [⟨a.map (vi .u8), false, 1⟩] [.slice (some ⟨1, 0, none⟩) (D 4294967296 (num 256 a)).length 0] [⟨a.map (vi .u8), false, 1⟩, ⟨(D 4294967296 (num 256 a)).map (vi .u64), true, 1⟩] := by
  have := ofb_ctr h (by omega)
  rw [hl] at this
  exact this

theorem fb32_ctr {b : List Nat} (hb : bd 256 b) (hlb : b.length = 32) : GC Try.prog 96 [.slice (some ⟨0, 0, none⟩) 32 0] [⟨b.map (vi .u8), false, 1⟩] [.agg ((fbE (num 256 b)).map (vi .u64)).toArray, .int .i64 (fbC (num 256 b))] [⟨b.map (vi .u8), false, 1⟩] := by
  rcases Nat.lt_or_ge (num 256 b) 21888242871839275222246405745257275088548364400416034343698204186575808495617 with h | h
  · have := fbok_ctr hb hlb h
    rw [hlb] at this
    simp only [fbE, fbC, if_pos h]
    exact this
  · have := fbcanon_ctr hb hlb h
    rw [hlb] at this
    simp only [fbE, fbC, if_neg (Nat.not_lt.2 h)]
    exact this

theorem sp_zero : fbE (num 256 (maskL (List.replicate 32 0))) = List.replicate 4 0 := by kernel_rfl

set_option maxRecDepth 10000 in
theorem p02_ctr : GC Try.prog 36 [] [] [.slice (some ⟨0, 0, none⟩) pdig.length 0] [⟨pdig.map (vi .u64), true, 1⟩] := by
  refine GC.intro Try.func36 rfl (by show 0 ≤ 2; decide) (by first | exact Nat.le_refl _ | decide | simp) ?_
  refine AW.seqR ?_
  refine AWo.pure (PureOp.assign rfl) rfl rfl ?_
  refine AWo.nil trivial ?_
  refine AW.seqR ?_
  refine AWo.buildSlice tbok 2000 [(0, vi .u64 4026531841), (1, vi .u64 1138881939), (2, vi .u64 2042196113), (3, vi .u64 674490440), (4, vi .u64 2172737629), (5, vi .u64 3092268470), (6, vi .u64 3778125865), (7, vi .u64 811880050)] (out := [vi .u64 4026531841, vi .u64 1138881939, vi .u64 2042196113, vi .u64 674490440, vi .u64 2172737629, vi .u64 3092268470, vi .u64 3778125865, vi .u64 811880050]) rfl rfl (by decide) rfl rfl rfl (by decide) rfl rfl rfl rfl rfl ?_
  refine AWo.pure (PureOp.assign rfl) rfl rfl ?_
  refine AWo.nil trivial ?_
  refine AW.ret ?_
  refine RetQ.gc [_] [2000] [.tmp 0] (.inl rfl) rfl (.tmp rfl .nil) rfl (.cons rfl rfl .nil) (OutL.flat rfl (by first | exact flatM flat_vi | exact flatM flat_bool | (simp [flatV, flat_vi]; done)) (by intro h; first | rfl | exact h.elim id fun h => absurd h.1 (by simp)) trivial) (by decide) rfl

set_option maxRecDepth 10000 in
theorem number16_ctr {b : List Nat} (hb : bd 256 b) (hlb : b.length = 32) : GC Try.prog 35 [.slice (some ⟨0, 0, none⟩) 32 0] [⟨b.map (vi .u8), false, 1⟩] [.slice (some ⟨1, 0, none⟩) (D 4294967296 (num 256 (maskL b))).length 0] [⟨b.map (vi .u8), false, 1⟩, ⟨(D 4294967296 (num 256 (maskL b))).map (vi .u64), true, 1⟩] := by
  refine GC.intro Try.func35 rfl (by show 1 ≤ 15; decide) (by first | exact Nat.le_refl _ | decide | simp) ?_
  have hlm : (maskL b).length = 32 := by simp [maskL, hlb]
  refine AW.seqR ?_
  refine AWo.pure (PureOp.assign rfl) rfl rfl ?_
  refine AWo.nil trivial ?_
  refine AW.seqR ?_
  refine AWo.buildSlice tbok 5000 [] (out := []) rfl rfl (by decide) rfl rfl rfl (by decide) rfl rfl rfl rfl rfl ?_
  refine AWo.pure (PureOp.move rfl) rfl rfl ?_
  refine AWo.append tbok (all := b.map (vi .u8)) (news := b.map (vi .u8)) 7000 rfl rfl rfl rfl rfl (by show List.take _ (List.drop 0 _) = _; rw [List.drop_zero]; exact List.take_of_length_le (by simp [hlb])) (by first | decide | (simp; done) | (simp; omega)) (by decide) rfl rfl rfl (by decide) rfl rfl rfl (by first | decide | omega) (by first | decide | omega) (by first | exact oneM (fun _ => rfl) _ | (simp; done)) rfl rfl rfl ?_
  refine AWo.pure (PureOp.assign rfl) rfl rfl ?_
  refine AWo.nil trivial ?_
  refine AW.seqR ?_
  refine AWo.pure (PureOp.move rfl) rfl rfl ?_
  refine AWo.pure (PureOp.move rfl) rfl rfl ?_
  first | refine AWo.pure (PureOp.idx1 (j := 31) tbok rfl rfl rfl rfl (by first | decide | omega)) rfl rfl ?_ | refine AWo.pure (PureOp.idx (j := 31) tbok rfl rfl rfl rfl (by first | decide | omega)) rfl rfl ?_
  refine AWo.loadM tbok 0 rfl rfl rfl (by omega) rfl rfl ?_
  first | refine AWo.pure ((PureOp.remN (b := 64) rfl rfl (by first | decide | omega)).mono (v' := vi .u8 (b.getD 31 0 % 64)) rfl) rfl rfl ?_ | refine AWo.pure ((PureOp.rem rfl rfl (by first | decide | omega)).mono (v' := vi .u8 (b.getD 31 0 % 64)) rfl) rfl rfl ?_
  first | refine AWo.pure (PureOp.idx1 (j := 31) tbok rfl rfl rfl rfl (by first | decide | omega)) rfl rfl ?_ | refine AWo.pure (PureOp.idx (j := 31) tbok rfl rfl rfl rfl (by first | decide | omega)) rfl rfl ?_
  refine AWo.storeM (f := (vi .u8)) (y := b.getD 31 0 % 64) tbok rfl rfl rfl rfl (by omega) rfl rfl ?_
  refine AWo.nil trivial ?_
  refine AW.seqR ?_
  refine AWo.pure (PureOp.move rfl) rfl rfl ?_
  refine AWo.callX (ofb_ctr32 (a := maskL b) (maskL_bd hb) hlm) bd75 [(7000, 0)] [15000] rfl (.cons rfl .nil) rfl (.cons rfl rfl .nil) (.flat rfl (by first | exact flatM flat_vi | exact flatM flat_bool | (simp [flatV, flat_vi]; done)) (by intro h; first | exact h | rfl) .nil) rfl (.keep rfl (.new (flat_map_ren (by first | exact flatM flat_vi | exact flatM flat_bool | (simp [flatV, flat_vi]; done))) (OkL.flat (by first | exact flatM flat_vi | exact flatM flat_bool | (simp [flatV, flat_vi]; done))) .nil)) (frC rfl frN) (by decide) (.cons rfl rfl .nil) rfl rfl rfl rfl ?_
  refine AWo.pure (PureOp.assign rfl) rfl rfl ?_
  refine AWo.nil trivial ?_
  refine AW.ret ?_
  refine RetQ.gc [_] [15000] [.tmp 2] (.inl rfl) rfl (.tmp rfl .nil) rfl (.cons rfl rfl .nil) (OutL.flat rfl (by first | exact flatM flat_vi | exact flatM flat_bool | (simp [flatV, flat_vi]; done)) (by intro h; first | rfl | exact h.elim id fun h => absurd h.1 (by simp)) (OutL.flat rfl (flatM flat_vi) (fun _ => rfl) trivial)) (by decide) rfl

set_option maxRecDepth 10000 in
theorem mask_ctr {b : List Nat} (hb : bd 256 b) (hlb : b.length = 32) : GC Try.prog 42 [.agg (b.map (vi .u8)).toArray] [] [.agg ((maskL b).map (vi .u8)).toArray] [] := by
  refine GC.intro Try.func42 rfl (by show 1 ≤ 8; decide) (by first | exact Nat.le_refl _ | decide | simp) ?_
  have hlm : (maskL b).length = 32 := by simp [maskL, hlb]
  refine AW.seqR ?_
  refine AWo.box 2000 1 (b.map (vi .u8)) rfl rfl rfl rfl rfl ?_
  refine AWo.alloc tbok 3000 1 ((List.replicate 32 0).map (vi .u8)) rfl rfl rfl rfl rfl rfl ?_
  refine AWo.nil trivial ?_
  refine AW.seqR ?_
  first | refine AWo.pure (PureOp.arr1 (j := 31) tbok rfl rfl rfl rfl (by first | decide | omega)) rfl rfl ?_ | refine AWo.pure (PureOp.arr (j := 31) tbok rfl rfl rfl rfl (by first | decide | omega)) rfl rfl ?_
  first | refine AWo.loadM tbok 0 rfl rfl rfl (by first | decide | omega) rfl rfl ?_ | refine AWo.load tbok rfl rfl rfl rfl rfl rfl ?_
  refine AWo.pure ((PureOp.andN 256 rfl rfl (by decide) (by decide) (bd_getD hb (by decide) 31) (by decide)).mono (v' := vi .u8 (b.getD 31 0 % 64)) (congrArg (vi .u8) (and63 _))) rfl rfl ?_
  first | refine AWo.pure (PureOp.arr1 (j := 31) tbok rfl rfl rfl rfl (by first | decide | omega)) rfl rfl ?_ | refine AWo.pure (PureOp.arr (j := 31) tbok rfl rfl rfl rfl (by first | decide | omega)) rfl rfl ?_
  refine AWo.storeM (f := (vi .u8)) (y := b.getD 31 0 % 64) tbok rfl rfl rfl rfl (by omega) rfl rfl ?_
  refine AWo.nil trivial ?_
  refine AW.seqR ?_
  first | refine AWo.loadAll tbok rfl rfl rfl rfl (by first | (simp [*]; done) | rfl) rfl rfl ?_ | refine AWo.loadAgg tbok rfl rfl rfl rfl (by first | decide | omega) rfl rfl rfl ?_
  refine AWo.storeAllN tbok rfl rfl rfl rfl (by first | (simp [*]; done) | rfl) (by first | (simp [*]; done) | rfl) (by first | exact oneM (fun _ => rfl) _ | rfl | (simp; done)) rfl ?_
  refine AWo.nil trivial ?_
  refine AW.ret ?_
  refine RetQ.gc [_] [] [.cell 2 40] (.inl rfl) rfl (.val (RVal.cellAll tbok rfl rfl rfl rfl (by first | (simp [*]; done) | rfl)) .nil) rfl (.pure (by first | rfl | exact pure_aggM flat_vi | exact pure_aggM flat_bool) .nil) trivial (by decide) rfl

set_option maxRecDepth 10000 in
theorem round_ctr {L : List (List Nat)} {c : Nat} (hL : okL L) (h0 : 0 < L.length) (hc : c < 4611686018427387904) : GC Try.prog 116 [.pointer (some ⟨0, 0, none⟩), .pointer (some ⟨1, 0, none⟩)] [⟨[.pointer (some ⟨2, 0, none⟩)], false, 1⟩, ⟨[.slice (some ⟨3, 0, none⟩) L.length 0], false, 1⟩, ⟨[vi .i64 (c)], true, 1⟩, ⟨L.flatten.map (vi .u8), false, 32⟩] [.agg ((blk L c).map (vi .u8)).toArray] [⟨[.pointer (some ⟨2, 0, none⟩)], false, 1⟩, ⟨[.slice (some ⟨3, 0, none⟩) L.length 0], false, 1⟩, ⟨[vi .i64 (c + 1)], true, 1⟩, ⟨L.flatten.map (vi .u8), false, 32⟩] := by
  refine GC.intro Try.func116 rfl (by show 2 ≤ 18; decide) (by first | exact Nat.le_refl _ | decide | simp) ?_
  have hblk := blk_len hL h0 c
  have hin : c % L.length < L.length := Nat.mod_lt _ h0
  refine AW.seqR ?_
  refine AWo.alloc tbok 3000 1 ((List.replicate 32 0).map (vi .u8)) rfl rfl rfl rfl rfl rfl ?_
  refine AWo.nil trivial ?_
  refine AW.seqR ?_
  refine AWo.load tbok rfl rfl rfl rfl rfl rfl ?_
  refine AWo.pure (PureOp.nilCheck rfl) rfl rfl ?_
  first | refine AWo.loadM tbok 0 rfl rfl rfl (by first | decide | omega) rfl rfl ?_ | refine AWo.load tbok rfl rfl rfl rfl rfl rfl ?_
  first | refine AWo.pure (PureOp.addI (b := 1) rfl rfl (by first | decide | omega)) rfl rfl ?_ | refine AWo.pure (PureOp.bin rfl rfl rfl) rfl rfl ?_
  refine AWo.pure (PureOp.nilCheck rfl) rfl rfl ?_
  refine AWo.store1 tbok rfl rfl rfl rfl rfl Nat.zero_lt_one rfl rfl ?_
  refine AWo.nil trivial ?_
  refine AW.seqD mixed ?_
  refine AWo.load tbok rfl rfl rfl rfl rfl rfl ?_
  refine AWo.load tbok rfl rfl rfl rfl rfl rfl ?_
  refine AWo.pure (PureOp.nilCheck rfl) rfl rfl ?_
  first | refine AWo.loadM tbok 0 rfl rfl rfl (by first | decide | omega) rfl rfl ?_ | refine AWo.load tbok rfl rfl rfl rfl rfl rfl ?_
  refine AWo.pure ((PureOp.subI (b := 1) rfl rfl (by omega) (by omega)).mono (v' := vi .i64 c) (congrArg (vi .i64) (Nat.add_sub_cancel ..))) rfl rfl ?_
  refine AWo.load tbok rfl rfl rfl rfl rfl rfl ?_
  refine AWo.pure (PureOp.lenS tbok rfl rfl) rfl rfl ?_
  refine AWo.pure (PureOp.remN (a := c) (b := L.length) rfl rfl (by omega)) rfl rfl ?_
  refine AWo.pure (PureOp.idxN tbok (j := c % L.length) rfl rfl rfl rfl hin) rfl rfl ?_
  refine AWo.loadAgg tbok (vs := (blk L c).map (vi .u8)) rfl rfl rfl rfl (blk_room hL hin) (blk_at hL hin) rfl rfl ?_
  refine AWo.storeAllN tbok rfl rfl rfl rfl (by first | (simp [*]; done) | rfl) (by first | (simp [*]; done) | rfl) (by first | exact oneM (fun _ => rfl) _ | rfl | (simp; done)) rfl ?_
  refine AWo.nil (by kernel_rfl) ?_
  refine AW.ret ?_
  refine RetQ.gc [_] [] [.cell 2 40] (.inl rfl) rfl (.val (RVal.cellAll tbok rfl rfl rfl rfl (by first | (simp [*]; done) | rfl)) .nil) rfl (.pure (pure_aggM flat_vi) .nil) (OutL.whole rfl rfl (OkL.all rfl) (by intro h; exact h.elim id fun h => absurd h.1 (by simp)) (OutL.whole rfl rfl (OkL.all rfl) (by intro h; exact h.elim id fun h => absurd h.1 (by simp)) (OutL.flat rfl (flat1 rfl) (fun _ => rfl) (OutL.flat rfl (flatM flat_vi) (by intro h; exact h.elim id fun h => absurd h.1 (by simp)) trivial)))) (by decide) rfl

set_option maxRecDepth 10000 in
theorem field_ctr {L : List (List Nat)} {c : Nat} (hL : okL L) (h0 : 0 < L.length) (hc : c < 4611686018427380000) : GC Try.prog 37 [.func (.func 116) #[] #[.pointer (some ⟨0, 0, none⟩), .pointer (some ⟨1, 0, none⟩)]] [⟨[.pointer (some ⟨2, 0, none⟩)], false, 1⟩, ⟨[.slice (some ⟨3, 0, none⟩) L.length 0], false, 1⟩, ⟨[vi .i64 (c)], true, 1⟩, ⟨L.flatten.map (vi .u8), false, 32⟩] [.agg ((sE L c).map (vi .u64)).toArray, vi .i64 (sK L c), .int .i64 (sC L c)] [⟨[.pointer (some ⟨2, 0, none⟩)], false, 1⟩, ⟨[.slice (some ⟨3, 0, none⟩) L.length 0], false, 1⟩, ⟨[vi .i64 (c + sK L c)], true, 1⟩, ⟨L.flatten.map (vi .u8), false, 32⟩] := by
  refine GC.intro Try.func37 rfl (by show 1 ≤ 27; decide) (by first | exact Nat.le_refl _ | decide | simp) ?_
  have hfl := fbE_len
  refine AW.seqR ?_
  refine AWo.alloc tbok 3000 1 _ rfl rfl rfl rfl rfl rfl ?_
  refine AWo.pure (PureOp.assign rfl) rfl rfl ?_
  refine AWo.pure (PureOp.assign rfl) rfl rfl ?_
  refine AWo.nil trivial ?_
  refine AW.seq ?_
  refine AW.seqR ?_
  refine AWo.pure (PureOp.move rfl) rfl rfl ?_
  refine AWo.nil trivial ?_
  refine AW.block ?_
  refine AW.loopw (fun mm σ => ∃ i, (i ≤ 64 ∧ ∀ j, j < i → 21888242871839275222246405745257275088548364400416034343698204186575808495617 ≤ sval L (c + j)) ∧ mm = 64 - i ∧ σ = ⟨(upd (upd (upd emp 0 (.func (.func 116) #[] #[.pointer (some ⟨0, 0, none⟩), .pointer (some ⟨1, 0, none⟩)])) 2 (.pointer (some ⟨3000, 0, none⟩))) 9 (vi .i64 i)), (upd (upd (upd (upd (upd emp 0 ⟨[.pointer (some ⟨2, 0, none⟩)], false, 1⟩) 1 ⟨[.slice (some ⟨3, 0, none⟩) L.length 0], false, 1⟩) 2 ⟨[vi .i64 (c + i)], true, 1⟩) 3 ⟨L.flatten.map (vi .u8), false, 32⟩) 3000 ⟨(List.replicate 4 0).map (vi .u64), true, 1⟩)⟩) (fm := []) ?_ ⟨0, ⟨Nat.zero_le _, fun j hj => absurd hj (Nat.not_lt_zero j)⟩, rfl, rfl⟩ ?_
  ·
    refine Wk.of [0, 1, 2, 3, 3000] ?_ ?_ ?_ (by decide) rfl
    ·
      refine WkE.upd rfl (by first | exact VR.flat _ rfl | exact VR.eqv (vp_succ _) rfl | exact VR.eqv (vp_succ _).symm rfl | exact VR.eqv (by first | rfl | (congr 1; omega) | (simp; done) | (simp; omega)) rfl) ?_
      refine WkE.upd rfl (.ptr (3000) 0 ⟨_, rfl⟩) ?_
      refine WkE.upd rfl (okVI_rel (ids := [0, 1]) (by simp) rfl (dom_all rfl) rfl) ?_
      exact WkE.emp
    ·
      refine WkM.flatM rfl (by first | rfl | assumption | simp) (fun _ => rfl) (fun h => h) ?_
      refine WkM.flat rfl (flatM flat_vi) (fun h => h) ?_
      refine WkM.refl rfl (flat1 rfl) (fun h => h) ?_
      refine WkM.ren [3] rfl rfl rfl (dom_all rfl) (fun h => h) ?_
      refine WkM.ren [2] rfl rfl rfl (dom_all rfl) (fun h => h) ?_
      exact WkM.emp
    ·
      repeat (refine dom_upd_mem (by decide) ?_)
      exact dom_emp
  ·
    rintro mm σ ⟨i, ⟨hi0, hbad⟩, rfl, rfl⟩
    have hbl := blk_len hL h0 (c + i)
    have hml : (maskL (blk L (c + i))).length = 32 := by simp [maskL, hbl]
    refine AW.seqR ?_
    first | refine AWo.pure (PureOp.ltN (b := 64) rfl rfl) rfl rfl ?_ | refine AWo.pure (PureOp.bin rfl rfl rfl) rfl rfl ?_
    refine AWo.nil trivial ?_
    refine AW.seq ?_
    refine AW.cond rfl (fun hb0 => ?_) (fun hb0 => ?_)
    ·
      have hi : i < 64 := by simpa using hb0
      refine AW.skip ?_
      refine thenA_normal ?_
      refine AW.seq ?_
      refine AW.block ?_
      refine AW.seqR ?_
      refine AWo.pure (PureOp.move rfl) rfl rfl ?_
      refine AWo.pure (PureOp.assign rfl) rfl rfl ?_
      refine AWo.nil trivial ?_
      refine AW.seqR ?_
      refine AWo.pure (PureOp.move rfl) rfl rfl ?_
      refine AWo.callX (round_ctr (c := c + i) hL h0 (by omega)) bd116 [(0, 0), (1, 0), (2, 0), (3, 0)] [] rfl .nil rfl (.cons rfl rfl (.cons rfl rfl .nil)) (.whole rfl rfl (OkL.all rfl) (by intro h; first | exact h | rfl) (.whole rfl rfl (OkL.all rfl) (by intro h; first | exact h | rfl) (.flat rfl (flat1 rfl) (fun h => h) (.flat rfl (flatM flat_vi) (by intro h; first | exact h | rfl) .nil)))) rfl (.keep rfl (.keep rfl (.chg rfl rfl (flat_map_ren (flat1 rfl)) (OkL.flat (flat1 rfl)) (.keep rfl .nil)))) frN (by decide) (.pure (pure_aggM flat_vi) .nil) rfl rfl rfl rfl ?_
      refine AWo.callX (mask_ctr (b := blk L (c + i)) (blk_bd hL h0 _) hbl) bd42 [] [] rfl (.cons rfl .nil) rfl (.pure (by first | rfl | exact pure_aggM flat_vi | exact pure_aggM flat_bool) .nil) .nil rfl .nil frN (by decide) (.pure (by first | rfl | exact pure_aggM flat_vi | exact pure_aggM flat_bool) .nil) rfl rfl rfl rfl ?_
      refine AWo.alloc tbok 7000 1 ((List.replicate 32 0).map (vi .u8)) rfl rfl rfl rfl rfl rfl ?_
      refine AWo.storeAllN tbok rfl rfl rfl rfl (by first | (simp [*]; done) | rfl) (by first | (simp [*]; done) | rfl) (by first | exact oneM (fun _ => rfl) _ | rfl | (simp; done)) rfl ?_
      refine AWo.nil trivial ?_
      refine AW.seqR ?_
      refine AWo.sliceA tbok (h := 32) rfl .none .none rfl rfl rfl rfl (by decide) (by decide) (.inl rfl) (by simp [hml]) rfl rfl rfl ?_
      refine AWo.callX (fb32_ctr (b := maskL (blk L (c + i))) (maskL_bd (blk_bd hL h0 _)) hml) bd96 [(7000, 0)] [] rfl (.cons rfl .nil) rfl (.cons rfl rfl .nil) (.flat rfl (by first | exact flatM flat_vi | exact flatM flat_bool | (simp [flatV, flat_vi]; done)) (by intro h; first | exact h | rfl) .nil) rfl (.keep rfl .nil) frN (by decide) (.pure (by first | rfl | exact pure_aggM flat_vi | exact pure_aggM flat_bool) (.cons rfl rfl .nil)) rfl rfl rfl rfl ?_
      refine AWo.pure (PureOp.move rfl) rfl rfl ?_
      refine AWo.pure (PureOp.extract rfl rfl) rfl rfl ?_
      refine AWo.pure (PureOp.extract rfl rfl) rfl rfl ?_
      refine AWo.alloc tbok 8000 1 _ rfl rfl rfl rfl rfl rfl ?_
      refine AWo.storeAllN tbok rfl rfl rfl rfl (by first | (simp [*]; done) | rfl) (by first | (simp [*]; done) | rfl) (by first | exact oneM (fun _ => rfl) _ | rfl | (simp; done)) rfl ?_
      refine AWo.pure (PureOp.assign rfl) rfl rfl ?_
      refine AWo.nil trivial ?_
      refine AW.seqR ?_
      refine AWo.pure (PureOp.move rfl) rfl rfl ?_
      first | refine AWo.pure (PureOp.eqN (b := 0) rfl rfl) rfl rfl ?_ | refine AWo.pure (PureOp.bin rfl rfl rfl) rfl rfl ?_
      refine AWo.nil trivial ?_
      refine AW.cond rfl (fun hb1 => ?_) (fun hb1 => ?_)
      ·
        have hlt : sval L (c + i) < 21888242871839275222246405745257275088548364400416034343698204186575808495617 := fbC_zero (by simpa [sval] using hb1)
        obtain ⟨e1, e2, e3⟩ := s_hit hi hbad hlt
        rw [e1, e2, e3]
        refine AW.seqR ?_
        first | refine AWo.loadAll tbok rfl rfl rfl rfl (by first | (simp [*]; done) | rfl) rfl rfl ?_ | refine AWo.loadAgg tbok rfl rfl rfl rfl (by first | decide | omega) rfl rfl rfl ?_
        refine AWo.pure (PureOp.move rfl) rfl rfl ?_
        first | refine AWo.pure (PureOp.addI (b := 1) rfl rfl (by first | decide | omega)) rfl rfl ?_ | refine AWo.pure (PureOp.bin rfl rfl rfl) rfl rfl ?_
        refine AWo.storeAllN tbok rfl rfl rfl rfl (by first | (simp [*]; done) | rfl) (by first | (simp [*]; done) | rfl) (by first | exact oneM (fun _ => rfl) _ | rfl | (simp; done)) rfl ?_
        refine AWo.pure (PureOp.assign rfl) rfl rfl ?_
        refine AWo.pure (PureOp.assign rfl) rfl rfl ?_
        refine AWo.nil trivial ?_
        refine AW.ret ?_
        refine inBlockA_ret ?_
        refine thenA_ret ?_
        refine thenA_ret ?_
        refine inBlockA_ret ?_
        refine thenA_ret ?_
        refine RetQ.gc [_, _, _] [] [.cell 2 50, .tmp 3, .tmp 4] (.inl rfl) rfl (.val (RVal.cellAll tbok rfl rfl rfl rfl (by first | (simp [*]; done) | rfl)) (.tmp rfl (.tmp rfl .nil))) rfl (.pure (pure_aggM flat_vi) (.cons rfl rfl (.cons rfl rfl .nil))) (OutL.whole rfl rfl (OkL.all rfl) (by intro h; exact h.elim id fun h => absurd h.1 (by simp)) (OutL.whole rfl rfl (OkL.all rfl) (by intro h; exact h.elim id fun h => absurd h.1 (by simp)) (OutL.flat rfl (flat1 rfl) (fun _ => rfl) (OutL.flat rfl (flatM flat_vi) (by intro h; exact h.elim id fun h => absurd h.1 (by simp)) trivial)))) (by decide) rfl
      ·
        have hge : 21888242871839275222246405745257275088548364400416034343698204186575808495617 ≤ sval L (c + i) := fbC_ne (by simpa [sval] using hb1)
        refine AW.skip ?_
        refine inBlockA_normal ?_
        refine thenA_normal ?_
        refine AW.region ?_
        first | refine AWo.pure (PureOp.addI (b := 1) rfl rfl (by first | decide | omega)) rfl rfl ?_ | refine AWo.pure (PureOp.bin rfl rfl rfl) rfl rfl ?_
        refine AWo.pure (PureOp.move rfl) rfl rfl ?_
        refine AWo.nil trivial ?_
        refine thenA_normal ?_
        refine ⟨64 - (i + 1), [], _, by omega, ?_, i + 1, ⟨by omega, fun j hj => by rcases (by omega : j < i ∨ j = i) with h | rfl; exact hbad j h; exact hge⟩, rfl, rfl⟩
        refine Wk.of [0, 1, 2, 3, 3000] ?_ ?_ ?_ (by decide) rfl
        ·
          refine WkE.upd rfl (by first | exact VR.flat _ rfl | exact VR.eqv (vp_succ _) rfl | exact VR.eqv (vp_succ _).symm rfl | exact VR.eqv (by first | rfl | (congr 1; omega) | (simp; done) | (simp; omega)) rfl) ?_
          refine WkE.upd rfl (.ptr (3000) 0 ⟨_, rfl⟩) ?_
          refine WkE.upd rfl (okVI_rel (ids := [0, 1]) (by simp) rfl (dom_all rfl) rfl) ?_
          exact WkE.emp
        ·
          refine WkM.flatM rfl (by first | rfl | assumption | simp) (fun _ => rfl) (fun h => h) ?_
          refine WkM.flat rfl (flatM flat_vi) (fun h => h) ?_
          refine WkM.refl rfl (flat1 rfl) (fun h => h) ?_
          refine WkM.ren [3] rfl rfl rfl (dom_all rfl) (fun h => h) ?_
          refine WkM.ren [2] rfl rfl rfl (dom_all rfl) (fun h => h) ?_
          exact WkM.emp
        ·
          repeat (refine dom_upd_mem (by decide) ?_)
          exact dom_emp
    ·
      obtain rfl : i = 64 := by simp at hb0; omega
      obtain ⟨e1, e2, e3⟩ := s_miss hbad
      rw [e1, e2, e3]
      refine AW.exit ?_
      refine thenA_exit ?_
      refine thenA_exit ?_
      refine inBlockA_hit ?_
      refine thenA_normal ?_
      refine AW.seqR ?_
      refine AWo.pure ((PureOp.buildStruct [] pl50.choose_spec.1 zr50 (by decide) pl50.choose_spec.2 rfl rfl).mono (v' := .agg ((List.replicate 4 0).map (vi .u64)).toArray) (by rfl)) rfl rfl ?_
      refine AWo.storeAllN tbok rfl rfl rfl rfl (by first | (simp [*]; done) | rfl) (by first | (simp [*]; done) | rfl) (by first | exact oneM (fun _ => rfl) _ | rfl | (simp; done)) rfl ?_
      refine AWo.pure (PureOp.assign rfl) rfl rfl ?_
      refine AWo.pure (PureOp.assign rfl) rfl rfl ?_
      refine AWo.nil trivial ?_
      refine AW.ret ?_
      refine RetQ.gc [_, _, _] [] [.cell 2 50, .tmp 3, .tmp 4] (.inl rfl) rfl (.val (RVal.cellAll tbok rfl rfl rfl rfl (by first | (simp [*]; done) | rfl)) (.tmp rfl (.tmp rfl .nil))) rfl (.pure (pure_aggM flat_vi) (.cons rfl rfl (.cons rfl rfl .nil))) (OutL.whole rfl rfl (OkL.all rfl) (by intro h; exact h.elim id fun h => absurd h.1 (by simp)) (OutL.whole rfl rfl (OkL.all rfl) (by intro h; exact h.elim id fun h => absurd h.1 (by simp)) (OutL.flat rfl (flat1 rfl) (fun _ => rfl) (OutL.flat rfl (flatM flat_vi) (by intro h; exact h.elim id fun h => absurd h.1 (by simp)) trivial)))) (by decide) rfl

set_option maxRecDepth 10000 in
theorem sp1_ctr : GC Try.prog 114 [.pointer (some ⟨0, 0, none⟩)] [⟨[vi .i64 0], true, 1⟩] [.agg ((List.replicate 32 0).map (vi .u8)).toArray] [⟨[vi .i64 1], true, 1⟩] := by
  refine GC.intro Try.func114 rfl (by show 1 ≤ 8; decide) (by first | exact Nat.le_refl _ | decide | simp) ?_
  refine AW.seqR ?_
  refine AWo.alloc tbok 2000 1 ((List.replicate 32 0).map (vi .u8)) rfl rfl rfl rfl rfl rfl ?_
  refine AWo.nil trivial ?_
  refine AW.seqR ?_
  first | refine AWo.loadM tbok 0 rfl rfl rfl (by first | decide | omega) rfl rfl ?_ | refine AWo.load tbok rfl rfl rfl rfl rfl rfl ?_
  refine AWo.pure ((PureOp.addI (a := 0) (b := 1) rfl rfl (by decide)).mono (v' := vi .i64 1) rfl) rfl rfl ?_
  refine AWo.store1 tbok rfl rfl rfl rfl rfl Nat.zero_lt_one rfl rfl ?_
  refine AWo.nil trivial ?_
  refine AW.seqR ?_
  first | refine AWo.loadM tbok 0 rfl rfl rfl (by first | decide | omega) rfl rfl ?_ | refine AWo.load tbok rfl rfl rfl rfl rfl rfl ?_
  refine AWo.pure ((PureOp.subI (a := 1) (b := 1) rfl rfl (by decide) (by decide)).mono (v' := vi .i64 0) rfl) rfl rfl ?_
  refine AWo.pure ((PureOp.cvtU (a := 0) tbok 256 rfl rfl rfl rfl rfl).mono (v' := vi .u8 0) rfl) rfl rfl ?_
  refine AWo.pure ((PureOp.buildArr tbok [(0, vi .u8 0)] rfl rfl rfl (by decide) rfl rfl).mono (v' := .agg ((List.replicate 32 0).map (vi .u8)).toArray) (by rfl)) rfl rfl ?_
  refine AWo.storeAllN tbok rfl rfl rfl rfl (by first | (simp [*]; done) | rfl) (by first | (simp [*]; done) | rfl) (by first | exact oneM (fun _ => rfl) _ | rfl | (simp; done)) rfl ?_
  refine AWo.nil trivial ?_
  refine AW.ret ?_
  refine RetQ.gc [_] [] [.cell 1 40] (.inl rfl) rfl (.val (RVal.cellAll tbok rfl rfl rfl rfl (by first | (simp [*]; done) | rfl)) .nil) rfl (.pure (pure_aggM flat_vi) .nil) (OutL.flat rfl (flat1 rfl) (fun _ => rfl) trivial) (by decide) rfl

set_option maxRecDepth 10000 in
theorem fsp_ctr : GC Try.prog 37 [.func (.func 114) #[] #[.pointer (some ⟨0, 0, none⟩)]] [⟨[vi .i64 0], true, 1⟩] [.agg ((List.replicate 4 0).map (vi .u64)).toArray, vi .i64 1, .int .i64 0] [⟨[vi .i64 1], true, 1⟩] := by
  refine GC.intro Try.func37 rfl (by show 1 ≤ 27; decide) (by first | exact Nat.le_refl _ | decide | simp) ?_
  have hfl := fbE_len
  refine AW.seqR ?_
  refine AWo.alloc tbok 3000 1 _ rfl rfl rfl rfl rfl rfl ?_
  refine AWo.pure (PureOp.assign rfl) rfl rfl ?_
  refine AWo.pure (PureOp.assign rfl) rfl rfl ?_
  refine AWo.nil trivial ?_
  refine AW.seq ?_
  refine AW.seqR ?_
  refine AWo.pure (PureOp.move rfl) rfl rfl ?_
  refine AWo.nil trivial ?_
  refine AW.block ?_
  refine AW.rounds 2 ?_
  refine roundsA_succ ?_
  refine AW.seqR ?_
  first | refine AWo.pure ((PureOp.ltN (b := 64) rfl rfl).mono (v' := .bool true) (by rfl)) rfl rfl ?_ | refine AWo.pure ((PureOp.bin rfl rfl rfl).mono (v' := .bool true) (by rfl)) rfl rfl ?_
  refine AWo.nil trivial ?_
  refine AW.seq ?_
  refine AW.condT rfl ?_
  refine AW.skip ?_
  refine thenA_normal ?_
  refine AW.seq ?_
  refine AW.block ?_
  refine AW.seqR ?_
  refine AWo.pure (PureOp.move rfl) rfl rfl ?_
  refine AWo.pure (PureOp.assign rfl) rfl rfl ?_
  refine AWo.nil trivial ?_
  refine AW.seqR ?_
  refine AWo.pure (PureOp.move rfl) rfl rfl ?_
  refine AWo.callX (sp1_ctr) bd114 [(0, 0)] [] rfl .nil rfl (.cons rfl rfl .nil) (.flat rfl (flat1 rfl) (fun h => h) .nil) rfl (.chg rfl rfl (flat_map_ren (flat1 rfl)) (OkL.flat (flat1 rfl)) .nil) frN (by decide) (.pure (pure_aggM flat_vi) .nil) rfl rfl rfl rfl ?_
  refine AWo.callX (mask_ctr (b := List.replicate 32 0) (bd_replicate (by decide) _) rfl) bd42 [] [] rfl (.cons rfl .nil) rfl (.pure (by first | rfl | exact pure_aggM flat_vi | exact pure_aggM flat_bool) .nil) .nil rfl .nil frN (by decide) (.pure (by first | rfl | exact pure_aggM flat_vi | exact pure_aggM flat_bool) .nil) rfl rfl rfl rfl ?_
  refine AWo.alloc tbok 7000 1 ((List.replicate 32 0).map (vi .u8)) rfl rfl rfl rfl rfl rfl ?_
  refine AWo.storeAllN tbok rfl rfl rfl rfl (by first | (simp [*]; done) | rfl) (by first | (simp [*]; done) | rfl) (by first | exact oneM (fun _ => rfl) _ | rfl | (simp; done)) rfl ?_
  refine AWo.nil trivial ?_
  refine AW.seqR ?_
  refine AWo.sliceA tbok (h := 32) rfl .none .none rfl rfl rfl rfl (by decide) (by decide) (.inl rfl) (by simp [maskL]) rfl rfl rfl ?_
  refine AWo.callX (fb32_ctr (b := maskL (List.replicate 32 0)) (maskL_bd (bd_replicate (by decide) _)) rfl) bd96 [(7000, 0)] [] rfl (.cons rfl .nil) rfl (.cons rfl rfl .nil) (.flat rfl (by first | exact flatM flat_vi | exact flatM flat_bool | (simp [flatV, flat_vi]; done)) (by intro h; first | exact h | rfl) .nil) rfl (.keep rfl .nil) frN (by decide) (.pure (by first | rfl | exact pure_aggM flat_vi | exact pure_aggM flat_bool) (.cons rfl rfl .nil)) rfl rfl rfl rfl ?_
  refine AWo.pure (PureOp.move rfl) rfl rfl ?_
  refine AWo.pure (PureOp.extract rfl rfl) rfl rfl ?_
  refine AWo.pure (PureOp.extract rfl rfl) rfl rfl ?_
  refine AWo.alloc tbok 8000 1 _ rfl rfl rfl rfl rfl rfl ?_
  refine AWo.storeAllN tbok rfl rfl rfl rfl (by first | (simp [*]; done) | rfl) (by first | (simp [*]; done) | rfl) (by first | exact oneM (fun _ => rfl) _ | rfl | (simp; done)) rfl ?_
  refine AWo.pure (PureOp.assign rfl) rfl rfl ?_
  refine AWo.nil trivial ?_
  refine AW.seqR ?_
  refine AWo.pure (PureOp.move rfl) rfl rfl ?_
  first | refine AWo.pure ((PureOp.eqN (b := 0) rfl rfl).mono (v' := .bool true) (by rfl)) rfl rfl ?_ | refine AWo.pure ((PureOp.bin rfl rfl rfl).mono (v' := .bool true) (by rfl)) rfl rfl ?_
  refine AWo.nil trivial ?_
  refine AW.condT rfl ?_
  refine AW.seqR ?_
  first | refine AWo.loadAll tbok rfl rfl rfl rfl (by first | (simp [*]; done) | rfl) rfl rfl ?_ | refine AWo.loadAgg tbok rfl rfl rfl rfl (by first | decide | omega) rfl rfl rfl ?_
  refine AWo.pure (PureOp.move rfl) rfl rfl ?_
  first | refine AWo.pure ((PureOp.addI (b := 1) rfl rfl (by first | decide | omega)).mono (v' := vi .i64 1) (by rfl)) rfl rfl ?_ | refine AWo.pure ((PureOp.bin rfl rfl rfl).mono (v' := vi .i64 1) (by rfl)) rfl rfl ?_
  refine AWo.storeAllN tbok rfl rfl rfl rfl (by first | (simp [*]; done) | rfl) (by first | (simp [*]; done) | rfl) (by first | exact oneM (fun _ => rfl) _ | rfl | (simp; done)) rfl ?_
  refine AWo.pure (PureOp.assign rfl) rfl rfl ?_
  refine AWo.pure (PureOp.assign rfl) rfl rfl ?_
  refine AWo.nil trivial ?_
  refine AW.ret ?_
  refine inBlockA_ret ?_
  refine thenA_ret ?_
  refine thenA_ret ?_
  refine inBlockA_ret ?_
  refine thenA_ret ?_
  rw [sp_zero]
  refine RetQ.gc [_, _, _] [] [.cell 2 50, .tmp 3, .tmp 4] (.inl rfl) rfl (.val (RVal.cellAll tbok rfl rfl rfl rfl (by first | (simp [*]; done) | rfl)) (.tmp rfl (.tmp rfl .nil))) rfl (.pure (pure_aggM flat_vi) (.cons rfl rfl (.cons rfl rfl .nil))) (OutL.flat rfl (flat1 rfl) (fun _ => rfl) trivial) (by decide) rfl

set_option maxRecDepth 10000 in
theorem sspeaks_ctr : GC Try.prog 33 [] [] [.bool true] [] := by
  refine GC.intro Try.func33 rfl (by show 0 ≤ 25; decide) (by first | exact Nat.le_refl _ | decide | simp) ?_
  refine AW.seqR ?_
  refine AWo.pure (PureOp.assign rfl) rfl rfl ?_
  refine AWo.nil trivial ?_
  refine AW.seqR ?_
  refine AWo.alloc tbok 2000 1 _ rfl rfl rfl rfl rfl rfl ?_
  refine AWo.store1 tbok rfl rfl rfl rfl rfl Nat.zero_lt_one rfl rfl ?_
  refine AWo.nil trivial ?_
  refine AW.seqR ?_
  refine AWo.pure (PureOp.fn (.cons rfl .nil)) rfl rfl ?_
  refine AWo.callX (fsp_ctr) bd37 [(2000, 0)] [] rfl (.cons rfl .nil) rfl (.cons rfl rfl .nil) (.flat rfl (flat1 rfl) (fun h => h) .nil) rfl (.chg rfl rfl (flat_map_ren (flat1 rfl)) (OkL.flat (flat1 rfl)) .nil) frN (by decide) (.pure (pure_aggM flat_vi) (.cons rfl rfl (.cons rfl rfl .nil))) rfl rfl rfl rfl ?_
  refine AWo.pure (PureOp.move rfl) rfl rfl ?_
  refine AWo.pure (PureOp.extract rfl rfl) rfl rfl ?_
  refine AWo.pure (PureOp.extract rfl rfl) rfl rfl ?_
  refine AWo.pure (PureOp.extract rfl rfl) rfl rfl ?_
  refine AWo.alloc tbok 3000 1 _ rfl rfl rfl rfl rfl rfl ?_
  refine AWo.storeAllN tbok rfl rfl rfl rfl (by first | (simp [*]; done) | rfl) (by first | (simp [*]; done) | rfl) (by first | exact oneM (fun _ => rfl) _ | rfl | (simp; done)) rfl ?_
  refine AWo.pure (PureOp.assign rfl) rfl rfl ?_
  refine AWo.pure (PureOp.assign rfl) rfl rfl ?_
  refine AWo.nil trivial ?_
  refine AW.seqR ?_
  refine AWo.pure (PureOp.move rfl) rfl rfl ?_
  first | refine AWo.pure ((PureOp.eqN (b := 0) rfl rfl).mono (v' := .bool true) (by rfl)) rfl rfl ?_ | refine AWo.pure ((PureOp.bin rfl rfl rfl).mono (v' := .bool true) (by rfl)) rfl rfl ?_
  refine AWo.pure (PureOp.move rfl) rfl rfl ?_
  refine AWo.pure (PureOp.move rfl) rfl rfl ?_
  first | refine AWo.pure ((PureOp.eqN (b := 1) rfl rfl).mono (v' := .bool true) (by rfl)) rfl rfl ?_ | refine AWo.pure ((PureOp.bin rfl rfl rfl).mono (v' := .bool true) (by rfl)) rfl rfl ?_
  refine AWo.pure (PureOp.pickT rfl rfl) rfl rfl ?_
  refine AWo.pure (PureOp.move rfl) rfl rfl ?_
  first | refine AWo.loadM tbok 0 rfl rfl rfl (by first | decide | omega) rfl rfl ?_ | refine AWo.load tbok rfl rfl rfl rfl rfl rfl ?_
  first | refine AWo.pure ((PureOp.eqN (b := 1) rfl rfl).mono (v' := .bool true) (by rfl)) rfl rfl ?_ | refine AWo.pure ((PureOp.bin rfl rfl rfl).mono (v' := .bool true) (by rfl)) rfl rfl ?_
  refine AWo.pure (PureOp.pickT rfl rfl) rfl rfl ?_
  refine AWo.pure (PureOp.move rfl) rfl rfl ?_
  first | refine AWo.loadAll tbok rfl rfl rfl rfl (by first | (simp [*]; done) | rfl) rfl rfl ?_ | refine AWo.loadAgg tbok rfl rfl rfl rfl (by first | decide | omega) rfl rfl rfl ?_
  refine AWo.callX (iszero_ctr (a := List.replicate 4 0) rfl) bd39 [] [] rfl (.cons rfl .nil) rfl (.pure (by first | rfl | exact pure_aggM flat_vi | exact pure_aggM flat_bool) .nil) .nil rfl .nil frN (by decide) (.cons rfl rfl .nil) rfl rfl rfl rfl ?_
  refine AWo.pure (PureOp.pickT rfl rfl) rfl rfl ?_
  refine AWo.pure (PureOp.assign rfl) rfl rfl ?_
  refine AWo.nil trivial ?_
  refine AW.ret ?_
  refine RetQ.gc [_] [] [.tmp 0] (.inl rfl) rfl (.tmp rfl .nil) rfl (.cons rfl (by rfl) .nil) trivial (by decide) rfl
end Go.Proofs.Ytiikffiembcboaa
