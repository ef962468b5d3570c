/- Bytes as a string. -/
import Derived.Test.YtiikffiembcboaaSim26
import Derived.Laws.BytesString
namespace Go.Proofs.Ytiikffiembcboaa.Sim
open Go

def bstr (l : List Nat) : ByteArray := (l.map fun (n : Nat) => (n : Int)).foldl (fun r n => r.push (UInt8.ofNat n.toNat)) ByteArray.empty

section
variable {P : Program} {E : Env} {M : Mem} {d : Option Tmp} {ty : TypeId} {ps : String} {af : Array Edge} {g : Option (Nat × Bool)}

theorem FStep.bytesStr {t s e : TypeId} {x : Operand} {id n : Nat} {b : Blk} {l : List Nat} (hx : aev E x = some (.slice (some ⟨id, 0, none⟩) n 0)) (hb : M id = some b)
    (hc : b.cells.take n = l.map (vi .u8)) (hn : l.length = n) (ht : P.underlying t = some (.slice e)) (he : P.underlying e = some (.int .u8)) (hs : P.underlying s = some .string) :
    FStep P ⟨d, .convert t s x, ty, ps, af, g⟩ E M (.string (bstr l)) ⟨[id], []⟩ := by
  intro E' M' h1 h2 _ C ρ ac w hR
  have hb' : M' id = some b := by rw [h2 id (by simp)]; exact hb
  have hxv := hR.eval (x := x) (by rw [h1 x (by simp [Op.operands])]; exact hx)
  have key : (execOp ac.eval ⟨d, .convert t s x, ty, ps, af, g⟩).run P w = .ok (.value (.string (bstr l))) w := by
    rcases slice_inv hxv with ⟨c, hu, _⟩ | ⟨h0, hu⟩
    · have hle : 0 + n ≤ b.cells.length := by
        have := congrArg List.length hc
        rw [List.length_take, List.length_map, hn] at this
        omega
      obtain ⟨us, hul, hus, hrel⟩ := pick_list (o := 0) (hR.mem id b hb').cells n hle
      have hul2 : us = l.map (vi .u8) := by
        refine List.ext_getElem? fun j => ?_
        rcases Nat.lt_or_ge j n with hj | hj
        · have e1 : us[j]? = some us[j] := List.getElem?_eq_getElem (by omega)
          have e2 : ((b.cells.drop 0).take n)[j]? = some (vi .u8 l[j]) := by
            rw [List.drop_zero, hc, List.getElem?_map, List.getElem?_eq_getElem (by omega)]; rfl
          have := flat_inv (hrel j _ _ e2 e1) rfl
          rw [e1, this, List.getElem?_map, List.getElem?_eq_getElem (by omega)]
          rfl
        · rw [List.getElem?_eq_none (by omega), List.getElem?_eq_none (by simp; omega)]
      have hrun : (loadCells ⟨(ρ id).blk, (ρ id).off + 0, none⟩ n).run P w = .ok ((l.map fun (n : Nat) => (n : Int)).map (Value.int .u8)).toArray w := by
        rw [List.map_map, show (Value.int .u8 ∘ fun (n : Nat) => (n : Int)) = vi .u8 from rfl, ← hul2]
        have := run_loadCells_list (P := P) w ⟨(ρ id).blk, (ρ id).off + 0, none⟩ us fun j v hv => by rw [addr_add]; exact hus j v hv
        rw [hul] at this
        exact this
      have := run_bytesToString (P := P) w ⟨(ρ id).blk, (ρ id).off + 0, none⟩ n c _ hrun
      simp only [execOp, hu, Sem.run_bind, run_convert_bytes_string w t s e _ n c ht he hs, this]
      rfl
    · have hl0 : l = [] := by
        cases l with
        | nil => rfl
        | cons a r => simp at hn; omega
      have h3 : (Conv.bytesToString (.slice none 0 0)).run P w = .ok (.string (bstr l)) w := by
        rw [hl0]; rfl
      simp only [execOp, hu, Sem.run_bind, run_convert_bytes_string w t s e _ 0 0 ht he hs, h3]
      rfl
  unfold StepTo Oper.wp
  rw [key]
  exact ⟨_, rfl, ρ, hR, .flat _ rfl⟩
end

section
variable {P : Program} {T : Tab} (H : TabOk P T) {E : Env} {M : Mem} {n' i : Nat} {d : Tmp} {ty : TypeId} {ps : String} {af : Array Edge} {g : Option (Nat × Bool)} {ops : Array Oper} {os : List Oper} {D : List Eff → Prop} {K : ASt → Prop}
include H

theorem AWo.bytesStr {t s e : TypeId} {x : Operand} {id n : Nat} {b : Blk} (l : List Nat) (hx : aev E x = some (.slice (some ⟨id, 0, none⟩) n 0)) (hb : M id = some b)
    (hc : b.cells.take n = l.map (vi .u8)) (hn : l.length = n) (ht : T.sl.lookup t = some e) (he : P.underlying e = some (.int .u8)) (hs : P.underlying s = some .string)
    (hw : wantA ops E ⟨some d, .convert t s x, ty, ps, af, g⟩ = some true) (hd : Nat.blt d n' = true)
    (hr : AWo P ops n' (i + 1) os ⟨upd E d (.string (bstr l)), M⟩ (fun es => D (⟨[id], []⟩ :: es)) K) :
    AWo P ops n' i (⟨some d, .convert t s x, ty, ps, af, g⟩ :: os) ⟨E, M⟩ D K :=
  AWo.step (FStep.bytesStr hx hb hc hn (H.sl t _ ht) he hs) hw hd (fun p hp => by cases hp) hr
end

/-- two strings that are the same -/
theorem PureOp.sameStr {P : Program} {E : Env} {t t' : TypeId} {x y : Operand} {a : ByteArray} (h1 : aev E x = some (.string a)) (h2 : aev E y = some (.string a)) : PureOp P (.binOp .eql t x y t') E (.bool true) :=
  PureOp.eqlStr h1 h2 (fun w => by simp [Op.stringOp]) rfl
end Go.Proofs.Ytiikffiembcboaa.Sim
