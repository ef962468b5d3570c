/- What the proof stands on, part 3: the walk of each function, and plain laws of numbers. -/
import Derived.Test.YtbholmgeaklljaaK2
import Derived.Test.YtbholmgeaklljaaProg
import Derived.KernelRfl
import Derived.Laws.Externs
namespace Go.Proofs.Ytbholmgeaklljaa
open Go Sim
def Tb : Tab where
  sl := [(41, 29), (53, 5), (55, 4), (64, 3)]
  arr := [(22, 4, 3), (31, 4, 29), (37, 80, 4), (38, 80, 4), (50, 32, 5), (77, 5, 29), (83, 0, 16)]
  int := [(2, .i64), (3, .i64), (5, .u8), (6, .u8), (12, .u64), (21, .i32), (23, .u16), (26, .i64), (29, .u64), (49, .u64), (87, .u32), (88, .u8), (89, .u8), (92, .i32), (93, .i32)]
  sz := [(2, 1), (3, 1), (5, 1), (6, 1), (12, 1), (21, 1), (23, 1), (26, 1), (29, 1), (49, 1), (87, 1), (88, 1), (89, 1), (92, 1), (93, 1), (4, 1), (41, 1), (53, 1), (55, 1), (64, 1), (22, 4), (31, 4), (37, 80), (38, 80), (50, 32), (77, 5), (83, 0), (7, 4), (8, 4), (13, 2), (14, 2), (18, 1), (19, 1), (32, 4), (33, 4), (46, 81), (47, 81), (81, 4), (82, 4), (84, 0), (85, 0), (94, 11), (95, 11), (1, 1), (9, 1), (10, 1), (11, 1), (15, 1), (16, 1), (17, 1), (20, 1), (24, 1), (25, 1), (28, 1), (30, 1), (34, 1), (35, 1), (36, 1), (40, 1), (43, 1), (44, 1), (45, 1), (48, 1), (52, 1), (54, 1), (56, 1), (58, 1), (59, 1), (60, 1), (61, 1), (62, 1), (63, 1), (65, 1), (67, 1), (68, 1), (69, 1), (70, 1), (71, 1), (73, 1), (74, 1), (75, 1), (76, 1), (78, 1), (79, 1), (80, 1), (86, 1), (90, 1), (91, 1)]
  agg := [(2, false), (3, false), (5, false), (6, false), (12, false), (21, false), (23, false), (26, false), (29, false), (49, false), (87, false), (88, false), (89, false), (92, false), (93, false), (4, false), (41, false), (53, false), (55, false), (64, false), (22, true), (31, true), (37, true), (38, true), (50, true), (77, true), (83, true), (7, true), (8, true), (13, true), (14, true), (18, true), (19, true), (32, true), (33, true), (46, true), (47, true), (81, true), (82, true), (84, true), (85, true), (94, true), (95, true), (1, false), (9, false), (10, false), (11, false), (15, false), (16, false), (17, false), (20, false), (24, false), (25, false), (28, false), (30, false), (34, false), (35, false), (36, false), (40, false), (43, false), (44, false), (45, false), (48, false), (52, false), (54, false), (56, false), (58, false), (59, false), (60, false), (61, false), (62, false), (63, false), (65, false), (67, false), (68, false), (69, false), (70, false), (71, false), (73, false), (74, false), (75, false), (76, false), (78, false), (79, false), (80, false), (86, false), (90, false), (91, false)]
  zero := [(2, .int .i64 0), (3, .int .i64 0), (5, .int .u8 0), (6, .int .u8 0), (12, .int .u64 0), (21, .int .i32 0), (23, .int .u16 0), (26, .int .i64 0), (29, .int .u64 0), (49, .int .u64 0), (87, .int .u32 0), (88, .int .u8 0), (89, .int .u8 0), (92, .int .i32 0), (93, .int .i32 0), (4, .bool false), (41, .slice none 0 0), (53, .slice none 0 0), (55, .slice none 0 0), (64, .slice none 0 0), (22, .agg #[.int .i64 0, .int .i64 0, .int .i64 0, .int .i64 0]), (31, .agg #[.int .u64 0, .int .u64 0, .int .u64 0, .int .u64 0]), (37, .agg (List.replicate 80 (.bool false)).toArray), (38, .agg (List.replicate 80 (.bool false)).toArray), (50, .agg (List.replicate 32 (.int .u8 0)).toArray), (77, .agg (List.replicate 5 (.int .u64 0)).toArray), (83, .agg #[]), (7, .agg #[.int .i64 0, .int .i64 0, .bool false, .int .u8 0]), (8, .agg #[.int .i64 0, .int .i64 0, .bool false, .int .u8 0]), (13, .agg #[.string .empty, .int .u64 0]), (14, .agg #[.string .empty, .int .u64 0]), (18, .agg #[.pointer none]), (19, .agg #[.pointer none]), (32, .agg #[.int .u64 0, .int .u64 0, .int .u64 0, .int .u64 0]), (33, .agg #[.int .u64 0, .int .u64 0, .int .u64 0, .int .u64 0]), (46, .agg #[.bool false, .bool false, .bool false, .bool false, .bool false, .bool false, .bool false, .bool false, .bool false, .bool false, .bool false, .bool false, .bool false, .bool false, .bool false, .bool false, .bool false, .bool false, .bool false, .bool false, .bool false, .bool false, .bool false, .bool false, .bool false, .bool false, .bool false, .bool false, .bool false, .bool false, .bool false, .bool false, .bool false, .bool false, .bool false, .bool false, .bool false, .bool false, .bool false, .bool false, .bool false, .bool false, .bool false, .bool false, .bool false, .bool false, .bool false, .bool false, .bool false, .bool false, .bool false, .bool false, .bool false, .bool false, .bool false, .bool false, .bool false, .bool false, .bool false, .bool false, .bool false, .bool false, .bool false, .bool false, .bool false, .bool false, .bool false, .bool false, .bool false, .bool false, .bool false, .bool false, .bool false, .bool false, .bool false, .bool false, .bool false, .bool false, .bool false, .bool false, .int .i64 0]), (47, .agg #[.bool false, .bool false, .bool false, .bool false, .bool false, .bool false, .bool false, .bool false, .bool false, .bool false, .bool false, .bool false, .bool false, .bool false, .bool false, .bool false, .bool false, .bool false, .bool false, .bool false, .bool false, .bool false, .bool false, .bool false, .bool false, .bool false, .bool false, .bool false, .bool false, .bool false, .bool false, .bool false, .bool false, .bool false, .bool false, .bool false, .bool false, .bool false, .bool false, .bool false, .bool false, .bool false, .bool false, .bool false, .bool false, .bool false, .bool false, .bool false, .bool false, .bool false, .bool false, .bool false, .bool false, .bool false, .bool false, .bool false, .bool false, .bool false, .bool false, .bool false, .bool false, .bool false, .bool false, .bool false, .bool false, .bool false, .bool false, .bool false, .bool false, .bool false, .bool false, .bool false, .bool false, .bool false, .bool false, .bool false, .bool false, .bool false, .bool false, .bool false, .int .i64 0]), (81, .agg #[.pointer none, .pointer none, .pointer none, .string .empty]), (82, .agg #[.pointer none, .pointer none, .pointer none, .string .empty]), (84, .agg #[]), (85, .agg #[]), (94, .agg #[.int .u64 0, .int .u64 0, .int .u32 0, .int .u8 0, .int .u8 0, .int .u8 0, .int .u8 0, .nilFunc, .pointer none, .int .i32 0, .int .i32 0]), (95, .agg #[.int .u64 0, .int .u64 0, .int .u32 0, .int .u8 0, .int .u8 0, .int .u8 0, .int .u8 0, .nilFunc, .pointer none, .int .i32 0, .int .i32 0]), (1, .nilFunc), (9, .string .empty), (10, .string .empty), (11, .string .empty), (15, .pointer none), (16, .pointer none), (17, .pointer none), (20, .nilIface), (24, .nilFunc), (25, .pointer none), (28, .nilFunc), (30, .nilFunc), (34, .nilFunc), (35, .nilFunc), (36, .nilFunc), (40, .nilFunc), (43, .nilFunc), (44, .nilFunc), (45, .nilFunc), (48, .nilFunc), (52, .nilFunc), (54, .nilFunc), (56, .nilFunc), (58, .nilFunc), (59, .nilFunc), (60, .nilFunc), (61, .nilFunc), (62, .nilFunc), (63, .nilFunc), (65, .nilFunc), (67, .nilFunc), (68, .nilFunc), (69, .nilFunc), (70, .nilFunc), (71, .nilFunc), (73, .nilFunc), (74, .nilFunc), (75, .nilFunc), (76, .nilFunc), (78, .nilFunc), (79, .nilFunc), (80, .nilFunc), (86, .nilFunc), (90, .nilFunc), (91, .pointer none)]
  by' := [(2, 8), (3, 8), (5, 1), (6, 1), (12, 8), (21, 4), (23, 2), (26, 8), (29, 8), (49, 8), (87, 4), (88, 1), (89, 1), (92, 4), (93, 4), (4, 1), (41, 24), (53, 24), (55, 24), (64, 24), (22, 32), (31, 32), (37, 80), (38, 80), (50, 32), (77, 40), (83, 0), (7, 24), (8, 24), (13, 24), (14, 24), (18, 8), (19, 8), (32, 32), (33, 32), (46, 88), (47, 88), (81, 40), (82, 40), (84, 0), (85, 0), (94, 48), (95, 48), (1, 8), (9, 16), (10, 16), (11, 16), (15, 8), (16, 8), (17, 8), (20, 16), (24, 8), (25, 8), (28, 8), (30, 8), (34, 8), (35, 8), (36, 8), (40, 8), (43, 8), (44, 8), (45, 8), (48, 8), (52, 8), (54, 8), (56, 8), (58, 8), (59, 8), (60, 8), (61, 8), (62, 8), (63, 8), (65, 8), (67, 8), (68, 8), (69, 8), (70, 8), (71, 8), (73, 8), (74, 8), (75, 8), (76, 8), (78, 8), (79, 8), (80, 8), (86, 8), (90, 8), (91, 8)]
  fld := [((7, 0), 0, 2), ((7, 1), 1, 3), ((7, 2), 2, 4), ((7, 3), 3, 6), ((8, 0), 0, 2), ((8, 1), 1, 3), ((8, 2), 2, 4), ((8, 3), 3, 6), ((13, 0), 0, 9), ((13, 1), 1, 12), ((14, 0), 0, 9), ((14, 1), 1, 12), ((18, 0), 0, 17), ((19, 0), 0, 17), ((32, 0), 0, 31), ((33, 0), 0, 31), ((46, 0), 0, 37), ((46, 1), 80, 3), ((47, 0), 0, 37), ((47, 1), 80, 3), ((81, 0), 0, 17), ((81, 1), 1, 17), ((81, 2), 2, 17), ((81, 3), 3, 9), ((82, 0), 0, 17), ((82, 1), 1, 17), ((82, 2), 2, 17), ((82, 3), 3, 9), ((84, 0), 0, 83), ((85, 0), 0, 83), ((94, 0), 0, 12), ((94, 1), 1, 12), ((94, 2), 2, 87), ((94, 3), 3, 88), ((94, 4), 4, 5), ((94, 5), 5, 5), ((94, 6), 6, 89), ((94, 7), 7, 90), ((94, 8), 8, 91), ((94, 9), 9, 92), ((94, 10), 10, 93), ((95, 0), 0, 12), ((95, 1), 1, 12), ((95, 2), 2, 87), ((95, 3), 3, 88), ((95, 4), 4, 5), ((95, 5), 5, 5), ((95, 6), 6, 89), ((95, 7), 7, 90), ((95, 8), 8, 91), ((95, 9), 9, 92), ((95, 10), 10, 93)]
theorem of_map {α β γ : Type} [BEq α] [LawfulBEq α] {f g : α × β → γ} : ∀ {l : List (α × β)}, l.map f = l.map g → ∀ a b, l.lookup a = some b → f (a, b) = g (a, b)
  | [], _, a, b, h => by simp at h
  | (x, y) :: l, hl, a, b, h => by
    rw [List.map_cons, List.map_cons, List.cons.injEq] at hl
    rw [List.lookup_cons] at h
    split at h
    · rename_i he
      have := eq_of_beq he
      subst this
      cases h
      exact hl.1
    · exact of_map hl.2 a b h
def fldOf (P : Program) (t f : Nat) : Option (Nat × Nat) := match P.underlying t with
  | some (.struct fs) => fs[f]?.map fun d => (d.offset, d.type)
  | _ => none
theorem fldOf_some {P : Program} {t f o t' : Nat} (h : fldOf P t f = some (o, t')) : ∃ fs fd, P.underlying t = some (.struct fs) ∧ fs[f]? = some fd ∧ fd.offset = o ∧ fd.type = t' := by
  unfold fldOf at h
  split at h
  · rename_i fs hu
    cases hf : fs[f]? with
    | none => rw [hf] at h; cases h
    | some d => rw [hf] at h; cases h; exact ⟨fs, d, hu, hf, rfl, rfl⟩
  · cases h
set_option maxRecDepth 100000 in
theorem tbok : TabOk Try.prog Tb where
  sl := fun t e h => of_map (f := fun p => Try.prog.underlying p.1) (g := fun p => some (.slice p.2)) (by kernel_rfl) t e h
  arr := fun t n e h => of_map (f := fun p => Try.prog.underlying p.1) (g := fun p => some (.array p.2.1 p.2.2)) (by kernel_rfl) t (n, e) h
  int := fun t e h => of_map (f := fun p => Try.prog.underlying p.1) (g := fun p => some (.int p.2)) (by kernel_rfl) t e h
  sz := fun t e h => of_map (f := fun p => (Try.prog.info? p.1).map (·.size)) (g := fun p => some p.2) (by kernel_rfl) t e h
  zero := fun t e h => of_map (f := fun p => (Try.prog.info? p.1).map (·.zero)) (g := fun p => some (some p.2)) (by kernel_rfl) t e h
  by' := fun t e h => of_map (f := fun p => (Try.prog.info? p.1).map (·.bytes)) (g := fun p => some p.2) (by kernel_rfl) t e h
  agg := fun t e h => Prod.mk.inj (of_map (f := fun p => ((Try.prog.underlying p.1).isSome, aggB Try.prog p.1)) (g := fun p => (true, p.2)) (by kernel_rfl) t e h)
  fld := fun t f o t' h => fldOf_some (of_map (f := fun p => fldOf Try.prog p.1.1 p.1.2) (g := fun p => some p.2) (by kernel_rfl) (t, f) (o, t') h)
theorem pl_of {P : Program} {t : Nat} {fs : Array Field} (hu : P.underlying t = some (.struct fs)) {l : List (Nat × Nat)} (h : fs.toList.map (fun f => (f.offset, (P.info? f.type).map (·.size))) = l.map fun q => (q.1, some q.2)) : ∃ fs, P.underlying t = some (.struct fs) ∧ placesOf P fs l :=
  ⟨fs, hu, by simpa using congrArg List.length h, fun k f q h1 h2 => by
    have := congrArg (fun l : List (Nat × Option Nat) => l[k]?) h
    simp only [List.getElem?_map, Array.getElem?_toList, h1, h2, Option.map_some, Option.some.injEq, Prod.mk.injEq] at this
    exact this⟩
theorem pl33 : ∃ fs, Try.prog.underlying 33 = some (.struct fs) ∧ placesOf Try.prog fs [(0, 4)] := pl_of Try.underlying33 (by kernel_rfl)
theorem zr33 : (Try.prog.info? 33).map (·.zero) = some (some (.agg #[.int .u64 0, .int .u64 0, .int .u64 0, .int .u64 0])) := tbok.zero _ _ rfl
theorem pl47 : ∃ fs, Try.prog.underlying 47 = some (.struct fs) ∧ placesOf Try.prog fs [(0, 80), (80, 1)] := pl_of Try.underlying47 (by kernel_rfl)
theorem zr47 : (Try.prog.info? 47).map (·.zero) = some (some (.agg #[.bool false, .bool false, .bool false, .bool false, .bool false, .bool false, .bool false, .bool false, .bool false, .bool false, .bool false, .bool false, .bool false, .bool false, .bool false, .bool false, .bool false, .bool false, .bool false, .bool false, .bool false, .bool false, .bool false, .bool false, .bool false, .bool false, .bool false, .bool false, .bool false, .bool false, .bool false, .bool false, .bool false, .bool false, .bool false, .bool false, .bool false, .bool false, .bool false, .bool false, .bool false, .bool false, .bool false, .bool false, .bool false, .bool false, .bool false, .bool false, .bool false, .bool false, .bool false, .bool false, .bool false, .bool false, .bool false, .bool false, .bool false, .bool false, .bool false, .bool false, .bool false, .bool false, .bool false, .bool false, .bool false, .bool false, .bool false, .bool false, .bool false, .bool false, .bool false, .bool false, .bool false, .bool false, .bool false, .bool false, .bool false, .bool false, .bool false, .bool false, .int .i64 0])) := tbok.zero _ _ rfl
theorem bo {f : FuncId} {fn : Func} (h : Try.prog.funcs[f]? = some fn) (hb : ((fn.name == "runtime.NumGoroutine"), fn.body.isNone) = (false, false)) : Bodied Try.prog f := ⟨fn, h, (Prod.mk.inj hb).1, (Prod.mk.inj hb).2⟩
theorem bd5 : Bodied Try.prog 5 := bo Try.func5 (by kernel_rfl)
theorem bd6 : Bodied Try.prog 6 := bo Try.func6 (by kernel_rfl)
theorem bd8 : Bodied Try.prog 8 := bo Try.func8 (by kernel_rfl)
theorem bd10 : Bodied Try.prog 10 := bo Try.func10 (by kernel_rfl)
theorem bd11 : Bodied Try.prog 11 := bo Try.func11 (by kernel_rfl)
theorem bd12 : Bodied Try.prog 12 := bo Try.func12 (by kernel_rfl)
theorem bd13 : Bodied Try.prog 13 := bo Try.func13 (by kernel_rfl)
theorem bd14 : Bodied Try.prog 14 := bo Try.func14 (by kernel_rfl)
theorem bd15 : Bodied Try.prog 15 := bo Try.func15 (by kernel_rfl)
theorem bd16 : Bodied Try.prog 16 := bo Try.func16 (by kernel_rfl)
theorem bd17 : Bodied Try.prog 17 := bo Try.func17 (by kernel_rfl)
theorem bd18 : Bodied Try.prog 18 := bo Try.func18 (by kernel_rfl)
theorem bd19 : Bodied Try.prog 19 := bo Try.func19 (by kernel_rfl)
theorem bd20 : Bodied Try.prog 20 := bo Try.func20 (by kernel_rfl)
theorem bd21 : Bodied Try.prog 21 := bo Try.func21 (by kernel_rfl)
theorem bd22 : Bodied Try.prog 22 := bo Try.func22 (by kernel_rfl)
theorem bd23 : Bodied Try.prog 23 := bo Try.func23 (by kernel_rfl)
theorem bd24 : Bodied Try.prog 24 := bo Try.func24 (by kernel_rfl)
theorem bd25 : Bodied Try.prog 25 := bo Try.func25 (by kernel_rfl)
theorem bd26 : Bodied Try.prog 26 := bo Try.func26 (by kernel_rfl)
theorem bd27 : Bodied Try.prog 27 := bo Try.func27 (by kernel_rfl)
theorem bd28 : Bodied Try.prog 28 := bo Try.func28 (by kernel_rfl)
theorem bd29 : Bodied Try.prog 29 := bo Try.func29 (by kernel_rfl)
theorem bd30 : Bodied Try.prog 30 := bo Try.func30 (by kernel_rfl)
theorem bd31 : Bodied Try.prog 31 := bo Try.func31 (by kernel_rfl)
theorem bd32 : Bodied Try.prog 32 := bo Try.func32 (by kernel_rfl)
theorem bd33 : Bodied Try.prog 33 := bo Try.func33 (by kernel_rfl)
theorem bd34 : Bodied Try.prog 34 := bo Try.func34 (by kernel_rfl)
theorem bd36 : Bodied Try.prog 36 := bo Try.func36 (by kernel_rfl)
theorem bd37 : Bodied Try.prog 37 := bo Try.func37 (by kernel_rfl)
theorem bd38 : Bodied Try.prog 38 := bo Try.func38 (by kernel_rfl)
theorem bd40 : Bodied Try.prog 40 := bo Try.func40 (by kernel_rfl)
theorem bd41 : Bodied Try.prog 41 := bo Try.func41 (by kernel_rfl)
theorem bd42 : Bodied Try.prog 42 := bo Try.func42 (by kernel_rfl)
theorem mixed : Try.prog.follows .mixedOrders = true := by kernel_rfl
end Go.Proofs.Ytbholmgeaklljaa
namespace Go.Proofs.Ytbholmgeaklljaa
open Go Sim
section
variable {P : Program} {ops : Array Oper} {n i : Nat} {os : List Oper} {E : Env} {M : Mem} {D : List Eff → Prop} {K : ASt → Prop}
  {d : Tmp} {ty : TypeId} {ps : String} {af : Array Edge} {g : Option (Nat × Bool)} {o : Op} {x y ix : Operand} {t t' e : TypeId} {v : Value}
theorem yP (hs : PureOp P o E v) (hr : AWo P ops n (i + 1) os ⟨upd E d v, M⟩ (fun es => D (⟨[], []⟩ :: es)) K) (hw : wantA ops E ⟨some d, o, ty, ps, af, g⟩ = some true := by exact rfl) (hd : Nat.blt d n = true := by exact rfl) :
    AWo P ops n i (⟨some d, o, ty, ps, af, g⟩ :: os) ⟨E, M⟩ D K := AWo.pure hs hw hd hr
theorem yM (hr : AWo P ops n (i + 1) os ⟨upd E d v, M⟩ (fun es => D (⟨[], []⟩ :: es)) K) (h : aev E x = some v := by exact rfl) (hw : wantA ops E ⟨some d, .move x, ty, ps, af, g⟩ = some true := by exact rfl) (hd : Nat.blt d n = true := by exact rfl) :
    AWo P ops n i (⟨some d, .move x, ty, ps, af, g⟩ :: os) ⟨E, M⟩ D K := AWo.pure (PureOp.move h) hw hd hr
theorem yA (hr : AWo P ops n (i + 1) os ⟨upd E d v, M⟩ (fun es => D (⟨[], []⟩ :: es)) K) (h : aev E x = some v := by exact rfl) (hw : wantA ops E ⟨some d, .assign x, ty, ps, af, g⟩ = some true := by exact rfl) (hd : Nat.blt d n = true := by exact rfl) :
    AWo P ops n i (⟨some d, .assign x, ty, ps, af, g⟩ :: os) ⟨E, M⟩ D K := AWo.pure (PureOp.assign h) hw hd hr
theorem yK (hr : AWo P ops n (i + 1) os ⟨upd E d undef, M⟩ (fun es => D (⟨[], []⟩ :: es)) K) (hw : wantA ops E ⟨some d, o, ty, ps, af, g⟩ = some false := by exact rfl) (hd : Nat.blt d n = true := by exact rfl) :
    AWo P ops n i (⟨some d, o, ty, ps, af, g⟩ :: os) ⟨E, M⟩ D K := AWo.skipped hw hd hr
theorem yB {b : Bool} (hs : PureOp P o E (.bool b)) (hT : b = true → AWo P ops n (i + 1) os ⟨upd E d (.bool true), M⟩ (fun es => D (⟨[], []⟩ :: es)) K)
    (hF : b = false → AWo P ops n (i + 1) os ⟨upd E d (.bool false), M⟩ (fun es => D (⟨[], []⟩ :: es)) K) (hw : wantA ops E ⟨some d, o, ty, ps, af, g⟩ = some true := by exact rfl) (hd : Nat.blt d n = true := by exact rfl) :
    AWo P ops n i (⟨some d, o, ty, ps, af, g⟩ :: os) ⟨E, M⟩ D K := AWo.pureB hs hw hd hT hF
theorem pX {ix : Nat} {t : Operand} {vs : Array Value} (ht : aev E t = some (.tuple vs) := by exact rfl) (h : vs[ix]? = some v := by exact rfl) : PureOp P (.extract t ix) E v := PureOp.extract ht h
theorem pL {p : Option Addr} {k c : Nat} (h1 : aev E x = some (.slice p k c) := by exact rfl) (ht : Tb.sl.lookup t = some e := by exact rfl) : PureOp Try.prog (.call ⟨.builtin .len, #[x], #[t]⟩) E (.int .i64 k) := PureOp.lenS tbok h1 ht
theorem pJ {id n : Nat} {kd : IntKind} {j : Nat} (h1 : aev E x = some (.slice (some ⟨id, 0, none⟩) n 0) := by exact rfl) (h2 : aev E ix = some (.int kd (j : Nat)) := by exact rfl)
    (ht : Tb.sl.lookup t = some e := by exact rfl) (hs : Tb.sz.lookup e = some 1 := by exact rfl) (hi : j < n := by first | decide | omega) : PureOp Try.prog (.indexAddr t x ix) E (.pointer (some ⟨id, j, none⟩)) :=
  PureOp.idx1 tbok h1 h2 ht hs hi
theorem pA {id n : Nat} {kd : IntKind} {j : Nat} (h1 : aev E x = some (.pointer (some ⟨id, 0, none⟩)) := by exact rfl) (h2 : aev E ix = some (.int kd (j : Nat)) := by exact rfl)
    (ht : Tb.arr.lookup t = some (n, e) := by exact rfl) (hs : Tb.sz.lookup e = some 1 := by exact rfl) (hi : j < n := by first | decide | omega) : PureOp Try.prog (.indexAddr t x ix) E (.pointer (some ⟨id, j, none⟩)) :=
  PureOp.arr1 tbok h1 h2 ht hs hi
theorem pF {id o f off sz : Nat} (h1 : aev E x = some (.pointer (some ⟨id, o, none⟩)) := by exact rfl)
    (hf : Tb.fld.lookup (t, f) = some (off, t') := by exact rfl) (hs : Tb.sz.lookup t' = some sz := by exact rfl) (h0 : sz ≠ 0 := by decide) : PureOp Try.prog (.fieldAddr t x f) E (.pointer (some ⟨id, o + off, none⟩)) :=
  PureOp.fld tbok h1 hf hs h0
theorem pT {c a b : Operand} (hc : aev E c = some (.bool true) := by exact rfl) (h : aev E a = some v := by exact rfl) : PureOp P (.pick c a b) E v := PureOp.pickT hc h
theorem pE {c a b : Operand} (hc : aev E c = some (.bool false) := by exact rfl) (h : aev E b = some v := by exact rfl) : PureOp P (.pick c a b) E v := PureOp.pickF hc h
theorem pAdd {a b : Nat} (h1 : aev E x = some (vi .i64 a) := by exact rfl) (h2 : aev E y = some (vi .i64 b) := by exact rfl) (h : a + b < 9223372036854775808 := by first | decide | omega) :
    PureOp P (.binOp .add t x y t') E (vi .i64 (a + b)) := PureOp.addI h1 h2 h
theorem pSub {a b : Nat} (h1 : aev E x = some (vi .i64 a) := by exact rfl) (h2 : aev E y = some (vi .i64 b) := by exact rfl) (h : b ≤ a := by first | decide | omega) (ha : a < 9223372036854775808 := by first | decide | omega) :
    PureOp P (.binOp .sub t x y t') E (vi .i64 (a - b)) := PureOp.subI h1 h2 h ha
theorem pLt {k : IntKind} {a b : Nat} (h1 : aev E x = some (vi k a) := by exact rfl) (h2 : aev E y = some (vi k b) := by exact rfl) : PureOp P (.binOp .lss t x y t') E (.bool (decide (a < b))) := PureOp.ltN h1 h2
theorem pGt {k : IntKind} {a b : Nat} (h1 : aev E x = some (vi k a) := by exact rfl) (h2 : aev E y = some (vi k b) := by exact rfl) : PureOp P (.binOp .gtr t x y t') E (.bool (decide (b < a))) := PureOp.gtN h1 h2
theorem pEq {k : IntKind} {a b : Nat} (h1 : aev E x = some (vi k a) := by exact rfl) (h2 : aev E y = some (vi k b) := by exact rfl) : PureOp P (.binOp .eql t x y t') E (.bool (a == b)) := PureOp.eqN h1 h2
theorem yL1 {id o : Nat} {b : Blk} (hr : AWo Try.prog ops n (i + 1) os ⟨upd E d v, M⟩ (fun es => D (⟨[id], []⟩ :: es)) K) (ha : aev E x = some (.pointer (some ⟨id, o, none⟩)) := by exact rfl) (hb : M id = some b := by exact rfl)
    (ht : Tb.agg.lookup t = some false := by exact rfl) (hv : b.cells[o]? = some v := by exact rfl) (hw : wantA ops E ⟨some d, .load t x, ty, ps, af, g⟩ = some true := by exact rfl) (hd : Nat.blt d n = true := by exact rfl) :
    AWo Try.prog ops n i (⟨some d, .load t x, ty, ps, af, g⟩ :: os) ⟨E, M⟩ D K := AWo.load tbok ha hb ht hv hw hd hr
theorem yL {α : Type} {f : α → Value} {l : List α} (dflt : α) {rw : Bool} {es id o : Nat} (hr : AWo Try.prog ops n (i + 1) os ⟨upd E d (f (l.getD o dflt)), M⟩ (fun es => D (⟨[id], []⟩ :: es)) K)
    (ha : aev E x = some (.pointer (some ⟨id, o, none⟩)) := by exact rfl) (hb : M id = some ⟨l.map f, rw, es⟩ := by exact rfl) (ht : Tb.agg.lookup t = some false := by exact rfl) (ho : o < l.length := by first | decide | omega)
    (hw : wantA ops E ⟨some d, .load t x, ty, ps, af, g⟩ = some true := by exact rfl) (hd : Nat.blt d n = true := by exact rfl) : AWo Try.prog ops n i (⟨some d, .load t x, ty, ps, af, g⟩ :: os) ⟨E, M⟩ D K := AWo.loadM tbok dflt ha hb ht ho hw hd hr
theorem yLA {id sz : Nat} {cells : List Value} {rw : Bool} {es : Nat} (hr : AWo Try.prog ops n (i + 1) os ⟨upd E d (.agg cells.toArray), M⟩ (fun es => D (⟨[id], []⟩ :: es)) K)
    (ha : aev E x = some (.pointer (some ⟨id, 0, none⟩)) := by exact rfl) (hb : M id = some ⟨cells, rw, es⟩ := by exact rfl)
    (ht : Tb.agg.lookup t = some true := by exact rfl) (hs : Tb.sz.lookup t = some sz := by exact rfl) (hl : cells.length = sz := by first | (simp [*]; done) | rfl) (hw : wantA ops E ⟨some d, .load t x, ty, ps, af, g⟩ = some true := by exact rfl) (hd : Nat.blt d n = true := by exact rfl) :
    AWo Try.prog ops n i (⟨some d, .load t x, ty, ps, af, g⟩ :: os) ⟨E, M⟩ D K := AWo.loadAll tbok ha hb ht hs hl hw hd hr
theorem yS {α : Type} (f : α → Value) {l : List α} {z : α} {es id o : Nat} (hr' : AWo Try.prog ops n (i + 1) os ⟨E, upd M id ⟨(l.set o z).map f, true, es⟩⟩ (fun es' => D (⟨[id], [(id, ⟨(l.set o z).map f, true, es⟩)]⟩ :: es')) K)
    (ha : aev E x = some (.pointer (some ⟨id, o, none⟩)) := by exact rfl) (hx : aev E y = some (f z) := by exact rfl)
    (hb : M id = some ⟨l.map f, true, es⟩ := by exact rfl) (hs : Tb.sz.lookup t = some 1 := by exact rfl) (ho : o < l.length := by first | decide | omega) (hc : (f z).oneCell' = true := by exact rfl)
    (hw : wantA ops E ⟨none, .store t x y, ty, ps, af, g⟩ = some true := by exact rfl) : AWo Try.prog ops n i (⟨none, .store t x y, ty, ps, af, g⟩ :: os) ⟨E, M⟩ D K := AWo.storeM tbok ha hx hb hs ho hc hw hr'
theorem ySA {id sz : Nat} {cells : List Value} {es : Nat} {vs : List Value} (hr' : AWo Try.prog ops n (i + 1) os ⟨E, upd M id ⟨vs, true, es⟩⟩ (fun es' => D (⟨[id], [(id, ⟨vs, true, es⟩)]⟩ :: es')) K)
    (ha : aev E x = some (.pointer (some ⟨id, 0, none⟩)) := by exact rfl) (hx : aev E y = some (.agg vs.toArray) := by exact rfl) (hb : M id = some ⟨cells, true, es⟩ := by exact rfl) (hs : Tb.sz.lookup t = some sz := by exact rfl)
    (h1 : vs.length = sz := by first | (simp [*]; done) | rfl) (h2 : cells.length = sz := by first | (simp [*]; done) | rfl) (hc : vs.all (·.oneCell') = true := by first | exact oneM (fun _ => rfl) _ | rfl | (simp; done))
    (hw : wantA ops E ⟨none, .store t x y, ty, ps, af, g⟩ = some true := by exact rfl) : AWo Try.prog ops n i (⟨none, .store t x y, ty, ps, af, g⟩ :: os) ⟨E, M⟩ D K := AWo.storeAllN tbok ha hx hb hs h1 h2 hc hw hr'
theorem yN {z : Value} (id es : Nat) (cells : List Value) (hr : AWo Try.prog ops n (i + 1) os ⟨upd E d (.pointer (some ⟨id, 0, none⟩)), upd M id ⟨cells, true, es⟩⟩ (fun es' => D (⟨[], [(id, ⟨cells, true, es⟩)]⟩ :: es')) K)
    (hz : Tb.zero.lookup t = some z := by exact rfl) (hf : z.cells.toList.all flatV = true := by exact rfl) (hc : z.cells.toList = cells := by exact rfl) (hid : M id = none := by exact rfl)
    (hw : wantA ops E ⟨some d, .alloc t, ty, ps, af, g⟩ = some true := by exact rfl) (hd : Nat.blt d n = true := by exact rfl) : AWo Try.prog ops n i (⟨some d, .alloc t, ty, ps, af, g⟩ :: os) ⟨E, M⟩ D K := AWo.alloc tbok id es cells hz hf hc hid hw hd hr
theorem yO (id es : Nat) (cells : List Value) (hr : AWo P ops n (i + 1) os ⟨upd E d (.pointer (some ⟨id, 0, none⟩)), upd M id ⟨cells, true, es⟩⟩ (fun es' => D (⟨[], [(id, ⟨cells, true, es⟩)]⟩ :: es')) K)
    (hx : aev E x = some v := by exact rfl) (hc : v.cells.toList = cells := by exact rfl) (hid : M id = none := by exact rfl)
    (hw : wantA ops E ⟨some d, .box t x, ty, ps, af, g⟩ = some true := by exact rfl) (hd : Nat.blt d n = true := by exact rfl) : AWo P ops n i (⟨some d, .box t x, ty, ps, af, g⟩ :: os) ⟨E, M⟩ D K := AWo.box id es cells hx hc hid hw hd hr
end
section
variable {P : Program} {n m : Nat} {σ : ASt} {Q : Exit → ASt → Prop} {ops : Array Oper} {i id l : Nat} {K Y : ASt → Prop} {D : List Eff → Prop} {a b : Code} {c : Operand}
theorem zN (hK : K σ) (hD : D [] := by exact trivial) : AWo P ops n i [] σ D K := AWo.nil hD hK
theorem zD (hK : K σ) (hD : D [] := by kernel_rfl) : AWo P ops n i [] σ D K := AWo.nil hD hK
theorem zS (h : AWo P ops n 0 ops.toList σ (fun _ => True) (fun σ' => AW P n m b σ' Q)) : AW P n m (.seq (.region id ops false) b) σ Q := AW.seqR h
theorem zR (h : AWo P ops n 0 ops.toList σ (fun _ => True) (Q .normal)) : AW P n m (.region id ops false) σ Q := AW.region h
theorem zQ (h : AW P n m a σ (thenA (fun σ' => AW P n m b σ' Q) Q)) : AW P n m (.seq a b) σ Q := AW.seq h
theorem zT (h : Y σ) : thenA Y Q .normal σ := h
theorem zV (h : Q (.exit id) σ) : thenA Y Q (.exit id) σ := h
theorem zU (h : Q .ret σ) : thenA Y Q .ret σ := h
theorem zL (h : Q .normal σ) : inBlockA id Q .normal σ := h
theorem zI (h : Q .ret σ) : inBlockA id Q .ret σ := h
theorem zH (h : Q .normal σ) : inBlockA id Q (.exit id) σ := inBlockA_hit h
theorem zK (h : Q .normal σ) : AW P n m .skip σ Q := AW.skip h
theorem zB (h : AW P n m a σ (inBlockA id Q)) : AW P n m (.block id a) σ Q := AW.block h
theorem zX (h : Q (.exit id) σ) : AW P n m (.exit id) σ Q := AW.exit h
theorem zE (h : Q .ret σ) : AW P n m .ret σ Q := AW.ret h
theorem zC (h : AW P n m a σ Q) (hc : aev σ.env c = some (.bool true) := by exact rfl) : AW P n m (.cond c a b) σ Q := AW.condT hc h
theorem zF (h : AW P n m b σ Q) (hc : aev σ.env c = some (.bool false) := by exact rfl) : AW P n m (.cond c a b) σ Q := AW.condF hc h
theorem zA {b' : Bool} (ht : b' = true → AW P n m a σ Q) (hf : b' = false → AW P n m b σ Q) (hc : aev σ.env c = some (.bool b') := by exact rfl) : AW P n m (.cond c a b) σ Q := AW.cond hc ht hf
end
theorem gi {f : FuncId} {fn : Func} {c : Code} {vs rv : List Value} {M0 Mo : List Blk} (hf : Try.prog.funcs[f]? = some fn)
    (h : AW Try.prog fn.ntmps M0.length c ⟨envL vs, memL M0⟩ (RetQ Try.prog fn M0.length (oneV rv) Mo))
    (hb : fn.body = some c := by exact rfl) (hlen : vs.length ≤ fn.ntmps := by exact of_decide_eq_true rfl) (hM : M0.length ≤ Mo.length := by first | exact Nat.le_refl _ | decide | simp) : GC Try.prog f vs M0 rv Mo :=
  GC.intro hf hb hlen hM h
def WkI (_ : List Nat) (Dm : Nat → Prop) (fm : List (Nat × Nat)) (M N : Mem) : Prop := WkM Dm fm M N
theorem WkI.ren {Dm : Nat → Prop} {fm : List (Nat × Nat)} {M N : Mem} {i : Nat} {cells c' : List Value} {rw rw' : Bool} {es : Nat} {ids : List Nat} (h1 : M ((fm.lookup i).getD i) = some ⟨c', rw', es⟩) (hc : cells.map (ren1 (idm fm)) = c')
    (hok : cells.all (okI ids) = true) (hD : ∀ i ∈ ids, Dm i) (h3 : rw = true → rw' = true) (h : WkI ids Dm fm M N) : WkI ids Dm fm M (Sim.upd N i ⟨cells, rw, es⟩) := WkM.ren ids h1 hc hok hD h3 h
theorem WkI.flat {Dm : Nat → Prop} {fm : List (Nat × Nat)} {M N : Mem} {i : Nat} {cells : List Value} {rw rw' : Bool} {es : Nat} {ids : List Nat} (h1 : M ((fm.lookup i).getD i) = some ⟨cells, rw', es⟩)
    (hf : ∀ v ∈ cells, flatV v = true) (h3 : rw = true → rw' = true) (h : WkI ids Dm fm M N) : WkI ids Dm fm M (Sim.upd N i ⟨cells, rw, es⟩) := WkM.flat h1 hf h3 h
theorem WkI.flatM {α : Type} {f : α → Value} {l l' : List α} {Dm : Nat → Prop} {fm : List (Nat × Nat)} {M N : Mem} {i : Nat} {rw rw' : Bool} {es : Nat} {ids : List Nat} (h1 : M ((fm.lookup i).getD i) = some ⟨l'.map f, rw', es⟩)
    (he : l = l') (hf : ∀ x, flatV (f x) = true) (h3 : rw = true → rw' = true) (h : WkI ids Dm fm M N) : WkI ids Dm fm M (Sim.upd N i ⟨l.map f, rw, es⟩) := WkM.flatM h1 he hf h3 h
theorem WkI.cloM {α : Type} {f : α → Value} {l l' : List α} {Dm : Nat → Prop} {fm : List (Nat × Nat)} {M N : Mem} {i : Nat} {rw rw' : Bool} {es : Nat} {ids : List Nat} (h1 : M ((fm.lookup i).getD i) = some ⟨l'.map f, rw', es⟩)
    (he : l = l') (hf : ∀ x, cloV (f x) = true) (h3 : rw = true → rw' = true) (h : WkI ids Dm fm M N) : WkI ids Dm fm M (Sim.upd N i ⟨l.map f, rw, es⟩) := WkM.cloM h1 he hf h3 h
theorem wk {m : Nat} {fm : List (Nat × Nat)} {σ : ASt} {F : Env} {N : Mem} (ids : List Nat)
    (hE : WkE (dom N) fm σ.env F := by
      repeat (first
        | exact WkE.emp
        | refine WkE.upd rfl (.slice _ _ _ 0 ⟨_, rfl⟩ (by simp) (by simp)) ?_
        | refine WkE.upd rfl (.ptr _ _ ⟨_, rfl⟩) ?_
        | refine WkE.upd rfl (VR.flat _ rfl) ?_
        | refine WkE.upd rfl (clo_refl (by simp) rfl) ?_
        | refine WkE.upd rfl (.nilS _ (by simp)) ?_
        | refine WkE.upd rfl (.deepN _ (by simp)) ?_
        | refine WkE.upd rfl (VR.pure rfl) ?_
        | refine WkE.upd rfl (VR.aggM flat_vi) ?_
        | refine WkE.upd rfl (VR.eqv (vp_succ _) rfl) ?_
        | refine WkE.upd rfl (VR.eqv (vp_succ _).symm rfl) ?_
        | refine WkE.upd rfl (VR.eqv (by first | rfl | (congr 1; omega) | (simp; done) | (simp; omega)) rfl) ?_))
    (hM : WkI ids (dom N) fm σ.mem N := by
      repeat (first
        | exact WkM.emp
        | refine WkI.flatM rfl rfl flat_vi (fun h => h) ?_
        | refine WkI.flatM rfl rfl (fun _ => rfl) (fun h => h) ?_
        | refine WkI.cloM rfl rfl (fun _ => rfl) (fun h => h) ?_
        | refine WkI.ren rfl rfl rfl (dom_all rfl) (fun h => h) ?_
        | refine WkI.flatM rfl (by first | assumption | simp) (fun _ => rfl) (fun h => h) ?_
        | refine WkI.flat rfl (by simp [flatV, flat_vi]) (fun h => h) ?_))
    (hids : ∀ i, dom N i → i ∈ ids := by
      repeat (refine dom_upd_mem (by decide) ?_)
      exact dom_emp)
    (hnd : (ids.map fun i => (fm.lookup i).getD i).Nodup := by decide) (hlow : ((List.range m).all fun i => (N i).isSome && (fm.lookup i).getD i == i) = true := by exact rfl) : Wk m fm σ ⟨F, N⟩ :=
  Wk.of ids hE hM hids hnd hlow
theorem rq {fn : Func} {e : Exit} {σ : ASt} {m : Nat} {rv vs : List Value} {Mo : List Blk} (nids : List Nat) (rvs : List ResultVar) (he : e = .ret ∨ e = .normal := by first | exact .inl rfl | exact .inr rfl)
    (hr : fn.results = rvs.toArray := by exact rfl)
    (hv : RVs Try.prog σ rvs vs := by
      repeat (first
        | exact .nil
        | (apply RVs.tmp; exact rfl)
        | (apply RVs.val; exact RVal.cell1 tbok rfl rfl rfl rfl)
        | (apply RVs.val; exact RVal.cellAll tbok rfl rfl rfl rfl (by first | (simp [*]; done) | rfl))))
    (hl : Mo.length = m + nids.length := by exact rfl)
    (hres : RelL (hmap m nids) Mo.length rv vs := by
      repeat (first
        | exact .nil
        | refine .pure (pure_aggM flat_vi) ?_
        | refine .pure (pure_aggM flat_bool) ?_
        | refine .cons rfl rfl ?_
        | refine .nilS ?_
        | refine .deepN ?_
        | refine .pure rfl ?_))
    (hb : OutL m nids σ.mem Mo.length 0 Mo := by
      repeat (first
        | exact trivial
        | refine OutL.flat rfl (flatM flat_vi) (by intro h; first | rfl | exact h.elim id fun h => absurd h.1 (by simp)) ?_
        | refine OutL.clo rfl (cloM fun _ => rfl) (by intro h; first | rfl | exact h.elim id fun h => absurd h.1 (by simp)) ?_
        | refine OutL.flat rfl (flatM flat_bool) (by intro h; first | rfl | exact h.elim id fun h => absurd h.1 (by simp)) ?_
        | refine OutL.flat rfl (by simp [flatV, flat_vi]; done) (by intro h; first | rfl | exact h.elim id fun h => absurd h.1 (by simp)) ?_
        | refine OutL.whole rfl rfl (OkL.all rfl) (by intro h; first | rfl | exact h.elim id fun h => absurd h.1 (by simp)) ?_))
    (hnd : nids.Nodup := by decide) (hfar : (nids.all fun i => Nat.ble m i) = true := by exact rfl) : RetQ Try.prog fn m (oneV rv) Mo e σ :=
  RetQ.gc vs nids rvs he hr hv hl hres hb hnd hfar
section
variable {P : Program} {ops : Array Oper} {n i : Nat} {os : List Oper} {E : Env} {M : Mem} {D : List Eff → Prop} {K : ASt → Prop}
  {d : Option Tmp} {ty : TypeId} {ps : String} {af : Array Edge} {gd : Option (Nat × Bool)} {f : FuncId} {aops : Array Operand} {tys : Array TypeId} {vals : List Value} {fop : Operand}
theorem yC {vs rv rv' : List Value} {M0 Mo : List Blk} (S : Ctr P f vs M0 (oneV rv) Mo) (hb : Bodied P f) (g : List (Nat × Nat)) (nids : List Nat) {new : List (Nat × Blk)} {fs cs : Array Value} {allv : List Value} {v : Value} {M' : Mem}
    (hr : AWo P ops n (i + 1) os ⟨putE E d v, M'⟩ (fun es => D (⟨g.map (·.1), new⟩ :: es)) K)
    (hf : aev E fop = some (.func (.func f) fs cs) := by exact rfl)
    (hx : Evs E aops.toList vals := by
      repeat (first | exact .nil | (apply Evs.cons; exact rfl)))
    (hall : fs.toList ++ vals ++ cs.toList = allv := by exact rfl)
    (hargs : RelL (gmap g nids) M0.length vs allv := by
      repeat (first
        | exact .nil
        | refine .pure (pure_aggM flat_vi) ?_
        | refine .pure (pure_aggM flat_bool) ?_
        | refine .cons rfl rfl ?_
        | refine .nilS ?_
        | refine .deepN ?_
        | refine .pure rfl ?_))
    (hfit : FitL (gmap g nids) M0.length M M0 g := by
      repeat (first
        | exact .nil
        | refine .flat rfl (flatM flat_vi) (by intro h; first | exact h | rfl) ?_
        | refine .clo rfl (cloM fun _ => rfl) (by intro h; first | exact h | rfl) ?_
        | refine .flat rfl (flatM flat_bool) (by intro h; first | exact h | rfl) ?_
        | refine .flat rfl (by simp [flatV, flat_vi]; done) (by intro h; first | exact h | rfl) ?_
        | refine .whole rfl rfl (OkL.all rfl) (by intro h; first | exact h | rfl) ?_))
    (hl : loneB M0 g = true := by exact rfl)
    (hnew : NewL (gmap g nids) Mo.length M0 Mo g nids new := by
      repeat (first
        | exact .nil
        | (apply NewL.keep; exact rfl)
        | (apply NewL.gone; exact rfl; exact rfl; exact OkL.flat (by simp; done))
        | (apply NewL.chg; exact rfl; exact rfl; exact flat_map_ren (flatM flat_vi); exact OkL.flat (flatM flat_vi))
        | (apply NewL.new; exact flat_map_ren (flatM flat_vi); exact OkL.flat (flatM flat_vi))
        | (apply NewL.new; exact clo_map_ren (cloM fun _ => rfl); exact OkL.clo (cloM fun _ => rfl))
        | (apply NewL.new; exact flat_map_ren (flatM flat_bool); exact OkL.flat (flatM flat_bool))
        | (apply NewL.new; exact rfl; exact OkL.all rfl)))
    (hfr : ∀ i ∈ nids, M i = none := by
      repeat (first | exact frN | refine frC rfl ?_))
    (hnd : nids.Nodup := by decide)
    (hrv : RelR (gmap g nids) Mo.length rv rv' := by
      repeat (first
        | exact .nil
        | (apply RelR.pure; exact pure_aggM flat_vi)
        | (apply RelR.pure; exact pure_aggM flat_bool)
        | (apply RelR.cons; exact rfl; exact rfl)
        | (apply RelR.pure; exact rfl)))
    (hv : oneV rv' = v := by exact rfl) (hM : upds M new = M' := by exact rfl)
    (hw : wantA ops E ⟨d, .call ⟨.value fop, aops, tys⟩, ty, ps, af, gd⟩ = some true := by exact rfl) (hd : dstB n d = true := by exact rfl) :
    AWo P ops n i (⟨d, .call ⟨.value fop, aops, tys⟩, ty, ps, af, gd⟩ :: os) ⟨E, M⟩ D K :=
  AWo.callX S hb g nids hf hx hall hargs hfit hl hnew hfr hnd hrv hv hM hw hd hr
end
end Go.Proofs.Ytbholmgeaklljaa
namespace Go.Proofs.Ytbholmgeaklljaa
open Go Sim
def rtaps : List Nat := [62, 51, 38, 23, 13, 0]
theorem rtaps_lt {j : Nat} (hj : j < 6) : rtaps.getD j 0 < 80 := by
  match j, hj with
  | 0, _ => decide
  | 1, _ => decide
  | 2, _ => decide
  | 3, _ => decide
  | 4, _ => decide
  | 5, _ => decide
def rcnt (l : List Bool) : Nat → Nat
  | 0 => 0
  | j + 1 => if l.getD (rtaps.getD j 0) false then rcnt l j + 1 else rcnt l j
theorem rcnt_le (l : List Bool) (j : Nat) : rcnt l j ≤ j := by
  induction j with
  | zero => exact Nat.le_refl _
  | succ j ih => simp only [rcnt]; split <;> omega
def rsh (l : List Bool) : Nat → List Bool
  | 0 => l
  | j + 1 => (rsh l j).set j ((rsh l j).getD (j + 1) false)
theorem rsh_len (l : List Bool) (j : Nat) : (rsh l j).length = l.length := by
  induction j with
  | zero => rfl
  | succ j ih => simp [rsh, ih]
set_option maxRecDepth 10000 in
theorem rturn_ctr {l : List Bool} (hl : l.length = 80) : GC Try.prog 19 [.agg (l.map Value.bool).toArray] [] [.agg (((rsh l 79).set 79 (rcnt l 6 % 2 == 1)).map Value.bool).toArray, .bool (rcnt l 6 % 2 == 1)] [] := by
  refine GC.intro Try.func19 rfl (by show 1 ≤ 38; decide) (by first | exact Nat.le_refl _ | decide | simp) ?_
  refine zS ?_
  refine yO 2000 1 (l.map Value.bool) ?_
  refine yN 3000 1 ((List.replicate 80 false).map Value.bool) ?_
  refine yA ?_
  refine zN (zS ?_)
  refine yA ?_
  refine zN (zQ (zS ?_))
  refine AWo.buildSlice tbok 9000 [(0, vi .i64 62), (1, vi .i64 51), (2, vi .i64 38), (3, vi .i64 23), (4, vi .i64 13), (5, vi .i64 0)] (out := rtaps.map (vi .i64)) rfl rfl (by decide) rfl rfl rfl (by decide) rfl rfl rfl rfl rfl ?_
  refine yP pL ?_
  refine yM ?_
  refine zN (zB ?_)
  refine AW.loopw (fun mm σ => ∃ j, (j ≤ 6) ∧ mm = 6 - j ∧ σ = ⟨(upd (upd (upd (upd (upd (upd emp 10 (vi .i64 j)) 9 (vi .i64 6)) 8 (.slice (some ⟨9000, 0, none⟩) 6 0)) 1 (.pointer (some ⟨2000, 0, none⟩))) 2 (.pointer (some ⟨3000, 0, none⟩))) 4 (vi .i64 (rcnt l j))), (upd (upd (upd emp 2000 ⟨l.map Value.bool, true, 1⟩) 3000 ⟨(List.replicate 80 false).map Value.bool, true, 1⟩) 9000 ⟨rtaps.map (vi .i64), true, 1⟩)⟩) (fm := []) (wk [2000, 3000, 9000]) ⟨0, by decide, rfl, rfl⟩ ?_
  rintro mm σ ⟨j, hinv, rfl, rfl⟩
  have hrc := rcnt_le l j
  refine zS ?_
  first | refine AWo.pure (PureOp.ltN rfl rfl) rfl rfl ?_ | refine AWo.pure (PureOp.bin rfl rfl rfl) rfl rfl ?_
  refine zN (zQ ?_)
  refine zA (fun hb0 => ?_) (fun hb0 => ?_)
  ·
    have hj : j < 6 := by simpa using hb0
    refine zK (zT (zQ (zB (zS ?_))))
    first | refine AWo.pure (PureOp.idx1 tbok rfl rfl rfl rfl (by first | decide | omega)) rfl rfl ?_ | refine AWo.pure (PureOp.idx tbok rfl rfl rfl rfl (by first | decide | omega)) rfl rfl ?_
    refine AWo.loadM tbok 0 rfl rfl rfl (show j < rtaps.length from hj) rfl rfl ?_
    refine yA ?_
    refine zN (zS ?_)
    refine yM ?_
    refine yP (pA (hi := (rtaps_lt hj))) ?_
    refine AWo.loadM tbok false rfl rfl rfl (by rw [hl]; exact rtaps_lt hj) rfl rfl ?_
    refine zN ?_
    refine zA (fun hb1 => ?_) (fun hb1 => ?_)
    ·
      refine zR ?_
      refine yM ?_
      first | refine AWo.pure (PureOp.addI (b := 1) rfl rfl (by first | decide | omega)) rfl rfl ?_ | refine AWo.pure (PureOp.bin rfl rfl rfl) rfl rfl ?_
      refine yA ?_
      refine zN (zL (zT (zR ?_)))
      first | refine AWo.pure (PureOp.addI (b := 1) rfl rfl (by first | decide | omega)) rfl rfl ?_ | refine AWo.pure (PureOp.bin rfl rfl rfl) rfl rfl ?_
      refine yM ?_
      refine zN (zT ?_)
      refine ⟨6 - (j + 1), [], _, by omega, ?_, j + 1, by omega, rfl, rfl⟩
      refine Wk.of [2000, 3000, 9000] ?_ ?_ ?_ (by decide) rfl
      ·
        refine WkE.upd rfl (VR.eqv (by first | rfl | (simp only [rcnt, hb1]; rfl)) rfl) ?_
        refine WkE.upd rfl (.ptr (3000) 0 ⟨_, rfl⟩) ?_
        refine WkE.upd rfl (.ptr (2000) 0 ⟨_, rfl⟩) ?_
        refine WkE.upd rfl (.slice (9000) 0 _ 0 ⟨_, rfl⟩ (by simp) (by simp)) ?_
        refine WkE.upd rfl (by first | exact VR.flat _ rfl | exact VR.eqv (by first | rfl | (congr 1; omega) | (simp; done) | (simp; omega)) rfl) ?_
        refine WkE.upd rfl (by first | exact VR.flat _ rfl | exact VR.eqv (by first | rfl | (congr 1; omega) | (simp; done) | (simp; omega)) rfl) ?_
        exact WkE.emp
      ·
        refine WkM.flatM rfl (by first | rfl | assumption | simp) (fun _ => rfl) (fun h => h) ?_
        refine WkM.flatM rfl (by first | rfl | assumption | simp) (fun _ => rfl) (fun h => h) ?_
        refine WkM.flatM rfl (by first | rfl | assumption | simp) (fun _ => rfl) (fun h => h) ?_
        exact WkM.emp
      ·
        repeat (refine dom_upd_mem (by decide) ?_)
        exact dom_emp
    ·
      refine zK (zL (zT (zR ?_)))
      first | refine AWo.pure (PureOp.addI (b := 1) rfl rfl (by first | decide | omega)) rfl rfl ?_ | refine AWo.pure (PureOp.bin rfl rfl rfl) rfl rfl ?_
      refine yM ?_
      refine zN (zT ?_)
      refine ⟨6 - (j + 1), [], _, by omega, ?_, j + 1, by omega, rfl, rfl⟩
      refine Wk.of [2000, 3000, 9000] ?_ ?_ ?_ (by decide) rfl
      ·
        refine WkE.upd rfl (VR.eqv (by first | rfl | (simp only [rcnt, hb1]; rfl)) rfl) ?_
        refine WkE.upd rfl (.ptr (3000) 0 ⟨_, rfl⟩) ?_
        refine WkE.upd rfl (.ptr (2000) 0 ⟨_, rfl⟩) ?_
        refine WkE.upd rfl (.slice (9000) 0 _ 0 ⟨_, rfl⟩ (by simp) (by simp)) ?_
        refine WkE.upd rfl (by first | exact VR.flat _ rfl | exact VR.eqv (by first | rfl | (congr 1; omega) | (simp; done) | (simp; omega)) rfl) ?_
        refine WkE.upd rfl (by first | exact VR.flat _ rfl | exact VR.eqv (by first | rfl | (congr 1; omega) | (simp; done) | (simp; omega)) rfl) ?_
        exact WkE.emp
      ·
        refine WkM.flatM rfl (by first | rfl | assumption | simp) (fun _ => rfl) (fun h => h) ?_
        refine WkM.flatM rfl (by first | rfl | assumption | simp) (fun _ => rfl) (fun h => h) ?_
        refine WkM.flatM rfl (by first | rfl | assumption | simp) (fun _ => rfl) (fun h => h) ?_
        exact WkM.emp
      ·
        repeat (refine dom_upd_mem (by decide) ?_)
        exact dom_emp
  ·
    have hj : j = 6 := by simp at hb0; omega
    subst hj
    have hrc := rcnt_le l 6
    refine zX (zV (zV (zH (zT (zQ (zS ?_))))))
    refine yA ?_
    refine zN (zB ?_)
    refine AW.loopw (fun mm σ => ∃ j, (j ≤ 79) ∧ mm = 79 - j ∧ σ = ⟨(upd (upd (upd (upd emp 7 (vi .i64 j)) 1 (.pointer (some ⟨2000, 0, none⟩))) 2 (.pointer (some ⟨3000, 0, none⟩))) 4 (vi .i64 (rcnt l 6))), (upd (upd emp 2000 ⟨(rsh l j).map Value.bool, true, 1⟩) 3000 ⟨(List.replicate 80 false).map Value.bool, true, 1⟩)⟩) (fm := []) (wk [2000, 3000]) ⟨0, by decide, rfl, rfl⟩ ?_
    rintro mm σ ⟨j, hinv, rfl, rfl⟩
    have hrl := rsh_len l j
    refine zQ (zS ?_)
    refine yM ?_
    first | refine AWo.pure (PureOp.ltN (b := 79) rfl rfl) rfl rfl ?_ | refine AWo.pure (PureOp.bin rfl rfl rfl) rfl rfl ?_
    refine zN ?_
    refine zA (fun hb2 => ?_) (fun hb2 => ?_)
    ·
      have hj : j < 79 := by simpa using hb2
      refine zK (zT (zQ (zB (zR ?_))))
      refine yM ?_
      refine yM ?_
      first | refine AWo.pure (PureOp.addI (b := 1) rfl rfl (by first | decide | omega)) rfl rfl ?_ | refine AWo.pure (PureOp.bin rfl rfl rfl) rfl rfl ?_
      first | refine AWo.pure (PureOp.arr1 tbok rfl rfl rfl rfl (by first | decide | omega)) rfl rfl ?_ | refine AWo.pure (PureOp.arr tbok rfl rfl rfl rfl (by first | decide | omega)) rfl rfl ?_
      first | refine AWo.loadM tbok false rfl rfl rfl (by first | decide | omega) rfl rfl ?_ | refine AWo.load tbok rfl rfl rfl rfl rfl rfl ?_
      first | refine AWo.pure (PureOp.arr1 tbok rfl rfl rfl rfl (by first | decide | omega)) rfl rfl ?_ | refine AWo.pure (PureOp.arr tbok rfl rfl rfl rfl (by first | decide | omega)) rfl rfl ?_
      first | refine AWo.storeM (f := Value.bool) tbok rfl rfl rfl rfl (by first | decide | omega) rfl rfl ?_ | refine AWo.store tbok rfl rfl rfl rfl rfl (by first | decide | (simp; omega)) rfl rfl rfl ?_
      refine zN (zL (zT (zR ?_)))
      refine yM ?_
      first | refine AWo.pure (PureOp.addI (b := 1) rfl rfl (by first | decide | omega)) rfl rfl ?_ | refine AWo.pure (PureOp.bin rfl rfl rfl) rfl rfl ?_
      refine yA ?_
      refine zN (zT ?_)
      exact ⟨79 - (j + 1), [], _, by omega, wk [2000, 3000], j + 1, by omega, rfl, rfl⟩
    ·
      have hj : j = 79 := by simp at hb2; omega
      subst hj
      have hrl := rsh_len l 79
      refine zX (zV (zV (zH (zT (zS ?_)))))
      refine yM ?_
      first | refine AWo.pure (PureOp.remN (b := 2) rfl rfl (by first | decide | omega)) rfl rfl ?_ | refine AWo.pure (PureOp.rem rfl rfl (by first | decide | omega)) rfl rfl ?_
      first | refine AWo.pure (PureOp.eqN (b := 1) rfl rfl) rfl rfl ?_ | refine AWo.pure (PureOp.bin rfl rfl rfl) rfl rfl ?_
      first | refine AWo.pure (PureOp.arr1 (j := 79) tbok rfl rfl rfl rfl (by first | decide | omega)) rfl rfl ?_ | refine AWo.pure (PureOp.arr (j := 79) tbok rfl rfl rfl rfl (by first | decide | omega)) rfl rfl ?_
      first | refine AWo.storeM (f := Value.bool) tbok rfl rfl rfl rfl (by first | decide | omega) rfl rfl ?_ | refine AWo.store tbok rfl rfl rfl rfl rfl (by first | decide | (simp; omega)) rfl rfl rfl ?_
      refine zN (zS ?_)
      first | refine AWo.loadAll tbok rfl rfl rfl rfl (by first | (simp [*]; done) | rfl) rfl rfl ?_ | refine AWo.loadAgg tbok rfl rfl rfl rfl (by first | decide | omega) rfl rfl rfl ?_
      refine yM ?_
      first | refine AWo.pure (PureOp.remN (b := 2) rfl rfl (by first | decide | omega)) rfl rfl ?_ | refine AWo.pure (PureOp.rem rfl rfl (by first | decide | omega)) rfl rfl ?_
      first | refine AWo.pure (PureOp.eqN (b := 1) rfl rfl) rfl rfl ?_ | refine AWo.pure (PureOp.bin rfl rfl rfl) rfl rfl ?_
      refine AWo.storeAllN tbok rfl rfl rfl rfl (by first | (simp [*]; done) | rfl) (by first | (simp [*]; done) | rfl) (by first | exact oneM (fun _ => rfl) _ | rfl | (simp; done)) rfl ?_
      refine yA ?_
      refine zN (zE ?_)
      exact rq [] [.cell 2 38, .tmp 3] (hv := (.val (RVal.cellAll tbok rfl rfl rfl rfl (by first | (simp [*]; done) | rfl)) (.tmp rfl .nil)))
end Go.Proofs.Ytbholmgeaklljaa
namespace Go.Proofs.Ytbholmgeaklljaa
open Go Sim
def srcC (r : List Bool) (a : Nat) : List Value := r.map Value.bool ++ [vi .i64 a]
theorem srcC_len {r : List Bool} {a : Nat} (hr : r.length = 80) : (srcC r a).length = 81 := by simp [srcC, hr]
theorem srcC_get {r : List Bool} {a j : Nat} (hr : r.length = 80) (hj : j < 80) : (srcC r a)[j]? = some (.bool (r.getD j false)) := by
  rw [srcC, List.getElem?_append_left (by simpa [hr] using hj)]
  exact getM false (by omega)
theorem srcC_at {r : List Bool} {a : Nat} (hr : r.length = 80) : (srcC r a)[80]? = some (vi .i64 a) := by
  rw [srcC, List.getElem?_append_right (by simp [hr])]
  simp [hr]
theorem srcC_set {r : List Bool} {a j : Nat} (hr : r.length = 80) (hj : j < 80) (b : Bool) : (srcC r a).set j (.bool b) = srcC (r.set j b) a := by
  simp only [srcC]
  rw [List.set_append_left _ _ (by simpa [hr] using hj), List.map_set]
theorem srcC_set_at {r : List Bool} {a : Nat} (hr : r.length = 80) (b : Nat) : (srcC r a).set 80 (vi .i64 b) = srcC r b := by
  simp only [srcC]
  rw [List.set_append_right _ _ (by simp [hr])]
  simp [hr]
theorem srcC_flat {r : List Bool} {a : Nat} : ∀ x ∈ srcC r a, flatV x = true := by
  intro x hx
  rcases List.mem_append.1 hx with h | h
  · obtain ⟨b, _, rfl⟩ := List.mem_map.1 h; rfl
  · simp at h; subst h; rfl
def ptr (i : Nat) : Value := .pointer (some ⟨i, 0, none⟩)
set_option maxRecDepth 10000 in
theorem turn_ctr' {r : List Bool} {a : Nat} (hr : r.length = 80) (ha : a < 80) :
    GC Try.prog 15 [.pointer (some ⟨0, 0, none⟩)] [⟨srcC r a, true, 1⟩] [.bool (gbit (r, a))] [⟨srcC (gst (r, a)).1 (gst (r, a)).2, true, 1⟩] := by
  refine GC.intro Try.func15 rfl (by show 1 ≤ 55; decide) (by first | exact Nat.le_refl _ | decide | simp) ?_
  refine zS ?_
  refine yA ?_
  refine zN ?_
  refine AW.seqD mixed ?_
  refine yM ?_
  refine yM ?_
  refine yP (PureOp.nilCheck rfl) ?_
  refine yP pF ?_
  refine AWo.load tbok rfl rfl rfl (srcC_at hr) rfl rfl ?_
  refine yP (PureOp.nilCheck rfl) ?_
  refine yP pF ?_
  first | refine AWo.pure (PureOp.arr1 tbok rfl rfl rfl rfl (by first | decide | omega)) rfl rfl ?_ | refine AWo.pure (PureOp.arr tbok rfl rfl rfl rfl (by first | decide | omega)) rfl rfl ?_
  refine AWo.load tbok rfl rfl rfl (srcC_get hr ha) rfl rfl ?_
  refine yA ?_
  refine zD (zQ (zS ?_))
  refine AWo.buildSlice tbok 16000 [(0, vi .i64 13), (1, vi .i64 23), (2, vi .i64 38), (3, vi .i64 51), (4, vi .i64 62)] rfl rfl (by decide) rfl rfl rfl (by decide) rfl rfl rfl rfl rfl ?_
  refine yP pL ?_
  refine yM ?_
  refine zN (zB ?_)
  refine AW.rounds 6 ?_
  refine roundsA_succ ?_
  refine zS ?_
  first | refine AWo.pure (PureOp.ltN rfl rfl) rfl rfl ?_ | refine AWo.pure (PureOp.bin rfl rfl rfl) rfl rfl ?_
  refine zN (zQ (zC (zK (zT (zQ (zB (zS ?_)))))))
  first | refine AWo.pure (PureOp.idx1 tbok rfl rfl rfl rfl (by first | decide | omega)) rfl rfl ?_ | refine AWo.pure (PureOp.idx tbok rfl rfl rfl rfl (by first | decide | omega)) rfl rfl ?_
  first | refine AWo.loadM tbok 0 rfl rfl rfl (by first | decide | omega) rfl rfl ?_ | refine AWo.load tbok rfl rfl rfl rfl rfl rfl ?_
  refine yA ?_
  refine zN ?_
  refine AW.draw mixed ?_
  refine yM ?_
  refine yM ?_
  refine yM ?_
  refine yP (PureOp.nilCheck rfl) ?_
  refine yP pF ?_
  refine AWo.load tbok rfl rfl rfl (srcC_at hr) rfl rfl ?_
  refine yM ?_
  first | refine AWo.pure (PureOp.addI rfl rfl (by first | decide | omega)) rfl rfl ?_ | refine AWo.pure (PureOp.bin rfl rfl rfl) rfl rfl ?_
  first | refine AWo.pure (PureOp.remN (b := 80) rfl rfl (by first | decide | omega)) rfl rfl ?_ | refine AWo.pure (PureOp.rem rfl rfl (by first | decide | omega)) rfl rfl ?_
  refine yP (PureOp.nilCheck rfl) ?_
  refine yP pF ?_
  first | refine AWo.pure (PureOp.arr1 tbok rfl rfl rfl rfl (by first | decide | omega)) rfl rfl ?_ | refine AWo.pure (PureOp.arr tbok rfl rfl rfl rfl (by first | decide | omega)) rfl rfl ?_
  refine AWo.load tbok rfl rfl rfl (srcC_get hr (Nat.mod_lt _ (by decide))) rfl rfl ?_
  refine yP (PureOp.neqBool Try.underlying4 rfl rfl) ?_
  refine yA ?_
  refine zD (zL (zT (zR ?_)))
  first | refine AWo.pure (PureOp.addI (b := 1) rfl rfl (by first | decide | omega)) rfl rfl ?_ | refine AWo.pure (PureOp.bin rfl rfl rfl) rfl rfl ?_
  refine yM ?_
  refine zN (zT ?_)
  refine roundsA_succ ?_
  refine zS ?_
  first | refine AWo.pure (PureOp.ltN rfl rfl) rfl rfl ?_ | refine AWo.pure (PureOp.bin rfl rfl rfl) rfl rfl ?_
  refine zN (zQ (zC (zK (zT (zQ (zB (zS ?_)))))))
  first | refine AWo.pure (PureOp.idx1 tbok rfl rfl rfl rfl (by first | decide | omega)) rfl rfl ?_ | refine AWo.pure (PureOp.idx tbok rfl rfl rfl rfl (by first | decide | omega)) rfl rfl ?_
  first | refine AWo.loadM tbok 0 rfl rfl rfl (by first | decide | omega) rfl rfl ?_ | refine AWo.load tbok rfl rfl rfl rfl rfl rfl ?_
  refine yA ?_
  refine zN ?_
  refine AW.draw mixed ?_
  refine yM ?_
  refine yM ?_
  refine yM ?_
  refine yP (PureOp.nilCheck rfl) ?_
  refine yP pF ?_
  refine AWo.load tbok rfl rfl rfl (srcC_at hr) rfl rfl ?_
  refine yM ?_
  first | refine AWo.pure (PureOp.addI rfl rfl (by first | decide | omega)) rfl rfl ?_ | refine AWo.pure (PureOp.bin rfl rfl rfl) rfl rfl ?_
  first | refine AWo.pure (PureOp.remN (b := 80) rfl rfl (by first | decide | omega)) rfl rfl ?_ | refine AWo.pure (PureOp.rem rfl rfl (by first | decide | omega)) rfl rfl ?_
  refine yP (PureOp.nilCheck rfl) ?_
  refine yP pF ?_
  first | refine AWo.pure (PureOp.arr1 tbok rfl rfl rfl rfl (by first | decide | omega)) rfl rfl ?_ | refine AWo.pure (PureOp.arr tbok rfl rfl rfl rfl (by first | decide | omega)) rfl rfl ?_
  refine AWo.load tbok rfl rfl rfl (srcC_get hr (Nat.mod_lt _ (by decide))) rfl rfl ?_
  refine yP (PureOp.neqBool Try.underlying4 rfl rfl) ?_
  refine yA ?_
  refine zD (zL (zT (zR ?_)))
  first | refine AWo.pure (PureOp.addI (b := 1) rfl rfl (by first | decide | omega)) rfl rfl ?_ | refine AWo.pure (PureOp.bin rfl rfl rfl) rfl rfl ?_
  refine yM ?_
  refine zN (zT ?_)
  refine roundsA_succ ?_
  refine zS ?_
  first | refine AWo.pure (PureOp.ltN rfl rfl) rfl rfl ?_ | refine AWo.pure (PureOp.bin rfl rfl rfl) rfl rfl ?_
  refine zN (zQ (zC (zK (zT (zQ (zB (zS ?_)))))))
  first | refine AWo.pure (PureOp.idx1 tbok rfl rfl rfl rfl (by first | decide | omega)) rfl rfl ?_ | refine AWo.pure (PureOp.idx tbok rfl rfl rfl rfl (by first | decide | omega)) rfl rfl ?_
  first | refine AWo.loadM tbok 0 rfl rfl rfl (by first | decide | omega) rfl rfl ?_ | refine AWo.load tbok rfl rfl rfl rfl rfl rfl ?_
  refine yA ?_
  refine zN ?_
  refine AW.draw mixed ?_
  refine yM ?_
  refine yM ?_
  refine yM ?_
  refine yP (PureOp.nilCheck rfl) ?_
  refine yP pF ?_
  refine AWo.load tbok rfl rfl rfl (srcC_at hr) rfl rfl ?_
  refine yM ?_
  first | refine AWo.pure (PureOp.addI rfl rfl (by first | decide | omega)) rfl rfl ?_ | refine AWo.pure (PureOp.bin rfl rfl rfl) rfl rfl ?_
  first | refine AWo.pure (PureOp.remN (b := 80) rfl rfl (by first | decide | omega)) rfl rfl ?_ | refine AWo.pure (PureOp.rem rfl rfl (by first | decide | omega)) rfl rfl ?_
  refine yP (PureOp.nilCheck rfl) ?_
  refine yP pF ?_
  first | refine AWo.pure (PureOp.arr1 tbok rfl rfl rfl rfl (by first | decide | omega)) rfl rfl ?_ | refine AWo.pure (PureOp.arr tbok rfl rfl rfl rfl (by first | decide | omega)) rfl rfl ?_
  refine AWo.load tbok rfl rfl rfl (srcC_get hr (Nat.mod_lt _ (by decide))) rfl rfl ?_
  refine yP (PureOp.neqBool Try.underlying4 rfl rfl) ?_
  refine yA ?_
  refine zD (zL (zT (zR ?_)))
  first | refine AWo.pure (PureOp.addI (b := 1) rfl rfl (by first | decide | omega)) rfl rfl ?_ | refine AWo.pure (PureOp.bin rfl rfl rfl) rfl rfl ?_
  refine yM ?_
  refine zN (zT ?_)
  refine roundsA_succ ?_
  refine zS ?_
  first | refine AWo.pure (PureOp.ltN rfl rfl) rfl rfl ?_ | refine AWo.pure (PureOp.bin rfl rfl rfl) rfl rfl ?_
  refine zN (zQ (zC (zK (zT (zQ (zB (zS ?_)))))))
  first | refine AWo.pure (PureOp.idx1 tbok rfl rfl rfl rfl (by first | decide | omega)) rfl rfl ?_ | refine AWo.pure (PureOp.idx tbok rfl rfl rfl rfl (by first | decide | omega)) rfl rfl ?_
  first | refine AWo.loadM tbok 0 rfl rfl rfl (by first | decide | omega) rfl rfl ?_ | refine AWo.load tbok rfl rfl rfl rfl rfl rfl ?_
  refine yA ?_
  refine zN ?_
  refine AW.draw mixed ?_
  refine yM ?_
  refine yM ?_
  refine yM ?_
  refine yP (PureOp.nilCheck rfl) ?_
  refine yP pF ?_
  refine AWo.load tbok rfl rfl rfl (srcC_at hr) rfl rfl ?_
  refine yM ?_
  first | refine AWo.pure (PureOp.addI rfl rfl (by first | decide | omega)) rfl rfl ?_ | refine AWo.pure (PureOp.bin rfl rfl rfl) rfl rfl ?_
  first | refine AWo.pure (PureOp.remN (b := 80) rfl rfl (by first | decide | omega)) rfl rfl ?_ | refine AWo.pure (PureOp.rem rfl rfl (by first | decide | omega)) rfl rfl ?_
  refine yP (PureOp.nilCheck rfl) ?_
  refine yP pF ?_
  first | refine AWo.pure (PureOp.arr1 tbok rfl rfl rfl rfl (by first | decide | omega)) rfl rfl ?_ | refine AWo.pure (PureOp.arr tbok rfl rfl rfl rfl (by first | decide | omega)) rfl rfl ?_
  refine AWo.load tbok rfl rfl rfl (srcC_get hr (Nat.mod_lt _ (by decide))) rfl rfl ?_
  refine yP (PureOp.neqBool Try.underlying4 rfl rfl) ?_
  refine yA ?_
  refine zD (zL (zT (zR ?_)))
  first | refine AWo.pure (PureOp.addI (b := 1) rfl rfl (by first | decide | omega)) rfl rfl ?_ | refine AWo.pure (PureOp.bin rfl rfl rfl) rfl rfl ?_
  refine yM ?_
  refine zN (zT ?_)
  refine roundsA_succ ?_
  refine zS ?_
  first | refine AWo.pure (PureOp.ltN rfl rfl) rfl rfl ?_ | refine AWo.pure (PureOp.bin rfl rfl rfl) rfl rfl ?_
  refine zN (zQ (zC (zK (zT (zQ (zB (zS ?_)))))))
  first | refine AWo.pure (PureOp.idx1 tbok rfl rfl rfl rfl (by first | decide | omega)) rfl rfl ?_ | refine AWo.pure (PureOp.idx tbok rfl rfl rfl rfl (by first | decide | omega)) rfl rfl ?_
  first | refine AWo.loadM tbok 0 rfl rfl rfl (by first | decide | omega) rfl rfl ?_ | refine AWo.load tbok rfl rfl rfl rfl rfl rfl ?_
  refine yA ?_
  refine zN ?_
  refine AW.draw mixed ?_
  refine yM ?_
  refine yM ?_
  refine yM ?_
  refine yP (PureOp.nilCheck rfl) ?_
  refine yP pF ?_
  refine AWo.load tbok rfl rfl rfl (srcC_at hr) rfl rfl ?_
  refine yM ?_
  first | refine AWo.pure (PureOp.addI rfl rfl (by first | decide | omega)) rfl rfl ?_ | refine AWo.pure (PureOp.bin rfl rfl rfl) rfl rfl ?_
  first | refine AWo.pure (PureOp.remN (b := 80) rfl rfl (by first | decide | omega)) rfl rfl ?_ | refine AWo.pure (PureOp.rem rfl rfl (by first | decide | omega)) rfl rfl ?_
  refine yP (PureOp.nilCheck rfl) ?_
  refine yP pF ?_
  first | refine AWo.pure (PureOp.arr1 tbok rfl rfl rfl rfl (by first | decide | omega)) rfl rfl ?_ | refine AWo.pure (PureOp.arr tbok rfl rfl rfl rfl (by first | decide | omega)) rfl rfl ?_
  refine AWo.load tbok rfl rfl rfl (srcC_get hr (Nat.mod_lt _ (by decide))) rfl rfl ?_
  refine yP (PureOp.neqBool Try.underlying4 rfl rfl) ?_
  refine yA ?_
  refine zD (zL (zT (zR ?_)))
  first | refine AWo.pure (PureOp.addI (b := 1) rfl rfl (by first | decide | omega)) rfl rfl ?_ | refine AWo.pure (PureOp.bin rfl rfl rfl) rfl rfl ?_
  refine yM ?_
  refine zN (zT ?_)
  refine roundsA_succ ?_
  refine zS ?_
  first | refine AWo.pure (PureOp.ltN rfl rfl) rfl rfl ?_ | refine AWo.pure (PureOp.bin rfl rfl rfl) rfl rfl ?_
  refine zN (zQ (zF (zX (zV (zV (zH (zT ?_)))))))
  refine AW.seqD mixed ?_
  refine yM ?_
  refine yM ?_
  refine yP (PureOp.nilCheck rfl) ?_
  refine yP pF ?_
  refine AWo.load tbok rfl rfl rfl (srcC_at hr) rfl rfl ?_
  refine yM ?_
  refine yP (PureOp.nilCheck rfl) ?_
  refine yP pF ?_
  first | refine AWo.pure (PureOp.arr1 tbok rfl rfl rfl rfl (by first | decide | omega)) rfl rfl ?_ | refine AWo.pure (PureOp.arr tbok rfl rfl rfl rfl (by first | decide | omega)) rfl rfl ?_
  refine AWo.store1 tbok rfl rfl rfl rfl rfl (by rw [srcC_len hr]; omega) (srcC_set hr ha _) rfl ?_
  refine zD (zS ?_)
  refine yM ?_
  refine yM ?_
  refine yP (PureOp.nilCheck rfl) ?_
  refine yP pF ?_
  refine AWo.load tbok rfl rfl rfl (srcC_at (by simp [hr])) rfl rfl ?_
  first | refine AWo.pure (PureOp.addI (b := 1) rfl rfl (by first | decide | omega)) rfl rfl ?_ | refine AWo.pure (PureOp.bin rfl rfl rfl) rfl rfl ?_
  first | refine AWo.pure (PureOp.remN (b := 80) rfl rfl (by first | decide | omega)) rfl rfl ?_ | refine AWo.pure (PureOp.rem rfl rfl (by first | decide | omega)) rfl rfl ?_
  refine yP (PureOp.nilCheck rfl) ?_
  refine yP pF ?_
  refine AWo.store1 tbok rfl rfl rfl rfl rfl (by rw [srcC_len (by simp [hr])]; decide) (srcC_set_at (by simp [hr]) _) rfl ?_
  refine zN (zS ?_)
  refine yM ?_
  refine yA ?_
  refine zN (zE ?_)
  exact rq [] [.tmp 2] (hb := (OutL.flat rfl srcC_flat (fun _ => rfl) trivial))
theorem turn_ctr {s : GS} (h : GV s) : GC Try.prog 15 [.pointer (some ⟨0, 0, none⟩)] [⟨srcC s.1 s.2, true, 1⟩] [.bool (gbit s)] [⟨srcC (gst s).1 (gst s).2, true, 1⟩] := turn_ctr' h.1 h.2
set_option maxRecDepth 10000 in
theorem bit_ctr {k : Nat} {s : GS} {p : GS × Bool} (hv : GV s) (hp : gN k s = some p) : GC Try.prog 13 [.pointer (some ⟨0, 0, none⟩)] [⟨srcC s.1 s.2, true, 1⟩] [.bool p.2] [⟨srcC p.1.1 p.1.2, true, 1⟩] := by
  refine GC.intro Try.func13 rfl (by show 1 ≤ 12; decide) (by first | exact Nat.le_refl _ | decide | simp) ?_
  refine zS ?_
  refine yA ?_
  refine zN ?_
  refine AW.scopew 0 (fun mm σ => ∃ k, ∃ (s : GS), (GV s ∧ gN k s = some p) ∧ mm = 1 * k ∧ σ = ⟨(upd emp 0 (.pointer (some ⟨0, 0, none⟩))), (upd emp 0 ⟨srcC s.1 s.2, true, 1⟩)⟩) (fm := []) ?_ ⟨k, s, ⟨hv, hp⟩, rfl, rfl⟩ ?_
  ·
    refine Wk.of [0] ?_ ?_ ?_ (by decide) rfl
    ·
      refine WkE.upd rfl (.ptr (0) 0 ⟨_, rfl⟩) ?_
      exact WkE.emp
    ·
      refine WkM.refl rfl srcC_flat (fun h => h) ?_
      exact WkM.emp
    ·
      repeat (refine dom_upd_mem (by decide) ?_)
      exact dom_emp
  ·
    rintro mm σ ⟨k, s, ⟨hv, hp⟩, rfl, rfl⟩
    obtain ⟨k, rfl⟩ : ∃ k', k = k' + 1 := by cases k with | zero => cases hp | succ k => exact ⟨k, rfl⟩
    refine zS ?_
    refine yM ?_
    refine yC (turn_ctr hv) bd15 [(0, 0)] [] ?_ (hfit := (.flat rfl srcC_flat (fun h => h) .nil)) (hnew := (.chg rfl rfl (flat_map_ren srcC_flat) (OkL.flat srcC_flat) .nil))
    refine yM ?_
    refine yC (turn_ctr hv.gst) bd15 [(0, 0)] [] ?_ (hfit := (.flat rfl srcC_flat (fun h => h) .nil)) (hnew := (.chg rfl rfl (flat_map_ren srcC_flat) (OkL.flat srcC_flat) .nil))
    refine yA ?_
    refine yA ?_
    refine zN (zQ (zS ?_))
    refine yM ?_
    refine yP (PureOp.not rfl) ?_
    refine zN ?_
    refine zA (fun hb0 => ?_) (fun hb0 => ?_)
    ·
      refine AW.goto ?_
      refine thenA_goto ?_
      refine jumpA_goto ?_
      refine ⟨1 * k, [], _, by omega, ?_, k, gst (gst s), ⟨hv.gst.gst, by rw [gN, if_neg (by simpa using hb0)] at hp; exact hp⟩, rfl, rfl⟩
      refine Wk.of [0] ?_ ?_ ?_ (by decide) rfl
      ·
        refine WkE.upd rfl (.ptr (0) 0 ⟨_, rfl⟩) ?_
        exact WkE.emp
      ·
        refine WkM.refl rfl srcC_flat (fun h => h) ?_
        exact WkM.emp
      ·
        repeat (refine dom_upd_mem (by decide) ?_)
        exact dom_emp
    ·
      have hg : gbit s = true := by simpa using hb0
      rw [gN, if_pos hg] at hp
      cases hp
      refine zK (zT (zS ?_))
      refine yM ?_
      refine yA ?_
      refine zN (zE ?_)
      refine jumpA_ret ?_
      exact rq [] [.tmp 2] (hb := (OutL.flat rfl srcC_flat (fun _ => rfl) trivial))
def glay (n bits : Nat) (r : List Bool) (a : Nat) : Nat → List Bool
  | 0 => r
  | i + 1 => (glay n bits r a i).set (a + i) (n / 2 ^ (bits - 1 - i) &&& 1 == 1)
theorem glay_len {n bits : Nat} {r : List Bool} {a : Nat} (i : Nat) : (glay n bits r a i).length = r.length := by
  induction i with
  | zero => rfl
  | succ i ih => simp [glay, ih]
set_option maxRecDepth 10000 in
theorem lay_ctr {n bits a : Nat} {r : List Bool} (hn : n < 9223372036854775808) (hr : r.length = 80) (hb : bits ≤ 64) (ha : a + bits ≤ 80) :
    GC Try.prog 14 [vi .i64 n, vi .i64 bits, .pointer (some ⟨0, 0, none⟩), .pointer (some ⟨1, 0, none⟩)] [⟨[.pointer (some ⟨2, 0, none⟩)], false, 1⟩, ⟨[vi .i64 a], true, 1⟩, ⟨srcC r 0, true, 1⟩] []
      [⟨[.pointer (some ⟨2, 0, none⟩)], false, 1⟩, ⟨[vi .i64 (a + bits)], true, 1⟩, ⟨srcC (glay n bits r a bits) 0, true, 1⟩] := by
  refine GC.intro Try.func14 rfl (by show 4 ≤ 25; decide) (by first | exact Nat.le_refl _ | decide | simp) ?_
  refine zS ?_
  refine yM ?_
  first | refine AWo.pure ((PureOp.subI (b := 1) rfl rfl (by first | decide | omega) (by first | decide | omega)).mono (v' := .int .i64 ((bits : Nat) - 1)) (by rw [IntWalk.i64_in _ (by omega)])) rfl rfl ?_ | refine AWo.pure ((PureOp.bin rfl rfl rfl).mono (v' := .int .i64 ((bits : Nat) - 1)) (by rw [IntWalk.i64_in _ (by omega)])) rfl rfl ?_
  refine yA ?_
  refine zN (zB ?_)
  refine AW.loopw (fun mm σ => ∃ i, (i ≤ bits) ∧ mm = bits - i ∧ σ = ⟨(upd (upd (upd (upd emp 6 (.int .i64 ((bits : Nat) - 1 - (i : Nat)))) 0 (vi .i64 n)) 2 (.pointer (some ⟨0, 0, none⟩))) 3 (.pointer (some ⟨1, 0, none⟩))), (upd (upd (upd emp 0 ⟨[.pointer (some ⟨2, 0, none⟩)], false, 1⟩) 1 ⟨[vi .i64 (a + i)], true, 1⟩) 2 ⟨srcC (glay n bits r a i) 0, true, 1⟩)⟩) (fm := []) ?_ ⟨0, Nat.zero_le _, rfl, rfl⟩ ?_
  ·
    refine Wk.of [0, 1, 2] ?_ ?_ ?_ (by decide) rfl
    ·
      refine WkE.upd rfl (.ptr (1) 0 ⟨_, rfl⟩) ?_
      refine WkE.upd rfl (.ptr (0) 0 ⟨_, rfl⟩) ?_
      refine WkE.upd rfl (by first | exact VR.flat _ rfl | exact VR.eqv (by first | rfl | (congr 1; omega) | (simp; done) | (simp; omega)) rfl) ?_
      refine WkE.upd rfl (by first | exact VR.flat _ rfl | exact VR.eqv (by first | rfl | (congr 1; omega) | (simp; done) | (simp; omega)) rfl) ?_
      exact WkE.emp
    ·
      refine WkM.refl rfl srcC_flat (fun h => h) ?_
      refine WkM.refl rfl (flat1 rfl) (fun h => h) ?_
      refine WkM.ptr rfl ⟨_, rfl⟩ (fun h => h) ?_
      exact WkM.emp
    ·
      repeat (refine dom_upd_mem (by decide) ?_)
      exact dom_emp
  ·
    rintro mm σ ⟨i, hinv, rfl, rfl⟩
    refine zQ (zS ?_)
    refine yM ?_
    first | refine AWo.pure ((PureOp.geN (b := 0) rfl rfl).mono (v' := .bool (decide (i < bits))) (by congr 1; rw [Bool.eq_iff_iff]; simp; omega)) rfl rfl ?_ | refine AWo.pure ((PureOp.bin rfl rfl rfl).mono (v' := .bool (decide (i < bits))) (by congr 1; rw [Bool.eq_iff_iff]; simp; omega)) rfl rfl ?_
    refine zN ?_
    refine zA (fun hb0 => ?_) (fun hb0 => ?_)
    ·
      have hic : i < bits := by simpa using hb0
      refine zK (zT (zQ (zB ?_)))
      refine AW.seqD mixed ?_
      refine yL1 ?_
      first | refine AWo.loadM tbok 0 rfl rfl rfl (by first | decide | omega) rfl rfl ?_ | refine AWo.load tbok rfl rfl rfl rfl rfl rfl ?_
      refine yM ?_
      first | refine AWo.pure ((PureOp.move rfl).mono (v' := vi .i64 (bits - 1 - i)) (by simp only [vi]; congr 1; omega)) rfl rfl ?_
      first | refine AWo.pure (PureOp.shrN 64 rfl rfl rfl (by first | decide | omega)) rfl rfl ?_ | refine AWo.pure (PureOp.shr rfl rfl (by first | decide | omega)) rfl rfl ?_
      refine yP (PureOp.andN 9223372036854775808 rfl rfl (by decide) (by decide) (Nat.lt_of_le_of_lt (Nat.div_le_self _ _) (by omega)) (by decide)) ?_
      first | refine AWo.pure (PureOp.eqN (b := 1) rfl rfl) rfl rfl ?_ | refine AWo.pure (PureOp.bin rfl rfl rfl) rfl rfl ?_
      refine yP (PureOp.nilCheck rfl) ?_
      refine yP pF ?_
      first | refine AWo.pure (PureOp.arr1 tbok rfl rfl rfl rfl (by first | decide | omega)) rfl rfl ?_ | refine AWo.pure (PureOp.arr tbok rfl rfl rfl rfl (by first | decide | omega)) rfl rfl ?_
      refine AWo.store1 tbok rfl rfl rfl rfl rfl (by rw [srcC_len (by simp [glay_len, hr])]; omega) (srcC_set (by simp [glay_len, hr]) (by omega) _) rfl ?_
      refine zD (zR ?_)
      first | refine AWo.loadM tbok 0 rfl rfl rfl (by first | decide | omega) rfl rfl ?_ | refine AWo.load tbok rfl rfl rfl rfl rfl rfl ?_
      first | refine AWo.pure (PureOp.addI (b := 1) rfl rfl (by first | decide | omega)) rfl rfl ?_ | refine AWo.pure (PureOp.bin rfl rfl rfl) rfl rfl ?_
      refine AWo.store1 tbok rfl rfl rfl rfl rfl Nat.zero_lt_one rfl rfl ?_
      refine zN (zL (zT (zR ?_)))
      refine yM ?_
      first | refine AWo.pure ((PureOp.subI (b := 1) rfl rfl (by first | decide | omega) (by first | decide | omega)).mono (v' := .int .i64 ((bits : Nat) - 1 - (i + 1 : Nat))) (by rw [IntWalk.i64_in _ (by omega)]; congr 1; omega)) rfl rfl ?_ | refine AWo.pure ((PureOp.bin rfl rfl rfl).mono (v' := .int .i64 ((bits : Nat) - 1 - (i + 1 : Nat))) (by rw [IntWalk.i64_in _ (by omega)]; congr 1; omega)) rfl rfl ?_
      refine yA ?_
      refine zN (zT ?_)
      refine ⟨bits - (i + 1), [], _, by omega, ?_, i + 1, by omega, rfl, rfl⟩
      refine Wk.of [0, 1, 2] ?_ ?_ ?_ (by decide) rfl
      ·
        refine WkE.upd rfl (.ptr (1) 0 ⟨_, rfl⟩) ?_
        refine WkE.upd rfl (.ptr (0) 0 ⟨_, rfl⟩) ?_
        refine WkE.upd rfl (by first | exact VR.flat _ rfl | exact VR.eqv (by first | rfl | (congr 1; omega) | (simp; done) | (simp; omega)) rfl) ?_
        refine WkE.upd rfl (by first | exact VR.flat _ rfl | exact VR.eqv (by first | rfl | (congr 1; omega) | (simp; done) | (simp; omega)) rfl) ?_
        exact WkE.emp
      ·
        refine WkM.refl rfl srcC_flat (fun h => h) ?_
        refine WkM.refl rfl (flat1 rfl) (fun h => h) ?_
        refine WkM.ptr rfl ⟨_, rfl⟩ (fun h => h) ?_
        exact WkM.emp
      ·
        repeat (refine dom_upd_mem (by decide) ?_)
        exact dom_emp
    ·
      have hic : i = bits := by simp at hb0; omega
      subst hic
      refine zX (zV (zV (zH ?_)))
      exact rq [] [] (hb := (OutL.whole rfl rfl (OkL.all rfl) (by simp) (OutL.flat rfl (flat1 rfl) (fun _ => rfl) (OutL.flat rfl srcC_flat (fun _ => rfl) trivial))))
theorem glay_succ {n bits a i : Nat} {r : List Bool} : glay n bits r a (i + 1) = (glay n bits r a i).set (a + i) (n / 2 ^ (bits - 1 - i) &&& 1 == 1) := rfl
attribute [irreducible] glay
end Go.Proofs.Ytbholmgeaklljaa
namespace Go.Proofs.Ytbholmgeaklljaa
open Go Sim
def gini0 (b w f p : Nat) : List Bool := List.replicate 80 false
def gini1 (b w f p : Nat) : List Bool := glay 1 2 (gini0 b w f p) 0 2
def gini2 (b w f p : Nat) : List Bool := glay 0 4 (gini1 b w f p) 2 4
def gini3 (b w f p : Nat) : List Bool := glay b 12 (gini2 b w f p) 6 12
def gini4 (b w f p : Nat) : List Bool := glay w 12 (gini3 b w f p) 18 12
def gini5 (b w f p : Nat) : List Bool := glay f 10 (gini4 b w f p) 30 10
def gini6 (b w f p : Nat) : List Bool := glay p 10 (gini5 b w f p) 40 10
def gini (b w f p : Nat) : GS := (glay 1073741823 30 (gini6 b w f p) 50 30, 0)
section
variable {b w f p : Nat}
theorem gini_len0 : (gini0 b w f p).length = 80 := by simp [gini0]
theorem gini_len1 : (gini1 b w f p).length = 80 := (glay_len _).trans gini_len0
theorem gini_len2 : (gini2 b w f p).length = 80 := (glay_len _).trans gini_len1
theorem gini_len3 : (gini3 b w f p).length = 80 := (glay_len _).trans gini_len2
theorem gini_len4 : (gini4 b w f p).length = 80 := (glay_len _).trans gini_len3
theorem gini_len5 : (gini5 b w f p).length = 80 := (glay_len _).trans gini_len4
theorem gini_len6 : (gini6 b w f p).length = 80 := (glay_len _).trans gini_len5
end
theorem gini_gv (b w f p : Nat) : GV (gini b w f p) := by
  refine ⟨?_, Nat.zero_lt_succ 79⟩
  show (glay 1073741823 30 (gini6 b w f p) 50 30).length = 80
  rw [glay_len]; exact gini_len6
def gnew (b w f p : Nat) : GS := git 160 (gini b w f p)
set_option maxRecDepth 10000 in
theorem new_ctr {b w f p : Nat} (hb : 1 ≤ b ∧ b ≤ 4095) (hw : 1 ≤ w ∧ w ≤ 4095) (hf : f ≤ 1023) (hp : p ≤ 1023) :
    GC Try.prog 6 [vi .i64 b, vi .i64 w, vi .i64 f, vi .i64 p] [] [.pointer (some ⟨0, 0, none⟩), .int .i64 0] [⟨srcC (gnew b w f p).1 (gnew b w f p).2, true, 1⟩] := by
  refine GC.intro Try.func6 rfl (by show 4 ≤ 70; decide) (by first | exact Nat.le_refl _ | decide | simp) ?_
  refine zS ?_
  refine yA ?_
  refine yA ?_
  refine zN (zQ (zS ?_))
  refine yM ?_
  first | refine AWo.pure ((PureOp.ltN (b := 1) rfl rfl).mono (v' := .bool false) (by simp <;> omega)) rfl rfl ?_ | refine AWo.pure ((PureOp.bin rfl rfl rfl).mono (v' := .bool false) (by simp <;> omega)) rfl rfl ?_
  refine yM ?_
  refine yM ?_
  first | refine AWo.pure ((PureOp.gtN (b := 4095) rfl rfl).mono (v' := .bool false) (by simp <;> omega)) rfl rfl ?_ | refine AWo.pure ((PureOp.bin rfl rfl rfl).mono (v' := .bool false) (by simp <;> omega)) rfl rfl ?_
  refine yP pE ?_
  refine yM ?_
  refine yM ?_
  first | refine AWo.pure ((PureOp.ltN (b := 1) rfl rfl).mono (v' := .bool false) (by simp <;> omega)) rfl rfl ?_ | refine AWo.pure ((PureOp.bin rfl rfl rfl).mono (v' := .bool false) (by simp <;> omega)) rfl rfl ?_
  refine yP pE ?_
  refine yM ?_
  refine yM ?_
  first | refine AWo.pure ((PureOp.gtN (b := 4095) rfl rfl).mono (v' := .bool false) (by simp <;> omega)) rfl rfl ?_ | refine AWo.pure ((PureOp.bin rfl rfl rfl).mono (v' := .bool false) (by simp <;> omega)) rfl rfl ?_
  refine yP pE ?_
  refine yM ?_
  refine yM ?_
  first | refine AWo.pure ((PureOp.ltN (b := 0) rfl rfl).mono (v' := .bool false) (by simp <;> omega)) rfl rfl ?_ | refine AWo.pure ((PureOp.bin rfl rfl rfl).mono (v' := .bool false) (by simp <;> omega)) rfl rfl ?_
  refine yP pE ?_
  refine yM ?_
  refine yM ?_
  first | refine AWo.pure ((PureOp.gtN (b := 1023) rfl rfl).mono (v' := .bool false) (by simp <;> omega)) rfl rfl ?_ | refine AWo.pure ((PureOp.bin rfl rfl rfl).mono (v' := .bool false) (by simp <;> omega)) rfl rfl ?_
  refine yP pE ?_
  refine yM ?_
  refine yM ?_
  first | refine AWo.pure ((PureOp.ltN (b := 0) rfl rfl).mono (v' := .bool false) (by simp <;> omega)) rfl rfl ?_ | refine AWo.pure ((PureOp.bin rfl rfl rfl).mono (v' := .bool false) (by simp <;> omega)) rfl rfl ?_
  refine yP pE ?_
  refine yM ?_
  refine yM ?_
  first | refine AWo.pure ((PureOp.gtN (b := 1023) rfl rfl).mono (v' := .bool false) (by simp <;> omega)) rfl rfl ?_ | refine AWo.pure ((PureOp.bin rfl rfl rfl).mono (v' := .bool false) (by simp <;> omega)) rfl rfl ?_
  refine yP pE ?_
  refine zN (zF (zK (zT (zS ?_))))
  refine yP ((PureOp.buildStruct [] pl47.choose_spec.1 zr47 (by decide) pl47.choose_spec.2 rfl rfl).mono (v' := .agg (srcC (List.replicate 80 false) 0).toArray) (by rfl)) ?_
  refine yO 45000 1 (srcC (List.replicate 80 false) 0) ?_
  refine yN 11000 1 _ ?_
  refine AWo.store tbok rfl rfl rfl rfl rfl (by first | decide | (simp; omega)) rfl rfl rfl ?_
  refine zN (zS ?_)
  refine yN 12000 1 _ ?_
  first | refine AWo.storeM (f := (vi .i64)) tbok rfl rfl rfl rfl (by first | decide | omega) rfl rfl ?_ | refine AWo.store tbok rfl rfl rfl rfl rfl (by first | decide | (simp; omega)) rfl rfl rfl ?_
  refine zN (zS ?_)
  refine yP (PureOp.fn (.cons rfl (.cons rfl .nil))) ?_
  refine yA ?_
  refine zN (zS ?_)
  refine yM ?_
  refine yC (lay_ctr (n := 1) (bits := 2) (a := 0) (r := (gini0 b w f p)) (by omega) (gini_len0) (by decide) (by decide)) bd14 [(11000, 0), (12000, 0), (45000, 0)] [] ?_ (hfit := (.whole rfl rfl (OkL.all rfl) (fun h => by cases h) (.flat rfl (flat1 rfl) (fun h => h) (.flat rfl srcC_flat (fun h => h) .nil)))) (hnew := (.keep rfl (.chg rfl rfl rfl (OkL.all rfl) (.chg rfl rfl (flat_map_ren srcC_flat) (OkL.flat srcC_flat) .nil))))
  refine zN (zS ?_)
  refine yM ?_
  refine yC (lay_ctr (n := 0) (bits := 4) (a := 2) (r := (gini1 b w f p)) (by omega) (gini_len1) (by decide) (by decide)) bd14 [(11000, 0), (12000, 0), (45000, 0)] [] ?_ (hfit := (.whole rfl rfl (OkL.all rfl) (fun h => by cases h) (.flat rfl (flat1 rfl) (fun h => h) (.flat rfl srcC_flat (fun h => h) .nil)))) (hnew := (.keep rfl (.chg rfl rfl rfl (OkL.all rfl) (.chg rfl rfl (flat_map_ren srcC_flat) (OkL.flat srcC_flat) .nil))))
  refine zN (zS ?_)
  refine yM ?_
  refine yM ?_
  refine yC (lay_ctr (n := b) (bits := 12) (a := 6) (r := (gini2 b w f p)) (by omega) (gini_len2) (by decide) (by decide)) bd14 [(11000, 0), (12000, 0), (45000, 0)] [] ?_ (hfit := (.whole rfl rfl (OkL.all rfl) (fun h => by cases h) (.flat rfl (flat1 rfl) (fun h => h) (.flat rfl srcC_flat (fun h => h) .nil)))) (hnew := (.keep rfl (.chg rfl rfl rfl (OkL.all rfl) (.chg rfl rfl (flat_map_ren srcC_flat) (OkL.flat srcC_flat) .nil))))
  refine zN (zS ?_)
  refine yM ?_
  refine yM ?_
  refine yC (lay_ctr (n := w) (bits := 12) (a := 18) (r := (gini3 b w f p)) (by omega) (gini_len3) (by decide) (by decide)) bd14 [(11000, 0), (12000, 0), (45000, 0)] [] ?_ (hfit := (.whole rfl rfl (OkL.all rfl) (fun h => by cases h) (.flat rfl (flat1 rfl) (fun h => h) (.flat rfl srcC_flat (fun h => h) .nil)))) (hnew := (.keep rfl (.chg rfl rfl rfl (OkL.all rfl) (.chg rfl rfl (flat_map_ren srcC_flat) (OkL.flat srcC_flat) .nil))))
  refine zN (zS ?_)
  refine yM ?_
  refine yM ?_
  refine yC (lay_ctr (n := f) (bits := 10) (a := 30) (r := (gini4 b w f p)) (by omega) (gini_len4) (by decide) (by decide)) bd14 [(11000, 0), (12000, 0), (45000, 0)] [] ?_ (hfit := (.whole rfl rfl (OkL.all rfl) (fun h => by cases h) (.flat rfl (flat1 rfl) (fun h => h) (.flat rfl srcC_flat (fun h => h) .nil)))) (hnew := (.keep rfl (.chg rfl rfl rfl (OkL.all rfl) (.chg rfl rfl (flat_map_ren srcC_flat) (OkL.flat srcC_flat) .nil))))
  refine zN (zS ?_)
  refine yM ?_
  refine yM ?_
  refine yC (lay_ctr (n := p) (bits := 10) (a := 40) (r := (gini5 b w f p)) (by omega) (gini_len5) (by decide) (by decide)) bd14 [(11000, 0), (12000, 0), (45000, 0)] [] ?_ (hfit := (.whole rfl rfl (OkL.all rfl) (fun h => by cases h) (.flat rfl (flat1 rfl) (fun h => h) (.flat rfl srcC_flat (fun h => h) .nil)))) (hnew := (.keep rfl (.chg rfl rfl rfl (OkL.all rfl) (.chg rfl rfl (flat_map_ren srcC_flat) (OkL.flat srcC_flat) .nil))))
  refine zN (zS ?_)
  refine yM ?_
  refine yC (lay_ctr (n := 1073741823) (bits := 30) (a := 50) (r := (gini6 b w f p)) (by omega) (gini_len6) (by decide) (by decide)) bd14 [(11000, 0), (12000, 0), (45000, 0)] [] ?_ (hfit := (.whole rfl rfl (OkL.all rfl) (fun h => by cases h) (.flat rfl (flat1 rfl) (fun h => h) (.flat rfl srcC_flat (fun h => h) .nil)))) (hnew := (.keep rfl (.chg rfl rfl rfl (OkL.all rfl) (.chg rfl rfl (flat_map_ren srcC_flat) (OkL.flat srcC_flat) .nil))))
  refine zN (zQ (zS ?_))
  refine yM ?_
  refine zN (zB ?_)
  refine AW.loopw (fun mm σ => ∃ i, (i ≤ 160) ∧ mm = 160 - i ∧ σ = ⟨(upd (upd emp 64 (vi .i64 i)) 10 (.pointer (some ⟨11000, 0, none⟩))), (upd (upd emp 11000 ⟨[.pointer (some ⟨45000, 0, none⟩)], true, 1⟩) 45000 ⟨srcC (git i (gini b w f p)).1 (git i (gini b w f p)).2, true, 1⟩)⟩) (fm := []) ?_ ⟨0, by decide, rfl, rfl⟩ ?_
  ·
    refine Wk.of [11000, 45000] ?_ ?_ ?_ (by decide) rfl
    ·
      refine WkE.upd rfl (.ptr (11000) 0 ⟨_, rfl⟩) ?_
      refine WkE.upd rfl (by first | exact VR.flat _ rfl | exact VR.eqv (by first | rfl | (congr 1; omega) | (simp; done) | (simp; omega)) rfl) ?_
      exact WkE.emp
    ·
      refine WkM.refl rfl srcC_flat (fun h => h) ?_
      refine WkM.ptr rfl ⟨_, rfl⟩ (fun h => h) ?_
      exact WkM.emp
    ·
      repeat (refine dom_upd_mem (by decide) ?_)
      exact dom_emp
  ·
    rintro mm σ ⟨i, hinv, rfl, rfl⟩
    refine zS ?_
    first | refine AWo.pure (PureOp.ltN (b := 160) rfl rfl) rfl rfl ?_ | refine AWo.pure (PureOp.bin rfl rfl rfl) rfl rfl ?_
    refine zN (zQ ?_)
    refine zA (fun hb0 => ?_) (fun hb0 => ?_)
    ·
      have hi : i < 160 := by simpa using hb0
      refine zK (zT (zQ (zB (zR ?_))))
      refine yL1 ?_
      refine yC (turn_ctr ((gini_gv b w f p).git i)) bd15 [(45000, 0)] [] ?_ (hfit := (.flat rfl srcC_flat (fun h => h) .nil)) (hnew := (.chg rfl rfl (flat_map_ren srcC_flat) (OkL.flat srcC_flat) .nil))
      refine zN (zL (zT (zR ?_)))
      first | refine AWo.pure (PureOp.addI (b := 1) rfl rfl (by first | decide | omega)) rfl rfl ?_ | refine AWo.pure (PureOp.bin rfl rfl rfl) rfl rfl ?_
      refine yM ?_
      refine zN (zT ?_)
      refine ⟨160 - (i + 1), [], _, by omega, ?_, i + 1, by omega, rfl, by rw [show git (i + 1) (gini b w f p) = gst (git i (gini b w f p)) from git_gst i _]⟩
      refine Wk.of [11000, 45000] ?_ ?_ ?_ (by decide) rfl
      ·
        refine WkE.upd rfl (.ptr (11000) 0 ⟨_, rfl⟩) ?_
        refine WkE.upd rfl (by first | exact VR.flat _ rfl | exact VR.eqv (by first | rfl | (congr 1; omega) | (simp; done) | (simp; omega)) rfl) ?_
        exact WkE.emp
      ·
        refine WkM.refl rfl srcC_flat (fun h => h) ?_
        refine WkM.ptr rfl ⟨_, rfl⟩ (fun h => h) ?_
        exact WkM.emp
      ·
        repeat (refine dom_upd_mem (by decide) ?_)
        exact dom_emp
    ·
      have hi : i = 160 := by simp at hb0; omega
      subst hi
      refine zX (zV (zV (zH (zT (zS ?_)))))
      refine yL1 ?_
      refine yA ?_
      refine yA ?_
      refine zN (zE ?_)
      exact rq [45000] [.tmp 8, .tmp 9] (hb := (OutL.flat rfl srcC_flat (fun _ => rfl) trivial))
end Go.Proofs.Ytbholmgeaklljaa
namespace Go.Proofs.Ytbholmgeaklljaa
open Go Sim
theorem gz_git {s : GS} (h : GV s) : ∀ (n : Nat), GZ (git n s) → GZ s := by
  intro n
  induction n generalizing s with
  | zero => exact id
  | succ n ih => exact fun hz => gz_back h (ih h.gst hz)
theorem gini_nz (b w f p : Nat) : ¬ GZ (gini b w f p) := by
  intro hz
  have h := hz 79 (by decide)
  have e : (gini b w f p).1 = (glay 1073741823 30 (gini6 b w f p) 50 29).set 79 true := glay_succ
  simp only [gw, e] at h
  have e2 : ((gini b w f p).2 + 79) % 80 = 79 := rfl
  rw [e2, List.getD_eq_getElem?_getD, List.getElem?_set_self (by rw [glay_len, gini_len6]; decide)] at h
  cases h
theorem gnew_gg (b w f p : Nat) : GG (gnew b w f p) := ⟨(gini_gv b w f p).git 160, fun hz => gini_nz b w f p (gz_git (gini_gv b w f p) 160 hz)⟩
def gone : Nat → GS → Nat
  | 0, _ => 0
  | i + 1, s => if (gnx (gpre i s).2).2 then gone i s + 1 else gone i s
theorem gone_step (i j : Nat) (s : GS) : gone i s ≤ gone (i + j) s ∧ gone (i + j) s ≤ gone i s + j := by
  induction j with
  | zero => exact ⟨Nat.le_refl _, Nat.le_refl _⟩
  | succ j ih =>
    rw [show i + (j + 1) = i + j + 1 from rfl]
    simp only [gone]
    split <;> omega
theorem gone_le (i : Nat) (s : GS) : gone i s ≤ i := by
  have := (gone_step 0 i s).2
  simpa [gone] using this
theorem gone_3 : gone 3 (gnew 254 3 8 57) = 1 := by kernel_rfl
theorem gone_64 : 0 < gone 64 (gnew 254 3 8 57) ∧ gone 64 (gnew 254 3 8 57) < 64 := by
  have := gone_step 3 61 (gnew 254 3 8 57)
  rw [gone_3] at this
  show 0 < gone (3 + 61) _ ∧ gone (3 + 61) _ < 64
  omega
set_option maxRecDepth 10000 in
theorem newbad_ctr {b w f p : Int} (hbad : ¬ (1 ≤ b ∧ b ≤ 4095 ∧ 1 ≤ w ∧ w ≤ 4095 ∧ 0 ≤ f ∧ f ≤ 1023 ∧ 0 ≤ p ∧ p ≤ 1023)) :
    GC Try.prog 6 [.int .i64 b, .int .i64 w, .int .i64 f, .int .i64 p] [] [.pointer none, .int .i64 1] [] := by
  refine GC.intro Try.func6 rfl (by show 4 ≤ 70; decide) (by first | exact Nat.le_refl _ | decide | simp) ?_
  refine zS ?_
  refine yA ?_
  refine yA ?_
  refine zN (zQ (zS ?_))
  refine yM ?_
  first | refine AWo.pure (PureOp.ltN (b := 1) rfl rfl) rfl rfl ?_ | refine AWo.pure (PureOp.bin rfl rfl rfl) rfl rfl ?_
  first | refine AWo.pureB (PureOp.move rfl) rfl rfl (fun hb0 => ?_) (fun hb0 => ?_)
  ·
    refine yK ?_
    refine yK ?_
    refine yP pT ?_
    refine yM ?_
    refine yK ?_
    refine yK ?_
    refine yP pT ?_
    refine yM ?_
    refine yK ?_
    refine yK ?_
    refine yP pT ?_
    refine yM ?_
    refine yK ?_
    refine yK ?_
    refine yP pT ?_
    refine yM ?_
    refine yK ?_
    refine yK ?_
    refine yP pT ?_
    refine yM ?_
    refine yK ?_
    refine yK ?_
    refine yP pT ?_
    refine yM ?_
    refine yK ?_
    refine yK ?_
    refine yP pT ?_
    refine zN (zC (zS ?_))
    refine yA ?_
    refine yA ?_
    refine zN (zE (zU ?_))
    exact rq [] [.tmp 8, .tmp 9]
  ·
    refine yM ?_
    first | refine AWo.pure (PureOp.gtN (b := 4095) rfl rfl) rfl rfl ?_ | refine AWo.pure (PureOp.bin rfl rfl rfl) rfl rfl ?_
    refine yP pE ?_
    first | refine AWo.pureB (PureOp.move rfl) rfl rfl (fun hb1 => ?_) (fun hb1 => ?_)
    ·
      refine yK ?_
      refine yK ?_
      refine yP pT ?_
      refine yM ?_
      refine yK ?_
      refine yK ?_
      refine yP pT ?_
      refine yM ?_
      refine yK ?_
      refine yK ?_
      refine yP pT ?_
      refine yM ?_
      refine yK ?_
      refine yK ?_
      refine yP pT ?_
      refine yM ?_
      refine yK ?_
      refine yK ?_
      refine yP pT ?_
      refine yM ?_
      refine yK ?_
      refine yK ?_
      refine yP pT ?_
      refine zN (zC (zS ?_))
      refine yA ?_
      refine yA ?_
      refine zN (zE (zU ?_))
      exact rq [] [.tmp 8, .tmp 9]
    ·
      refine yM ?_
      first | refine AWo.pure (PureOp.ltN (b := 1) rfl rfl) rfl rfl ?_ | refine AWo.pure (PureOp.bin rfl rfl rfl) rfl rfl ?_
      refine yP pE ?_
      first | refine AWo.pureB (PureOp.move rfl) rfl rfl (fun hb2 => ?_) (fun hb2 => ?_)
      ·
        refine yK ?_
        refine yK ?_
        refine yP pT ?_
        refine yM ?_
        refine yK ?_
        refine yK ?_
        refine yP pT ?_
        refine yM ?_
        refine yK ?_
        refine yK ?_
        refine yP pT ?_
        refine yM ?_
        refine yK ?_
        refine yK ?_
        refine yP pT ?_
        refine yM ?_
        refine yK ?_
        refine yK ?_
        refine yP pT ?_
        refine zN (zC (zS ?_))
        refine yA ?_
        refine yA ?_
        refine zN (zE (zU ?_))
        exact rq [] [.tmp 8, .tmp 9]
      ·
        refine yM ?_
        first | refine AWo.pure (PureOp.gtN (b := 4095) rfl rfl) rfl rfl ?_ | refine AWo.pure (PureOp.bin rfl rfl rfl) rfl rfl ?_
        refine yP pE ?_
        first | refine AWo.pureB (PureOp.move rfl) rfl rfl (fun hb3 => ?_) (fun hb3 => ?_)
        ·
          refine yK ?_
          refine yK ?_
          refine yP pT ?_
          refine yM ?_
          refine yK ?_
          refine yK ?_
          refine yP pT ?_
          refine yM ?_
          refine yK ?_
          refine yK ?_
          refine yP pT ?_
          refine yM ?_
          refine yK ?_
          refine yK ?_
          refine yP pT ?_
          refine zN (zC (zS ?_))
          refine yA ?_
          refine yA ?_
          refine zN (zE (zU ?_))
          exact rq [] [.tmp 8, .tmp 9]
        ·
          refine yM ?_
          first | refine AWo.pure (PureOp.ltN (b := 0) rfl rfl) rfl rfl ?_ | refine AWo.pure (PureOp.bin rfl rfl rfl) rfl rfl ?_
          refine yP pE ?_
          first | refine AWo.pureB (PureOp.move rfl) rfl rfl (fun hb4 => ?_) (fun hb4 => ?_)
          ·
            refine yK ?_
            refine yK ?_
            refine yP pT ?_
            refine yM ?_
            refine yK ?_
            refine yK ?_
            refine yP pT ?_
            refine yM ?_
            refine yK ?_
            refine yK ?_
            refine yP pT ?_
            refine zN (zC (zS ?_))
            refine yA ?_
            refine yA ?_
            refine zN (zE (zU ?_))
            exact rq [] [.tmp 8, .tmp 9]
          ·
            refine yM ?_
            first | refine AWo.pure (PureOp.gtN (b := 1023) rfl rfl) rfl rfl ?_ | refine AWo.pure (PureOp.bin rfl rfl rfl) rfl rfl ?_
            refine yP pE ?_
            first | refine AWo.pureB (PureOp.move rfl) rfl rfl (fun hb5 => ?_) (fun hb5 => ?_)
            ·
              refine yK ?_
              refine yK ?_
              refine yP pT ?_
              refine yM ?_
              refine yK ?_
              refine yK ?_
              refine yP pT ?_
              refine zN (zC (zS ?_))
              refine yA ?_
              refine yA ?_
              refine zN (zE (zU ?_))
              exact rq [] [.tmp 8, .tmp 9]
            ·
              refine yM ?_
              first | refine AWo.pure (PureOp.ltN (b := 0) rfl rfl) rfl rfl ?_ | refine AWo.pure (PureOp.bin rfl rfl rfl) rfl rfl ?_
              refine yP pE ?_
              first | refine AWo.pureB (PureOp.move rfl) rfl rfl (fun hb6 => ?_) (fun hb6 => ?_)
              ·
                refine yK ?_
                refine yK ?_
                refine yP pT ?_
                refine zN (zC (zS ?_))
                refine yA ?_
                refine yA ?_
                refine zN (zE (zU ?_))
                exact rq [] [.tmp 8, .tmp 9]
              ·
                refine yM ?_
                first | refine AWo.pure (PureOp.gtN (b := 1023) rfl rfl) rfl rfl ?_ | refine AWo.pure (PureOp.bin rfl rfl rfl) rfl rfl ?_
                refine yP pE ?_
                refine zN ?_
                refine zA (fun hb7 => ?_) (fun hb7 => ?_)
                ·
                  refine zS ?_
                  refine yA ?_
                  refine yA ?_
                  refine zN (zE (zU ?_))
                  exact rq [] [.tmp 8, .tmp 9]
                ·
                  exfalso
                  simp_all <;> omega
set_option maxRecDepth 10000 in
theorem speaks_ctr : GC Try.prog 5 [] [] [.bool true] [] := by
  refine GC.intro Try.func5 rfl (by show 0 ≤ 47; decide) (by first | exact Nat.le_refl _ | decide | simp) ?_
  have hg0 : GG (gnew 254 3 8 57) := gnew_gg _ _ _ _
  refine zS ?_
  refine yA ?_
  refine zN (zS ?_)
  refine yC (new_ctr (b := 254) (w := 3) (f := 8) (p := 57) (by decide) (by decide) (by decide) (by decide)) bd6 [] [9000] ?_ (hnew := (.new (flat_map_ren srcC_flat) (OkL.flat srcC_flat) .nil))
  refine yM ?_
  refine yP pX ?_
  refine yP pX ?_
  refine yA ?_
  refine yA ?_
  refine zN (zS ?_)
  refine yC (new_ctr (b := 254) (w := 3) (f := 8) (p := 57) (by decide) (by decide) (by decide) (by decide)) bd6 [] [13000] ?_ (hnew := (.new (flat_map_ren srcC_flat) (OkL.flat srcC_flat) .nil))
  refine yM ?_
  refine yP pX ?_
  refine yP pX ?_
  refine yA ?_
  refine yA ?_
  refine zN (zQ (zS ?_))
  refine yM ?_
  first | refine AWo.pure (PureOp.neN (b := 0) rfl rfl) rfl rfl ?_ | refine AWo.pure (PureOp.bin rfl rfl rfl) rfl rfl ?_
  refine yM ?_
  refine yM ?_
  first | refine AWo.pure (PureOp.neN (b := 0) rfl rfl) rfl rfl ?_ | refine AWo.pure (PureOp.bin rfl rfl rfl) rfl rfl ?_
  refine yP pE ?_
  refine yM ?_
  refine yM ?_
  first | refine AWo.pure (PureOp.ptrEqNil Try.underlying25 rfl) rfl rfl ?_ | refine AWo.pure (PureOp.nilEqNil Try.underlying25 rfl rfl) rfl rfl ?_
  refine yP pE ?_
  refine yM ?_
  refine yM ?_
  first | refine AWo.pure (PureOp.ptrEqNil Try.underlying25 rfl) rfl rfl ?_ | refine AWo.pure (PureOp.nilEqNil Try.underlying25 rfl rfl) rfl rfl ?_
  refine yP pE ?_
  refine zN (zF (zK (zT (zS ?_))))
  refine yA ?_
  refine zN (zQ (zS ?_))
  refine yM ?_
  refine zN (zB ?_)
  refine AW.loopw (fun mm σ => ∃ i, (i ≤ 64) ∧ mm = 64 - i ∧ σ = ⟨(upd (upd (upd (upd emp 29 (vi .i64 i)) 1 (.pointer (some ⟨9000, 0, none⟩))) 3 (.pointer (some ⟨13000, 0, none⟩))) 5 (vi .i64 (gone i (gnew 254 3 8 57)))), (upd (upd emp 9000 ⟨srcC (gpre i (gnew 254 3 8 57)).2.1 (gpre i (gnew 254 3 8 57)).2.2, true, 1⟩) 13000 ⟨srcC (gpre i (gnew 254 3 8 57)).2.1 (gpre i (gnew 254 3 8 57)).2.2, true, 1⟩)⟩) (fm := []) ?_ ⟨0, by decide, rfl, rfl⟩ ?_
  ·
    refine Wk.of [9000, 13000] ?_ ?_ ?_ (by decide) rfl
    ·
      refine WkE.upd rfl (VR.eqv (by simp only [gone]; simp [vi, *]) rfl) ?_
      refine WkE.upd rfl (.ptr (13000) 0 ⟨_, rfl⟩) ?_
      refine WkE.upd rfl (.ptr (9000) 0 ⟨_, rfl⟩) ?_
      refine WkE.upd rfl (by first | exact VR.flat _ rfl | exact VR.eqv (by first | rfl | (congr 1; omega) | (simp; done) | (simp; omega)) rfl) ?_
      exact WkE.emp
    ·
      refine WkM.refl rfl srcC_flat (fun h => h) ?_
      refine WkM.refl rfl srcC_flat (fun h => h) ?_
      exact WkM.emp
    ·
      repeat (refine dom_upd_mem (by decide) ?_)
      exact dom_emp
  ·
    rintro mm σ ⟨i, hinv, rfl, rfl⟩
    have hgo := gone_le i (gnew 254 3 8 57)
    refine zS ?_
    first | refine AWo.pure (PureOp.ltN (b := 64) rfl rfl) rfl rfl ?_ | refine AWo.pure (PureOp.bin rfl rfl rfl) rfl rfl ?_
    refine zN (zQ ?_)
    refine zA (fun hb0 => ?_) (fun hb0 => ?_)
    ·
      have hi : i < 64 := by simpa using hb0
      refine zK (zT (zQ (zB (zS ?_))))
      refine yM ?_
      refine yC (bit_ctr (hg0.pre i).1 (gnx_eq (hg0.pre i))) bd13 [(9000, 0)] [] ?_ (hfit := (.flat rfl srcC_flat (fun h => h) .nil)) (hnew := (.chg rfl rfl (flat_map_ren srcC_flat) (OkL.flat srcC_flat) .nil))
      refine yA ?_
      refine zN (zQ (zS ?_))
      refine yM ?_
      refine yM ?_
      refine yC (bit_ctr (hg0.pre i).1 (gnx_eq (hg0.pre i))) bd13 [(13000, 0)] [] ?_ (hfit := (.flat rfl srcC_flat (fun h => h) .nil)) (hnew := (.chg rfl rfl (flat_map_ren srcC_flat) (OkL.flat srcC_flat) .nil))
      refine yP (PureOp.neqBool Try.underlying4 rfl rfl) ?_
      refine zN ?_
      refine zA (fun hb1 => ?_) (fun hb1 => ?_)
      ·
        simp at hb1
      ·
        refine zK (zT (zS ?_))
        refine yM ?_
        refine zN ?_
        refine zA (fun hb2 => ?_) (fun hb2 => ?_)
        ·
          refine zR ?_
          refine yM ?_
          first | refine AWo.pure (PureOp.addI (b := 1) rfl rfl (by first | decide | omega)) rfl rfl ?_ | refine AWo.pure (PureOp.bin rfl rfl rfl) rfl rfl ?_
          refine yA ?_
          refine zN (zL (zT (zR ?_)))
          first | refine AWo.pure (PureOp.addI (b := 1) rfl rfl (by first | decide | omega)) rfl rfl ?_ | refine AWo.pure (PureOp.bin rfl rfl rfl) rfl rfl ?_
          refine yM ?_
          refine zN (zT ?_)
          refine ⟨64 - (i + 1), [], _, by omega, ?_, i + 1, by omega, rfl, rfl⟩
          refine Wk.of [9000, 13000] ?_ ?_ ?_ (by decide) rfl
          ·
            refine WkE.upd rfl (VR.eqv (by simp only [gone]; simp [vi, *]) rfl) ?_
            refine WkE.upd rfl (.ptr (13000) 0 ⟨_, rfl⟩) ?_
            refine WkE.upd rfl (.ptr (9000) 0 ⟨_, rfl⟩) ?_
            refine WkE.upd rfl (by first | exact VR.flat _ rfl | exact VR.eqv (by first | rfl | (congr 1; omega) | (simp; done) | (simp; omega)) rfl) ?_
            exact WkE.emp
          ·
            refine WkM.refl rfl srcC_flat (fun h => h) ?_
            refine WkM.refl rfl srcC_flat (fun h => h) ?_
            exact WkM.emp
          ·
            repeat (refine dom_upd_mem (by decide) ?_)
            exact dom_emp
        ·
          refine zK (zL (zT (zR ?_)))
          first | refine AWo.pure (PureOp.addI (b := 1) rfl rfl (by first | decide | omega)) rfl rfl ?_ | refine AWo.pure (PureOp.bin rfl rfl rfl) rfl rfl ?_
          refine yM ?_
          refine zN (zT ?_)
          refine ⟨64 - (i + 1), [], _, by omega, ?_, i + 1, by omega, rfl, rfl⟩
          refine Wk.of [9000, 13000] ?_ ?_ ?_ (by decide) rfl
          ·
            refine WkE.upd rfl (VR.eqv (by simp only [gone]; simp [vi, *]) rfl) ?_
            refine WkE.upd rfl (.ptr (13000) 0 ⟨_, rfl⟩) ?_
            refine WkE.upd rfl (.ptr (9000) 0 ⟨_, rfl⟩) ?_
            refine WkE.upd rfl (by first | exact VR.flat _ rfl | exact VR.eqv (by first | rfl | (congr 1; omega) | (simp; done) | (simp; omega)) rfl) ?_
            exact WkE.emp
          ·
            refine WkM.refl rfl srcC_flat (fun h => h) ?_
            refine WkM.refl rfl srcC_flat (fun h => h) ?_
            exact WkM.emp
          ·
            repeat (refine dom_upd_mem (by decide) ?_)
            exact dom_emp
    ·
      have hi : i = 64 := by simp at hb0; omega
      subst hi
      refine zX (zV (zV (zH (zT (zS ?_)))))
      refine yM ?_
      first | refine AWo.pure ((PureOp.gtN (b := 0) rfl rfl).mono (v' := .bool true) (by rw [decide_eq_true gone_64.1])) rfl rfl ?_ | refine AWo.pure ((PureOp.bin rfl rfl rfl).mono (v' := .bool true) (by rw [decide_eq_true gone_64.1])) rfl rfl ?_
      refine yM ?_
      refine yM ?_
      first | refine AWo.pure ((PureOp.ltN (b := 64) rfl rfl).mono (v' := .bool true) (by rw [decide_eq_true gone_64.2])) rfl rfl ?_ | refine AWo.pure ((PureOp.bin rfl rfl rfl).mono (v' := .bool true) (by rw [decide_eq_true gone_64.2])) rfl rfl ?_
      refine yP pT ?_
      refine yA ?_
      refine zN (zE ?_)
      exact rq [] [.tmp 0]
end Go.Proofs.Ytbholmgeaklljaa
namespace Go.Proofs.Ytbholmgeaklljaa
open Go Sim
def refl (s : GS) : List Bool := (List.range 80).map (gw s)
theorem refl_len (s : GS) : (refl s).length = 80 := by simp [refl]
theorem refl_getD (s : GS) {j : Nat} (hj : j < 80) : (refl s).getD j false = gw s j := by
  rw [List.getD_eq_getElem?_getD, refl, List.getElem?_map, List.getElem?_range hj]; rfl
theorem ext80 {l r : List Bool} (hl : l.length = 80) (hr : r.length = 80) (h : ∀ j, j < 80 → l.getD j false = r.getD j false) : l = r := by
  apply List.ext_getElem?
  intro j
  rcases Nat.lt_or_ge j 80 with hj | hj
  · have := h j hj
    rw [List.getD_eq_getElem?_getD, List.getD_eq_getElem?_getD, List.getElem?_eq_getElem (by omega), List.getElem?_eq_getElem (by omega)] at this
    rw [List.getElem?_eq_getElem (by omega), List.getElem?_eq_getElem (by omega)]
    simpa using this
  · rw [List.getElem?_eq_none (by omega), List.getElem?_eq_none (by omega)]
theorem refl_zero {l : List Bool} (h : l.length = 80) : refl (l, 0) = l := by
  refine ext80 (refl_len _) h fun j hj => ?_
  rw [refl_getD _ hj]
  simp only [gw, Nat.zero_add, Nat.mod_eq_of_lt hj]
theorem rcnt_refl {s : GS} (h : GV s) : (rcnt (refl s) 6 % 2 == 1) = gbit s := by
  rw [gbit_w h]
  have e : ∀ j, j < 80 → (refl s).getD j false = gw s j := fun j hj => refl_getD s hj
  simp only [rcnt, rtaps, List.getD_cons_zero, List.getD_cons_succ, e 62 (by decide), e 51 (by decide), e 38 (by decide), e 23 (by decide), e 13 (by decide), e 0 (by decide)]
  generalize gw s 0 = a
  generalize gw s 13 = b
  generalize gw s 23 = c
  generalize gw s 38 = d
  generalize gw s 51 = e
  generalize gw s 62 = f
  cases a <;> cases b <;> cases c <;> cases d <;> cases e <;> cases f <;> rfl
theorem rsh_getD' (l : List Bool) : ∀ (i j : Nat), i ≤ j → (rsh l i).getD j false = l.getD j false := by
  intro i
  induction i with
  | zero => intro j _; rfl
  | succ i ih =>
    intro j hj
    simp only [rsh]
    rw [List.getD_eq_getElem?_getD, List.getElem?_set_ne (by omega), ← List.getD_eq_getElem?_getD, ih j (by omega)]
theorem rsh_getD (l : List Bool) (hl : l.length = 80) (i : Nat) (hi : i ≤ 79) (j : Nat) : (rsh l i).getD j false = if j < i then l.getD (j + 1) false else l.getD j false := by
  induction i with
  | zero => simp [rsh]
  | succ i ih =>
    have ih := ih (by omega)
    have hlen : (rsh l i).length = 80 := (rsh_len l i).trans hl
    simp only [rsh]
    rw [List.getD_eq_getElem?_getD]
    by_cases hji : i = j
    · subst hji
      rw [List.getElem?_set_self (by omega), Option.getD_some]
      have h2 : (rsh l i).getD (i + 1) false = l.getD (i + 1) false := by
        have := rsh_getD' l i (i + 1) (by omega)
        exact this
      rw [h2, if_pos (by omega)]
    · rw [List.getElem?_set_ne hji, ← List.getD_eq_getElem?_getD, ih]
      by_cases h : j < i
      · rw [if_pos h, if_pos (by omega)]
      · rw [if_neg h, if_neg (by omega)]
theorem rturn_refl {s : GS} (h : GV s) : (rsh (refl s) 79).set 79 (rcnt (refl s) 6 % 2 == 1) = refl (gst s) := by
  have hl := refl_len s
  refine ext80 (by simp [rsh_len, hl]) (refl_len _) fun j hj => ?_
  rw [refl_getD _ hj, List.getD_eq_getElem?_getD]
  by_cases h79 : 79 = j
  · subst h79
    rw [List.getElem?_set_self (by rw [rsh_len, hl]; decide), Option.getD_some, gw_gst79 h, rcnt_refl h]
  · rw [List.getElem?_set_ne h79, ← List.getD_eq_getElem?_getD, rsh_getD _ hl 79 (Nat.le_refl _), if_pos (by omega), refl_getD _ (by omega), gw_gst h (by omega)]
theorem turnr_ctr {s : GS} (h : GV s) : GC Try.prog 19 [.agg ((refl s).map Value.bool).toArray] [] [.agg ((refl (gst s)).map Value.bool).toArray, .bool (gbit s)] [] := by
  have := rturn_ctr (refl_len s)
  rw [rturn_refl h, rcnt_refl h] at this
  exact this
def layL (n bits : Nat) : List Bool := (List.range bits).map fun i => n / 2 ^ (bits - 1 - i) % 2 == 1
theorem layL_len (n bits : Nat) : (layL n bits).length = bits := by simp [layL]
theorem glay_lay (n bits : Nat) (x : List Bool) (k i : Nat) (hi : i ≤ bits) (hk : bits ≤ k) :
    glay n bits (x ++ List.replicate k false) x.length i = x ++ ((layL n bits).take i ++ List.replicate (k - i) false) := by
  induction i with
  | zero => simp [glay]
  | succ i ih =>
    rw [glay_succ, ih (by omega), List.set_append_right _ _ (by omega), Nat.add_sub_cancel_left, List.set_append_right _ _ (by simp [layL_len]; omega)]
    congr 1
    rw [List.length_take, layL_len, Nat.min_eq_left (by omega), Nat.sub_self]
    obtain ⟨q, hq⟩ : ∃ q, k - i = q + 1 := ⟨k - i - 1, by omega⟩
    rw [hq, List.replicate_succ, List.set_cons_zero, show k - (i + 1) = q by omega, List.take_succ_eq_append_getElem (by rw [layL_len]; omega), List.append_assoc]
    congr 2
    simp only [layL, List.getElem_map, List.getElem_range, Nat.and_one_is_mod]
theorem glay_lay' (n bits : Nat) (x : List Bool) (a k : Nat) (ha : x.length = a) (hk : bits ≤ k) :
    glay n bits (x ++ List.replicate k false) a bits = (x ++ layL n bits) ++ List.replicate (k - bits) false := by
  rw [← ha, glay_lay n bits x k bits (Nat.le_refl _) hk, List.take_of_length_le (by rw [layL_len]; exact Nat.le_refl _), List.append_assoc]
def iniL (b w f p : Nat) : List Bool := ((((((([] ++ layL 1 2) ++ layL 0 4) ++ layL b 12) ++ layL w 12) ++ layL f 10) ++ layL p 10) ++ layL 1073741823 30)
theorem iniL_len (b w f p : Nat) : (iniL b w f p).length = 80 := by simp [iniL, layL_len]
theorem gini_lay (b w f p : Nat) : (gini b w f p).1 = iniL b w f p := by
  simp only [gini, gini6, gini5, gini4, gini3, gini2, gini1, gini0]
  have e := glay_lay' 1 2 [] 0 80 rfl (by decide)
  rw [List.nil_append] at e
  rw [e, glay_lay' _ _ _ 2 _ (by simp [layL_len]) (by decide), glay_lay' _ _ _ 6 _ (by simp [layL_len]) (by decide), glay_lay' _ _ _ 18 _ (by simp [layL_len]) (by decide),
    glay_lay' _ _ _ 30 _ (by simp [layL_len]) (by decide), glay_lay' _ _ _ 40 _ (by simp [layL_len]) (by decide), glay_lay' _ _ _ 50 _ (by simp [layL_len]) (by decide)]
  simp [iniL]
theorem refl_gini (b w f p : Nat) : refl (gini b w f p) = iniL b w f p := by
  have : gini b w f p = (iniL b w f p, 0) := by
    rw [← gini_lay]; rfl
  rw [this, refl_zero (iniL_len b w f p)]
end Go.Proofs.Ytbholmgeaklljaa
namespace Go.Proofs.Ytbholmgeaklljaa
open Go Sim
def inb (n a b : Int) : Bool := decide (a ≤ n) && decide (n ≤ b)
theorem lay_push {l : List Bool} {n bits i : Nat} (hi : i < bits) : (l ++ (layL n bits).take i).map Value.bool ++ [.bool (n / 2 ^ (bits - 1 - i) % 2 == 1)] = (l ++ (layL n bits).take (i + 1)).map Value.bool := by
  rw [List.take_succ_eq_append_getElem (by rw [layL_len]; exact hi), ← List.append_assoc, List.map_append (l₁ := l ++ (layL n bits).take i)]
  simp [layL]
theorem copy_set {l : List Bool} {i : Nat} (hi : i < 80) (hl : l.length = 80) : l.take (i + 1) ++ List.replicate (80 - (i + 1)) false = (l.take i ++ List.replicate (80 - i) false).set i (l.getD i false) := by
  rw [List.set_append_right _ _ (by simp; omega), List.length_take, hl, Nat.min_eq_left (by omega), Nat.sub_self]
  obtain ⟨q, hq⟩ : ∃ q, 80 - i = q + 1 := ⟨80 - i - 1, by omega⟩
  rw [hq, List.replicate_succ, List.set_cons_zero, show 80 - (i + 1) = q by omega, List.take_succ_eq_append_getElem (by omega), List.append_assoc, List.getD_eq_getElem?_getD, List.getElem?_eq_getElem (by omega)]
  rfl
theorem copy80 (b w f p : Nat) : (iniL b w f p).take 80 ++ List.replicate (80 - 80) false = refl (git 0 (gini b w f p)) := by
  rw [git, refl_gini, List.take_of_length_le (by rw [iniL_len]; exact Nat.le_refl _)]
  simp
set_option maxRecDepth 10000 in
theorem in_ctr {n a b : Int} : GC Try.prog 17 [.int .i64 n, .int .i64 a, .int .i64 b] [] [.bool (inb n a b)] [] := by
  refine GC.intro Try.func17 rfl (by show 3 ≤ 15; decide) (by first | exact Nat.le_refl _ | decide | simp) ?_
  refine zS ?_
  refine yA ?_
  refine zN (zS ?_)
  refine yM ?_
  refine yM ?_
  first | refine AWo.pureB (PureOp.geN rfl rfl) rfl rfl (fun hb0 => ?_) (fun hb0 => ?_) | refine AWo.pureB (PureOp.bin rfl rfl rfl) rfl rfl (fun hb0 => ?_) (fun hb0 => ?_)
  ·
    refine yM ?_
    refine yM ?_
    refine yM ?_
    first | refine AWo.pure (PureOp.leN rfl rfl) rfl rfl ?_ | refine AWo.pure (PureOp.bin rfl rfl rfl) rfl rfl ?_
    refine yP pT ?_
    refine yA ?_
    refine zN (zE ?_)
    exact rq [] [.tmp 6] (hres := (.cons rfl (congrArg Value.bool (by simp [inb] at hb0 ⊢ <;> omega)) .nil))
  ·
    refine yM ?_
    refine yK ?_
    refine yK ?_
    refine yK ?_
    refine yP pE ?_
    refine yA ?_
    refine zN (zE ?_)
    exact rq [] [.tmp 6] (hres := (.cons rfl (congrArg Value.bool (by simp [inb] at hb0 ⊢ <;> omega)) .nil))
set_option maxRecDepth 10000 in
theorem layr_ctr {l : List Bool} {n bits : Nat} (hn : n < 9223372036854775808) (hb : bits ≤ 64) (hl : l.length ≤ 100) : GC Try.prog 18 [.slice (some ⟨0, 0, none⟩) l.length 0, vi .i64 n, vi .i64 bits] [⟨l.map (Value.bool), true, 1⟩] [.slice (some ⟨1, 0, none⟩) (l ++ layL n bits).length 0] [⟨[], false, 1⟩, ⟨(l ++ layL n bits).map (Value.bool), true, 1⟩] := by
  refine GC.intro Try.func18 rfl (by show 3 ≤ 31; decide) (by first | exact Nat.le_refl _ | decide | simp) ?_
  refine AW.move 0 77000 0 rfl rfl rfl ?_
  refine zS ?_
  refine yA ?_
  refine zN (zQ (zS ?_))
  refine yM ?_
  first | refine AWo.pure ((PureOp.subI (b := 1) rfl rfl (by first | decide | omega) (by first | decide | omega)).mono (v' := .int .i64 ((bits : Nat) - 1 - (0 : Nat))) (by rw [IntWalk.i64_in _ (by omega)]; congr 1; omega)) rfl rfl ?_ | refine AWo.pure ((PureOp.bin rfl rfl rfl).mono (v' := .int .i64 ((bits : Nat) - 1 - (0 : Nat))) (by rw [IntWalk.i64_in _ (by omega)]; congr 1; omega)) rfl rfl ?_
  refine yA ?_
  refine zN (zB ?_)
  refine AW.loopw (fun mm σ => ∃ i, (i ≤ bits) ∧ mm = bits - i ∧ σ = ⟨(upd (upd (upd emp 7 (.int .i64 ((bits : Nat) - 1 - (i : Nat)))) 0 (.slice (some ⟨77000, 0, none⟩) (l.length + i) 0)) 1 (vi .i64 n)), (upd (upd emp 0 ⟨[], false, 1⟩) 77000 ⟨(l ++ (layL n bits).take i).map Value.bool, true, 1⟩)⟩) (fm := []) (wk [0, 77000]) ⟨0, Nat.zero_le _, rfl, rfl⟩ ?_
  rintro mm σ ⟨i, hinv, rfl, rfl⟩
  have hlen : ((layL n bits).take i).length = i := by rw [List.length_take, layL_len, Nat.min_eq_left hinv]
  refine zQ (zS ?_)
  refine yM ?_
  first | refine AWo.pure ((PureOp.geN (b := 0) rfl rfl).mono (v' := .bool (decide (i < bits))) (by congr 1; rw [Bool.eq_iff_iff]; simp; omega)) rfl rfl ?_ | refine AWo.pure ((PureOp.bin rfl rfl rfl).mono (v' := .bool (decide (i < bits))) (by congr 1; rw [Bool.eq_iff_iff]; simp; omega)) rfl rfl ?_
  refine zN ?_
  refine zA (fun hb0 => ?_) (fun hb0 => ?_)
  ·
    have hi : i < bits := by simpa using hb0
    refine zK (zT (zQ (zB (zS ?_))))
    refine yM ?_
    refine yA ?_
    refine zN (zQ (zS ?_))
    refine yA ?_
    refine zN (zB ?_)
    refine AW.loopw (fun mm σ => ∃ j, (j ≤ bits - 1 - i) ∧ mm = bits - 1 - i - j ∧ σ = ⟨(upd (upd (upd (upd (upd emp 8 (vi .i64 (n / 2 ^ j))) 9 (vi .i64 j)) 7 (vi .i64 (bits - 1 - i))) 0 (.slice (some ⟨77000, 0, none⟩) (l.length + i) 0)) 1 (vi .i64 n)), (upd (upd emp 0 ⟨[], false, 1⟩) 77000 ⟨(l ++ (layL n bits).take i).map Value.bool, true, 1⟩)⟩) (fm := []) ?_ ⟨0, Nat.zero_le _, rfl, rfl⟩ ?_
    ·
      refine Wk.of [0, 77000] ?_ ?_ ?_ (by decide) rfl
      ·
        refine WkE.upd rfl (by first | exact VR.flat _ rfl | exact VR.eqv (by first | rfl | (congr 1; omega) | (simp; done) | (simp; omega)) rfl) ?_
        refine WkE.upd rfl (.slice (77000) 0 _ 0 ⟨_, rfl⟩ (by simp) (by simp)) ?_
        refine WkE.upd rfl (VR.eqv (by first | rfl | (simp only [vi]; congr 1; omega)) rfl) ?_
        refine WkE.upd rfl (by first | exact VR.flat _ rfl | exact VR.eqv (by first | rfl | (congr 1; omega) | (simp; done) | (simp; omega)) rfl) ?_
        refine WkE.upd rfl (VR.eqv (by simp [Nat.pow_succ, Nat.div_div_eq_div_mul]) rfl) ?_
        exact WkE.emp
      ·
        refine WkM.flatM rfl (by first | rfl | assumption | simp) (fun _ => rfl) (fun h => h) ?_
        refine WkM.flat rfl (by simp [flatV, flat_vi]) (fun h => h) ?_
        exact WkM.emp
      ·
        repeat (refine dom_upd_mem (by decide) ?_)
        exact dom_emp
    ·
      rintro mm σ ⟨j, hj, rfl, rfl⟩
      refine zQ (zS ?_)
      refine yM ?_
      refine yM ?_
      first | refine AWo.pure (PureOp.ltN rfl rfl) rfl rfl ?_ | refine AWo.pure (PureOp.bin rfl rfl rfl) rfl rfl ?_
      refine zN ?_
      refine zA (fun hb1 => ?_) (fun hb1 => ?_)
      ·
        have hj2 : j < bits - 1 - i := by simpa using hb1
        refine zK (zT (zQ (zB (zR ?_))))
        refine yM ?_
        refine yP (PureOp.quoN (b := 2) 9223372036854775808 rfl rfl (by decide) (by decide) (by decide) (Nat.lt_of_le_of_lt (Nat.div_le_self _ _) (by omega))) ?_
        refine yA ?_
        refine zN (zL (zT (zR ?_)))
        refine yM ?_
        first | refine AWo.pure (PureOp.addI (b := 1) rfl rfl (by first | decide | omega)) rfl rfl ?_ | refine AWo.pure (PureOp.bin rfl rfl rfl) rfl rfl ?_
        refine yA ?_
        refine zN (zT ?_)
        refine ⟨bits - 1 - i - (j + 1), [], _, by omega, ?_, j + 1, by omega, rfl, rfl⟩
        refine Wk.of [0, 77000] ?_ ?_ ?_ (by decide) rfl
        ·
          refine WkE.upd rfl (by first | exact VR.flat _ rfl | exact VR.eqv (by first | rfl | (congr 1; omega) | (simp; done) | (simp; omega)) rfl) ?_
          refine WkE.upd rfl (.slice (77000) 0 _ 0 ⟨_, rfl⟩ (by simp) (by simp)) ?_
          refine WkE.upd rfl (VR.eqv (by first | rfl | (simp only [vi]; congr 1; omega)) rfl) ?_
          refine WkE.upd rfl (by first | exact VR.flat _ rfl | exact VR.eqv (by first | rfl | (congr 1; omega) | (simp; done) | (simp; omega)) rfl) ?_
          refine WkE.upd rfl (VR.eqv (by simp [Nat.pow_succ, Nat.div_div_eq_div_mul]) rfl) ?_
          exact WkE.emp
        ·
          refine WkM.flatM rfl (by first | rfl | assumption | simp) (fun _ => rfl) (fun h => h) ?_
          refine WkM.flat rfl (by simp [flatV, flat_vi]) (fun h => h) ?_
          exact WkM.emp
        ·
          repeat (refine dom_upd_mem (by decide) ?_)
          exact dom_emp
      ·
        have hj2 : j = bits - 1 - i := by simp at hb1; omega
        subst hj2
        refine zX (zV (zV (zH (zT (zR ?_)))))
        refine yM ?_
        refine yM ?_
        first | refine AWo.pure (PureOp.remN (b := 2) rfl rfl (by first | decide | omega)) rfl rfl ?_ | refine AWo.pure (PureOp.rem rfl rfl (by first | decide | omega)) rfl rfl ?_
        first | refine AWo.pure (PureOp.eqN (b := 1) rfl rfl) rfl rfl ?_ | refine AWo.pure (PureOp.bin rfl rfl rfl) rfl rfl ?_
        refine AWo.buildSlice tbok 29000 [(0, .bool (n / 2 ^ (bits - 1 - i) % 2 == 1))] (out := [.bool (n / 2 ^ (bits - 1 - i) % 2 == 1)]) rfl rfl (by decide) rfl rfl rfl (by decide) rfl rfl rfl rfl rfl ?_
        refine AWo.append tbok (all := (l ++ (layL n bits).take (i + 1)).map Value.bool) 30000 rfl rfl rfl rfl (by rw [List.length_map, List.length_append, hlen, Nat.mul_one]) rfl (by first | decide | (simp; done) | (simp; omega)) (by decide) rfl rfl rfl (by decide) rfl rfl rfl (by first | decide | omega) (by first | decide | omega) rfl (lay_push hi) rfl rfl ?_
        refine yA ?_
        refine zN (zL (zT (zR ?_)))
        refine yM ?_
        first | refine AWo.pure ((PureOp.subI (b := 1) rfl rfl (by first | decide | omega) (by first | decide | omega)).mono (v' := .int .i64 ((bits : Nat) - 1 - (i + 1 : Nat))) (by rw [IntWalk.i64_in _ (by omega)]; congr 1; omega)) rfl rfl ?_ | refine AWo.pure ((PureOp.bin rfl rfl rfl).mono (v' := .int .i64 ((bits : Nat) - 1 - (i + 1 : Nat))) (by rw [IntWalk.i64_in _ (by omega)]; congr 1; omega)) rfl rfl ?_
        refine yA ?_
        refine zN (zT ?_)
        exact ⟨bits - (i + 1), [(77000, 30000)], _, by omega, wk [0, 77000], i + 1, by omega, rfl, rfl⟩
  ·
    have hi : i = bits := by simp at hb0; omega
    subst hi
    refine zX (zV (zV (zH (zT (zS ?_)))))
    refine yM ?_
    refine yA ?_
    refine zN (zE ?_)
    rw [List.take_of_length_le (by rw [layL_len]; exact Nat.le_refl _)]
    exact rq [77000] [.tmp 6] (hres := (.cons rfl (by simp [ren, ren1, hmap, layL_len]) .nil)) (hb := (OutL.husk rfl rfl (OutL.flat rfl (by first | exact flatM flat_vi | exact flatM flat_bool | exact srcC_flat | exact flatM (fun _ => rfl)) (by intro h; first | rfl | (rcases h with h | h; · exact h; · exact absurd h.1 (by decide))) trivial)))
set_option maxRecDepth 10000 in
theorem bitr_ctr {k : Nat} {s : GS} {p : GS × Bool} (hv : GV s) (hp : gN k s = some p) : GC Try.prog 20 [.agg ((refl s).map Value.bool).toArray] [] [.agg ((refl p.1).map Value.bool).toArray, .bool p.2] [] := by
  refine GC.intro Try.func20 rfl (by show 1 ≤ 22; decide) (by first | exact Nat.le_refl _ | decide | simp) ?_
  refine zS ?_
  refine yO 2000 1 ((refl s).map Value.bool) ?_
  refine yN 3000 1 ((List.replicate 80 false).map Value.bool) ?_
  refine yA ?_
  refine zN (zB ?_)
  refine AW.loopw (fun mm σ => ∃ k, ∃ (s : GS), (GV s ∧ gN k s = some p) ∧ mm = 1 * k ∧ σ = ⟨(upd (upd emp 1 (.pointer (some ⟨2000, 0, none⟩))) 2 (.pointer (some ⟨3000, 0, none⟩))), (upd (upd emp 2000 ⟨(refl s).map Value.bool, true, 1⟩) 3000 ⟨(List.replicate 80 false).map Value.bool, true, 1⟩)⟩) (fm := []) (wk [2000, 3000]) ⟨k, s, ⟨hv, hp⟩, rfl, rfl⟩ ?_
  rintro mm σ ⟨k, s, ⟨hv, hp⟩, rfl, rfl⟩
  have hl0 := refl_len s
  have hl1 := refl_len (gst s)
  have hl2 := refl_len (gst (gst s))
  obtain ⟨k, rfl⟩ : ∃ k', k = k' + 1 := by cases k with | zero => cases hp | succ k => exact ⟨k, rfl⟩
  refine zB (zS ?_)
  first | refine AWo.loadAll tbok rfl rfl rfl rfl (by first | (simp [*]; done) | rfl) rfl rfl ?_ | refine AWo.loadAgg tbok rfl rfl rfl rfl (by first | decide | omega) rfl rfl rfl ?_
  refine yC (turnr_ctr hv) bd19 [] [] ?_ (hargs := (.pure (by first | rfl | exact pure_aggM flat_vi | exact pure_aggM flat_bool) .nil)) (hrv := (.pure (by first | rfl | exact pure_aggM flat_vi | exact pure_aggM flat_bool) (.cons rfl rfl .nil)))
  refine yM ?_
  refine yP pX ?_
  refine yP pX ?_
  refine yN 5000 1 ((List.replicate 80 false).map Value.bool) ?_
  refine AWo.storeAllN tbok rfl rfl rfl rfl (by first | (simp [*]; done) | rfl) (by first | (simp [*]; done) | rfl) (by first | exact oneM (fun _ => rfl) _ | rfl | (simp; done)) rfl ?_
  refine yA ?_
  refine zN (zS ?_)
  first | refine AWo.loadAll tbok rfl rfl rfl rfl (by first | (simp [*]; done) | rfl) rfl rfl ?_ | refine AWo.loadAgg tbok rfl rfl rfl rfl (by first | decide | omega) rfl rfl rfl ?_
  refine yC (turnr_ctr hv.gst) bd19 [] [] ?_ (hargs := (.pure (by first | rfl | exact pure_aggM flat_vi | exact pure_aggM flat_bool) .nil)) (hrv := (.pure (by first | rfl | exact pure_aggM flat_vi | exact pure_aggM flat_bool) (.cons rfl rfl .nil)))
  refine yM ?_
  refine yP pX ?_
  refine yP pX ?_
  refine yN 7000 1 ((List.replicate 80 false).map Value.bool) ?_
  refine AWo.storeAllN tbok rfl rfl rfl rfl (by first | (simp [*]; done) | rfl) (by first | (simp [*]; done) | rfl) (by first | exact oneM (fun _ => rfl) _ | rfl | (simp; done)) rfl ?_
  refine yA ?_
  refine zN (zS ?_)
  first | refine AWo.loadAll tbok rfl rfl rfl rfl (by first | (simp [*]; done) | rfl) rfl rfl ?_ | refine AWo.loadAgg tbok rfl rfl rfl rfl (by first | decide | omega) rfl rfl rfl ?_
  refine AWo.storeAllN tbok rfl rfl rfl rfl (by first | (simp [*]; done) | rfl) (by first | (simp [*]; done) | rfl) (by first | exact oneM (fun _ => rfl) _ | rfl | (simp; done)) rfl ?_
  refine zN (zS ?_)
  refine yM ?_
  refine zN ?_
  refine zA (fun hb0 => ?_) (fun hb0 => ?_)
  ·
    have hg : gbit s = true := by simpa using hb0
    rw [gN, if_pos hg] at hp
    cases hp
    refine zS ?_
    first | refine AWo.loadAll tbok rfl rfl rfl rfl (by first | (simp [*]; done) | rfl) rfl rfl ?_ | refine AWo.loadAgg tbok rfl rfl rfl rfl (by first | decide | omega) rfl rfl rfl ?_
    refine yM ?_
    refine AWo.storeAllN tbok rfl rfl rfl rfl (by first | (simp [*]; done) | rfl) (by first | (simp [*]; done) | rfl) (by first | exact oneM (fun _ => rfl) _ | rfl | (simp; done)) rfl ?_
    refine yA ?_
    refine zN (zE (zI (zU (zI ?_))))
    exact rq [] [.cell 2 38, .tmp 3] (hv := (.val (RVal.cellAll tbok rfl rfl rfl rfl (by first | (simp [*]; done) | rfl)) (.tmp rfl .nil))) (hres := (.pure (by first | rfl | exact pure_aggM flat_vi | exact pure_aggM flat_bool) (.cons rfl rfl .nil)))
  ·
    refine zK (zL (zT ?_))
    exact ⟨1 * k, [], _, by omega, wk [2000, 3000], k, gst (gst s), ⟨hv.gst.gst, by rw [gN, if_neg (by simpa using hb0)] at hp; exact hp⟩, rfl, rfl⟩
set_option maxRecDepth 10000 in
theorem newr_ctr {b w f p : Nat} (hb : 1 ≤ b ∧ b ≤ 4095) (hw : 1 ≤ w ∧ w ≤ 4095) (hf : f ≤ 1023) (hp : p ≤ 1023) : GC Try.prog 10 [vi .i64 b, vi .i64 w, vi .i64 f, vi .i64 p] [] [.agg ((refl (gnew b w f p)).map Value.bool).toArray, .int .i64 0] [] := by
  refine GC.intro Try.func10 rfl (by show 4 ≤ 67; decide) (by first | exact Nat.le_refl _ | decide | simp) ?_
  refine zS ?_
  refine yN 9000 1 ((List.replicate 80 false).map Value.bool) ?_
  refine yA ?_
  refine zN (zQ (zS ?_))
  refine yM ?_
  refine yC (in_ctr) bd17 [] [] ?_
  first | refine AWo.pure ((PureOp.not rfl).mono (v' := .bool false) (by simp [inb]; omega)) rfl rfl ?_
  refine yM ?_
  refine yM ?_
  refine yC (in_ctr) bd17 [] [] ?_
  first | refine AWo.pure ((PureOp.not rfl).mono (v' := .bool false) (by simp [inb]; omega)) rfl rfl ?_
  refine yP pE ?_
  refine yM ?_
  refine yM ?_
  refine yC (in_ctr) bd17 [] [] ?_
  first | refine AWo.pure ((PureOp.not rfl).mono (v' := .bool false) (by simp [inb]; omega)) rfl rfl ?_
  refine yP pE ?_
  refine yM ?_
  refine yM ?_
  refine yC (in_ctr) bd17 [] [] ?_
  first | refine AWo.pure ((PureOp.not rfl).mono (v' := .bool false) (by simp [inb]; omega)) rfl rfl ?_
  refine yP pE ?_
  refine zN (zF (zK (zT ?_)))
  refine AW.ghost 5000 1 rfl ?_
  refine zS ?_
  refine AWo.callX (layr_ctr (l := []) (by decide) (by decide) (by decide)) bd18 [(5000, 0)] [34000] rfl (.cons rfl (.cons rfl (.cons rfl .nil))) rfl (.nilS (.cons rfl rfl (.cons rfl rfl .nil))) (.flat rfl (by first | exact flatM flat_vi | exact flatM flat_bool | exact srcC_flat | exact flatM (fun _ => rfl)) (by intro h; first | exact h | rfl) .nil) rfl (.gone rfl rfl (OkL.flat (by simp)) (.new (flat_map_ren (by first | exact flatM flat_vi | exact flatM flat_bool | exact srcC_flat | exact flatM (fun _ => rfl))) (OkL.flat (by first | exact flatM flat_vi | exact flatM flat_bool | exact srcC_flat | exact flatM (fun _ => rfl))) .nil)) (frC rfl frN) (by decide) (.cons rfl rfl .nil) rfl rfl rfl rfl ?_
  refine AWo.callX (layr_ctr (by first | decide | omega) (by decide) (by simp [layL_len])) bd18 [(34000, 0)] [35000] rfl (.cons rfl (.cons rfl (.cons rfl .nil))) rfl (.cons rfl rfl (.cons rfl rfl (.cons rfl rfl .nil))) (.flat rfl (by first | exact flatM flat_vi | exact flatM flat_bool | exact srcC_flat | exact flatM (fun _ => rfl)) (by intro h; first | exact h | rfl) .nil) rfl (.gone rfl rfl (OkL.flat (by simp)) (.new (flat_map_ren (by first | exact flatM flat_vi | exact flatM flat_bool | exact srcC_flat | exact flatM (fun _ => rfl))) (OkL.flat (by first | exact flatM flat_vi | exact flatM flat_bool | exact srcC_flat | exact flatM (fun _ => rfl))) .nil)) (frC rfl frN) (by decide) (.cons rfl rfl .nil) rfl rfl rfl rfl ?_
  refine yM ?_
  refine AWo.callX (layr_ctr (by first | decide | omega) (by decide) (by simp [layL_len])) bd18 [(35000, 0)] [37000] rfl (.cons rfl (.cons rfl (.cons rfl .nil))) rfl (.cons rfl rfl (.cons rfl rfl (.cons rfl rfl .nil))) (.flat rfl (by first | exact flatM flat_vi | exact flatM flat_bool | exact srcC_flat | exact flatM (fun _ => rfl)) (by intro h; first | exact h | rfl) .nil) rfl (.gone rfl rfl (OkL.flat (by simp)) (.new (flat_map_ren (by first | exact flatM flat_vi | exact flatM flat_bool | exact srcC_flat | exact flatM (fun _ => rfl))) (OkL.flat (by first | exact flatM flat_vi | exact flatM flat_bool | exact srcC_flat | exact flatM (fun _ => rfl))) .nil)) (frC rfl frN) (by decide) (.cons rfl rfl .nil) rfl rfl rfl rfl ?_
  refine yA ?_
  refine zN (zS ?_)
  refine yM ?_
  refine yM ?_
  refine AWo.callX (layr_ctr (by first | decide | omega) (by decide) (by simp [layL_len])) bd18 [(37000, 0)] [40000] rfl (.cons rfl (.cons rfl (.cons rfl .nil))) rfl (.cons rfl rfl (.cons rfl rfl (.cons rfl rfl .nil))) (.flat rfl (by first | exact flatM flat_vi | exact flatM flat_bool | exact srcC_flat | exact flatM (fun _ => rfl)) (by intro h; first | exact h | rfl) .nil) rfl (.gone rfl rfl (OkL.flat (by simp)) (.new (flat_map_ren (by first | exact flatM flat_vi | exact flatM flat_bool | exact srcC_flat | exact flatM (fun _ => rfl))) (OkL.flat (by first | exact flatM flat_vi | exact flatM flat_bool | exact srcC_flat | exact flatM (fun _ => rfl))) .nil)) (frC rfl frN) (by decide) (.cons rfl rfl .nil) rfl rfl rfl rfl ?_
  refine yM ?_
  refine AWo.callX (layr_ctr (by first | decide | omega) (by decide) (by simp [layL_len])) bd18 [(40000, 0)] [42000] rfl (.cons rfl (.cons rfl (.cons rfl .nil))) rfl (.cons rfl rfl (.cons rfl rfl (.cons rfl rfl .nil))) (.flat rfl (by first | exact flatM flat_vi | exact flatM flat_bool | exact srcC_flat | exact flatM (fun _ => rfl)) (by intro h; first | exact h | rfl) .nil) rfl (.gone rfl rfl (OkL.flat (by simp)) (.new (flat_map_ren (by first | exact flatM flat_vi | exact flatM flat_bool | exact srcC_flat | exact flatM (fun _ => rfl))) (OkL.flat (by first | exact flatM flat_vi | exact flatM flat_bool | exact srcC_flat | exact flatM (fun _ => rfl))) .nil)) (frC rfl frN) (by decide) (.cons rfl rfl .nil) rfl rfl rfl rfl ?_
  refine yM ?_
  refine AWo.callX (layr_ctr (by first | decide | omega) (by decide) (by simp [layL_len])) bd18 [(42000, 0)] [44000] rfl (.cons rfl (.cons rfl (.cons rfl .nil))) rfl (.cons rfl rfl (.cons rfl rfl (.cons rfl rfl .nil))) (.flat rfl (by first | exact flatM flat_vi | exact flatM flat_bool | exact srcC_flat | exact flatM (fun _ => rfl)) (by intro h; first | exact h | rfl) .nil) rfl (.gone rfl rfl (OkL.flat (by simp)) (.new (flat_map_ren (by first | exact flatM flat_vi | exact flatM flat_bool | exact srcC_flat | exact flatM (fun _ => rfl))) (OkL.flat (by first | exact flatM flat_vi | exact flatM flat_bool | exact srcC_flat | exact flatM (fun _ => rfl))) .nil)) (frC rfl frN) (by decide) (.cons rfl rfl .nil) rfl rfl rfl rfl ?_
  refine yA ?_
  refine zN (zS ?_)
  refine yM ?_
  refine AWo.callX (layr_ctr (by first | decide | omega) (by decide) (by simp [layL_len])) bd18 [(44000, 0)] [46000] rfl (.cons rfl (.cons rfl (.cons rfl .nil))) rfl (.cons rfl rfl (.cons rfl rfl (.cons rfl rfl .nil))) (.flat rfl (by first | exact flatM flat_vi | exact flatM flat_bool | exact srcC_flat | exact flatM (fun _ => rfl)) (by intro h; first | exact h | rfl) .nil) rfl (.gone rfl rfl (OkL.flat (by simp)) (.new (flat_map_ren (by first | exact flatM flat_vi | exact flatM flat_bool | exact srcC_flat | exact flatM (fun _ => rfl))) (OkL.flat (by first | exact flatM flat_vi | exact flatM flat_bool | exact srcC_flat | exact flatM (fun _ => rfl))) .nil)) (frC rfl frN) (by decide) (.cons rfl rfl .nil) rfl rfl rfl rfl ?_
  refine yA ?_
  refine zN (zS ?_)
  refine yP ((PureOp.buildArr tbok [] rfl rfl rfl (by decide) rfl rfl).mono (v' := .agg ((List.replicate 80 false).map Value.bool).toArray) rfl) ?_
  refine yN 12000 1 ((List.replicate 80 false).map Value.bool) ?_
  refine AWo.storeAllN tbok rfl rfl rfl rfl (by first | (simp [*]; done) | rfl) (by first | (simp [*]; done) | rfl) (by first | exact oneM (fun _ => rfl) _ | rfl | (simp; done)) rfl ?_
  refine zN (zQ ?_)
  have hil := iniL_len b w f p
  refine zS ?_
  refine yA ?_
  refine zN (zB ?_)
  refine AW.loopw (fun mm σ => ∃ i, (i ≤ 80) ∧ mm = 80 - i ∧ σ = ⟨(upd (upd (upd (upd emp 8 (.pointer (some ⟨9000, 0, none⟩))) 11 (.pointer (some ⟨12000, 0, none⟩))) 10 (.slice (some ⟨46000, 0, none⟩) (iniL b w f p).length 0)) 12 (vi .i64 i)), (upd (upd (upd emp 9000 ⟨(List.replicate 80 false).map Value.bool, true, 1⟩) 12000 ⟨((iniL b w f p).take i ++ List.replicate (80 - i) false).map Value.bool, true, 1⟩) 46000 ⟨(iniL b w f p).map Value.bool, true, 1⟩)⟩) (fm := []) (wk [9000, 12000, 46000]) ⟨0, Nat.zero_le _, rfl, rfl⟩ ?_
  rintro mm σ ⟨i, hinv, rfl, rfl⟩
  have hlc : ((iniL b w f p).take i ++ List.replicate (80 - i) false).length = 80 := by simp [hil]; omega
  refine zQ (zS ?_)
  refine yM ?_
  first | refine AWo.pure (PureOp.ltN (b := 80) rfl rfl) rfl rfl ?_ | refine AWo.pure (PureOp.bin rfl rfl rfl) rfl rfl ?_
  refine zN ?_
  refine zA (fun hb0 => ?_) (fun hb0 => ?_)
  ·
    have hi : i < 80 := by simpa using hb0
    refine zK (zT (zQ (zB (zR ?_))))
    refine yM ?_
    refine yM ?_
    refine yM ?_
    refine yP (pJ (hi := (by rw [hil]; exact hi))) ?_
    refine AWo.loadM tbok false rfl rfl rfl (by rw [hil]; exact hi) rfl rfl ?_
    refine yP (PureOp.arr1 tbok rfl rfl rfl rfl hi) ?_
    refine AWo.storeM (f := Value.bool) tbok rfl rfl rfl rfl (by rw [hlc]; exact hi) rfl rfl ?_
    refine zN (zL (zT (zR ?_)))
    refine yM ?_
    first | refine AWo.pure (PureOp.addI (b := 1) rfl rfl (by first | decide | omega)) rfl rfl ?_ | refine AWo.pure (PureOp.bin rfl rfl rfl) rfl rfl ?_
    refine yA ?_
    refine zN (zT ?_)
    refine ⟨80 - (i + 1), [], _, by omega, ?_, i + 1, by omega, rfl, rfl⟩
    refine Wk.of [9000, 12000, 46000] ?_ ?_ ?_ (by decide) rfl
    ·
      refine WkE.upd rfl (by first | exact VR.flat _ rfl | exact VR.eqv (by first | rfl | (congr 1; omega) | (simp; done) | (simp; omega)) rfl) ?_
      refine WkE.upd rfl (.slice (46000) 0 _ 0 ⟨_, rfl⟩ (by simp) (by simp)) ?_
      refine WkE.upd rfl (.ptr (12000) 0 ⟨_, rfl⟩) ?_
      refine WkE.upd rfl (.ptr (9000) 0 ⟨_, rfl⟩) ?_
      exact WkE.emp
    ·
      refine WkM.flatM rfl (by first | rfl | assumption | simp) (fun _ => rfl) (fun h => h) ?_
      refine WkM.flatM rfl (by first | rfl | exact copy_set hi hil) flat_bool (fun h => h) ?_
      refine WkM.flatM rfl (by first | rfl | assumption | simp) (fun _ => rfl) (fun h => h) ?_
      exact WkM.emp
    ·
      repeat (refine dom_upd_mem (by decide) ?_)
      exact dom_emp
  ·
    have hi : i = 80 := by simp at hb0; omega
    subst hi
    refine zX (zV (zV (zH (zT (zQ ?_)))))
    rw [copy80 b w f p]
    refine zS ?_
    refine yA ?_
    refine zN (zB ?_)
    refine AW.loopw (fun mm σ => ∃ i, (i ≤ 160) ∧ mm = 160 - i ∧ σ = ⟨(upd (upd (upd emp 8 (.pointer (some ⟨9000, 0, none⟩))) 11 (.pointer (some ⟨12000, 0, none⟩))) 13 (vi .i64 i)), (upd (upd emp 9000 ⟨(List.replicate 80 false).map Value.bool, true, 1⟩) 12000 ⟨(refl (git i (gini b w f p))).map Value.bool, true, 1⟩)⟩) (fm := []) (wk [9000, 12000]) ⟨0, Nat.zero_le _, rfl, rfl⟩ ?_
    rintro mm σ ⟨i, hinv, rfl, rfl⟩
    have hl0 := refl_len (git i (gini b w f p))
    have hl1 := refl_len (gst (git i (gini b w f p)))
    refine zQ (zS ?_)
    refine yM ?_
    first | refine AWo.pure (PureOp.ltN (b := 160) rfl rfl) rfl rfl ?_ | refine AWo.pure (PureOp.bin rfl rfl rfl) rfl rfl ?_
    refine zN ?_
    refine zA (fun hb1 => ?_) (fun hb1 => ?_)
    ·
      have hi : i < 160 := by simpa using hb1
      refine zK (zT (zQ (zB (zR ?_))))
      first | refine AWo.loadAll tbok rfl rfl rfl rfl (by first | (simp [*]; done) | rfl) rfl rfl ?_ | refine AWo.loadAgg tbok rfl rfl rfl rfl (by first | decide | omega) rfl rfl rfl ?_
      refine yC (turnr_ctr ((gini_gv b w f p).git i)) bd19 [] [] ?_ (hargs := (.pure (by first | rfl | exact pure_aggM flat_vi | exact pure_aggM flat_bool) .nil)) (hrv := (.pure (by first | rfl | exact pure_aggM flat_vi | exact pure_aggM flat_bool) (.cons rfl rfl .nil)))
      refine yM ?_
      refine yP pX ?_
      refine yP pX ?_
      refine AWo.storeAllN tbok rfl rfl rfl rfl (by first | (simp [*]; done) | rfl) (by first | (simp [*]; done) | rfl) (by first | exact oneM (fun _ => rfl) _ | rfl | (simp; done)) rfl ?_
      refine zN (zL (zT (zR ?_)))
      refine yM ?_
      first | refine AWo.pure (PureOp.addI (b := 1) rfl rfl (by first | decide | omega)) rfl rfl ?_ | refine AWo.pure (PureOp.bin rfl rfl rfl) rfl rfl ?_
      refine yA ?_
      refine zN (zT ?_)
      refine ⟨160 - (i + 1), [], _, by omega, ?_, i + 1, by omega, rfl, rfl⟩
      refine Wk.of [9000, 12000] ?_ ?_ ?_ (by decide) rfl
      ·
        refine WkE.upd rfl (by first | exact VR.flat _ rfl | exact VR.eqv (by first | rfl | (congr 1; omega) | (simp; done) | (simp; omega)) rfl) ?_
        refine WkE.upd rfl (.ptr (12000) 0 ⟨_, rfl⟩) ?_
        refine WkE.upd rfl (.ptr (9000) 0 ⟨_, rfl⟩) ?_
        exact WkE.emp
      ·
        refine WkM.flatM rfl (by first | rfl | exact (congrArg refl (git_gst i _)).trans rfl) flat_bool (fun h => h) ?_
        refine WkM.flatM rfl (by first | rfl | assumption | simp) (fun _ => rfl) (fun h => h) ?_
        exact WkM.emp
      ·
        repeat (refine dom_upd_mem (by decide) ?_)
        exact dom_emp
    ·
      have hi : i = 160 := by simp at hb1; omega
      subst hi
      refine zX (zV (zV (zH (zT (zS ?_)))))
      first | refine AWo.loadAll tbok rfl rfl rfl rfl (by first | (simp [*]; done) | rfl) rfl rfl ?_ | refine AWo.loadAgg tbok rfl rfl rfl rfl (by first | decide | omega) rfl rfl rfl ?_
      refine AWo.storeAllN tbok rfl rfl rfl rfl (by first | (simp [*]; done) | rfl) (by first | (simp [*]; done) | rfl) (by first | exact oneM (fun _ => rfl) _ | rfl | (simp; done)) rfl ?_
      refine yA ?_
      refine zN (zE ?_)
      exact rq [] [.cell 8 38, .tmp 9] (hv := (.val (RVal.cellAll tbok rfl rfl rfl rfl (by first | (simp [*]; done) | rfl)) (.tmp rfl .nil))) (hres := (.pure (by first | rfl | exact pure_aggM flat_vi | exact pure_aggM flat_bool) (.cons rfl rfl .nil)))
set_option maxRecDepth 10000 in
theorem newrbad_ctr {b w f p : Int} (hbad : ¬ (1 ≤ b ∧ b ≤ 4095 ∧ 1 ≤ w ∧ w ≤ 4095 ∧ 0 ≤ f ∧ f ≤ 1023 ∧ 0 ≤ p ∧ p ≤ 1023)) : GC Try.prog 10 [.int .i64 b, .int .i64 w, .int .i64 f, .int .i64 p] [] [.agg ((List.replicate 80 false).map Value.bool).toArray, .int .i64 1] [] := by
  refine GC.intro Try.func10 rfl (by show 4 ≤ 67; decide) (by first | exact Nat.le_refl _ | decide | simp) ?_
  refine zS ?_
  refine yN 9000 1 ((List.replicate 80 false).map Value.bool) ?_
  refine yA ?_
  refine zN (zQ (zS ?_))
  refine yM ?_
  refine yC (in_ctr) bd17 [] [] ?_
  refine yP (PureOp.not rfl) ?_
  first | refine AWo.pureB (PureOp.move rfl) rfl rfl (fun hb0 => ?_) (fun hb0 => ?_)
  ·
    refine yK ?_
    refine yK ?_
    refine yK ?_
    refine yP pT ?_
    refine yM ?_
    refine yK ?_
    refine yK ?_
    refine yK ?_
    refine yP pT ?_
    refine yM ?_
    refine yK ?_
    refine yK ?_
    refine yK ?_
    refine yP pT ?_
    refine zN (zC (zS ?_))
    refine yP ((PureOp.buildArr tbok [] rfl rfl rfl (by decide) rfl rfl).mono (v' := .agg ((List.replicate 80 false).map Value.bool).toArray) rfl) ?_
    refine AWo.storeAllN tbok rfl rfl rfl rfl (by first | (simp [*]; done) | rfl) (by first | (simp [*]; done) | rfl) (by first | exact oneM (fun _ => rfl) _ | rfl | (simp; done)) rfl ?_
    refine yA ?_
    refine zN (zE (zU ?_))
    exact rq [] [.cell 8 38, .tmp 9] (hv := (.val (RVal.cellAll tbok rfl rfl rfl rfl (by first | (simp [*]; done) | rfl)) (.tmp rfl .nil))) (hres := (.pure (by first | rfl | exact pure_aggM flat_vi | exact pure_aggM flat_bool) (.cons rfl rfl .nil)))
  ·
    refine yM ?_
    refine yC (in_ctr) bd17 [] [] ?_
    refine yP (PureOp.not rfl) ?_
    refine yP pE ?_
    first | refine AWo.pureB (PureOp.move rfl) rfl rfl (fun hb1 => ?_) (fun hb1 => ?_)
    ·
      refine yK ?_
      refine yK ?_
      refine yK ?_
      refine yP pT ?_
      refine yM ?_
      refine yK ?_
      refine yK ?_
      refine yK ?_
      refine yP pT ?_
      refine zN (zC (zS ?_))
      refine yP ((PureOp.buildArr tbok [] rfl rfl rfl (by decide) rfl rfl).mono (v' := .agg ((List.replicate 80 false).map Value.bool).toArray) rfl) ?_
      refine AWo.storeAllN tbok rfl rfl rfl rfl (by first | (simp [*]; done) | rfl) (by first | (simp [*]; done) | rfl) (by first | exact oneM (fun _ => rfl) _ | rfl | (simp; done)) rfl ?_
      refine yA ?_
      refine zN (zE (zU ?_))
      exact rq [] [.cell 8 38, .tmp 9] (hv := (.val (RVal.cellAll tbok rfl rfl rfl rfl (by first | (simp [*]; done) | rfl)) (.tmp rfl .nil))) (hres := (.pure (by first | rfl | exact pure_aggM flat_vi | exact pure_aggM flat_bool) (.cons rfl rfl .nil)))
    ·
      refine yM ?_
      refine yC (in_ctr) bd17 [] [] ?_
      refine yP (PureOp.not rfl) ?_
      refine yP pE ?_
      first | refine AWo.pureB (PureOp.move rfl) rfl rfl (fun hb2 => ?_) (fun hb2 => ?_)
      ·
        refine yK ?_
        refine yK ?_
        refine yK ?_
        refine yP pT ?_
        refine zN (zC (zS ?_))
        refine yP ((PureOp.buildArr tbok [] rfl rfl rfl (by decide) rfl rfl).mono (v' := .agg ((List.replicate 80 false).map Value.bool).toArray) rfl) ?_
        refine AWo.storeAllN tbok rfl rfl rfl rfl (by first | (simp [*]; done) | rfl) (by first | (simp [*]; done) | rfl) (by first | exact oneM (fun _ => rfl) _ | rfl | (simp; done)) rfl ?_
        refine yA ?_
        refine zN (zE (zU ?_))
        exact rq [] [.cell 8 38, .tmp 9] (hv := (.val (RVal.cellAll tbok rfl rfl rfl rfl (by first | (simp [*]; done) | rfl)) (.tmp rfl .nil))) (hres := (.pure (by first | rfl | exact pure_aggM flat_vi | exact pure_aggM flat_bool) (.cons rfl rfl .nil)))
      ·
        refine yM ?_
        refine yC (in_ctr) bd17 [] [] ?_
        refine yP (PureOp.not rfl) ?_
        refine yP pE ?_
        refine zN ?_
        refine zA (fun hb3 => ?_) (fun hb3 => ?_)
        ·
          refine zS ?_
          refine yP ((PureOp.buildArr tbok [] rfl rfl rfl (by decide) rfl rfl).mono (v' := .agg ((List.replicate 80 false).map Value.bool).toArray) rfl) ?_
          refine AWo.storeAllN tbok rfl rfl rfl rfl (by first | (simp [*]; done) | rfl) (by first | (simp [*]; done) | rfl) (by first | exact oneM (fun _ => rfl) _ | rfl | (simp; done)) rfl ?_
          refine yA ?_
          refine zN (zE (zU ?_))
          exact rq [] [.cell 8 38, .tmp 9] (hv := (.val (RVal.cellAll tbok rfl rfl rfl rfl (by first | (simp [*]; done) | rfl)) (.tmp rfl .nil))) (hres := (.pure (by first | rfl | exact pure_aggM flat_vi | exact pure_aggM flat_bool) (.cons rfl rfl .nil)))
        ·
          exfalso
          apply hbad
          clear hbad
          simp [inb] at *
          omega
end Go.Proofs.Ytbholmgeaklljaa
namespace Go.Proofs.Ytbholmgeaklljaa
open Go Sim
theorem add64_run (x y c : Nat) (hc : c ≤ 1) (w : World) : (callFunc 39 #[vi .u64 x, vi .u64 y, vi .u64 c]).run Try.prog w =
   .ok (.value (.tuple #[vi .u64 ((x + y + c) % 18446744073709551616), vi .u64 ((x + y + c) / 18446744073709551616)])) w := by
  simp only [vi]
  rw [run_callFunc_extern (fn := Try.f39) (by kernel_rfl) (by kernel_rfl) (by kernel_rfl) (by kernel_rfl) (e := add64Entry) (by kernel_rfl), run_add64 x y c (by omega) (by omega) (by omega) (by omega)]
  simp only [Result.andThen]
  congr 5 <;> omega
theorem add64 {aops : Array Operand} {tys : Array TypeId} {E : Env} {x y c : Nat} {fop : Operand} (hf : aev E fop = some (.func (.func 39) #[] #[])) (hv : aops.toList.map (aev E) = [some (vi .u64 x), some (vi .u64 y), some (vi .u64 c)]) (hc : c ≤ 1) :
    PureOp Try.prog (.call ⟨.value fop, aops, tys⟩) E (.tuple #[vi .u64 ((x + y + c) % 18446744073709551616), vi .u64 ((x + y + c) / 18446744073709551616)]) :=
  PureOp.extern (f := 39) (vals := [vi .u64 x, vi .u64 y, vi .u64 c]) hf hv rfl (.inr rfl) (add64_run x y c hc)
def sub64E : Array Value → Sem Value := fun args => do
  let (x, y, b) ← Extern.MathBitsCarry.three "Sub64" args
  pure (Extern.MathBitsCarry.pair ((x + Extern.MathBitsCarry.m64 - y - b) % Extern.MathBitsCarry.m64) (if x < y + b then 1 else 0))
theorem sub64_run (x y c : Nat) (hc : c ≤ 1) (w : World) : (callFunc 35 #[vi .u64 x, vi .u64 y, vi .u64 c]).run Try.prog w =
   .ok (.value (.tuple #[vi .u64 ((x + 18446744073709551616 - y - c) % 18446744073709551616), vi .u64 (if x < y + c then 1 else 0)])) w := by
  simp only [vi]
  rw [run_callFunc_extern (fn := Try.f35) (by kernel_rfl) (by kernel_rfl) (by kernel_rfl) (by kernel_rfl) (e := sub64E) (by kernel_rfl)]
  have : c = 0 ∨ c = 1 := by omega
  rcases this with rfl | rfl <;> rfl
theorem sub64 {aops : Array Operand} {tys : Array TypeId} {E : Env} {x y c : Nat} {fop : Operand} (hf : aev E fop = some (.func (.func 35) #[] #[])) (hv : aops.toList.map (aev E) = [some (vi .u64 x), some (vi .u64 y), some (vi .u64 c)]) (hc : c ≤ 1) :
    PureOp Try.prog (.call ⟨.value fop, aops, tys⟩) E (.tuple #[vi .u64 ((x + 18446744073709551616 - y - c) % 18446744073709551616), vi .u64 (if x < y + c then 1 else 0)]) :=
  PureOp.extern (f := 35) (vals := [vi .u64 x, vi .u64 y, vi .u64 c]) hf hv rfl (.inr rfl) (sub64_run x y c hc)
theorem and32 {P : Program} {E : Env} {t t' : TypeId} {x y : Operand} {a : Nat} (h1 : aev E x = some (vi .u64 a)) (h2 : aev E y = some (vi .u64 4294967295)) (ha : a < 18446744073709551616) : PureOp P (.binOp .and t x y t') E (vi .u64 (a % 4294967296)) :=
  (PureOp.andN 18446744073709551616 h1 h2 (by decide) (by decide) ha (by decide)).mono (by
    rw [show (4294967295 : Nat) = 2 ^ 32 - 1 by decide, Nat.and_two_pow_sub_one_eq_mod])
theorem prod_le (x y : Nat) (hx : x < 18446744073709551616) (hy : y < 18446744073709551616) : x % 4294967296 * (y % 4294967296) ≤ 18446744065119617025 ∧ x / 4294967296 * (y % 4294967296) ≤ 18446744065119617025 ∧
    x % 4294967296 * (y / 4294967296) ≤ 18446744065119617025 ∧ x / 4294967296 * (y / 4294967296) ≤ 18446744065119617025 ∧
    x * y = x / 4294967296 * (y / 4294967296) * 18446744073709551616 + x / 4294967296 * (y % 4294967296) * 4294967296 + x % 4294967296 * (y / 4294967296) * 4294967296 + x % 4294967296 * (y % 4294967296) := by
  have h1 : x % 4294967296 ≤ 4294967295 := by omega
  have h2 : x / 4294967296 ≤ 4294967295 := by omega
  have h3 : y % 4294967296 ≤ 4294967295 := by omega
  have h4 : y / 4294967296 ≤ 4294967295 := by omega
  refine ⟨Nat.mul_le_mul h1 h3, Nat.mul_le_mul h2 h3, Nat.mul_le_mul h1 h4, Nat.mul_le_mul h2 h4, ?_⟩
  have e1 : x = x / 4294967296 * 4294967296 + x % 4294967296 := by omega
  have e2 : y = y / 4294967296 * 4294967296 + y % 4294967296 := by omega
  conv => lhs; rw [e1, e2]
  generalize x / 4294967296 = a
  generalize x % 4294967296 = b
  generalize y / 4294967296 = c
  generalize y % 4294967296 = d
  grind
set_option maxRecDepth 10000 in
theorem mul64 {x y : Nat} (hx : x < 18446744073709551616) (hy : y < 18446744073709551616) : GC Try.prog 42 [vi .u64 (x), vi .u64 (y)] [] [vi .u64 (x * y / 18446744073709551616), vi .u64 (x * y % 18446744073709551616)] [] := by
  refine gi Try.func42 ?_
  have h1 := prod_le x y hx hy
  obtain ⟨h1, h2, h3, h4, h5⟩ := h1
  refine zS ?_
  refine yA ?_
  refine yA ?_
  refine zN (zS ?_)
  refine yM ?_
  refine yP (and32 rfl rfl hx) ?_
  refine yA ?_
  refine zN (zS ?_)
  refine yM ?_
  refine yP ((PureOp.shrN (b := 32) 64 rfl rfl rfl (by decide)).mono (v' := vi .u64 (x / 4294967296)) rfl) ?_
  refine yA ?_
  refine zN (zS ?_)
  refine yM ?_
  refine yP (and32 rfl rfl hy) ?_
  refine yA ?_
  refine zN (zS ?_)
  refine yM ?_
  refine yP ((PureOp.shrN (b := 32) 64 rfl rfl rfl (by decide)).mono (v' := vi .u64 (y / 4294967296)) rfl) ?_
  refine yA ?_
  refine zN (zS ?_)
  refine yM ?_
  refine yM ?_
  refine yP ((PureOp.mulU 18446744073709551616 rfl rfl rfl rfl).mono (v' := vi .u64 ((x % 4294967296) * (y % 4294967296))) (by rw [Nat.mod_eq_of_lt (by omega)])) ?_
  refine yA ?_
  refine zN (zS ?_)
  refine yM ?_
  refine yM ?_
  refine yP ((PureOp.mulU 18446744073709551616 rfl rfl rfl rfl).mono (v' := vi .u64 ((x / 4294967296) * (y % 4294967296))) (by rw [Nat.mod_eq_of_lt (by omega)])) ?_
  refine yM ?_
  refine yP ((PureOp.shrN (b := 32) 64 rfl rfl rfl (by decide)).mono (v' := vi .u64 ((x % 4294967296) * (y % 4294967296) / 4294967296)) rfl) ?_
  refine yP ((PureOp.addU 18446744073709551616 rfl rfl rfl rfl).mono (v' := vi .u64 ((x / 4294967296) * (y % 4294967296) + (x % 4294967296) * (y % 4294967296) / 4294967296)) (by rw [Nat.mod_eq_of_lt (by omega)])) ?_
  refine yA ?_
  refine zN (zS ?_)
  refine yM ?_
  refine yP (and32 rfl rfl (by omega)) ?_
  refine yA ?_
  refine zN (zS ?_)
  refine yM ?_
  refine yP ((PureOp.shrN (b := 32) 64 rfl rfl rfl (by decide)).mono (v' := vi .u64 (((x / 4294967296) * (y % 4294967296) + (x % 4294967296) * (y % 4294967296) / 4294967296) / 4294967296)) rfl) ?_
  refine yA ?_
  refine zN (zS ?_)
  refine yM ?_
  refine yM ?_
  refine yM ?_
  refine yP ((PureOp.mulU 18446744073709551616 rfl rfl rfl rfl).mono (v' := vi .u64 ((x % 4294967296) * (y / 4294967296))) (by rw [Nat.mod_eq_of_lt (by omega)])) ?_
  refine yP ((PureOp.addU 18446744073709551616 rfl rfl rfl rfl).mono (v' := vi .u64 (((x / 4294967296) * (y % 4294967296) + (x % 4294967296) * (y % 4294967296) / 4294967296) % 4294967296 + (x % 4294967296) * (y / 4294967296))) (by rw [Nat.mod_eq_of_lt (by omega)])) ?_
  refine yA ?_
  refine zN (zS ?_)
  refine yM ?_
  refine yM ?_
  refine yP ((PureOp.mulU 18446744073709551616 rfl rfl rfl rfl).mono (v' := vi .u64 ((x / 4294967296) * (y / 4294967296))) (by rw [Nat.mod_eq_of_lt (by omega)])) ?_
  refine yM ?_
  refine yP ((PureOp.addU 18446744073709551616 rfl rfl rfl rfl).mono (v' := vi .u64 ((x / 4294967296) * (y / 4294967296) + ((x / 4294967296) * (y % 4294967296) + (x % 4294967296) * (y % 4294967296) / 4294967296) / 4294967296)) (by rw [Nat.mod_eq_of_lt (by omega)])) ?_
  refine yM ?_
  refine yP ((PureOp.shrN (b := 32) 64 rfl rfl rfl (by decide)).mono (v' := vi .u64 ((((x / 4294967296) * (y % 4294967296) + (x % 4294967296) * (y % 4294967296) / 4294967296) % 4294967296 + (x % 4294967296) * (y / 4294967296)) / 4294967296)) rfl) ?_
  refine yP ((PureOp.addU 18446744073709551616 rfl rfl rfl rfl).mono (v' := vi .u64 (x * y / 18446744073709551616)) (by rw [Nat.mod_eq_of_lt (by omega)]; congr 1; omega)) ?_
  refine yA ?_
  refine zN (zS ?_)
  refine yM ?_
  refine yM ?_
  refine yP (PureOp.mulU 18446744073709551616 rfl rfl rfl rfl) ?_
  refine yA ?_
  refine zN (zE ?_)
  exact rq [] [.tmp 4, .tmp 5]
end Go.Proofs.Ytbholmgeaklljaa
namespace Go.Proofs.Ytbholmgeaklljaa
open Go Sim
def cmpI (a b : Nat) : Int := if a < b then -1 else if b < a then 1 else 0
section
variable {B : Nat}
theorem getD_ge {l : List Nat} {i : Nat} (h : l.length ≤ i) : l.getD i 0 = 0 := by
  rw [List.getD_eq_getElem?_getD, List.getElem?_eq_none h]; rfl
theorem top_lt {a c r : Nat} (h : a / B ^ (r + 1) = c / B ^ (r + 1)) (hd : a / B ^ r % B < c / B ^ r % B) : a < c := by
  rcases Nat.lt_or_ge a c with h1 | h1
  · exact h1
  · exfalso
    have h2 := Nat.div_le_div_right (c := B ^ r) h1
    rw [Nat.pow_succ, ← Nat.div_div_eq_div_mul, ← Nat.div_div_eq_div_mul] at h
    have e1 := Nat.div_add_mod (a / B ^ r) B
    have e2 := Nat.div_add_mod (c / B ^ r) B
    rw [h] at e1
    omega
theorem top_eq {a c r : Nat} (h : a / B ^ (r + 1) = c / B ^ (r + 1)) (hd : a / B ^ r % B = c / B ^ r % B) : a / B ^ r = c / B ^ r := by
  rw [Nat.pow_succ, ← Nat.div_div_eq_div_mul, ← Nat.div_div_eq_div_mul] at h
  have e1 := Nat.div_add_mod (a / B ^ r) B
  have e2 := Nat.div_add_mod (c / B ^ r) B
  rw [h, hd] at e1
  omega
theorem div_big {l : List Nat} (h : bd B l) (hB : 0 < B) {n : Nat} (hn : l.length ≤ n) : num B l / B ^ n = 0 :=
  Nat.div_eq_of_lt (Nat.lt_of_lt_of_le (num_lt h) (Nat.pow_le_pow_right hB hn))
theorem num_lt_pow {l : List Nat} (h : bd B l) (hB : 0 < B) {n : Nat} (hn : l.length ≤ n) : num B l < B ^ n := Nat.lt_of_lt_of_le (num_lt h) (Nat.pow_le_pow_right hB hn)
theorem add_step {l : List Nat} {i a b c x y : Nat} (hl : l.length = i) (h : num B l + B ^ i * c = a % B ^ i + b % B ^ i) (hx : x = a / B ^ i % B) (hy : y = b / B ^ i % B) :
    num B (l ++ [(x + y + c) % B]) + B ^ (i + 1) * ((x + y + c) / B) = a % B ^ (i + 1) + b % B ^ (i + 1) := by
  rw [num_append, hl, mod_succ a, mod_succ b, ← hx, ← hy]
  simp only [num, Nat.mul_zero, Nat.add_zero, Nat.pow_succ]
  have e := Nat.mod_add_div (x + y + c) B
  have e2 : B ^ i * ((x + y + c) % B) + B ^ i * B * ((x + y + c) / B) = B ^ i * (x + y + c) := by rw [Nat.mul_assoc, ← Nat.mul_add, e]
  have e3 : B ^ i * (x + y + c) = B ^ i * x + B ^ i * y + B ^ i * c := by rw [Nat.mul_add, Nat.mul_add]
  omega
theorem sub_step {l : List Nat} {i a b c x y : Nat} (hl : l.length = i) (h : num B l + b % B ^ i = a % B ^ i + B ^ i * c) (hx : x = a / B ^ i % B) (hy : y = b / B ^ i % B) (hyB : y < B) (hc : c ≤ 1) :
    num B (l ++ [(B + x - y - c) % B]) + b % B ^ (i + 1) = a % B ^ (i + 1) + B ^ (i + 1) * (1 - (B + x - y - c) / B) := by
  have hxB : x < B := by rw [hx]; exact Nat.mod_lt _ (by omega)
  rw [num_append, hl, mod_succ a, mod_succ b, ← hx, ← hy]
  simp only [num, Nat.mul_zero, Nat.add_zero, Nat.pow_succ]
  rcases Nat.lt_or_ge (B + x - y - c) B with h1 | h1
  · rw [Nat.mod_eq_of_lt h1, Nat.div_eq_of_lt h1]
    have e : B ^ i * (B + x - y - c) + B ^ i * y + B ^ i * c = B ^ i * B + B ^ i * x := by
      rw [← Nat.mul_add, ← Nat.mul_add, ← Nat.mul_add]; congr 1; omega
    simp only [Nat.sub_zero, Nat.mul_one]
    omega
  · have e1 : (B + x - y - c) % B = x - y - c := by rw [Nat.mod_eq_sub_mod h1, Nat.mod_eq_of_lt (by omega)]; omega
    have e2 : (B + x - y - c) / B = 1 := by
      rw [Nat.div_eq_of_lt_le (k := 1)] <;> omega
    rw [e1, e2]
    have e : B ^ i * (x - y - c) + B ^ i * y + B ^ i * c = B ^ i * x := by
      rw [← Nat.mul_add, ← Nat.mul_add]; congr 1; omega
    simp only [Nat.sub_self, Nat.mul_zero, Nat.add_zero]
    omega
theorem map_snoc (k : IntKind) (l : List Nat) (x : Nat) : l.map (vi k) ++ [vi k x] = (l ++ [x]).map (vi k) := by simp
theorem dpart (hB : 2 ≤ B) {k : IntKind} {l : List Nat} {v : Nat} (h : bd B l) (hv : num B l = v) : (l.map (vi k)).take ((D B v).map (vi k)).length = (D B v).map (vi k) := by
  subst hv
  rw [List.length_map, ← List.map_take, ← D_take hB h]
theorem dpart_len (hB : 2 ≤ B) {k : IntKind} {l : List Nat} {v : Nat} (h : bd B l) (hv : num B l = v) : ((D B v).map (vi k)).length ≤ (l.map (vi k)).length := by
  subst hv
  rw [List.length_map, List.length_map]
  exact (D_len_le hB _ _).2 (num_lt h)
theorem drop_zero_step {l : List Nat} {n : Nat} (h : num B (l.drop n) = 0) (hn : 0 < n) (hln : n ≤ l.length) (h0 : l.getD (n - 1) 0 = 0) : num B (l.drop (n - 1)) = 0 := by
  rw [List.drop_eq_getElem_cons (i := n - 1) (by omega)]
  have e : l[n - 1] = 0 := by
    rw [List.getD_eq_getElem?_getD, List.getElem?_eq_getElem (by omega)] at h0; exact h0
  simp only [num, e, Nat.zero_add]
  rw [show n - 1 + 1 = n by omega, h, Nat.mul_zero]
end
end Go.Proofs.Ytbholmgeaklljaa
namespace Go.Proofs.Ytbholmgeaklljaa
open Go Sim
set_option maxRecDepth 10000 in
theorem get_ctr {a : List Nat} {i : Nat} : GC Try.prog 30 [.slice (some ⟨0, 0, none⟩) a.length 0, vi .i64 (i)] [⟨a.map (vi .u64), false, 1⟩] [vi .u64 (a.getD i 0)] [⟨a.map (vi .u64), false, 1⟩] := by
 refine gi Try.func30 ?_
 refine zS ?_
 refine yA ?_
 refine zN (zQ (zS ?_))
 refine yM ?_
 refine yM ?_
 refine yP pL ?_
 refine yP pLt ?_
 refine zN ?_
 refine zA (fun hb0 => ?_) (fun hb0 => ?_)
 ·
  have hi : i < a.length := by simpa using hb0
  refine zS ?_
  refine yM ?_
  refine yM ?_
  refine yP pJ ?_
  refine yL 0 ?_
  refine yA ?_
  refine zN (zE (zU ?_))
  exact rq [] [.tmp 4] (hres := (.cons rfl (by rfl) .nil))
 ·
  have hi : a.length ≤ i := by simpa using hb0
  refine zK (zT (zS ?_))
  refine yA ?_
  refine zN (zE ?_)
  exact rq [] [.tmp 4] (hres := (.cons rfl (by exact congrArg (vi .u64) (getD_ge hi)) .nil))
set_option maxRecDepth 10000 in
theorem trim_ctr {a : List Nat} {v n : Nat} (h : bd 4294967296 a) (hv : num 4294967296 a = v) (hn : a.length = n) (hl : a.length < 1000000000) : GC Try.prog 23 [.slice (some ⟨0, 0, none⟩) n 0] [⟨a.map (vi .u64), false, 1⟩] [.slice (some ⟨0, 0, none⟩) (D 4294967296 v).length 0] [⟨a.map (vi .u64), false, 1⟩] := by
 refine gi Try.func23 ?_
 subst hn
 refine zS ?_
 refine yA ?_
 refine zN (zS ?_)
 refine yM ?_
 refine yP pL ?_
 refine yA ?_
 refine zN (zQ (zB ?_))
 refine AW.loopw (fun mm σ => ∃ k, (k ≤ a.length ∧ num 4294967296 (a.drop k) = 0) ∧ mm = 1 * k ∧ σ = ⟨(upd (upd emp 0 (.slice (some ⟨0, 0, none⟩) a.length 0)) 3 (vi .i64 k)), (upd emp 0 ⟨a.map (vi .u64), false, 1⟩)⟩) (fm := []) (wk [0]) ⟨a.length, ⟨Nat.le_refl _, by simp [num]⟩, rfl, rfl⟩ ?_
 rintro mm σ ⟨k, ⟨hn, h0⟩, rfl, rfl⟩
 refine zQ (zS ?_)
 refine yM ?_
 refine yB (pGt (b := 0)) (fun hb0 => ?_) (fun hb0 => ?_)
 ·
  have hp : 0 < k := by simpa using hb0
  refine yM ?_
  refine yM ?_
  refine yM ?_
  refine yP (pSub (b := 1)) ?_
  refine yP pJ ?_
  refine yL 0 ?_
  refine yP (pEq (b := 0)) ?_
  refine yP pT ?_
  refine zN ?_
  refine zA (fun hb1 => ?_) (fun hb1 => ?_)
  ·
   have hd : a.getD (k - 1) 0 = 0 := by simpa using hb1
   refine zK (zT (zB (zR ?_)))
   refine yM ?_
   refine yP (pSub (b := 1)) ?_
   refine yA ?_
   refine zN (zL (zT ?_))
   exact ⟨1 * (k - 1), [], _, by omega, wk [0], k - 1, ⟨by omega, drop_zero_step h0 (by omega) hn hd⟩, rfl, rfl⟩
  ·
   have hd : a.getD (k - 1) 0 ≠ 0 := by simpa using hb1
   have hst := D_stop (by decide) h hn h0 (.inr hd)
   rw [hv] at hst
   subst hst
   refine zX (zV (zV (zH (zT (zS ?_)))))
   refine yM ?_
   refine yM ?_
   refine AWo.sliceS tbok rfl .none (.some rfl) rfl rfl rfl rfl (by omega) (by omega) (.inl rfl) rfl rfl rfl ?_
   refine yA ?_
   refine zN (zE ?_)
   exact rq [] [.tmp 2]
 ·
  have hp : k = 0 := by simp at hb0; omega
  have hst := D_stop (by decide) h hn h0 (.inl hp)
  rw [hv] at hst
  subst hst
  refine yM ?_
  refine yK ?_
  refine yK ?_
  refine yK ?_
  refine yK ?_
  refine yK ?_
  refine yK ?_
  refine yP pE ?_
  refine zN (zF (zX (zV (zV (zH (zT (zS ?_)))))))
  refine yM ?_
  refine yM ?_
  refine AWo.sliceS tbok rfl .none (.some rfl) rfl rfl rfl rfl (by omega) (by omega) (.inl rfl) rfl rfl rfl ?_
  refine yA ?_
  refine zN (zE ?_)
  exact rq [] [.tmp 2]
set_option maxRecDepth 10000 in
theorem rcmp_ctr {a b : List Nat} (ha : bd 4294967296 a) (hb : bd 4294967296 b) (hla : a.length < 1000000000) (hlb : b.length < 1000000000) : GC Try.prog 21 [.slice (some ⟨0, 0, none⟩) a.length 0, .slice (some ⟨1, 0, none⟩) b.length 0] [⟨a.map (vi .u64), false, 1⟩, ⟨b.map (vi .u64), false, 1⟩] [.int .i64 (cmpI (num 4294967296 a) (num 4294967296 b))] [⟨a.map (vi .u64), false, 1⟩, ⟨b.map (vi .u64), false, 1⟩] := by
 refine gi Try.func21 ?_
 have ea := div_big ha (by decide) (show a.length ≤ a.length + b.length + 1 by omega)
 have eb := div_big hb (by decide) (show b.length ≤ a.length + b.length + 1 by omega)
 refine zS ?_
 refine yA ?_
 refine zN (zQ (zS ?_))
 refine yM ?_
 refine yP pL ?_
 refine yM ?_
 refine yP pL ?_
 refine yP pAdd ?_
 refine yA ?_
 refine zN (zB ?_)
 refine AW.loopw (fun mm σ => ∃ r, (r ≤ a.length + b.length + 1 ∧ num 4294967296 a / 4294967296 ^ r = num 4294967296 b / 4294967296 ^ r) ∧ mm = 1 * r ∧ σ = ⟨(upd (upd (upd emp 0 (.slice (some ⟨0, 0, none⟩) a.length 0)) 1 (.slice (some ⟨1, 0, none⟩) b.length 0)) 5 (vp r)), (upd (upd emp 0 ⟨a.map (vi .u64), false, 1⟩) 1 ⟨b.map (vi .u64), false, 1⟩)⟩) (fm := []) (wk [0, 1]) ⟨a.length + b.length + 1, ⟨Nat.le_refl _, ea.trans eb.symm⟩, rfl, rfl⟩ ?_
 rintro mm σ ⟨r, ⟨hr, he⟩, rfl, rfl⟩
 refine zQ (zS ?_)
 refine yM ?_
 refine yP (PureOp.geP rfl rfl) ?_
 refine zN ?_
 refine zA (fun hb0 => ?_) (fun hb0 => ?_)
 ·
  have hp0 : 0 < r := by simpa using hb0
  obtain ⟨r, rfl⟩ : ∃ q, r = q + 1 := ⟨r - 1, by omega⟩
  rw [vp_succ]
  have da := num_getD ha (by decide) r
  have db := num_getD hb (by decide) r
  refine zK (zT (zQ (zB (zQ (zS ?_)))))
  refine yM ?_
  refine yM ?_
  refine yC (get_ctr) bd30 [(0, 0)] [] ?_
  refine yM ?_
  refine yM ?_
  refine yC (get_ctr) bd30 [(1, 0)] [] ?_
  refine yP pLt ?_
  refine zN ?_
  refine zA (fun hb1 => ?_) (fun hb1 => ?_)
  ·
   have hlt : a.getD r 0 < b.getD r 0 := by simpa using hb1
   rw [da, db] at hlt
   have hab := top_lt he hlt
   refine zS ?_
   refine yA ?_
   refine zN (zE (zU (zI (zU (zU (zI (zU ?_)))))))
   exact rq [] [.tmp 4] (hres := (.cons rfl (congrArg (Value.int .i64) (by simp only [cmpI]; split <;> (try split) <;> omega)) .nil))
  ·
   have hge : ¬ a.getD r 0 < b.getD r 0 := by simpa using hb1
   refine zK (zT (zS ?_))
   refine yM ?_
   refine yM ?_
   refine yC (get_ctr) bd30 [(0, 0)] [] ?_
   refine yM ?_
   refine yM ?_
   refine yC (get_ctr) bd30 [(1, 0)] [] ?_
   refine yP pGt ?_
   refine zN ?_
   refine zA (fun hb2 => ?_) (fun hb2 => ?_)
   ·
    have hlt : b.getD r 0 < a.getD r 0 := by simpa using hb2
    rw [da, db] at hlt
    have hab := top_lt he.symm hlt
    refine zS ?_
    refine yA ?_
    refine zN (zE (zI (zU (zU (zI (zU ?_))))))
    exact rq [] [.tmp 4] (hres := (.cons rfl (congrArg (Value.int .i64) (by simp only [cmpI]; split <;> (try split) <;> omega)) .nil))
   ·
    have hge2 : ¬ b.getD r 0 < a.getD r 0 := by simpa using hb2
    rw [da, db] at hge hge2
    refine zK (zL (zT (zR ?_)))
    refine yM ?_
    refine yP (PureOp.subP rfl rfl (by omega)) ?_
    refine yA ?_
    refine zN (zT ?_)
    exact ⟨1 * r, [], _, by omega, wk [0, 1], r, ⟨by omega, top_eq he (by omega)⟩, rfl, rfl⟩
 ·
  obtain rfl : r = 0 := by simpa using hb0
  rw [Nat.pow_zero, Nat.div_one, Nat.div_one] at he
  refine zX (zV (zV (zH (zT (zS ?_)))))
  refine yA ?_
  refine zN (zE ?_)
  exact rq [] [.tmp 4] (hres := (.cons rfl (congrArg (Value.int .i64) (by simp only [cmpI]; split <;> (try split) <;> omega)) .nil))
end Go.Proofs.Ytbholmgeaklljaa
namespace Go.Proofs.Ytbholmgeaklljaa
open Go Sim
section
variable {B : Nat}
theorem digs_snoc (n v : Nat) : digs B (n + 1) v = digs B n v ++ [v / B ^ n % B] := by
  induction n generalizing v with
  | zero => simp [digs]
  | succ n ih =>
    rw [digs, ih, digs, List.cons_append, Nat.div_div_eq_div_mul, Nat.pow_succ, Nat.mul_comm (B ^ n) B]
theorem mul_step {l b : List Nat} {i j c p x s : Nat} (hk : i + j < l.length) (h : num B l + c * B ^ (i + j) = p + x * num B (b.take j) * B ^ i) (hs : s = l.getD (i + j) 0 + x * b.getD j 0 + c) :
    num B (l.set (i + j) (s % B)) + s / B * B ^ (i + (j + 1)) = p + x * num B (b.take (j + 1)) * B ^ i := by
  have h1 := num_set (B := B) (l := l) (k := i + j) (v := s % B) hk
  have h2 := Nat.mod_add_div s B
  rw [num_take_succ, ← Nat.add_assoc, Nat.pow_succ]
  rw [Nat.pow_add] at h h1 ⊢
  generalize B ^ i = u at *
  generalize B ^ j = v at *
  generalize num B (l.set (i + j) (s % B)) = z at *
  generalize num B (b.take j) = q at *
  generalize s % B = r at *
  generalize s / B = t at *
  generalize l.getD (i + j) 0 = e at *
  generalize b.getD j 0 = y at *
  have h3 : r * (u * v) + t * (u * v * B) = s * (u * v) := by rw [← h2]; grind
  subst hs
  grind
theorem getD_set {l : List Nat} {k j v : Nat} (h : k ≠ j) : (l.set k v).getD j 0 = l.getD j 0 := by
  rw [List.getD_eq_getElem?_getD, List.getElem?_set_ne h, ← List.getD_eq_getElem?_getD]
theorem getD_set_self {l : List Nat} {k v : Nat} (h : k < l.length) : (l.set k v).getD k 0 = v := by
  rw [List.getD_eq_getElem?_getD, List.getElem?_set_self h]; rfl
theorem take_all {l : List Nat} : l.take l.length = l := List.take_of_length_le (Nat.le_refl _)
theorem word_two (v i : Nat) (hB : 0 < B) : v / B ^ (2 * i) % B + v / B ^ (2 * i + 1) % B * B = v / (B * B) ^ i % (B * B) := by
  have e : (B * B) ^ i = B ^ (2 * i) := by rw [← Nat.pow_two, ← Nat.pow_mul]
  rw [e, Nat.pow_succ, ← Nat.div_div_eq_div_mul, Nat.mod_mul, Nat.mul_comm B]
theorem mad_lt {e x y c b : Nat} (he : e < b) (hx : x < b) (hy : y < b) (hc : c < b) : e + x * y + c < b * b := by
  have h1 : x * y ≤ (b - 1) * (b - 1) := Nat.mul_le_mul (by omega) (by omega)
  obtain ⟨d, rfl⟩ : ∃ d, b = d + 1 := ⟨b - 1, by omega⟩
  simp only [Nat.add_sub_cancel] at h1
  have h2 : (d + 1) * (d + 1) = d * d + 2 * d + 1 := by grind
  omega
end
end Go.Proofs.Ytbholmgeaklljaa
namespace Go.Proofs.Ytbholmgeaklljaa
open Go Sim
theorem rep_getD (n k : Nat) : (List.replicate n 0).getD k 0 = 0 := by
 rw [List.getD_eq_getElem?_getD]
 rcases Nat.lt_or_ge k n with h | h
 · rw [List.getElem?_eq_getElem (by simpa using h)]; simp
 · rw [List.getElem?_eq_none (by simpa using h)]; rfl
set_option maxRecDepth 10000 in
theorem words_ctr {a : List Nat} {n : Nat} (h : bd 4294967296 a) (hn : n < 100000000) : GC Try.prog 34 [.slice (some ⟨0, 0, none⟩) a.length 0, vi .i64 (n)] [⟨a.map (vi .u64), false, 1⟩] [.slice (some ⟨1, 0, none⟩) (digs 18446744073709551616 n (num 4294967296 a)).length 0] [⟨a.map (vi .u64), false, 1⟩, ⟨(digs 18446744073709551616 n (num 4294967296 a)).map (vi .u64), true, 1⟩] := by
 refine gi Try.func34 ?_
 refine zS ?_
 refine yA ?_
 refine zN (zS ?_)
 refine yM ?_
 refine AWo.makeSliceC (n := 0) tbok 9000 ((List.replicate 0 0).map (vi .u64)) rfl rfl (by omega) rfl rfl (by decide) rfl rfl rfl rfl (by omega) (by omega) (by simp [vi]) rfl rfl rfl ?_
 refine yA ?_
 refine zN (zQ (zS ?_))
 refine yA ?_
 refine zN (zB ?_)
 refine AW.loopw (fun mm σ => ∃ i, (i ≤ n) ∧ mm = n - i ∧ σ = ⟨(upd (upd (upd (upd emp 0 (.slice (some ⟨0, 0, none⟩) a.length 0)) 1 (vi .i64 n)) 5 (.slice (some ⟨77000, 0, none⟩) i 0)) 6 (vi .i64 i)), (upd (upd emp 0 ⟨a.map (vi .u64), false, 1⟩) 77000 ⟨(digs 18446744073709551616 i (num 4294967296 a)).map (vi .u64), true, 1⟩)⟩) (fm := [(77000, 9000)]) (wk [0, 77000]) ⟨0, Nat.zero_le _, rfl, rfl⟩ ?_
 rintro mm σ ⟨i, hinv, rfl, rfl⟩
 have hx := bd_getD h (by decide) (2 * i)
 have hy := bd_getD h (by decide) (2 * i + 1)
 have hxy := word_two (B := 4294967296) (num 4294967296 a) i (by decide)
 rw [← num_getD h (by decide), ← num_getD h (by decide)] at hxy
 refine zQ (zS ?_)
 refine yM ?_
 refine yM ?_
 refine yP pLt ?_
 refine zN ?_
 refine zA (fun hb0 => ?_) (fun hb0 => ?_)
 ·
  have hi : i < n := by simpa using hb0
  refine zK (zT (zQ (zB (zR ?_))))
  refine yM ?_
  refine yM ?_
  refine yM ?_
  refine yP ((PureOp.mulI (a := 2) rfl rfl (by omega)).mono (v' := vi .i64 (2 * i)) rfl) ?_
  refine yC (get_ctr) bd30 [(0, 0)] [] ?_
  refine yM ?_
  refine yM ?_
  refine yP ((PureOp.mulI (a := 2) rfl rfl (by omega)).mono (v' := vi .i64 (2 * i)) rfl) ?_
  refine yP (pAdd (b := 1)) ?_
  refine yC (get_ctr) bd30 [(0, 0)] [] ?_
  refine yP ((PureOp.mulU (b := 4294967296) 18446744073709551616 rfl rfl rfl rfl).mono (v' := vi .u64 (a.getD (2 * i + 1) 0 * 4294967296)) (by rw [Nat.mod_eq_of_lt (by omega)])) ?_
  refine yP ((PureOp.addU 18446744073709551616 rfl rfl rfl rfl).mono (v' := vi .u64 (num 4294967296 a / 18446744073709551616 ^ i % 18446744073709551616)) (by rw [Nat.mod_eq_of_lt (by omega), hxy])) ?_
  refine AWo.buildSlice tbok 27000 [(0, vi .u64 (num 4294967296 a / 18446744073709551616 ^ i % 18446744073709551616))] (out := [vi .u64 (num 4294967296 a / 18446744073709551616 ^ i % 18446744073709551616)]) rfl rfl (by decide) rfl rfl rfl (by decide) rfl rfl rfl rfl rfl ?_
  refine AWo.append tbok (all := (digs 18446744073709551616 (i + 1) (num 4294967296 a)).map (vi .u64)) 28000 rfl rfl rfl rfl (by simp [digs_len]) rfl (by (simp; done)) (by decide) rfl rfl rfl (by decide) rfl rfl rfl (by omega) (by omega) rfl (by rw [digs_snoc, ← map_snoc]; rfl) rfl rfl ?_
  refine yA ?_
  refine zN (zL (zT (zR ?_)))
  refine yM ?_
  refine yP (pAdd (b := 1)) ?_
  refine yA ?_
  refine zN (zT ?_)
  exact ⟨n - (i + 1), [(77000, 28000)], _, by omega, wk [0, 77000], i + 1, by omega, rfl, rfl⟩
 ·
  have hi : i = n := by simp at hb0; omega
  subst hi
  refine zX (zV (zV (zH (zT (zS ?_)))))
  refine yM ?_
  refine yA ?_
  refine zN (zE ?_)
  exact rq [77000] [.tmp 4] (hres := (.cons rfl (by simp [ren, ren1, hmap, digs_len]) .nil))
end Go.Proofs.Ytbholmgeaklljaa
namespace Go.Proofs.Ytbholmgeaklljaa
open Go Sim
section
variable {B : Nat}
theorem take_set_succ {l : List Nat} {i v : Nat} (h : i < l.length) : (l.set i v).take (i + 1) = l.take i ++ [v] := by
 rw [List.take_succ_eq_append_getElem (by simpa using h), List.take_set_of_le (Nat.le_refl _)]
 simp
theorem sumL_end (hB : 0 < B) {l : List Nat} {n a b c : Nat} (hl : bd B l) (hln : l.length = n) (h : num B (l.take n) + B ^ n * c = a % B ^ n + b % B ^ n) (ha : a < B ^ n) (hb : b < B ^ n) :
  l = digs B n (a + b) ∧ c = (a + b) / B ^ n := by
 have h1 := num_lt hl
 rw [hln] at h1
 rw [← hln, take_all, hln, Nat.mod_eq_of_lt ha, Nat.mod_eq_of_lt hb] at h
 have hp : 0 < B ^ n := by omega
 have h2 : (a + b) / B ^ n = c := by rw [← h, Nat.add_mul_div_left _ _ hp, Nat.div_eq_of_lt h1, Nat.zero_add]
 refine ⟨?_, h2.symm⟩
 refine num_inj hl (digs_bd hB _ _) (by rw [digs_len, hln]) ?_
 rw [num_digs, ← h, Nat.add_mul_mod_self_left, Nat.mod_eq_of_lt h1]
theorem dif_step {l : List Nat} {i a b c x y : Nat} (hl : l.length = i) (h : num B l + b % B ^ i = a % B ^ i + B ^ i * c) (hx : x = a / B ^ i % B) (hy : y = b / B ^ i % B) (hxB : x < B) (hyB : y < B) (hc : c ≤ 1) :
  num B (l ++ [(x + B - y - c) % B]) + b % B ^ (i + 1) = a % B ^ (i + 1) + B ^ (i + 1) * (if x < y + c then 1 else 0) := by
 have h1 := sub_step hl h hx hy hyB hc
 rw [show x + B - y - c = B + x - y - c by omega, h1]
 congr 2
 split
 · rw [Nat.div_eq_of_lt (by omega)]
 · rw [Nat.div_eq_of_lt_le (k := 1)] <;> omega
theorem difL_end (hB : 0 < B) {l : List Nat} {n a b c : Nat} (hl : bd B l) (hln : l.length = n) (h : num B (l.take n) + b % B ^ n = a % B ^ n + B ^ n * c) (ha : a < B ^ n) (hb : b < B ^ n) (hc : c ≤ 1) :
    l = digs B n (a + B ^ n - b) ∧ c = if a < b then 1 else 0 := by
  have h1 := num_lt hl
  rw [hln] at h1
  rw [← hln, take_all, hln, Nat.mod_eq_of_lt ha, Nat.mod_eq_of_lt hb] at h
  rcases (by omega : c = 0 ∨ c = 1) with rfl | rfl
  · refine ⟨num_inj hl (digs_bd hB _ _) (by rw [digs_len, hln]) ?_, by rw [if_neg (by omega)]⟩
    rw [num_digs, show a + B ^ n - b = num B l + B ^ n by omega, Nat.add_mod_right, Nat.mod_eq_of_lt h1]
  · refine ⟨num_inj hl (digs_bd hB _ _) (by rw [digs_len, hln]) ?_, by rw [if_pos (by omega)]⟩
    rw [num_digs, show a + B ^ n - b = num B l by omega, Nat.mod_eq_of_lt h1]
end
set_option maxRecDepth 10000 in
theorem line_ctr {a x y c : Nat} (ha : a < 18446744073709551616) (hx : x < 18446744073709551616) (hy : y < 18446744073709551616) (hc : c < 18446744073709551616) : GC Try.prog 41 [vi .u64 (a), vi .u64 (x), vi .u64 (y), vi .u64 (c)] [] [vi .u64 ((a + x * y + c) % 18446744073709551616), vi .u64 ((a + x * y + c) / 18446744073709551616)] [] := by
 refine gi Try.func41 ?_
 have hp : x * y ≤ 18446744073709551615 * 18446744073709551615 := Nat.mul_le_mul (by omega) (by omega)
 refine zS ?_
 refine yA ?_
 refine yA ?_
 refine zN (zS ?_)
 refine yM ?_
 refine yM ?_
 refine AWo.callX (mul64 (by assumption) (by assumption)) bd42 [] [] rfl (.cons rfl (.cons rfl .nil)) rfl (.cons rfl rfl (.cons rfl rfl .nil)) .nil rfl .nil frN (by decide) (.cons rfl rfl (.cons rfl rfl .nil)) rfl rfl rfl rfl ?_
 refine yM ?_
 refine yP pX ?_
 refine yP pX ?_
 refine yA ?_
 refine yA ?_
 refine zN (zS ?_)
 refine yM ?_
 refine yM ?_
 refine yP (add64 (c := 0) rfl rfl (by decide)) ?_
 refine yM ?_
 refine yP pX ?_
 refine yP pX ?_
 refine yA ?_
 refine yA ?_
 refine zN (zS ?_)
 refine yM ?_
 refine yM ?_
 refine AWo.pure ((PureOp.addU 18446744073709551616 rfl rfl rfl rfl).mono (v' := vi .u64 (x * y / 18446744073709551616 + (x * y % 18446744073709551616 + a + 0) / 18446744073709551616)) (by congr 1; omega)) rfl rfl ?_
 refine yA ?_
 refine zN (zS ?_)
 refine yM ?_
 refine yM ?_
 refine yP (add64 (c := 0) rfl rfl (by decide)) ?_
 refine yM ?_
 refine yP pX ?_
 refine yP pX ?_
 refine yA ?_
 refine yA ?_
 refine AWo.nil trivial ?_
 refine AW.seqR ?_
 first | refine AWo.pure ((PureOp.move rfl).mono (v' := vi .u64 ((a + x * y + c) % 18446744073709551616)) (congrArg (vi .u64) (by omega))) rfl rfl ?_
 refine yM ?_
 refine yM ?_
 refine AWo.pure ((PureOp.addU 18446744073709551616 rfl rfl rfl rfl).mono (v' := vi .u64 ((a + x * y + c) / 18446744073709551616)) (by congr 1; omega)) rfl rfl ?_
 refine yA ?_
 refine yA ?_
 refine zN (zE ?_)
 exact rq [] [.tmp 8, .tmp 9]
end Go.Proofs.Ytbholmgeaklljaa
namespace Go.Proofs.Ytbholmgeaklljaa
open Go Sim
theorem shl_byte {x k : Nat} (hx : x < 256) (hk : k < 8) : x * 2 ^ (8 * k) % 18446744073709551616 = x * 256 ^ k ∧ x * 256 ^ k < 18446744073709551616 := by
 have e : 2 ^ (8 * k) = 256 ^ k := by rw [Nat.pow_mul]
 have h1 : 256 ^ k ≤ 256 ^ 7 := Nat.pow_le_pow_right (by decide) (by omega)
 have h2 : x * 256 ^ k < 18446744073709551616 := by
  have := Nat.mul_le_mul (show x ≤ 255 by omega) h1
  have h3 : 255 * 256 ^ 7 < 18446744073709551616 := by decide
  omega
 rw [e]
 exact ⟨Nat.mod_eq_of_lt h2, h2⟩
theorem or_add {e x k : Nat} (he : e < 256 ^ k) : e ||| x * 256 ^ k = e + x * 256 ^ k := by
 have e1 : (256 : Nat) ^ k = 2 ^ (8 * k) := by rw [Nat.pow_mul]
 rw [e1] at he ⊢
 have := Nat.two_pow_add_eq_or_of_lt (i := 8 * k) (b := e) he x
 rw [Nat.mul_comm x, Nat.or_comm, ← this, Nat.add_comm]
theorem W_256 (i : Nat) : 256 ^ i = 18446744073709551616 ^ (i / 8) * 256 ^ (i % 8) := by
 rw [show (18446744073709551616 : Nat) = 256 ^ 8 from by decide, ← Nat.pow_mul, ← Nat.pow_add, Nat.div_add_mod]
theorem words_low {a l : List Nat} {i : Nat} (h : bd 256 a) (hb : bd 18446744073709551616 l) (hn : num 18446744073709551616 l = num 256 (a.take i)) : l.getD (i / 8) 0 < 256 ^ (i % 8) := by
 rw [num_getD hb (by decide), hn]
 have h1 : num 256 (a.take i) < 256 ^ i := by
  have := num_lt (bd_take h i)
  exact Nat.lt_of_lt_of_le this (Nat.pow_le_pow_right (by decide) (by simp; omega))
 have h2 : num 256 (a.take i) / 18446744073709551616 ^ (i / 8) < 256 ^ (i % 8) := by
  rw [Nat.div_lt_iff_lt_mul (Nat.pow_pos (by decide)), Nat.mul_comm, ← W_256]
  exact h1
 exact Nat.lt_of_le_of_lt (Nat.mod_le _ _) h2
theorem words_bd {e x k : Nat} (hx : x < 256) (he : e < 256 ^ k) (hk : k < 8) : e + x * 256 ^ k < 18446744073709551616 := by
 have h1 : 256 ^ k ≤ 256 ^ 7 := Nat.pow_le_pow_right (by decide) (by omega)
 have h2 := Nat.mul_le_mul_right (256 ^ k) (show x + 1 ≤ 256 by omega)
 rw [Nat.add_mul, Nat.one_mul] at h2
 have h3 : 256 * 256 ^ 7 = 18446744073709551616 := by decide
 omega
theorem words_step {a l : List Nat} {i : Nat} (hi : i / 8 < l.length) (hn : num 18446744073709551616 l = num 256 (a.take i)) : num 18446744073709551616 (l.set (i / 8) (l.getD (i / 8) 0 + a.getD i 0 * 256 ^ (i % 8))) = num 256 (a.take (i + 1)) := by
 have h := num_set (B := 18446744073709551616) (l := l) (k := i / 8) (v := l.getD (i / 8) 0 + a.getD i 0 * 256 ^ (i % 8)) hi
 rw [num_take_succ, ← hn, W_256 i]
 rw [Nat.add_mul, Nat.mul_assoc, Nat.mul_comm (256 ^ (i % 8))] at h
 omega
theorem byte_at {a : List Nat} {i j : Nat} (h : bd 18446744073709551616 a) (_ : i < a.length) (hj : j < 8) : a.getD i 0 / 256 ^ j % 256 = num 18446744073709551616 a / 256 ^ (8 * i + j) % 256 := by
 rw [num_getD h (by decide), Nat.pow_add, Nat.pow_mul, show (256 : Nat) ^ 8 = 18446744073709551616 from by decide, ← Nat.div_div_eq_div_mul]
 generalize num 18446744073709551616 a / 18446744073709551616 ^ i = z
 have e : 18446744073709551616 = 256 ^ j * (256 * 256 ^ (7 - j)) := by
  rw [← Nat.mul_assoc, Nat.mul_right_comm, ← Nat.pow_add, show j + (7 - j) = 7 by omega]
 rw [e, Nat.mod_mul_right_div_self, Nat.mod_mul_right_mod]
set_option maxRecDepth 10000 in
theorem lwords_ctr {a : List Nat} (h : bd 256 a) (hl : a.length < 100000000) : GC Try.prog 26 [.slice (some ⟨0, 0, none⟩) a.length 0] [⟨a.map (vi .u8), false, 1⟩] [.slice (some ⟨1, 0, none⟩) ((a.length + 7) / 8) 0] [⟨a.map (vi .u8), false, 1⟩, ⟨(digs 18446744073709551616 ((a.length + 7) / 8) (num 256 a)).map (vi .u64), true, 1⟩] := by
 refine gi Try.func26 ?_
 refine zS ?_
 refine yA ?_
 refine zN (zS ?_)
 refine yM ?_
 refine yP pL ?_
 refine yP (pAdd (b := 7)) ?_
 refine yP (PureOp.quoN (b := 8) 9223372036854775808 rfl rfl (by decide) (by decide) (by decide) (by omega)) ?_
 refine AWo.makeI tbok 11000 rfl rfl rfl rfl rfl rfl (by omega) (by omega) rfl rfl rfl ?_
 refine yA ?_
 refine zN (zQ (zS ?_))
 refine yM ?_
 refine yP pL ?_
 refine yM ?_
 refine zN (zB ?_)
 refine AW.loopw (fun mm σ => ∃ i, ∃ (l : List Nat), (i ≤ a.length ∧ l.length = ((a.length + 7) / 8) ∧ bd 18446744073709551616 l ∧ num 18446744073709551616 l = num 256 (a.take i)) ∧ mm = a.length - i ∧ σ = ⟨(upd (upd (upd (upd (upd emp 0 (.slice (some ⟨0, 0, none⟩) a.length 0)) 3 (.slice (some ⟨77000, 0, none⟩) ((a.length + 7) / 8) 0)) 11 (.slice (some ⟨0, 0, none⟩) a.length 0)) 12 (vi .i64 a.length)) 13 (vi .i64 i)), (upd (upd emp 0 ⟨a.map (vi .u8), false, 1⟩) 77000 ⟨l.map (vi .u64), true, 1⟩)⟩) (fm := [(77000, 11000)]) (wk [0, 77000]) ⟨0, List.replicate ((a.length + 7) / 8) 0, ⟨Nat.zero_le _, by simp, bd_replicate (by decide) _, by simp [num, num_replicate]⟩, rfl, rfl⟩ ?_
 rintro mm σ ⟨i, l, ⟨hi0, hl2, hbl, hnl⟩, rfl, rfl⟩
 refine zS ?_
 refine yP pLt ?_
 refine zN (zQ ?_)
 refine zA (fun hb0 => ?_) (fun hb0 => ?_)
 ·
  have hi : i < a.length := by simpa using hb0
  have hx := bd_getD h (by decide) i
  obtain ⟨hb1, hb2⟩ := shl_byte hx (Nat.mod_lt i (show 0 < 8 by decide))
  have he := words_low h hbl hnl
  have hs2 := words_bd hx he (Nat.mod_lt i (show 0 < 8 by decide))
  have he64 := bd_getD hbl (by decide) (i / 8)
  refine zK (zT (zQ (zB (zS ?_))))
  refine yM ?_
  refine yP pJ ?_
  refine yL 0 ?_
  refine yA ?_
  refine yA ?_
  refine zN ?_
  refine AW.draw mixed ?_
  refine yM ?_
  refine yM ?_
  refine yP (PureOp.quoN (b := 8) 9223372036854775808 rfl rfl (by decide) (by decide) (by decide) (by omega)) ?_
  refine yP pJ ?_
  refine yL 0 ?_
  refine yM ?_
  refine yP (PureOp.cvtN tbok 18446744073709551616 rfl rfl rfl (by decide) (by decide) (by omega)) ?_
  refine yM ?_
  refine yP (PureOp.remN (b := 8) rfl rfl (by decide)) ?_
  refine yP (PureOp.mulI (a := 8) rfl rfl (by omega)) ?_
  refine yP ((PureOp.shlUge 18446744073709551616 rfl rfl rfl rfl).mono (v' := vi .u64 (a.getD i 0 * 256 ^ (i % 8))) (congrArg (vi .u64) hb1)) ?_
  refine yP ((PureOp.orN 18446744073709551616 rfl rfl (by decide) (by decide) he64 hb2).mono (v' := vi .u64 (l.getD (i / 8) 0 + a.getD i 0 * 256 ^ (i % 8))) (congrArg (vi .u64) (or_add he))) ?_
  refine yP pJ ?_
  refine yS (vi .u64) ?_
  refine zD (zL (zT (zR ?_)))
  refine yP (pAdd (b := 1)) ?_
  refine yM ?_
  refine zN (zT ?_)
  exact ⟨a.length - (i + 1), [], _, by omega, wk [0, 77000], i + 1, l.set (i / 8) (l.getD (i / 8) 0 + a.getD i 0 * 256 ^ (i % 8)), ⟨by omega, by simp [hl2], bd_set hbl hs2, words_step (by omega) hnl⟩, rfl, rfl⟩
 ·
  have hi : i = a.length := by simp at hb0; omega
  subst hi
  rw [take_all] at hnl
  obtain rfl : l = digs 18446744073709551616 ((a.length + 7) / 8) (num 256 a) := by rw [← hnl, ← hl2, digs_num hbl]
  refine zX (zV (zV (zH (zT (zS ?_)))))
  refine yM ?_
  refine yA ?_
  refine zN (zE ?_)
  exact rq [77000] [.tmp 2]
set_option maxRecDepth 10000 in
theorem rbytes_ctr {a : List Nat} (h : bd 18446744073709551616 a) (hl : a.length < 100000000) : GC Try.prog 33 [.slice (some ⟨0, 0, none⟩) a.length 0] [⟨a.map (vi .u64), false, 1⟩] [.slice (some ⟨1, 0, none⟩) (8 * a.length) 0] [⟨a.map (vi .u64), false, 1⟩, ⟨(digs 256 (8 * a.length) (num 18446744073709551616 a)).map (vi .u8), true, 1⟩] := by
 refine gi Try.func33 ?_
 refine zS ?_
 refine yA ?_
 refine zN (zS ?_)
 refine AWo.buildSlice tbok 8000 [] (out := []) rfl rfl (by decide) rfl rfl rfl (by decide) rfl rfl rfl rfl rfl ?_
 refine yA ?_
 refine zN (zQ (zS ?_))
 refine yA ?_
 refine zN (zB ?_)
 refine AW.loopw (fun mm σ => ∃ i, (i ≤ a.length) ∧ mm = a.length - i ∧ σ = ⟨(upd (upd (upd emp 0 (.slice (some ⟨0, 0, none⟩) a.length 0)) 3 (.slice (some ⟨77000, 0, none⟩) (8 * i) 0)) 4 (vi .i64 i)), (upd (upd emp 0 ⟨a.map (vi .u64), false, 1⟩) 77000 ⟨(digs 256 (8 * i) (num 18446744073709551616 a)).map (vi .u8), true, 1⟩)⟩) (fm := [(77000, 8000)]) (wk [0, 77000]) ⟨0, Nat.zero_le _, rfl, rfl⟩ ?_
 rintro mm σ ⟨i, hinv, rfl, rfl⟩
 refine zQ (zS ?_)
 refine yM ?_
 refine yM ?_
 refine yP pL ?_
 refine yP pLt ?_
 refine zN ?_
 refine zA (fun hb0 => ?_) (fun hb0 => ?_)
 ·
  have hi : i < a.length := by simpa using hb0
  have hx := bd_getD h (by decide) i
  refine zK (zT (zQ (zB (zS ?_))))
  refine yM ?_
  refine yM ?_
  refine yP pJ ?_
  refine yL 0 ?_
  refine yA ?_
  refine zN (zS ?_)
  refine yA ?_
  refine zN (zB ?_)
  refine AW.loopw (fun mm σ => ∃ j, (j ≤ 8) ∧ mm = 8 - j ∧ σ = ⟨(upd (upd (upd (upd (upd emp 0 (.slice (some ⟨0, 0, none⟩) a.length 0)) 3 (.slice (some ⟨77000, 0, none⟩) (8 * i + j) 0)) 4 (vi .i64 i)) 5 (vi .u64 (a.getD i 0 / 256 ^ j))) 6 (vi .i64 j)), (upd (upd emp 0 ⟨a.map (vi .u64), false, 1⟩) 77000 ⟨(digs 256 (8 * i + j) (num 18446744073709551616 a)).map (vi .u8), true, 1⟩)⟩) (fm := []) (wk [0, 77000]) ⟨0, Nat.zero_le _, rfl, rfl⟩ ?_
  rintro mm σ ⟨j, hj0, rfl, rfl⟩
  refine zQ (zS ?_)
  refine yM ?_
  refine yP (pLt (b := 8)) ?_
  refine zN ?_
  refine zA (fun hb1 => ?_) (fun hb1 => ?_)
  ·
   have hj : j < 8 := by simpa using hb1
   have hby := byte_at h hi hj
   refine zK (zT (zQ (zB (zS ?_))))
   refine yM ?_
   refine yM ?_
   refine yP (PureOp.remN (b := 256) rfl rfl (by decide)) ?_
   refine yP ((PureOp.cvtU tbok 256 rfl rfl rfl rfl rfl).mono (v' := vi .u8 (num 18446744073709551616 a / 256 ^ (8 * i + j) % 256)) (congrArg (vi .u8) (by rw [Nat.mod_mod]; exact hby))) ?_
   refine AWo.buildSlice tbok 27000 [(0, vi .u8 (num 18446744073709551616 a / 256 ^ (8 * i + j) % 256))] (out := [vi .u8 (num 18446744073709551616 a / 256 ^ (8 * i + j) % 256)]) rfl rfl (by decide) rfl rfl rfl (by decide) rfl rfl rfl rfl rfl ?_
   refine AWo.append tbok (all := (digs 256 (8 * i + j + 1) (num 18446744073709551616 a)).map (vi .u8)) 28000 rfl rfl rfl rfl (by simp [digs_len]) rfl (by (simp; done)) (by decide) rfl rfl rfl (by decide) rfl rfl rfl (by omega) (by omega) rfl (by rw [digs_snoc, ← map_snoc]; rfl) rfl rfl ?_
   refine yA ?_
   refine zN (zR ?_)
   refine yM ?_
   refine yP (PureOp.quoN (b := 256) 18446744073709551616 rfl rfl (by decide) (by decide) (by decide) (Nat.lt_of_le_of_lt (Nat.div_le_self _ _) hx)) ?_
   refine yA ?_
   refine zN (zL (zT (zR ?_)))
   refine yM ?_
   refine yP (pAdd (b := 1)) ?_
   refine yA ?_
   refine zN (zT ?_)
   refine ⟨8 - (j + 1), [(77000, 28000)], _, by omega, ?_, j + 1, by omega, rfl, rfl⟩
   refine Wk.of [0, 77000] ?_ ?_ ?_ (by decide) rfl
   ·
    refine WkE.upd rfl (by exact VR.flat _ rfl) ?_
    refine WkE.upd rfl (VR.eqv (by exact congrArg (vi .u64) (by rw [Nat.pow_succ, Nat.div_div_eq_div_mul])) rfl) ?_
    refine WkE.upd rfl (by exact VR.flat _ rfl) ?_
    refine WkE.upd rfl (.slice (77000) 0 _ 0 ⟨_, rfl⟩ (by simp) (by simp)) ?_
    refine WkE.upd rfl (.slice (0) 0 _ 0 ⟨_, rfl⟩ (by simp) (by simp)) ?_
    exact WkE.emp
   ·
    refine WkM.flatM rfl (by rfl) (fun _ => rfl) (fun h => h) ?_
    refine WkM.flatM rfl (by rfl) (fun _ => rfl) (fun h => h) ?_
    exact WkM.emp
   ·
    repeat (refine dom_upd_mem (by decide) ?_)
    exact dom_emp
  ·
   obtain rfl : j = 8 := by simp at hb1; omega
   refine zX (zV (zV (zH (zL (zT (zR ?_))))))
   refine yM ?_
   refine yP (pAdd (b := 1)) ?_
   refine yA ?_
   refine zN (zT ?_)
   exact ⟨a.length - (i + 1), [], _, by omega, wk [0, 77000], i + 1, by omega, rfl, rfl⟩
 ·
  have hi : i = a.length := by simp at hb0; omega
  subst hi
  refine zX (zV (zV (zH (zT (zS ?_)))))
  refine yM ?_
  refine yA ?_
  refine zN (zE ?_)
  exact rq [77000] [.tmp 2]
set_option maxRecDepth 10000 in
theorem lbytes_ctr {a : List Nat} (h : bd 18446744073709551616 a) (hl : a.length < 100000000) : GC Try.prog 32 [.slice (some ⟨0, 0, none⟩) a.length 0] [⟨a.map (vi .u64), false, 1⟩] [.slice (some ⟨1, 0, none⟩) (8 * a.length) 0] [⟨a.map (vi .u64), false, 1⟩, ⟨(digs 256 (8 * a.length) (num 18446744073709551616 a)).map (vi .u8), true, 1⟩] := by
 refine gi Try.func32 ?_
 refine zS ?_
 refine yA ?_
 refine zN (zS ?_)
 refine yA ?_
 refine zN (zQ (zS ?_))
 refine yM ?_
 refine yP pL ?_
 refine yM ?_
 refine zN (zB ?_)
 refine AW.ghost 77000 1 rfl ?_
 refine AW.loopw (fun mm σ => ∃ i, (i ≤ a.length) ∧ mm = a.length - i ∧ σ = ⟨(upd (upd (upd (upd (upd emp 0 (.slice (some ⟨0, 0, none⟩) a.length 0)) 3 (.slice (some ⟨77000, 0, none⟩) (8 * i) 0)) 8 (vi .i64 i)) 6 (.slice (some ⟨0, 0, none⟩) a.length 0)) 7 (vi .i64 a.length)), (upd (upd emp 0 ⟨a.map (vi .u64), false, 1⟩) 77000 ⟨(digs 256 (8 * i) (num 18446744073709551616 a)).map (vi .u8), true, 1⟩)⟩) (fm := []) (wk [0, 77000]) ⟨0, Nat.zero_le _, rfl, rfl⟩ ?_
 rintro mm σ ⟨i, hinv, rfl, rfl⟩
 refine zS ?_
 refine yP pLt ?_
 refine zN (zQ ?_)
 refine zA (fun hb0 => ?_) (fun hb0 => ?_)
 ·
  have hi : i < a.length := by simpa using hb0
  have hx := bd_getD h (by decide) i
  refine zK (zT (zQ (zB (zS ?_))))
  refine yP pJ ?_
  refine yL 0 ?_
  refine yA ?_
  refine zN (zS ?_)
  refine yM ?_
  refine zN (zB ?_)
  refine AW.loopw (fun mm σ => ∃ j, (j ≤ 8) ∧ mm = 8 - j ∧ σ = ⟨(upd (upd (upd (upd (upd (upd (upd emp 0 (.slice (some ⟨0, 0, none⟩) a.length 0)) 3 (.slice (some ⟨77000, 0, none⟩) (8 * i + j) 0)) 8 (vi .i64 i)) 6 (.slice (some ⟨0, 0, none⟩) a.length 0)) 7 (vi .i64 a.length)) 5 (vi .u64 (a.getD i 0 / 256 ^ j))) 12 (vi .i64 j)), (upd (upd emp 0 ⟨a.map (vi .u64), false, 1⟩) 77000 ⟨(digs 256 (8 * i + j) (num 18446744073709551616 a)).map (vi .u8), true, 1⟩)⟩) (fm := []) (wk [0, 77000]) ⟨0, Nat.zero_le _, rfl, rfl⟩ ?_
  rintro mm σ ⟨j, hj0, rfl, rfl⟩
  refine zS ?_
  refine yP (pLt (b := 8)) ?_
  refine zN (zQ ?_)
  refine zA (fun hb1 => ?_) (fun hb1 => ?_)
  ·
   have hj : j < 8 := by simpa using hb1
   have hby := byte_at h hi hj
   refine zK (zT (zQ (zB (zS ?_))))
   refine yM ?_
   refine yM ?_
   refine yP ((PureOp.cvtU tbok 256 rfl rfl rfl rfl rfl).mono (v' := vi .u8 (num 18446744073709551616 a / 256 ^ (8 * i + j) % 256)) (congrArg (vi .u8) hby)) ?_
   refine AWo.buildSlice tbok 18000 [(0, vi .u8 (num 18446744073709551616 a / 256 ^ (8 * i + j) % 256))] (out := [vi .u8 (num 18446744073709551616 a / 256 ^ (8 * i + j) % 256)]) rfl rfl (by decide) rfl rfl rfl (by decide) rfl rfl rfl rfl rfl ?_
   refine AWo.append tbok (all := (digs 256 (8 * i + j + 1) (num 18446744073709551616 a)).map (vi .u8)) 19000 rfl rfl rfl rfl (by simp [digs_len]) rfl (by (simp; done)) (by decide) rfl rfl rfl (by decide) rfl rfl rfl (by omega) (by omega) rfl (by rw [digs_snoc, ← map_snoc]; rfl) rfl rfl ?_
   refine yA ?_
   refine zN (zR ?_)
   refine yM ?_
   refine yP ((PureOp.shrN (b := 8) 64 rfl rfl rfl (by decide)).mono (v' := vi .u64 (a.getD i 0 / 256 ^ j / 256)) rfl) ?_
   refine yA ?_
   refine zN (zL (zT (zR ?_)))
   refine yP (pAdd (b := 1)) ?_
   refine yM ?_
   refine zN (zT ?_)
   refine ⟨8 - (j + 1), [(77000, 19000)], _, by omega, ?_, j + 1, by omega, rfl, rfl⟩
   refine Wk.of [0, 77000] ?_ ?_ ?_ (by decide) rfl
   ·
    refine WkE.upd rfl (by exact VR.flat _ rfl) ?_
    refine WkE.upd rfl (VR.eqv (by exact congrArg (vi .u64) (by rw [Nat.pow_succ, Nat.div_div_eq_div_mul])) rfl) ?_
    refine WkE.upd rfl (by exact VR.flat _ rfl) ?_
    refine WkE.upd rfl (.slice (0) 0 _ 0 ⟨_, rfl⟩ (by simp) (by simp)) ?_
    refine WkE.upd rfl (by exact VR.flat _ rfl) ?_
    refine WkE.upd rfl (.slice (77000) 0 _ 0 ⟨_, rfl⟩ (by simp) (by simp)) ?_
    refine WkE.upd rfl (.slice (0) 0 _ 0 ⟨_, rfl⟩ (by simp) (by simp)) ?_
    exact WkE.emp
   ·
    refine WkM.flatM rfl (by rfl) (fun _ => rfl) (fun h => h) ?_
    refine WkM.flatM rfl (by rfl) (fun _ => rfl) (fun h => h) ?_
    exact WkM.emp
   ·
    repeat (refine dom_upd_mem (by decide) ?_)
    exact dom_emp
  ·
   obtain rfl : j = 8 := by simp at hb1; omega
   refine zX (zV (zV (zH (zL (zT (zR ?_))))))
   refine yP (pAdd (b := 1)) ?_
   refine yM ?_
   refine zN (zT ?_)
   exact ⟨a.length - (i + 1), [], _, by omega, wk [0, 77000], i + 1, by omega, rfl, rfl⟩
 ·
  have hi : i = a.length := by simp at hb0; omega
  subst hi
  refine zX (zV (zV (zH (zT (zS ?_)))))
  refine yM ?_
  refine yA ?_
  refine zN (zE ?_)
  exact rq [77000] [.tmp 2]
end Go.Proofs.Ytbholmgeaklljaa
namespace Go.Proofs.Ytbholmgeaklljaa
open Go Sim
section
variable {B : Nat}
theorem mad_step {l b : List Nat} {j c p x s : Nat} (hk : j < l.length) (h : num B l + c * B ^ j = p + x * num B (b.take j)) (hs : s = l.getD j 0 + x * b.getD j 0 + c) :
    num B (l.set j (s % B)) + s / B * B ^ (j + 1) = p + x * num B (b.take (j + 1)) := by
  have := mul_step (B := B) (l := l) (b := b) (i := 0) (j := j) (c := c) (p := p) (x := x) (s := s) (by omega) (by simpa using h) (by simpa using hs)
  simpa using this
theorem red_step {u q : List Nat} {j c k s t : Nat} (hj : 0 < j) (hju : j < u.length) (h : B * num B (u.take (j - 1)) + c * B ^ j = t % B ^ j + k * num B (q.take j)) (hs : s = u.getD j 0 + k * q.getD j 0 + c)
    (hu : u.getD j 0 = t / B ^ j % B) : B * num B ((u.set (j - 1) (s % B)).take j) + s / B * B ^ (j + 1) = t % B ^ (j + 1) + k * num B (q.take (j + 1)) := by
  obtain ⟨m, rfl⟩ : ∃ m, j = m + 1 := ⟨j - 1, by omega⟩
  simp only [Nat.add_sub_cancel] at h ⊢
  rw [take_set_succ (by omega), num_append, List.length_take, Nat.min_eq_left (by omega), mod_succ t, num_take_succ q, ← hu]
  simp only [num, Nat.mul_zero, Nat.add_zero]
  have h2 := Nat.mod_add_div s B
  generalize num B (u.take m) = a at *
  generalize num B (q.take (m + 1)) = b at *
  generalize t % B ^ (m + 1) = d at *
  generalize s % B = r at *
  generalize s / B = e at *
  generalize u.getD (m + 1) 0 = f at *
  generalize q.getD (m + 1) 0 = g at *
  rw [Nat.pow_succ B (m + 1)]
  rw [Nat.pow_succ] at h ⊢
  generalize B ^ m = v at *
  subst hs
  have h3 : r * (v * B) + e * (v * B * B) = (f + k * g + c) * (v * B) := by rw [← h2]; grind
  grind
theorem red_end {u : List Nat} {n c k t P : Nat} (hn : u.length = n + 2) (h : B * num B (u.take n) + c * B ^ (n + 1) = t % B ^ (n + 1) + k * P) (hu : u.getD (n + 1) 0 = t / B ^ (n + 1)) :
    B * num B ((u.set n ((u.getD (n + 1) 0 + c) % B)).set (n + 1) ((u.getD (n + 1) 0 + c) / B)) = t + k * P := by
  have e : (u.set n ((u.getD (n + 1) 0 + c) % B)).set (n + 1) ((u.getD (n + 1) 0 + c) / B) = u.take n ++ [(u.getD (n + 1) 0 + c) % B, (u.getD (n + 1) 0 + c) / B] := by
    have hl : ((u.set n ((u.getD (n + 1) 0 + c) % B)).set (n + 1) ((u.getD (n + 1) 0 + c) / B)).length = n + 1 + 1 := by simp [hn]
    rw [← List.take_of_length_le (Nat.le_of_eq hl), take_set_succ (by simp [hn]), take_set_succ (by omega), List.append_assoc]
    rfl
  rw [e, num_append, List.length_take, Nat.min_eq_left (by omega)]
  simp only [num, Nat.mul_zero, Nat.add_zero]
  rw [Nat.mod_add_div, hu]
  have h3 := Nat.mod_add_div t (B ^ (n + 1))
  rw [Nat.pow_succ] at h h3 ⊢
  generalize t / (B ^ n * B) = d at *
  generalize t % (B ^ n * B) = f at *
  generalize num B (u.take n) = a at *
  generalize B ^ n = v at *
  grind
theorem mont_lt {T x b k P T' : Nat} (h : B * T' = T + x * b + k * P) (hT : T < 2 * P) (hx : x < B) (hb : b < P) (hk : k < B) : T' < 2 * P := by
  have h1 : x * b ≤ (B - 1) * P := Nat.mul_le_mul (by omega) (by omega)
  have h2 : k * P ≤ (B - 1) * P := Nat.mul_le_mul (by omega) (Nat.le_refl _)
  obtain ⟨d, rfl⟩ : ∃ d, B = d + 1 := ⟨B - 1, by omega⟩
  simp only [Nat.add_sub_cancel] at h1 h2
  have h3 : (d + 1) * T' < (d + 1) * (2 * P) := by
    rw [h]
    have e : (d + 1) * (2 * P) = 2 * P + d * P + d * P := by grind
    rw [e]; omega
  exact Nat.lt_of_mul_lt_mul_left h3
theorem mont_mod {T x b k P T' i A : Nat} (h : B * T' = T + x * b + k * P) (hT : T * B ^ i % P = A * b % P) : T' * B ^ (i + 1) % P = (A + x * B ^ i) * b % P := by
  have e : T' * B ^ (i + 1) = T * B ^ i + x * B ^ i * b + k * B ^ i * P := by
    rw [Nat.pow_succ]
    have : B * T' * B ^ i = (T + x * b + k * P) * B ^ i := by rw [h]
    grind
  rw [e, Nat.add_mul_mod_self_right, Nat.add_mod, hT, ← Nat.add_mod, Nat.add_mul]
theorem mont_uniq {R P r r' : Nat} (hc : Nat.Coprime R P) (hr : r < P) (hr' : r' < P) (h : r * R % P = r' * R % P) : r = r' := by
  have key : ∀ {a b : Nat}, a ≤ b → b < P → a * R % P = b * R % P → a = b := by
    intro a b hab hb h
    have h1 : P ∣ (b - a) * R := by
      have h2 := Nat.dvd_of_mod_eq_zero (Nat.sub_mod_eq_zero_of_mod_eq h.symm)
      rwa [← Nat.sub_mul] at h2
    have h3 := (Nat.Coprime.symm hc).dvd_of_dvd_mul_right h1
    rcases Nat.eq_zero_or_pos (b - a) with h0 | h0
    · omega
    · have := Nat.le_of_dvd h0 h3
      omega
  rcases Nat.le_total r r' with h1 | h1
  · exact key h1 hr' h
  · exact (key h1 hr h.symm).symm
theorem mont_low {t k P inv : Nat} (hB : 0 < B) (hi : (P * inv + 1) % B = 0) (hk : k = t % B * inv % B) : (t % B + k * (P % B)) % B = 0 := by
  subst hk
  have e : (t % B + t % B * inv % B * (P % B)) % B = (t % B * (P * inv + 1)) % B := by
    rw [Nat.add_mod, ← Nat.mul_mod (t % B * inv) P B, ← Nat.add_mod, Nat.mul_add, Nat.mul_one, Nat.add_comm, Nat.mul_assoc, Nat.mul_comm inv P]
  rw [e, Nat.mul_mod, hi, Nat.mul_zero, Nat.zero_mod]
end
end Go.Proofs.Ytbholmgeaklljaa
namespace Go.Proofs.Ytbholmgeaklljaa
open Go Sim
def pinv : Nat → Nat
 | 0 => 1
 | i + 1 => pinv i * ((2 + (18446744073709551616 - 4891460686036598785 * pinv i % 18446744073709551616)) % 18446744073709551616) % 18446744073709551616
theorem pinv_lt (i : Nat) : pinv i < 18446744073709551616 := by
 cases i with
 | zero => decide
 | succ i => exact Nat.mod_lt _ (by decide)
theorem below_ge {a : List Nat} (_ : bd 18446744073709551616 a) (_ : a.length = 4) (h : 21888242871839275222246405745257275088548364400416034343698204186575808495617 ≤ num 18446744073709551616 a) (h2 : num 18446744073709551616 a < 2 * 21888242871839275222246405745257275088548364400416034343698204186575808495617) : digs 18446744073709551616 4 (num 18446744073709551616 a % 21888242871839275222246405745257275088548364400416034343698204186575808495617) = digs 18446744073709551616 4 (num 18446744073709551616 a + 18446744073709551616 ^ 4 - 21888242871839275222246405745257275088548364400416034343698204186575808495617) := by
 refine num_inj (digs_bd (by decide) _ _) (digs_bd (by decide) _ _) (by simp [digs_len]) ?_
 rw [num_digs, num_digs]
 omega
theorem below_lt {a : List Nat} (ha : bd 18446744073709551616 a) (hl : a.length = 4) (h : num 18446744073709551616 a < 21888242871839275222246405745257275088548364400416034343698204186575808495617) : digs 18446744073709551616 4 (num 18446744073709551616 a % 21888242871839275222246405745257275088548364400416034343698204186575808495617) = a := by
 rw [Nat.mod_eq_of_lt h, ← hl, digs_num ha]
set_option maxRecDepth 10000 in
theorem prime_ctr : GC Try.prog 28 [] [] [.agg ((digs 18446744073709551616 4 21888242871839275222246405745257275088548364400416034343698204186575808495617).map (vi .u64)).toArray] [] := by
 refine gi Try.func28 ?_
 refine zS ?_
 refine yN 1000 1 ((List.replicate 4 0).map (vi .u64)) ?_
 refine zN (zS ?_)
 refine yP ((PureOp.buildArr tbok [(0, .int .u64 4891460686036598785), (1, .int .u64 2896914383306846353), (2, .int .u64 13281191951274694749), (3, .int .u64 3486998266802970665)] rfl rfl rfl (by decide) rfl rfl).mono (v' := .agg ((digs 18446744073709551616 4 21888242871839275222246405745257275088548364400416034343698204186575808495617).map (vi .u64)).toArray) (by kernel_rfl)) ?_
 refine ySA ?_
 refine zN (zE ?_)
 exact rq [] [.cell 0 31]
set_option maxRecDepth 10000 in
theorem inverse_ctr : GC Try.prog 40 [] [] [vi .u64 (14042775128853446655)] [] := by
 refine gi Try.func40 ?_
 refine zS ?_
 refine yA ?_
 refine zN (zS ?_)
 refine yC (prime_ctr) bd28 [] [] ?_
 refine yP ((PureOp.idxVM (j := 0) tbok 0 rfl rfl rfl rfl rfl (by decide) (digs_len _ _)).mono (v' := vi .u64 4891460686036598785) (by kernel_rfl)) ?_
 refine yA ?_
 refine yA ?_
 refine zN (zQ (zS ?_))
 refine yM ?_
 refine zN (zB ?_)
 refine AW.loopw (fun mm σ => ∃ i, (i ≤ 6) ∧ mm = 6 - i ∧ σ = ⟨(upd (upd (upd emp 1 (vi .u64 4891460686036598785)) 2 (vi .u64 (pinv i))) 5 (vi .i64 i)), emp⟩) (fm := []) (wk []) ⟨0, by decide, rfl, rfl⟩ ?_
 rintro mm σ ⟨i, hinv, rfl, rfl⟩
 have hpv := pinv_lt i
 refine zS ?_
 refine yP (pLt (b := 6)) ?_
 refine zN (zQ ?_)
 refine zA (fun hb0 => ?_) (fun hb0 => ?_)
 ·
  have hi : i < 6 := by simpa using hb0
  refine zK (zT (zQ (zB (zR ?_))))
  refine yM ?_
  refine yM ?_
  refine yM ?_
  refine yP (PureOp.mulU 18446744073709551616 rfl rfl rfl rfl) ?_
  refine yP (PureOp.subU (a := 2) 18446744073709551616 rfl rfl rfl rfl (by omega)) ?_
  refine yP (PureOp.mulU 18446744073709551616 rfl rfl rfl rfl) ?_
  refine yA ?_
  refine zN (zL (zT (zR ?_)))
  refine yP (pAdd (b := 1)) ?_
  refine yM ?_
  refine zN (zT ?_)
  exact ⟨6 - (i + 1), [], _, by omega, wk [], i + 1, by omega, rfl, rfl⟩
 ·
  obtain rfl : i = 6 := by simp at hb0; omega
  refine zX (zV (zV (zH (zT (zS ?_)))))
  refine yM ?_
  first | refine AWo.pure ((PureOp.negU 18446744073709551616 rfl rfl rfl (by decide)).mono (v' := vi .u64 14042775128853446655) (by kernel_rfl)) rfl rfl ?_
  refine yA ?_
  refine zN (zE ?_)
  exact rq [] [.tmp 0]
set_option maxRecDepth 10000 in
theorem plus_ctr {a b : List Nat} (ha : bd 18446744073709551616 a) (hb : bd 18446744073709551616 b) (hla : a.length = 4) (hlb : b.length = 4) : GC Try.prog 37 [.agg ((a).map (vi .u64)).toArray, .agg ((b).map (vi .u64)).toArray] [] [.agg ((digs 18446744073709551616 4 (num 18446744073709551616 a + num 18446744073709551616 b)).map (vi .u64)).toArray] [] := by
 refine gi Try.func37 ?_
 have hpa := num_lt ha
 rw [hla] at hpa
 have hpb := num_lt hb
 rw [hlb] at hpb
 refine zS ?_
 refine yO 3000 1 (a.map (vi .u64)) ?_
 refine yO 4000 1 (b.map (vi .u64)) ?_
 refine yN 5000 1 ((List.replicate 4 0).map (vi .u64)) ?_
 refine zN (zS ?_)
 refine yA ?_
 refine zN (zQ (zS ?_))
 refine yM ?_
 refine zN (zB ?_)
 refine AW.loopw (fun mm σ => ∃ i, ∃ (l : List Nat), ∃ c, (i ≤ 4 ∧ l.length = 4 ∧ bd 18446744073709551616 l ∧ c ≤ 1 ∧ num 18446744073709551616 (l.take i) + 18446744073709551616 ^ i * c = num 18446744073709551616 a % 18446744073709551616 ^ i + num 18446744073709551616 b % 18446744073709551616 ^ i) ∧ mm = 4 - i ∧ σ = ⟨(upd (upd (upd (upd (upd emp 2 (.pointer (some ⟨3000, 0, none⟩))) 3 (.pointer (some ⟨4000, 0, none⟩))) 4 (.pointer (some ⟨5000, 0, none⟩))) 5 (vi .u64 c)) 7 (vi .i64 i)), (upd (upd (upd emp 3000 ⟨a.map (vi .u64), true, 1⟩) 4000 ⟨b.map (vi .u64), true, 1⟩) 5000 ⟨l.map (vi .u64), true, 1⟩)⟩) (fm := []) (wk [3000, 4000, 5000]) ⟨0, List.replicate 4 0, 0, ⟨Nat.zero_le _, by simp, bd_replicate (by decide) _, by omega, by simp [num, Nat.mod_one]⟩, rfl, rfl⟩ ?_
 rintro mm σ ⟨i, l, c, ⟨hi0, hl2, hbl, hc, hnl⟩, rfl, rfl⟩
 have hx := bd_getD ha (by decide) i
 have hy := bd_getD hb (by decide) i
 refine zS ?_
 refine yP (pLt (b := 4)) ?_
 refine zN (zQ ?_)
 refine zA (fun hb0 => ?_) (fun hb0 => ?_)
 ·
  have hi : i < 4 := by simpa using hb0
  refine zK (zT (zQ (zB (zS ?_))))
  refine yM ?_
  refine yA ?_
  refine zN ?_
  refine AW.draw mixed ?_
  refine yM ?_
  refine yM ?_
  refine yP pA ?_
  refine yL 0 ?_
  refine yM ?_
  refine yP pA ?_
  refine yL 0 ?_
  refine yM ?_
  refine yP (add64 rfl rfl (by omega)) ?_
  refine yM ?_
  refine yP pX ?_
  refine yP pX ?_
  refine yP pA ?_
  refine yS (vi .u64) ?_
  refine yA ?_
  refine zD (zL (zT (zR ?_)))
  refine yP (pAdd (b := 1)) ?_
  refine yM ?_
  refine zN (zT ?_)
  exact ⟨4 - (i + 1), [], _, by omega, wk [3000, 4000, 5000], i + 1, l.set i ((a.getD i 0 + b.getD i 0 + c) % 18446744073709551616), (a.getD i 0 + b.getD i 0 + c) / 18446744073709551616, ⟨by omega, by simp [hl2], bd_set hbl (Nat.mod_lt _ (by decide)), by omega, by rw [take_set_succ (by omega)]; exact add_step (by simp [hl2]; omega) hnl (num_getD ha (by decide) i) (num_getD hb (by decide) i)⟩, rfl, rfl⟩
 ·
  obtain rfl : i = 4 := by simp at hb0; omega
  obtain ⟨e1, e2⟩ := sumL_end (by decide) hbl hl2 hnl hpa hpb
  subst e1
  have hd4 := digs_len (B := 18446744073709551616) 4 (num 18446744073709551616 a + num 18446744073709551616 b)
  refine zX (zV (zV (zH (zT (zS ?_)))))
  refine yLA ?_
  refine ySA ?_
  refine zN (zE ?_)
  exact rq [] [.cell 4 31]
set_option maxRecDepth 10000 in
theorem borrow_ctr {a b : List Nat} (ha : bd 18446744073709551616 a) (hb : bd 18446744073709551616 b) (hla : a.length = 4) (hlb : b.length = 4) : GC Try.prog 27 [.agg ((a).map (vi .u64)).toArray, .agg ((b).map (vi .u64)).toArray] [] [.agg ((digs 18446744073709551616 4 (num 18446744073709551616 a + 18446744073709551616 ^ 4 - num 18446744073709551616 b)).map (vi .u64)).toArray, vi .u64 (if num 18446744073709551616 a < num 18446744073709551616 b then 1 else 0)] [] := by
 refine gi Try.func27 ?_
 have hpa := num_lt ha
 rw [hla] at hpa
 have hpb := num_lt hb
 rw [hlb] at hpb
 refine zS ?_
 refine yO 3000 1 (a.map (vi .u64)) ?_
 refine yO 4000 1 (b.map (vi .u64)) ?_
 refine yN 5000 1 ((List.replicate 4 0).map (vi .u64)) ?_
 refine yA ?_
 refine zN (zQ (zS ?_))
 refine yM ?_
 refine zN (zB ?_)
 refine AW.loopw (fun mm σ => ∃ i, ∃ (l : List Nat), ∃ c, (i ≤ 4 ∧ l.length = 4 ∧ bd 18446744073709551616 l ∧ c ≤ 1 ∧ num 18446744073709551616 (l.take i) + num 18446744073709551616 b % 18446744073709551616 ^ i = num 18446744073709551616 a % 18446744073709551616 ^ i + 18446744073709551616 ^ i * c) ∧ mm = 4 - i ∧ σ = ⟨(upd (upd (upd (upd (upd emp 2 (.pointer (some ⟨3000, 0, none⟩))) 3 (.pointer (some ⟨4000, 0, none⟩))) 4 (.pointer (some ⟨5000, 0, none⟩))) 5 (vi .u64 c)) 7 (vi .i64 i)), (upd (upd (upd emp 3000 ⟨a.map (vi .u64), true, 1⟩) 4000 ⟨b.map (vi .u64), true, 1⟩) 5000 ⟨l.map (vi .u64), true, 1⟩)⟩) (fm := []) (wk [3000, 4000, 5000]) ⟨0, List.replicate 4 0, 0, ⟨Nat.zero_le _, by simp, bd_replicate (by decide) _, by omega, by simp [num, Nat.mod_one]⟩, rfl, rfl⟩ ?_
 rintro mm σ ⟨i, l, c, ⟨hi0, hl2, hbl, hc, hnl⟩, rfl, rfl⟩
 have hx := bd_getD ha (by decide) i
 have hy := bd_getD hb (by decide) i
 refine zS ?_
 refine yP (pLt (b := 4)) ?_
 refine zN (zQ ?_)
 refine zA (fun hb0 => ?_) (fun hb0 => ?_)
 ·
  have hi : i < 4 := by simpa using hb0
  refine zK (zT (zQ (zB (zS ?_))))
  refine yM ?_
  refine yA ?_
  refine zN ?_
  refine AW.draw mixed ?_
  refine yM ?_
  refine yM ?_
  refine yP pA ?_
  refine yL 0 ?_
  refine yM ?_
  refine yP pA ?_
  refine yL 0 ?_
  refine yM ?_
  refine yP (sub64 rfl rfl (by omega)) ?_
  refine yM ?_
  refine yP pX ?_
  refine yP pX ?_
  refine yP pA ?_
  refine yS (vi .u64) ?_
  refine yA ?_
  refine zD (zL (zT (zR ?_)))
  refine yP (pAdd (b := 1)) ?_
  refine yM ?_
  refine zN (zT ?_)
  exact ⟨4 - (i + 1), [], _, by omega, wk [3000, 4000, 5000], i + 1, l.set i ((a.getD i 0 + 18446744073709551616 - b.getD i 0 - c) % 18446744073709551616), (if a.getD i 0 < b.getD i 0 + c then 1 else 0), ⟨by omega, by simp [hl2], bd_set hbl (Nat.mod_lt _ (by decide)), by split <;> omega, by rw [take_set_succ (by omega)]; exact dif_step (by simp [hl2]; omega) hnl (num_getD ha (by decide) i) (num_getD hb (by decide) i) hx hy hc⟩, rfl, rfl⟩
 ·
  obtain rfl : i = 4 := by simp at hb0; omega
  obtain ⟨e1, e2⟩ := difL_end (by decide) hbl hl2 hnl hpa hpb hc
  subst e1; subst e2
  have hd4 := digs_len (B := 18446744073709551616) 4 (num 18446744073709551616 a + 18446744073709551616 ^ 4 - num 18446744073709551616 b)
  refine zX (zV (zV (zH (zT (zS ?_)))))
  refine yLA ?_
  refine yM ?_
  refine ySA ?_
  refine yA ?_
  refine zN (zE ?_)
  exact rq [] [.cell 4 31, .tmp 5]
set_option maxRecDepth 10000 in
theorem below_ctr {a : List Nat} (ha : bd 18446744073709551616 a) (hla : a.length = 4) (hlt2 : num 18446744073709551616 a < 2 * 21888242871839275222246405745257275088548364400416034343698204186575808495617) : GC Try.prog 36 [.agg ((a).map (vi .u64)).toArray] [] [.agg ((digs 18446744073709551616 4 (num 18446744073709551616 a % 21888242871839275222246405745257275088548364400416034343698204186575808495617)).map (vi .u64)).toArray] [] := by
 refine gi Try.func36 ?_
 have hpa := num_lt ha
 rw [hla] at hpa
 have hnp : num 18446744073709551616 (digs 18446744073709551616 4 21888242871839275222246405745257275088548364400416034343698204186575808495617) = 21888242871839275222246405745257275088548364400416034343698204186575808495617 := num_digs_lt (by decide)
 have hbp := digs_bd (B := 18446744073709551616) (by decide) 4 21888242871839275222246405745257275088548364400416034343698204186575808495617
 have hlp := digs_len (B := 18446744073709551616) 4 21888242871839275222246405745257275088548364400416034343698204186575808495617
 have hd4 := digs_len (B := 18446744073709551616) 4 (num 18446744073709551616 a + 18446744073709551616 ^ 4 - 21888242871839275222246405745257275088548364400416034343698204186575808495617)
 refine zS ?_
 refine yO 2000 1 (a.map (vi .u64)) ?_
 refine yN 3000 1 ((List.replicate 4 0).map (vi .u64)) ?_
 refine zN (zQ ?_)
 refine AW.seqD mixed ?_
 refine yLA ?_
 refine yC (prime_ctr) bd28 [] [] ?_
 refine yC (borrow_ctr (b := digs 18446744073709551616 4 21888242871839275222246405745257275088548364400416034343698204186575808495617) ha hbp hla hlp) bd27 [] [] ?_
 refine yM ?_
 first | refine AWo.pure ((PureOp.extract rfl rfl).mono (v' := .agg ((digs 18446744073709551616 4 (num 18446744073709551616 a + 18446744073709551616 ^ 4 - 21888242871839275222246405745257275088548364400416034343698204186575808495617)).map (vi .u64)).toArray) (by rw [hnp]; rfl)) rfl rfl ?_
 first | refine AWo.pure ((PureOp.extract rfl rfl).mono (v' := vi .u64 (if num 18446744073709551616 a < 21888242871839275222246405745257275088548364400416034343698204186575808495617 then 1 else 0)) (by rw [hnp]; rfl)) rfl rfl ?_
 refine yN 4000 1 ((List.replicate 4 0).map (vi .u64)) ?_
 refine ySA ?_
 refine yA ?_
 refine zD (zS ?_)
 refine yM ?_
 refine yP (pEq (b := 0)) ?_
 refine zN ?_
 refine zA (fun hb0 => ?_) (fun hb0 => ?_)
 ·
  have hge : 21888242871839275222246405745257275088548364400416034343698204186575808495617 ≤ num 18446744073709551616 a := by
   rcases Nat.lt_or_ge (num 18446744073709551616 a) 21888242871839275222246405745257275088548364400416034343698204186575808495617 with h | h
   · rw [if_pos h] at hb0; simp at hb0
   · exact h
  refine zS ?_
  refine yLA ?_
  refine ySA ?_
  refine zN (zE (zU ?_))
  rw [below_ge ha hla hge hlt2]
  exact rq [] [.cell 2 31]
 ·
  have hlt : num 18446744073709551616 a < 21888242871839275222246405745257275088548364400416034343698204186575808495617 := by
   rcases Nat.lt_or_ge (num 18446744073709551616 a) 21888242871839275222246405745257275088548364400416034343698204186575808495617 with h | h
   · exact h
   · rw [if_neg (by omega)] at hb0; simp at hb0
  refine zK (zT (zS ?_))
  refine yLA ?_
  refine ySA ?_
  refine zN (zE ?_)
  rw [below_lt ha hla hlt]
  exact rq [] [.cell 2 31]
end Go.Proofs.Ytbholmgeaklljaa
namespace Go.Proofs.Ytbholmgeaklljaa
open Go Sim
theorem mont_init {l q : List Nat} {k : Nat} (hl : bd 18446744073709551616 l) (hq : bd 18446744073709551616 q) (hi : (num 18446744073709551616 q * 14042775128853446655 + 1) % 18446744073709551616 = 0) (hk : k = l.getD 0 0 * 14042775128853446655 % 18446744073709551616) :
  18446744073709551616 * num 18446744073709551616 (l.take (1 - 1)) + (l.getD 0 0 + k * q.getD 0 0 + 0) / 18446744073709551616 * 18446744073709551616 ^ 1 = num 18446744073709551616 l % 18446744073709551616 ^ 1 + k * num 18446744073709551616 (q.take 1) := by
 have e1 : l.getD 0 0 = num 18446744073709551616 l % 18446744073709551616 := by rw [num_getD hl (by decide)]; simp
 have e2 : q.getD 0 0 = num 18446744073709551616 q % 18446744073709551616 := by rw [num_getD hq (by decide)]; simp
 have e3 : num 18446744073709551616 (q.take 1) = num 18446744073709551616 q % 18446744073709551616 := by rw [num_take hq, Nat.pow_one]
 have h := mont_low (by decide) hi (t := num 18446744073709551616 l) (k := k) (by rw [hk, e1])
 rw [e3, e1, e2, Nat.pow_one, Nat.add_zero]
 have h2 := Nat.mod_add_div (num 18446744073709551616 l % 18446744073709551616 + k * (num 18446744073709551616 q % 18446744073709551616)) 18446744073709551616
 rw [h, Nat.zero_add] at h2
 simp only [Nat.sub_self, List.take_zero, num, Nat.mul_zero, Nat.zero_add]
 rw [Nat.mul_comm]
 exact h2
set_option maxRecDepth 10000 in
theorem product_ctr {a b : List Nat} {r : Nat} (ha : bd 18446744073709551616 a) (hb : bd 18446744073709551616 b) (hla : a.length = 4) (hlb : b.length = 4) (hpb : num 18446744073709551616 b < 21888242871839275222246405745257275088548364400416034343698204186575808495617) (hr : r < 21888242871839275222246405745257275088548364400416034343698204186575808495617) (h : r * 18446744073709551616 ^ 4 % 21888242871839275222246405745257275088548364400416034343698204186575808495617 = num 18446744073709551616 a * num 18446744073709551616 b % 21888242871839275222246405745257275088548364400416034343698204186575808495617) : GC Try.prog 38 [.agg ((a).map (vi .u64)).toArray, .agg ((b).map (vi .u64)).toArray] [] [.agg ((digs 18446744073709551616 4 r).map (vi .u64)).toArray] [] := by
 refine gi Try.func38 ?_
 have hbp := digs_bd (B := 18446744073709551616) (by decide) 4 21888242871839275222246405745257275088548364400416034343698204186575808495617
 have hlp := digs_len (B := 18446744073709551616) 4 21888242871839275222246405745257275088548364400416034343698204186575808495617
 have hnp : num 18446744073709551616 (digs 18446744073709551616 4 21888242871839275222246405745257275088548364400416034343698204186575808495617) = 21888242871839275222246405745257275088548364400416034343698204186575808495617 := num_digs_lt (by decide)
 have hd4 := digs_len (B := 18446744073709551616) 4 r
 have hq4 : (digs 18446744073709551616 4 21888242871839275222246405745257275088548364400416034343698204186575808495617).take 4 = digs 18446744073709551616 4 21888242871839275222246405745257275088548364400416034343698204186575808495617 := List.take_of_length_le (by rw [digs_len]; exact Nat.le_refl _)
 have hb4 : b.take 4 = b := List.take_of_length_le (by rw [hlb]; exact Nat.le_refl _)
 refine zS ?_
 refine yO 3000 1 (a.map (vi .u64)) ?_
 refine yO 4000 1 (b.map (vi .u64)) ?_
 refine yN 5000 1 ((List.replicate 4 0).map (vi .u64)) ?_
 refine zN (zS ?_)
 refine yC (prime_ctr) bd28 [] [] ?_
 refine yC (inverse_ctr) bd40 [] [] ?_
 refine yN 6000 1 ((List.replicate 4 0).map (vi .u64)) ?_
 refine ySA ?_
 refine yA ?_
 refine zN (zS ?_)
 refine yN 8000 1 ((List.replicate 5 0).map (vi .u64)) ?_
 refine zN (zQ (zS ?_))
 refine yLA ?_
 refine yM ?_
 refine zN (zB ?_)
 refine AW.loopw (fun mm σ => ∃ i, ∃ (l : List Nat), (i ≤ 4 ∧ l.length = 5 ∧ bd 18446744073709551616 l ∧ num 18446744073709551616 l < 2 * 21888242871839275222246405745257275088548364400416034343698204186575808495617 ∧ num 18446744073709551616 l * 18446744073709551616 ^ i % 21888242871839275222246405745257275088548364400416034343698204186575808495617 = num 18446744073709551616 (a.take i) * num 18446744073709551616 b % 21888242871839275222246405745257275088548364400416034343698204186575808495617) ∧ mm = 4 - i ∧ σ = ⟨(upd (upd (upd (upd (upd (upd (upd (upd emp 2 (.pointer (some ⟨3000, 0, none⟩))) 3 (.pointer (some ⟨4000, 0, none⟩))) 4 (.pointer (some ⟨5000, 0, none⟩))) 5 (.pointer (some ⟨6000, 0, none⟩))) 6 (vi .u64 14042775128853446655)) 7 (.pointer (some ⟨8000, 0, none⟩))) 17 (.agg (a.map (vi .u64)).toArray)) 18 (vi .i64 i)), (upd (upd (upd (upd (upd emp 3000 ⟨a.map (vi .u64), true, 1⟩) 4000 ⟨b.map (vi .u64), true, 1⟩) 5000 ⟨(List.replicate 4 0).map (vi .u64), true, 1⟩) 6000 ⟨(digs 18446744073709551616 4 21888242871839275222246405745257275088548364400416034343698204186575808495617).map (vi .u64), true, 1⟩) 8000 ⟨l.map (vi .u64), true, 1⟩)⟩) (fm := []) (wk [3000, 4000, 5000, 6000, 8000]) ⟨0, List.replicate 5 0, ⟨Nat.zero_le _, by simp, bd_replicate (by decide) _, by rw [num_replicate]; decide, by simp [num, num_replicate]⟩, rfl, rfl⟩ ?_
 rintro mm σ ⟨i, l, ⟨hi0, hl2, hbl, hT, hTm⟩, rfl, rfl⟩
 refine zS ?_
 refine yP (pLt (b := 4)) ?_
 refine zN (zQ ?_)
 refine zA (fun hb0 => ?_) (fun hb0 => ?_)
 ·
  have hi : i < 4 := by simpa using hb0
  have hxa := bd_getD ha (by decide) i
  refine zK (zT (zQ (zB (zS ?_))))
  refine yP (PureOp.idxVM tbok 0 rfl rfl rfl rfl rfl (by omega) (by (simp [*]; done))) ?_
  refine yA ?_
  refine zN (zS ?_)
  refine yA ?_
  refine zN (zQ (zS ?_))
  refine yLA ?_
  refine yM ?_
  refine zN (zB ?_)
  refine AW.loopw (fun mm σ => ∃ j, ∃ (l2 : List Nat), ∃ c, (j ≤ 4 ∧ l2.length = 5 ∧ bd 18446744073709551616 l2 ∧ c < 18446744073709551616 ∧ num 18446744073709551616 l2 + c * 18446744073709551616 ^ j = num 18446744073709551616 l + a.getD i 0 * num 18446744073709551616 (b.take j) ∧ (∀ k, j ≤ k → l2.getD k 0 = l.getD k 0)) ∧ mm = 4 - j ∧ σ = ⟨(upd (upd (upd (upd (upd (upd (upd (upd (upd (upd (upd (upd emp 2 (.pointer (some ⟨3000, 0, none⟩))) 3 (.pointer (some ⟨4000, 0, none⟩))) 4 (.pointer (some ⟨5000, 0, none⟩))) 5 (.pointer (some ⟨6000, 0, none⟩))) 6 (vi .u64 14042775128853446655)) 7 (.pointer (some ⟨8000, 0, none⟩))) 17 (.agg (a.map (vi .u64)).toArray)) 18 (vi .i64 i)) 9 (vi .u64 (a.getD i 0))) 10 (vi .u64 c)) 21 (.agg (b.map (vi .u64)).toArray)) 22 (vi .i64 j)), (upd (upd (upd (upd (upd emp 3000 ⟨a.map (vi .u64), true, 1⟩) 4000 ⟨b.map (vi .u64), true, 1⟩) 5000 ⟨(List.replicate 4 0).map (vi .u64), true, 1⟩) 6000 ⟨(digs 18446744073709551616 4 21888242871839275222246405745257275088548364400416034343698204186575808495617).map (vi .u64), true, 1⟩) 8000 ⟨l2.map (vi .u64), true, 1⟩)⟩) (fm := []) (wk [3000, 4000, 5000, 6000, 8000]) ⟨0, l, 0, ⟨by omega, hl2, hbl, by decide, by simp [num], fun _ _ => rfl⟩, rfl, rfl⟩ ?_
  rintro mm σ ⟨j, l2, c, ⟨hj0, hk2, hbk, hc, hnk, hzk⟩, rfl, rfl⟩
  have hx := bd_getD ha (by decide) i
  have hy := bd_getD hb (by decide) j
  have he := bd_getD hbk (by decide) j
  have hlt := mad_lt he hx hy hc
  refine zS ?_
  refine yP (pLt (b := 4)) ?_
  refine zN (zQ ?_)
  refine zA (fun hb1 => ?_) (fun hb1 => ?_)
  ·
   have hj : j < 4 := by simpa using hb1
   refine zK (zT (zQ (zB (zS ?_))))
   refine yM ?_
   refine yP (PureOp.idxVM tbok 0 rfl rfl rfl rfl rfl (by omega) (by (simp [*]; done))) ?_
   refine yA ?_
   refine yA ?_
   refine zN (zR ?_)
   refine yM ?_
   refine yM ?_
   refine yP pA ?_
   refine yL 0 ?_
   refine yM ?_
   refine yM ?_
   refine yM ?_
   refine AWo.callX (line_ctr (by assumption) (by assumption) (by assumption) (by assumption)) bd41 [] [] rfl (.cons rfl (.cons rfl (.cons rfl (.cons rfl .nil)))) rfl (.cons rfl rfl (.cons rfl rfl (.cons rfl rfl (.cons rfl rfl .nil)))) .nil rfl .nil frN (by decide) (.cons rfl rfl (.cons rfl rfl .nil)) rfl rfl rfl rfl ?_
   refine yM ?_
   refine yP pX ?_
   refine yP pX ?_
   refine yP pA ?_
   refine yS (vi .u64) ?_
   refine yA ?_
   refine zN (zL (zT (zR ?_)))
   refine yP (pAdd (b := 1)) ?_
   refine yM ?_
   refine zN (zT ?_)
   refine ⟨4 - (j + 1), [], _, by omega, ?_, j + 1, l2.set j ((l2.getD j 0 + a.getD i 0 * b.getD j 0 + c) % 18446744073709551616), (l2.getD j 0 + a.getD i 0 * b.getD j 0 + c) / 18446744073709551616, ⟨by omega, by simp [hk2], bd_set hbk (Nat.mod_lt _ (by decide)), Nat.div_lt_of_lt_mul hlt, mad_step (by omega) hnk rfl, fun k hk => by rw [getD_set (by omega)]; exact hzk k (by omega)⟩, rfl, rfl⟩
   exact wk [3000, 4000, 5000, 6000, 8000]
  ·
   obtain rfl : j = 4 := by simp at hb1; omega
   rw [hb4] at hnk
   have h40 : l2.getD 4 0 = 0 := by
    rw [hzk 4 (Nat.le_refl _), num_getD hbl (by decide), Nat.div_eq_of_lt (by omega)]
   refine zX (zV (zV (zH (zT (zS ?_)))))
   refine yP (pA (j := 4)) ?_
   refine yL 0 ?_
   refine yM ?_
   refine yP ((PureOp.addU 18446744073709551616 rfl rfl rfl rfl).mono (v' := vi .u64 c) (congrArg (vi .u64) (by rw [h40, Nat.zero_add, Nat.mod_eq_of_lt hc]))) ?_
   refine yP (pA (j := 4)) ?_
   refine yS (vi .u64) ?_
   refine zN ?_
   obtain ⟨l3, hl3⟩ : ∃ l3, l3 = l2.set 4 c := ⟨_, rfl⟩
   rw [← hl3]
   have hb3 : bd 18446744073709551616 l3 := by rw [hl3]; exact bd_set hbk hc
   have hk3 : l3.length = 5 := by rw [hl3]; simp [hk2]
   have hS : num 18446744073709551616 l3 = num 18446744073709551616 l + a.getD i 0 * num 18446744073709551616 b := by
    have := num_set (B := 18446744073709551616) (l := l2) (k := 4) (v := c) (by omega)
    rw [h40, Nat.zero_mul, Nat.add_zero] at this
    rw [hl3, this, hnk]
   refine zS ?_
   refine yP (pA (j := 0)) ?_
   refine yL 0 ?_
   refine yM ?_
   refine yP (PureOp.mulU 18446744073709551616 rfl rfl rfl rfl) ?_
   refine yA ?_
   refine zN ?_
   obtain ⟨k, hkk⟩ : ∃ k, k = l3.getD 0 0 * 14042775128853446655 % 18446744073709551616 := ⟨_, rfl⟩
   rw [← hkk]
   have hk : k < 18446744073709551616 := by rw [hkk]; exact Nat.mod_lt _ (by decide)
   refine zS ?_
   refine yP (pA (j := 0)) ?_
   refine yL 0 ?_
   refine yM ?_
   refine yP (pA (j := 0)) ?_
   refine yL 0 ?_
   refine yC (line_ctr (c := 0) (bd_getD hb3 (by decide) 0) hk (bd_getD hbp (by decide) 0) (by decide)) bd41 [] [] ?_
   refine yM ?_
   refine yP pX ?_
   refine yP pX ?_
   refine yA ?_
   refine zN (zQ (zS ?_))
   refine yA ?_
   refine zN (zB ?_)
   refine AW.loopw (fun mm σ => ∃ j, ∃ (u : List Nat), ∃ c, ((1 ≤ j ∧ j ≤ 4) ∧ u.length = 5 ∧ bd 18446744073709551616 u ∧ c < 18446744073709551616 ∧ 18446744073709551616 * num 18446744073709551616 (u.take (j - 1)) + c * 18446744073709551616 ^ j = num 18446744073709551616 l3 % 18446744073709551616 ^ j + k * num 18446744073709551616 ((digs 18446744073709551616 4 21888242871839275222246405745257275088548364400416034343698204186575808495617).take j) ∧ (∀ m, j ≤ m → u.getD m 0 = num 18446744073709551616 l3 / 18446744073709551616 ^ m % 18446744073709551616)) ∧ mm = 4 - j ∧ σ = ⟨(upd (upd (upd (upd (upd (upd (upd (upd (upd (upd (upd emp 2 (.pointer (some ⟨3000, 0, none⟩))) 3 (.pointer (some ⟨4000, 0, none⟩))) 4 (.pointer (some ⟨5000, 0, none⟩))) 5 (.pointer (some ⟨6000, 0, none⟩))) 6 (vi .u64 14042775128853446655)) 7 (.pointer (some ⟨8000, 0, none⟩))) 17 (.agg (a.map (vi .u64)).toArray)) 18 (vi .i64 i)) 10 (vi .u64 c)) 13 (vi .u64 k)) 14 (vi .i64 j)), (upd (upd (upd (upd (upd emp 3000 ⟨a.map (vi .u64), true, 1⟩) 4000 ⟨b.map (vi .u64), true, 1⟩) 5000 ⟨(List.replicate 4 0).map (vi .u64), true, 1⟩) 6000 ⟨(digs 18446744073709551616 4 21888242871839275222246405745257275088548364400416034343698204186575808495617).map (vi .u64), true, 1⟩) 8000 ⟨u.map (vi .u64), true, 1⟩)⟩) (fm := []) (wk [3000, 4000, 5000, 6000, 8000]) ⟨1, l3, (l3.getD 0 0 + k * (digs 18446744073709551616 4 21888242871839275222246405745257275088548364400416034343698204186575808495617).getD 0 0 + 0) / 18446744073709551616, ⟨⟨by omega, by omega⟩, hk3, hb3, Nat.div_lt_of_lt_mul (mad_lt (bd_getD hb3 (by decide) 0) hk (bd_getD hbp (by decide) 0) (by decide)), mont_init hb3 hbp (by rw [hnp]) hkk, fun m _ => num_getD hb3 (by decide) m⟩, rfl, rfl⟩ ?_
   rintro mm σ ⟨j, u, c, ⟨⟨hj1, hj0⟩, hku, hbu, hc, hred, hum⟩, rfl, rfl⟩
   have he := bd_getD hbu (by decide) j
   have hq := bd_getD hbp (by decide) j
   have hlt2 := mad_lt he hk hq hc
   have hu4 := bd_getD hbu (by decide) 4
   refine zQ (zS ?_)
   refine yM ?_
   refine yP (pLt (b := 4)) ?_
   refine zN ?_
   refine zA (fun hb2 => ?_) (fun hb2 => ?_)
   ·
    have hj : j < 4 := by simpa using hb2
    refine zK (zT (zQ (zB ?_)))
    refine AW.draw mixed ?_
    refine yM ?_
    refine yP (pSub (b := 1)) ?_
    refine yM ?_
    refine yP pA ?_
    refine yL 0 ?_
    refine yM ?_
    refine yM ?_
    refine yP pA ?_
    refine yL 0 ?_
    refine yM ?_
    refine AWo.callX (line_ctr (by assumption) (by assumption) (by assumption) (by assumption)) bd41 [] [] rfl (.cons rfl (.cons rfl (.cons rfl (.cons rfl .nil)))) rfl (.cons rfl rfl (.cons rfl rfl (.cons rfl rfl (.cons rfl rfl .nil)))) .nil rfl .nil frN (by decide) (.cons rfl rfl (.cons rfl rfl .nil)) rfl rfl rfl rfl ?_
    refine yM ?_
    refine yP pX ?_
    refine yP pX ?_
    refine yP pA ?_
    refine yS (vi .u64) ?_
    refine yA ?_
    refine zD (zL (zT (zR ?_)))
    refine yM ?_
    refine yP (pAdd (b := 1)) ?_
    refine yA ?_
    refine zN (zT ?_)
    refine ⟨4 - (j + 1), [], _, by omega, ?_, j + 1, u.set (j - 1) ((u.getD j 0 + k * (digs 18446744073709551616 4 21888242871839275222246405745257275088548364400416034343698204186575808495617).getD j 0 + c) % 18446744073709551616), (u.getD j 0 + k * (digs 18446744073709551616 4 21888242871839275222246405745257275088548364400416034343698204186575808495617).getD j 0 + c) / 18446744073709551616, ⟨⟨by omega, by omega⟩, by simp [hku], bd_set hbu (Nat.mod_lt _ (by decide)), Nat.div_lt_of_lt_mul hlt2, red_step (by omega) (by omega) hred rfl (hum j (Nat.le_refl _)), fun m hm => by rw [getD_set (by omega)]; exact hum m (by omega)⟩, rfl, rfl⟩
    exact wk [3000, 4000, 5000, 6000, 8000]
   ·
    obtain rfl : j = 4 := by simp at hb2; omega
    rw [hq4, hnp] at hred
    have hfin := red_end (n := 3) hku hred (by
     rw [hum 4 (Nat.le_refl _), Nat.mod_eq_of_lt]
     have := num_lt hb3
     rw [hk3] at this
     omega)
    rw [hS] at hfin
    have hdv : (u.getD 4 0 + c) / 18446744073709551616 < 18446744073709551616 := Nat.div_lt_of_lt_mul (Nat.lt_of_lt_of_le (Nat.add_lt_add hu4 hc) (by decide))
    refine zX (zV (zV (zH (zT (zS ?_)))))
    refine yP (pA (j := 4)) ?_
    refine yL 0 ?_
    refine yM ?_
    refine yP (add64 (c := 0) rfl rfl (by decide)) ?_
    refine yM ?_
    refine yP pX ?_
    refine yP pX ?_
    refine yP (pA (j := 3)) ?_
    refine yS (vi .u64) ?_
    refine yA ?_
    refine zN (zR ?_)
    refine yM ?_
    refine yP (pA (j := 4)) ?_
    refine AWo.storeM (f := (vi .u64)) tbok rfl rfl rfl rfl (by simp [hku]) rfl rfl ?_
    refine zN (zL (zT (zR ?_)))
    refine yP (pAdd (b := 1)) ?_
    refine yM ?_
    refine zN (zT ?_)
    exact ⟨4 - (i + 1), [], _, by omega, wk [3000, 4000, 5000, 6000, 8000], i + 1, (u.set 3 ((u.getD 4 0 + c) % 18446744073709551616)).set 4 ((u.getD 4 0 + c) / 18446744073709551616), ⟨by omega, by simp [hku], bd_set (bd_set hbu (Nat.mod_lt _ (by decide))) hdv, mont_lt hfin hT hxa hpb hk, by rw [num_take_succ]; exact mont_mod hfin hTm⟩, rfl, rfl⟩
 ·
  obtain rfl : i = 4 := by simp at hb0; omega
  refine zX (zV (zV (zH (zT ?_))))
  have hT4 : num 18446744073709551616 (l.take 4) = num 18446744073709551616 l := by rw [num_take hbl, Nat.mod_eq_of_lt (by omega)]
  have hres : num 18446744073709551616 (l.take 4) % 21888242871839275222246405745257275088548364400416034343698204186575808495617 = r := by
   rw [hT4]
   refine mont_uniq (R := 18446744073709551616 ^ 4) (by decide) (Nat.mod_lt _ (by decide)) hr ?_
   rw [Nat.mod_mul_mod, hTm, h, ← hla, take_all]
  refine zS ?_
  refine AWo.sliceA tbok rfl .none (.some rfl) rfl rfl rfl rfl (by decide) (by decide) (.inl rfl) (by (simp; omega)) rfl rfl rfl ?_
  refine yP (PureOp.toArrT tbok rfl rfl (by decide) (by decide)) ?_
  refine AWo.loadAgg tbok (vs := (l.take 4).map (vi .u64)) rfl rfl rfl rfl (by simp [hl2]) (by simp [List.map_take]) rfl rfl ?_
  refine yC (below_ctr (a := l.take 4) (bd_take hbl 4) (by simp [hl2]) (by rw [hT4]; exact hT)) bd36 [] [] ?_
  refine ySA ?_
  refine zN (zE ?_)
  rw [hres]
  exact rq [] [.cell 4 31]
end Go.Proofs.Ytbholmgeaklljaa
namespace Go.Proofs.Ytbholmgeaklljaa
open Go Sim
def fel (v : Nat) : List Nat := digs 18446744073709551616 4 (v * 18446744073709551616 ^ 4 % 21888242871839275222246405745257275088548364400416034343698204186575808495617)
theorem fel_len (v : Nat) : (fel v).length = 4 := digs_len _ _
theorem bd_fel (v : Nat) : bd 18446744073709551616 (fel v) := digs_bd (by decide) _ _
theorem num_fel (v : Nat) : num 18446744073709551616 (fel v) = v * 18446744073709551616 ^ 4 % 21888242871839275222246405745257275088548364400416034343698204186575808495617 := num_digs_lt (Nat.lt_of_lt_of_le (Nat.mod_lt _ (by decide)) (by decide))
theorem fel_zero : fel 0 = List.replicate 4 0 := by kernel_rfl
theorem ld4 {l : List Nat} (h : l.length = 4) : ((l.map (vi .u64)).drop 0).take 4 = l.map (vi .u64) := List.take_of_length_le (by simp [h])
theorem four_nat : ∀ {l : List Nat}, l.length = 4 → ∃ a b c d, l = [a, b, c, d]
 | [a, b, c, d], _ => ⟨a, b, c, d, rfl⟩
theorem build50 {E : Env} {x : Operand} {l : List Nat} (hl : l.length = 4) (h : aev E x = some (.agg (l.map (vi .u64)).toArray)) : PureOp Try.prog (.build 33 #[(0, x)]) E (.agg (l.map (vi .u64)).toArray) := by
 obtain ⟨a, b, c, d, rfl⟩ := four_nat hl
 exact PureOp.buildStruct [(0, .agg ([a, b, c, d].map (vi .u64)).toArray)] pl33.choose_spec.1 zr33 (by decide) pl33.choose_spec.2 (by simp [h]) rfl
def sq2 : Nat → Nat
 | 0 => 1
 | i + 1 => 2 * sq2 i % 21888242871839275222246405745257275088548364400416034343698204186575808495617
theorem sq2_lt (i : Nat) : sq2 i < 21888242871839275222246405745257275088548364400416034343698204186575808495617 := by
 cases i with
 | zero => decide
 | succ i => exact Nat.mod_lt _ (by decide)
theorem sq2_pow (i : Nat) : sq2 i = 2 ^ i % 21888242871839275222246405745257275088548364400416034343698204186575808495617 := by
 induction i with
 | zero => rfl
 | succ i ih => rw [sq2, ih, Nat.pow_succ, Nat.mul_mod_mod, Nat.mul_comm]
theorem pow_512 (a b c : Nat) : 2 ^ (a * (b + c)) = (2 ^ a) ^ b * (2 ^ a) ^ c := by rw [Nat.pow_mul, Nat.pow_add]
theorem sq2_512 {i : Nat} (h : i = 512) : sq2 i = 18446744073709551616 ^ 4 * 18446744073709551616 ^ 4 % 21888242871839275222246405745257275088548364400416034343698204186575808495617 := by
 have h2 : i = 64 * (4 + 4) := by omega
 have e : 2 ^ i = (2 ^ 64) ^ 4 * (2 ^ 64) ^ 4 := (congrArg (fun n => 2 ^ n) h2).trans (pow_512 64 4 4)
 exact (sq2_pow i).trans (congrArg (fun n => n % 21888242871839275222246405745257275088548364400416034343698204186575808495617) e)
theorem dbl_pre (i : Nat) : bd 18446744073709551616 (digs 18446744073709551616 4 (num 18446744073709551616 (digs 18446744073709551616 4 (sq2 i)) + num 18446744073709551616 (digs 18446744073709551616 4 (sq2 i)))) ∧ (digs 18446744073709551616 4 (num 18446744073709551616 (digs 18446744073709551616 4 (sq2 i)) + num 18446744073709551616 (digs 18446744073709551616 4 (sq2 i)))).length = 4 ∧
  num 18446744073709551616 (digs 18446744073709551616 4 (num 18446744073709551616 (digs 18446744073709551616 4 (sq2 i)) + num 18446744073709551616 (digs 18446744073709551616 4 (sq2 i)))) < 2 * 21888242871839275222246405745257275088548364400416034343698204186575808495617 := by
 have h := sq2_lt i
 have e : num 18446744073709551616 (digs 18446744073709551616 4 (sq2 i)) = sq2 i := num_digs_lt (by omega)
 refine ⟨digs_bd (by decide) _ _, digs_len _ _, ?_⟩
 rw [e, num_digs_lt (by omega)]
 omega
theorem dbl_step (i : Nat) : digs 18446744073709551616 4 (sq2 (i + 1)) = digs 18446744073709551616 4 (num 18446744073709551616 (digs 18446744073709551616 4 (num 18446744073709551616 (digs 18446744073709551616 4 (sq2 i)) + num 18446744073709551616 (digs 18446744073709551616 4 (sq2 i)))) % 21888242871839275222246405745257275088548364400416034343698204186575808495617) := by
 have h := sq2_lt i
 have e : num 18446744073709551616 (digs 18446744073709551616 4 (sq2 i)) = sq2 i := num_digs_lt (by omega)
 rw [e, num_digs_lt (by omega), sq2]
 congr 2
 omega
theorem rsq_num : num 18446744073709551616 (digs 18446744073709551616 4 (18446744073709551616 ^ 4 * 18446744073709551616 ^ 4 % 21888242871839275222246405745257275088548364400416034343698204186575808495617)) = 18446744073709551616 ^ 4 * 18446744073709551616 ^ 4 % 21888242871839275222246405745257275088548364400416034343698204186575808495617 := num_digs_lt (Nat.lt_of_lt_of_le (Nat.mod_lt _ (by decide)) (by decide))
theorem enter_modG (a w p : Nat) : a * w % p * w % p = a * (w * w % p) % p := by
 rw [Nat.mod_mul_mod, Nat.mul_mod_mod, Nat.mul_assoc]
theorem enter_mod (a : Nat) : a * 18446744073709551616 ^ 4 % 21888242871839275222246405745257275088548364400416034343698204186575808495617 * 18446744073709551616 ^ 4 % 21888242871839275222246405745257275088548364400416034343698204186575808495617 = a * num 18446744073709551616 (digs 18446744073709551616 4 (18446744073709551616 ^ 4 * 18446744073709551616 ^ 4 % 21888242871839275222246405745257275088548364400416034343698204186575808495617)) % 21888242871839275222246405745257275088548364400416034343698204186575808495617 := by
 have h := enter_modG a (18446744073709551616 ^ 4) 21888242871839275222246405745257275088548364400416034343698204186575808495617
 have e := rsq_num
 generalize num 18446744073709551616 (digs 18446744073709551616 4 (18446744073709551616 ^ 4 * 18446744073709551616 ^ 4 % 21888242871839275222246405745257275088548364400416034343698204186575808495617)) = z at *
 rw [h, e]
theorem mul_modG (u v w p : Nat) : u * v * w % p * w % p = u * w % p * (v * w % p) % p := by
 rw [Nat.mod_mul_mod, ← Nat.mul_mod]
 congr 1
 grind
theorem mul_mod (u v : Nat) : u * v * 18446744073709551616 ^ 4 % 21888242871839275222246405745257275088548364400416034343698204186575808495617 * 18446744073709551616 ^ 4 % 21888242871839275222246405745257275088548364400416034343698204186575808495617 = num 18446744073709551616 (fel u) * num 18446744073709551616 (fel v) % 21888242871839275222246405745257275088548364400416034343698204186575808495617 := by
 rw [num_fel, num_fel]
 exact mul_modG u v (18446744073709551616 ^ 4) 21888242871839275222246405745257275088548364400416034343698204186575808495617
set_option maxRecDepth 10000 in
theorem enter_ctr {a : List Nat} (ha : bd 18446744073709551616 a) (hla : a.length = 4) (_ : num 18446744073709551616 a < 21888242871839275222246405745257275088548364400416034343698204186575808495617) : GC Try.prog 29 [.agg ((a).map (vi .u64)).toArray] [] [.agg ((fel (num 18446744073709551616 a)).map (vi .u64)).toArray] [] := by
 refine gi Try.func29 ?_
 have hd4 := fel_len (num 18446744073709551616 a)
 refine zS ?_
 refine yO 2000 1 ((a).map (vi .u64)) ?_
 refine yN 3000 1 _ ?_
 refine zN (zS ?_)
 refine yP ((PureOp.buildArr tbok [(0, .int .u64 1)] rfl rfl rfl (by decide) rfl rfl).mono (v' := .agg ((digs 18446744073709551616 4 (sq2 0)).map (vi .u64)).toArray) (by kernel_rfl)) ?_
 refine yN 4000 1 ((List.replicate 4 0).map (vi .u64)) ?_
 refine ySA ?_
 refine zN (zQ (zS ?_))
 refine yM ?_
 refine zN (zB ?_)
 refine AW.loopw (fun mm σ => ∃ i, (i ≤ 512) ∧ mm = 512 - i ∧ σ = ⟨(upd (upd (upd (upd emp 1 (.pointer (some ⟨2000, 0, none⟩))) 2 (.pointer (some ⟨3000, 0, none⟩))) 3 (.pointer (some ⟨4000, 0, none⟩))) 5 (vi .i64 i)), (upd (upd (upd emp 2000 ⟨a.map (vi .u64), true, 1⟩) 3000 ⟨(List.replicate 4 0).map (vi .u64), true, 1⟩) 4000 ⟨(digs 18446744073709551616 4 (sq2 i)).map (vi .u64), true, 1⟩)⟩) (fm := []) (wk [2000, 3000, 4000]) ⟨0, by decide, rfl, rfl⟩ ?_
 rintro mm σ ⟨i, hinv, rfl, rfl⟩
 have hb2 := digs_bd (B := 18446744073709551616) (by decide) 4 (sq2 i)
 have hl2 := digs_len (B := 18446744073709551616) 4 (sq2 i)
 obtain ⟨hb3, hl3, hn3⟩ := dbl_pre i
 have hl4 := digs_len (B := 18446744073709551616) 4 (num 18446744073709551616 (digs 18446744073709551616 4 (num 18446744073709551616 (digs 18446744073709551616 4 (sq2 i)) + num 18446744073709551616 (digs 18446744073709551616 4 (sq2 i)))) % 21888242871839275222246405745257275088548364400416034343698204186575808495617)
 refine zS ?_
 refine yP (pLt (b := 512)) ?_
 refine zN (zQ ?_)
 refine zA (fun hb0 => ?_) (fun hb0 => ?_)
 ·
  have hi : i < 512 := by simpa using hb0
  refine zK (zT (zQ (zB (zR ?_))))
  refine yLA ?_
  refine yLA ?_
  refine yC (plus_ctr hb2 hb2 hl2 hl2) bd37 [] [] ?_
  refine yC (below_ctr hb3 hl3 hn3) bd36 [] [] ?_
  refine ySA ?_
  refine zN (zL (zT (zR ?_)))
  refine yP (pAdd (b := 1)) ?_
  refine yM ?_
  refine zN (zT ?_)
  refine ⟨512 - (i + 1), [], _, by omega, ?_, i + 1, by omega, rfl, rfl⟩
  refine Wk.of [2000, 3000, 4000] ?_ ?_ ?_ (by decide) rfl
  ·
   refine WkE.upd rfl (by exact VR.flat _ rfl) ?_
   refine WkE.upd rfl (.ptr (4000) 0 ⟨_, rfl⟩) ?_
   refine WkE.upd rfl (.ptr (3000) 0 ⟨_, rfl⟩) ?_
   refine WkE.upd rfl (.ptr (2000) 0 ⟨_, rfl⟩) ?_
   exact WkE.emp
  ·
   refine WkM.flatM rfl (by exact dbl_step i) flat_vi (fun h => h) ?_
   refine WkM.flat rfl (flatM flat_vi) (fun h => h) ?_
   refine WkM.flatM rfl (by rfl) (fun _ => rfl) (fun h => h) ?_
   exact WkM.emp
  ·
   repeat (refine dom_upd_mem (by decide) ?_)
   exact dom_emp
 ·
  have hi : i = 512 := by simp at hb0; omega
  have hsq := sq2_512 hi
  rw [hsq] at hb2 hl2
  rw [hsq]
  refine zX (zV (zV (zH (zT (zS ?_)))))
  refine yLA ?_
  refine yLA ?_
  refine yC (product_ctr (r := num 18446744073709551616 a * 18446744073709551616 ^ 4 % 21888242871839275222246405745257275088548364400416034343698204186575808495617) ha hb2 hla hl2 (by rw [rsq_num]; exact Nat.mod_lt _ (by decide)) (Nat.mod_lt _ (by decide)) (enter_mod _)) bd38 [] [] ?_
  refine yP (build50 (by exact digs_len _ _) rfl) ?_
  refine ySA ?_
  refine zN (zE ?_)
  exact rq [] [.cell 2 33]
set_option maxRecDepth 10000 in
theorem leave_ctr {v : Nat} (hv : v < 21888242871839275222246405745257275088548364400416034343698204186575808495617) : GC Try.prog 31 [.agg ((fel v).map (vi .u64)).toArray] [] [.agg ((digs 18446744073709551616 4 v).map (vi .u64)).toArray] [] := by
 refine gi Try.func31 ?_
 have hd4 := fel_len v
 have hd5 := digs_len (B := 18446744073709551616) 4 v
 refine zS ?_
 refine yO 2000 1 ((fel v).map (vi .u64)) ?_
 refine yN 3000 1 ((List.replicate 4 0).map (vi .u64)) ?_
 refine zN (zS ?_)
 refine yP pF ?_
 refine AWo.loadAgg tbok (vs := (fel v).map (vi .u64)) rfl rfl rfl rfl (by simp [fel_len]) (ld4 (fel_len _)) rfl rfl ?_
 refine yP ((PureOp.buildArr tbok [(0, .int .u64 1)] rfl rfl rfl (by decide) rfl rfl).mono (v' := .agg ((digs 18446744073709551616 4 1).map (vi .u64)).toArray) (by kernel_rfl)) ?_
 refine yC (product_ctr (r := v) (bd_fel v) (digs_bd (by decide) 4 1) (fel_len v) (digs_len 4 1) (by decide) hv (by rw [num_fel, show num 18446744073709551616 (digs 18446744073709551616 4 1) = 1 from by kernel_rfl, Nat.mul_one, Nat.mod_mod])) bd38 [] [] ?_
 refine ySA ?_
 refine zN (zE ?_)
 exact rq [] [.cell 2 31]
set_option maxRecDepth 10000 in
theorem ebytes_ctr {v : Nat} (hv : v < 21888242871839275222246405745257275088548364400416034343698204186575808495617) : GC Try.prog 24 [.agg ((fel v).map (vi .u64)).toArray] [] [.agg ((digs 256 32 v).map (vi .u8)).toArray] [] := by
 refine gi Try.func24 ?_
 have hd4 := fel_len v
 have hd5 := digs_len (B := 18446744073709551616) 4 v
 have hn5 : num 18446744073709551616 (digs 18446744073709551616 4 v) = v := num_digs_lt (by omega)
 have hb5 := digs_bd (B := 18446744073709551616) (by decide) 4 v
 have hd6 := digs_len (B := 256) (8 * (digs 18446744073709551616 4 v).length) (num 18446744073709551616 (digs 18446744073709551616 4 v))
 have hd7 := digs_len (B := 256) 32 v
 refine zS ?_
 refine yO 2000 1 ((fel v).map (vi .u64)) ?_
 refine yN 3000 1 ((List.replicate 32 0).map (vi .u8)) ?_
 refine zN (zS ?_)
 refine yLA ?_
 refine yC (leave_ctr (by assumption)) bd31 [] [] ?_
 refine yN 4000 1 ((List.replicate 4 0).map (vi .u64)) ?_
 refine ySA ?_
 refine zN (zS ?_)
 refine AWo.sliceA tbok (h := 4) rfl .none .none rfl rfl rfl rfl (by decide) (by decide) (.inl rfl) (by simp [digs_len]) rfl rfl rfl ?_
 refine yC (lbytes_ctr hb5 (by rw [hd5]; decide)) bd32 [(4000, 0)] [8000] ?_
 refine yP (PureOp.toArrT tbok rfl rfl (by rw [hd5]; decide) (by rw [hd5]; decide)) ?_
 refine AWo.loadAgg tbok (vs := (digs 256 32 v).map (vi .u8)) rfl rfl rfl rfl (by show 0 + 32 ≤ _; simp [digs_len]) (by rw [hd5, hn5]; exact List.take_of_length_le (by simp [digs_len])) rfl rfl ?_
 refine ySA ?_
 refine zN (zE ?_)
 exact rq [] [.cell 2 50]
set_option maxRecDepth 10000 in
theorem fbok_ctr {b : List Nat} (hb : bd 256 b) (hlb : b.length = 32) (hlt : num 256 b < 21888242871839275222246405745257275088548364400416034343698204186575808495617) : GC Try.prog 16 [.slice (some ⟨0, 0, none⟩) b.length 0] [⟨b.map (vi .u8), false, 1⟩] [.agg ((fel (num 256 b)).map (vi .u64)).toArray, .int .i64 0] [⟨b.map (vi .u8), false, 1⟩] := by
 refine gi Try.func16 ?_
 have hl4 : (b.length + 7) / 8 = 4 := by rw [hlb]
 have hnb := num_lt hb
 rw [hlb] at hnb
 have hd4 := fel_len (num 256 b)
 have hd5 := digs_len (B := 18446744073709551616) 4 (num 256 b)
 have hn5 : num 18446744073709551616 (digs 18446744073709551616 4 (num 256 b)) = num 256 b := num_digs_lt (by omega)
 have hb5 := digs_bd (B := 18446744073709551616) (by decide) 4 (num 256 b)
 have hnp : num 18446744073709551616 (digs 18446744073709551616 4 21888242871839275222246405745257275088548364400416034343698204186575808495617) = 21888242871839275222246405745257275088548364400416034343698204186575808495617 := num_digs_lt (by decide)
 have hbp := digs_bd (B := 18446744073709551616) (by decide) 4 21888242871839275222246405745257275088548364400416034343698204186575808495617
 have hlp := digs_len (B := 18446744073709551616) 4 21888242871839275222246405745257275088548364400416034343698204186575808495617
 have hd6 := digs_len (B := 18446744073709551616) 4 (num 18446744073709551616 (digs 18446744073709551616 4 (num 256 b)) + 18446744073709551616 ^ 4 - num 18446744073709551616 (digs 18446744073709551616 4 21888242871839275222246405745257275088548364400416034343698204186575808495617))
 refine zS ?_
 refine yN 3000 1 _ ?_
 refine yA ?_
 refine zN (zQ (zS ?_))
 refine yM ?_
 refine yP pL ?_
 refine yP ((PureOp.neN (b := 32) rfl rfl).mono (v' := .bool false) (by rw [hlb]; rfl)) ?_
 refine zN (zF (zK (zT (zS ?_))))
 refine yM ?_
 refine yC (lwords_ctr hb (by omega)) bd26 [(0, 0)] [13000] ?_
 refine yP (PureOp.toArrT tbok rfl rfl (by rw [hl4]; decide) (by rw [hl4]; decide)) ?_
 rw [hl4]
 refine AWo.loadAgg tbok (vs := (digs 18446744073709551616 4 (num 256 b)).map (vi .u64)) rfl rfl rfl rfl (by show 0 + 4 ≤ _; simp [digs_len]) (ld4 hd5) rfl rfl ?_
 refine yN 5000 1 ((List.replicate 4 0).map (vi .u64)) ?_
 refine ySA ?_
 refine zN (zQ ?_)
 refine AW.seqD mixed ?_
 refine yLA ?_
 refine yC (prime_ctr) bd28 [] [] ?_
 refine yC (borrow_ctr hb5 hbp hd5 hlp) bd27 [] [] ?_
 refine yM ?_
 refine yP pX ?_
 refine yP pX ?_
 refine yN 6000 1 ((List.replicate 4 0).map (vi .u64)) ?_
 refine ySA ?_
 refine yA ?_
 refine zD (zS ?_)
 refine yM ?_
 refine yP ((PureOp.eqN (b := 0) rfl rfl).mono (v' := .bool false) (by rw [hn5, hnp, if_pos hlt]; rfl)) ?_
 refine zN (zF (zK (zT (zS ?_))))
 refine yLA ?_
 refine yC (enter_ctr hb5 hd5 (by rw [hn5]; exact hlt)) bd29 [] [] ?_
 refine ySA ?_
 refine yA ?_
 refine zN (zE ?_)
 rw [hn5]
 exact rq [] [.cell 2 33, .tmp 3]
set_option maxRecDepth 10000 in
theorem fbcanon_ctr {b : List Nat} (hb : bd 256 b) (hlb : b.length = 32) (hge : 21888242871839275222246405745257275088548364400416034343698204186575808495617 ≤ num 256 b) : GC Try.prog 16 [.slice (some ⟨0, 0, none⟩) b.length 0] [⟨b.map (vi .u8), false, 1⟩] [.agg ((List.replicate 4 0).map (vi .u64)).toArray, .int .i64 4] [⟨b.map (vi .u8), false, 1⟩] := by
 refine gi Try.func16 ?_
 have hl4 : (b.length + 7) / 8 = 4 := by rw [hlb]
 have hnb := num_lt hb
 rw [hlb] at hnb
 have hd4 := fel_len (num 256 b)
 have hd5 := digs_len (B := 18446744073709551616) 4 (num 256 b)
 have hn5 : num 18446744073709551616 (digs 18446744073709551616 4 (num 256 b)) = num 256 b := num_digs_lt (by omega)
 have hb5 := digs_bd (B := 18446744073709551616) (by decide) 4 (num 256 b)
 have hnp : num 18446744073709551616 (digs 18446744073709551616 4 21888242871839275222246405745257275088548364400416034343698204186575808495617) = 21888242871839275222246405745257275088548364400416034343698204186575808495617 := num_digs_lt (by decide)
 have hbp := digs_bd (B := 18446744073709551616) (by decide) 4 21888242871839275222246405745257275088548364400416034343698204186575808495617
 have hlp := digs_len (B := 18446744073709551616) 4 21888242871839275222246405745257275088548364400416034343698204186575808495617
 have hd6 := digs_len (B := 18446744073709551616) 4 (num 18446744073709551616 (digs 18446744073709551616 4 (num 256 b)) + 18446744073709551616 ^ 4 - num 18446744073709551616 (digs 18446744073709551616 4 21888242871839275222246405745257275088548364400416034343698204186575808495617))
 refine zS ?_
 refine yN 3000 1 _ ?_
 refine yA ?_
 refine zN (zQ (zS ?_))
 refine yM ?_
 refine yP pL ?_
 refine yP ((PureOp.neN (b := 32) rfl rfl).mono (v' := .bool false) (by rw [hlb]; rfl)) ?_
 refine zN (zF (zK (zT (zS ?_))))
 refine yM ?_
 refine yC (lwords_ctr hb (by omega)) bd26 [(0, 0)] [13000] ?_
 refine yP (PureOp.toArrT tbok rfl rfl (by rw [hl4]; decide) (by rw [hl4]; decide)) ?_
 rw [hl4]
 refine AWo.loadAgg tbok (vs := (digs 18446744073709551616 4 (num 256 b)).map (vi .u64)) rfl rfl rfl rfl (by show 0 + 4 ≤ _; simp [digs_len]) (ld4 hd5) rfl rfl ?_
 refine yN 5000 1 ((List.replicate 4 0).map (vi .u64)) ?_
 refine ySA ?_
 refine zN (zQ ?_)
 refine AW.seqD mixed ?_
 refine yLA ?_
 refine yC (prime_ctr) bd28 [] [] ?_
 refine yC (borrow_ctr hb5 hbp hd5 hlp) bd27 [] [] ?_
 refine yM ?_
 refine yP pX ?_
 refine yP pX ?_
 refine yN 6000 1 ((List.replicate 4 0).map (vi .u64)) ?_
 refine ySA ?_
 refine yA ?_
 refine zD (zS ?_)
 refine yM ?_
 refine yP ((PureOp.eqN (b := 0) rfl rfl).mono (v' := .bool true) (by rw [hn5, hnp, if_neg (by omega)]; rfl)) ?_
 refine zN (zC (zS ?_))
 refine yP ((PureOp.buildStruct [] pl33.choose_spec.1 zr33 (by decide) pl33.choose_spec.2 rfl rfl).mono (v' := .agg ((List.replicate 4 0).map (vi .u64)).toArray) (by rfl)) ?_
 refine ySA ?_
 refine yA ?_
 refine zN (zE (zU ?_))
 exact rq [] [.cell 2 33, .tmp 3]
set_option maxRecDepth 10000 in
theorem fbarg_ctr {b : List Nat} (hlb : b.length ≠ 32) : GC Try.prog 16 [.slice (some ⟨0, 0, none⟩) b.length 0] [⟨b.map (vi .u8), false, 1⟩] [.agg ((List.replicate 4 0).map (vi .u64)).toArray, .int .i64 1] [⟨b.map (vi .u8), false, 1⟩] := by
 refine gi Try.func16 ?_
 refine zS ?_
 refine yN 3000 1 _ ?_
 refine yA ?_
 refine zN (zQ (zS ?_))
 refine yM ?_
 refine yP pL ?_
 refine yP ((PureOp.neN (b := 32) rfl rfl).mono (v' := .bool true) (congrArg Value.bool (by simpa using hlb))) ?_
 refine zN (zC (zS ?_))
 refine yP ((PureOp.buildStruct [] pl33.choose_spec.1 zr33 (by decide) pl33.choose_spec.2 rfl rfl).mono (v' := .agg ((List.replicate 4 0).map (vi .u64)).toArray) (by rfl)) ?_
 refine ySA ?_
 refine yA ?_
 refine zN (zE (zU ?_))
 exact rq [] [.cell 2 33, .tmp 3]
end Go.Proofs.Ytbholmgeaklljaa
namespace Go.Proofs.Ytbholmgeaklljaa
open Go Sim
theorem wordsD_ctr {x n : Nat} (hn : n < 100000000) : GC Try.prog 34 [.slice (some ⟨0, 0, none⟩) (D 4294967296 x).length 0, vi .i64 (n)] [⟨(D 4294967296 x).map (vi .u64), false, 1⟩] [.slice (some ⟨1, 0, none⟩) n 0] [⟨(D 4294967296 x).map (vi .u64), false, 1⟩, ⟨(digs 18446744073709551616 n x).map (vi .u64), true, 1⟩] := by
 have h := words_ctr (a := D 4294967296 x) (n := n) (bd_D (by decide) _) hn
 simp only [num_D (show 2 ≤ 4294967296 by decide), digs_len] at h
 exact h
end Go.Proofs.Ytbholmgeaklljaa
namespace Go.Proofs.Ytbholmgeaklljaa
open Go Sim
section
variable {P : Program} {T : Tab} (H : TabOk P T) {E : Env} {M : Mem} {n' i' : Nat} {ty : TypeId} {ps : String} {af : Array Edge} {g : Option (Nat × Bool)} {ops : Array Oper} {os : List Oper} {D : List Eff → Prop} {K : ASt → Prop}
include H
end
theorem rb4_ctr {x : Nat} (hx : x < 18446744073709551616 ^ 4) : GC Try.prog 33 [.slice (some ⟨0, 0, none⟩) 4 0] [⟨(digs 18446744073709551616 4 x).map (vi .u64), false, 1⟩] [.slice (some ⟨1, 0, none⟩) 32 0] [⟨(digs 18446744073709551616 4 x).map (vi .u64), false, 1⟩, ⟨(digs 256 32 x).map (vi .u8), true, 1⟩] := by
 have h := rbytes_ctr (a := digs 18446744073709551616 4 x) (digs_bd (by decide) _ _) (by rw [digs_len]; decide)
 rw [digs_len, num_digs_lt hx] at h
 exact h
set_option maxRecDepth 10000 in
theorem bytes02_ctr {x : Nat} (hx : x < 18446744073709551616 ^ 4) : GC Try.prog 25 [.slice (some ⟨0, 0, none⟩) (D 4294967296 x).length 0] [⟨(D 4294967296 x).map (vi .u64), false, 1⟩] [.slice (some ⟨1, 0, none⟩) 32 0] [⟨(D 4294967296 x).map (vi .u64), false, 1⟩, ⟨(digs 256 32 x).map (vi .u8), true, 1⟩] := by
 refine gi Try.func25 ?_
 refine zS ?_
 refine yA ?_
 refine zN (zS ?_)
 refine yM ?_
 refine yC (wordsD_ctr (x := x) (n := 4) (by decide)) bd34 [(0, 0)] [5000] ?_
 refine yC (rb4_ctr hx) bd33 [(5000, 0)] [6000] ?_
 refine yA ?_
 refine zN (zE ?_)
 exact rq [6000] [.tmp 2]
end Go.Proofs.Ytbholmgeaklljaa
namespace Go.Proofs.Ytbholmgeaklljaa
open Go Sim
set_option maxRecDepth 10000 in
theorem isT_ctr {v : Nat} (hv : v < 21888242871839275222246405745257275088548364400416034343698204186575808495617) : GC Try.prog 12 [.agg ((fel v).map (vi .u64)).toArray, .slice (some ⟨0, 0, none⟩) (D 4294967296 v).length 0] [⟨(D 4294967296 v).map (vi .u64), false, 1⟩] [.bool true] [⟨(D 4294967296 v).map (vi .u64), false, 1⟩] := by
 refine gi Try.func12 ?_
 have hd4 := fel_len v
 have hd7 := digs_len (B := 256) 32 v
 refine zS ?_
 refine yO 3000 1 ((fel v).map (vi .u64)) ?_
 refine yA ?_
 refine zN (zS ?_)
 refine AWo.loadAgg tbok (vs := (fel v).map (vi .u64)) rfl rfl rfl rfl (by simp [fel_len]) (ld4 (fel_len _)) rfl rfl ?_
 refine yC (ebytes_ctr hv) bd24 [] [] ?_
 refine yN 6000 1 ((List.replicate 32 0).map (vi .u8)) ?_
 refine ySA ?_
 refine zN ?_
 refine AW.seqD mixed ?_
 refine AWo.sliceA tbok (h := 32) rfl .none .none rfl rfl rfl rfl (by decide) (by decide) (.inl rfl) (by simp [digs_len]) rfl rfl rfl ?_
 refine AWo.bytesStr tbok (digs 256 32 v) rfl rfl (List.take_of_length_le (by simp [digs_len])) (digs_len _ _) rfl Try.underlying5 Try.underlying9 rfl rfl ?_
 refine yM ?_
 refine yC (bytes02_ctr (Nat.lt_trans hv (by decide))) bd25 [(0, 0)] [12000] ?_
 refine AWo.bytesStr tbok (digs 256 32 v) rfl rfl (List.take_of_length_le (by simp [digs_len])) (digs_len _ _) rfl Try.underlying5 Try.underlying9 rfl rfl ?_
 refine yP (PureOp.sameStr rfl rfl) ?_
 refine yA ?_
 refine zD (zE ?_)
 exact rq [] [.tmp 4]
end Go.Proofs.Ytbholmgeaklljaa
namespace Go.Proofs.Ytbholmgeaklljaa
open Go Sim
def rdV (b : List Nat) : Nat := if b.length = 32 ∧ num 256 b < 21888242871839275222246405745257275088548364400416034343698204186575808495617 then num 256 b else 0
def rdC (b : List Nat) : Int := if b.length = 32 then (if num 256 b < 21888242871839275222246405745257275088548364400416034343698204186575808495617 then 0 else 4) else 1
theorem rd_len {b : List Nat} (h : b.length ≠ 32) : rdV b = 0 ∧ rdC b = 1 := ⟨if_neg fun h1 => h h1.1, if_neg h⟩
theorem rd_ge {b : List Nat} (h : b.length = 32) (h2 : 21888242871839275222246405745257275088548364400416034343698204186575808495617 ≤ num 256 b) : rdV b = 0 ∧ rdC b = 4 := ⟨if_neg fun h1 => by have := h1.2; omega, by rw [rdC, if_pos h, if_neg (by omega)]⟩
theorem rd_ok {b : List Nat} (h : b.length = 32) (h2 : num 256 b < 21888242871839275222246405745257275088548364400416034343698204186575808495617) : rdV b = num 256 b ∧ rdC b = 0 := ⟨if_pos ⟨h, h2⟩, by rw [rdC, if_pos h, if_pos h2]⟩
theorem fbX_ctr {b : List Nat} (hb : bd 256 b) : GC Try.prog 16 [.slice (some ⟨0, 0, none⟩) b.length 0] [⟨b.map (vi .u8), false, 1⟩] [.agg ((fel (rdV b)).map (vi .u64)).toArray, .int .i64 (rdC b)] [⟨b.map (vi .u8), false, 1⟩] := by
  by_cases h1 : b.length = 32
  · by_cases h2 : num 256 b < 21888242871839275222246405745257275088548364400416034343698204186575808495617
    · rw [(rd_ok h1 h2).1, (rd_ok h1 h2).2]; exact fbok_ctr hb h1 h2
    · rw [(rd_ge h1 (by omega)).1, (rd_ge h1 (by omega)).2, fel_zero]; exact fbcanon_ctr hb h1 (by omega)
  · rw [(rd_len h1).1, (rd_len h1).2, fel_zero]; exact fbarg_ctr h1
end Go.Proofs.Ytbholmgeaklljaa
namespace Go.Proofs.Ytbholmgeaklljaa.Rg
variable {n : Nat} [NeZero n] {x y z u v w : Fin n}
theorem add_comm (x y : Fin n) : x + y = y + x := by grind
theorem mul_comm (x y : Fin n) : x * y = y * x := by grind
theorem mul_assoc (x y z : Fin n) : x * (y * z) = x * y * z := by grind
theorem mul_add (x y z : Fin n) : x * (y + z) = x * y + x * z := by grind
theorem mul_one (x : Fin n) : x * 1 = x := by grind
theorem one_mul (x : Fin n) : 1 * x = x := by grind
theorem sub_self (x : Fin n) : x - x = 0 := by grind
theorem zero_mul (x : Fin n) : 0 * x = 0 := by grind
theorem mul_zero (x : Fin n) : x * 0 = 0 := by grind
theorem add_zero (x : Fin n) : x + 0 = x := by grind
theorem zero_add (x : Fin n) : 0 + x = x := by grind
theorem add_assoc (x y z : Fin n) : x + y + z = x + (y + z) := by grind
end Go.Proofs.Ytbholmgeaklljaa.Rg
namespace Go.Proofs.Ytbholmgeaklljaa
open Go Sim
abbrev Fp := Fin 21888242871839275222246405745257275088548364400416034343698204186575808495617
def fe (x : Fp) : List Nat := fel x.val
def fp (v : Nat) : Fp := ⟨v % 21888242871839275222246405745257275088548364400416034343698204186575808495617, Nat.mod_lt _ (by decide)⟩
@[simp] theorem fe_len (x : Fp) : (fe x).length = 4 := fel_len _
end Go.Proofs.Ytbholmgeaklljaa
namespace Go.Proofs.Ytbholmgeaklljaa
open Go Sim
theorem dig_none {s : GS} : List.replicate 32 0 = digs 256 32 (gv s 0 * 2 ^ 254) := by rw [gv, Nat.zero_mul]; rfl
theorem bit_one {s : GS} {q r : Nat} (h : (gnx (gad s q)).2 = true) (hr : r < 256) : (digs 256 32 (gv s q * 2 ^ (r + 1))).set (r / 8) ((digs 256 32 (gv s q * 2 ^ (r + 1))).getD (r / 8) 0 ||| 1 * 2 ^ (r % 8) % 256) = digs 256 32 (gv s (q + 1) * 2 ^ r) := by
  rw [set_bit hr, gv, h]; rfl
theorem bit_zero {s : GS} {q r : Nat} (h : (gnx (gad s q)).2 = false) : digs 256 32 (gv s q * 2 ^ (r + 1)) = digs 256 32 (gv s (q + 1) * 2 ^ r) := by
  rw [gv, h, Nat.pow_succ, show (false.toNat) = 0 from rfl, Nat.add_zero, Nat.mul_comm 2 (gv s q), Nat.mul_assoc, Nat.mul_comm 2]
theorem num_sample {s : GS} {l : List Nat} (h : l = digs 256 32 (gv s 254 * 2 ^ 0)) : num 256 l = gv s 254 := by
  rw [h, Nat.pow_zero, Nat.mul_one]
  exact num_digs_lt (Nat.lt_trans (gv_lt s 254) (by decide))
theorem sample_ok {s : GS} {i : Nat} {l : List Nat} (hl : l.length = 32) (hn : num 256 l = gv (gad s (254 * i)) 254) (h : rdC l = 0) : gok s i ∧ rdV l = gv (gad s (254 * i)) 254 := by
  rw [rdC, if_pos hl] at h
  by_cases h2 : num 256 l < 21888242871839275222246405745257275088548364400416034343698204186575808495617
  · refine ⟨?_, ?_⟩
    · rw [gok, ← hn]; exact h2
    · rw [rdV, if_pos ⟨hl, h2⟩, hn]
  · rw [if_neg h2] at h; cases h
theorem sample_yes {s : GS} {i : Nat} {l : List Nat} (hl : l.length = 32) (hn : num 256 l = gv (gad s (254 * i)) 254) (h : gok s i) : rdC l = 0 := by
  rw [rdC, if_pos hl, if_pos]
  rw [hn]; exact h
theorem fbG32_ctr {b : List Nat} (hb : bd 256 b) (hl : b.length = 32) : GC Try.prog 16 [.slice (some ⟨0, 0, none⟩) 32 0] [⟨b.map (vi .u8), false, 1⟩] [.agg ((fel (rdV b)).map (vi .u64)).toArray, .int .i64 (rdC b)] [⟨b.map (vi .u8), false, 1⟩] := by
  have h := fbX_ctr hb
  rw [hl] at h
  exact h
set_option maxRecDepth 10000 in
theorem element_ctr {s : GS} {j : Nat} (hg : GG s) (hj : gok s j) (hmin : ∀ i, i < j → ¬ gok s i) : GC Try.prog 8 [.pointer (some ⟨0, 0, none⟩)] [⟨srcC s.1 s.2, true, 1⟩] [.agg ((fel (gv (gad s (254 * j)) 254)).map (vi .u64)).toArray] [⟨srcC (gad s (254 * (j + 1))).1 (gad s (254 * (j + 1))).2, true, 1⟩] := by
  refine GC.intro Try.func8 rfl (by show 1 ≤ 30; decide) (Nat.le_refl 1) ?_
  refine AW.seqR ?_
  refine AWo.alloc tbok 3000 1 _ rfl rfl rfl rfl rfl rfl ?_
  refine AWo.nil trivial ?_
  refine AW.block ?_
  refine AW.loopw (fun mm σ => ∃ i, (i ≤ j) ∧ mm = j - i ∧ σ = ⟨(upd (upd emp 0 (.pointer (some ⟨0, 0, none⟩))) 2 (.pointer (some ⟨3000, 0, none⟩))), (upd (upd emp 0 ⟨srcC (gad s (254 * i)).1 (gad s (254 * i)).2, true, 1⟩) 3000 ⟨(List.replicate 4 0).map (vi .u64), true, 1⟩)⟩) (fm := []) ?_ ⟨0, Nat.zero_le _, rfl, rfl⟩ ?_
  ·
    refine Wk.of [0, 3000] ?_ ?_ ?_ (by decide) rfl
    ·
      refine WkE.upd rfl (.ptr (3000) 0 ⟨_, rfl⟩) ?_
      refine WkE.upd rfl (.ptr (0) 0 ⟨_, rfl⟩) ?_
      exact WkE.emp
    ·
      refine WkM.flatM rfl (by first | rfl | assumption | simp) (fun _ => rfl) (fun h => h) ?_
      refine WkM.refl rfl srcC_flat (fun h => h) ?_
      exact WkM.emp
    ·
      repeat (refine dom_upd_mem (by decide) ?_)
      exact dom_emp
  ·
    rintro mm σ ⟨i, hinv, rfl, rfl⟩
    have hgS : GG (gad s (254 * i)) := hg.gad _
    refine AW.block ?_
    refine AW.seqR ?_
    refine AWo.alloc tbok 4000 1 ((List.replicate 32 0).map (vi .u8)) rfl rfl rfl rfl rfl rfl ?_
    refine AWo.nil trivial ?_
    refine AW.seq ?_
    refine AW.seqR ?_
    refine AWo.pure (PureOp.assign rfl) rfl rfl ?_
    refine AWo.nil trivial ?_
    refine AW.block ?_
    refine AW.loopw (fun mm σ => ∃ r, ∃ q, ∃ (l : List Nat), (q + r = 254 ∧ l = digs 256 32 (gv (gad s (254 * i)) q * 2 ^ r)) ∧ mm = 1 * r ∧ σ = ⟨(upd (upd (upd (upd emp 0 (.pointer (some ⟨0, 0, none⟩))) 2 (.pointer (some ⟨3000, 0, none⟩))) 3 (.pointer (some ⟨4000, 0, none⟩))) 4 (vp r)), (upd (upd (upd emp 0 ⟨srcC (gad (gad s (254 * i)) q).1 (gad (gad s (254 * i)) q).2, true, 1⟩) 3000 ⟨(List.replicate 4 0).map (vi .u64), true, 1⟩) 4000 ⟨l.map (vi .u8), true, 1⟩)⟩) (fm := []) ?_ ⟨254, 0, List.replicate 32 0, ⟨rfl, dig_none⟩, rfl, rfl⟩ ?_
    ·
      refine Wk.of [0, 3000, 4000] ?_ ?_ ?_ (by decide) rfl
      ·
        refine WkE.upd rfl (by first | exact VR.flat _ rfl | exact VR.eqv (vp_succ _) rfl | exact VR.eqv (vp_succ _).symm rfl | exact VR.eqv (by first | rfl | (congr 1; omega) | (simp; done) | (simp; omega)) rfl) ?_
        refine WkE.upd rfl (.ptr (4000) 0 ⟨_, rfl⟩) ?_
        refine WkE.upd rfl (.ptr (3000) 0 ⟨_, rfl⟩) ?_
        refine WkE.upd rfl (.ptr (0) 0 ⟨_, rfl⟩) ?_
        exact WkE.emp
      ·
        refine WkM.flatM rfl (by first | rfl | assumption | simp) (fun _ => rfl) (fun h => h) ?_
        refine WkM.flatM rfl (by first | rfl | assumption | simp) (fun _ => rfl) (fun h => h) ?_
        refine WkM.refl rfl srcC_flat (fun h => h) ?_
        exact WkM.emp
      ·
        repeat (refine dom_upd_mem (by decide) ?_)
        exact dom_emp
    ·
      rintro mm σ ⟨r, q, l, ⟨hqr, hl0⟩, rfl, rfl⟩
      have hll : l.length = 32 := by rw [hl0, digs_len]
      have hbl : bd 256 l := by rw [hl0]; exact digs_bd (by decide) _ _
      refine AW.seq ?_
      refine AW.seqR ?_
      refine AWo.pure (PureOp.move rfl) rfl rfl ?_
      first | refine AWo.pure (PureOp.geP rfl rfl) rfl rfl ?_ | refine AWo.pure (PureOp.geN (b := 0) rfl rfl) rfl rfl ?_ | refine AWo.pure (PureOp.bin rfl rfl rfl) rfl rfl ?_
      refine AWo.nil trivial ?_
      refine AW.cond rfl (fun hb0 => ?_) (fun hb0 => ?_)
      ·
        have hp0 : 0 < r := by simpa using hb0
        obtain ⟨r, rfl⟩ : ∃ q, r = q + 1 := ⟨r - 1, by omega⟩
        rw [vp_succ]
        have hx := bd_getD hbl (by decide) (r / 8)
        refine AW.skip ?_
        refine thenA_normal ?_
        refine AW.seq ?_
        refine AW.block ?_
        refine AW.seqR ?_
        refine AWo.pure (PureOp.move rfl) rfl rfl ?_
        refine AWo.callX (bit_ctr (hgS.gad q).1 (gnx_eq (hgS.gad q))) bd13 [(0, 0)] [] rfl (.cons rfl .nil) rfl (.cons rfl rfl .nil) (.flat rfl srcC_flat (by intro h; first | exact h | rfl) .nil) rfl (.chg rfl rfl (flat_map_ren srcC_flat) (OkL.flat srcC_flat) .nil) frN (by decide) (.cons rfl rfl .nil) rfl rfl rfl rfl ?_
        refine AWo.nil trivial ?_
        refine AW.cond rfl (fun hb1 => ?_) (fun hb1 => ?_)
        ·
          have hbt : (gnx (gad (gad s (254 * i)) q)).2 = true := by simpa using hb1
          refine AW.draw mixed ?_
          refine AWo.pure (PureOp.move rfl) rfl rfl ?_
          first | refine AWo.pure ((PureOp.quoN (b := 8) 9223372036854775808 rfl rfl (by decide) (by decide) (by first | decide | omega) (by first | decide | omega)).mono (v' := vi .i64 (r / 8)) rfl) rfl rfl ?_ | refine AWo.pure ((PureOp.quo rfl rfl (by first | decide | omega)).mono (v' := vi .i64 (r / 8)) rfl) rfl rfl ?_
          first | refine AWo.pure (PureOp.arr1 tbok rfl rfl rfl rfl (by first | decide | omega)) rfl rfl ?_ | refine AWo.pure (PureOp.arr tbok rfl rfl rfl rfl (by first | decide | omega)) rfl rfl ?_
          first | refine AWo.loadM tbok 0 rfl rfl rfl (by first | decide | omega) rfl rfl ?_ | refine AWo.load tbok rfl rfl rfl rfl rfl rfl ?_
          refine AWo.pure (PureOp.move rfl) rfl rfl ?_
          first | refine AWo.pure ((PureOp.remN (b := 8) rfl rfl (by first | decide | omega)).mono (v' := vi .i64 (r % 8)) rfl) rfl rfl ?_ | refine AWo.pure ((PureOp.rem rfl rfl (by first | decide | omega)).mono (v' := vi .i64 (r % 8)) rfl) rfl rfl ?_
          refine AWo.pure (PureOp.shlUge (a := 1) 256 rfl rfl rfl rfl) rfl rfl ?_
          refine AWo.pure (PureOp.orN 256 rfl rfl (by decide) (by decide) hx (Nat.mod_lt _ (by decide))) rfl rfl ?_
          first | refine AWo.pure (PureOp.arr1 tbok rfl rfl rfl rfl (by first | decide | omega)) rfl rfl ?_ | refine AWo.pure (PureOp.arr tbok rfl rfl rfl rfl (by first | decide | omega)) rfl rfl ?_
          first | refine AWo.storeM (f := (vi .u8)) tbok rfl rfl rfl rfl (by first | decide | omega) rfl rfl ?_ | refine AWo.store tbok rfl rfl rfl rfl rfl (by first | decide | (simp; omega)) rfl rfl rfl ?_
          refine AWo.nil (by kernel_rfl) ?_
          refine inBlockA_normal ?_
          refine thenA_normal ?_
          refine AW.region ?_
          refine AWo.pure (PureOp.move rfl) rfl rfl ?_
          first | refine AWo.pure (PureOp.subI (b := 1) rfl rfl (by first | decide | omega) (by first | decide | omega)) rfl rfl ?_ | refine AWo.pure (PureOp.subP rfl rfl (by first | decide | omega)) rfl rfl ?_ | refine AWo.pure (PureOp.bin rfl rfl rfl) rfl rfl ?_
          refine AWo.pure (PureOp.assign rfl) rfl rfl ?_
          refine AWo.nil trivial ?_
          refine thenA_normal ?_
          refine ⟨1 * r, [], _, by omega, ?_, r, q + 1, l.set (r / 8) (l.getD (r / 8) 0 ||| 1 * 2 ^ (r % 8) % 256), ⟨by omega, by rw [hl0]; exact bit_one hbt (by omega)⟩, rfl, rfl⟩
          refine Wk.of [0, 3000, 4000] ?_ ?_ ?_ (by decide) rfl
          ·
            refine WkE.upd rfl (by first | exact VR.flat _ rfl | exact VR.eqv (vp_succ _) rfl | exact VR.eqv (vp_succ _).symm rfl | exact VR.eqv (by first | rfl | (congr 1; omega) | (simp; done) | (simp; omega)) rfl) ?_
            refine WkE.upd rfl (.ptr (4000) 0 ⟨_, rfl⟩) ?_
            refine WkE.upd rfl (.ptr (3000) 0 ⟨_, rfl⟩) ?_
            refine WkE.upd rfl (.ptr (0) 0 ⟨_, rfl⟩) ?_
            exact WkE.emp
          ·
            refine WkM.flatM rfl (by first | rfl | assumption | simp) (fun _ => rfl) (fun h => h) ?_
            refine WkM.flatM rfl (by first | rfl | assumption | simp) (fun _ => rfl) (fun h => h) ?_
            refine WkM.refl rfl srcC_flat (fun h => h) ?_
            exact WkM.emp
          ·
            repeat (refine dom_upd_mem (by decide) ?_)
            exact dom_emp
        ·
          have hbt : (gnx (gad (gad s (254 * i)) q)).2 = false := by simpa using hb1
          refine AW.skip ?_
          refine inBlockA_normal ?_
          refine thenA_normal ?_
          refine AW.region ?_
          refine AWo.pure (PureOp.move rfl) rfl rfl ?_
          first | refine AWo.pure (PureOp.subI (b := 1) rfl rfl (by first | decide | omega) (by first | decide | omega)) rfl rfl ?_ | refine AWo.pure (PureOp.subP rfl rfl (by first | decide | omega)) rfl rfl ?_ | refine AWo.pure (PureOp.bin rfl rfl rfl) rfl rfl ?_
          refine AWo.pure (PureOp.assign rfl) rfl rfl ?_
          refine AWo.nil trivial ?_
          refine thenA_normal ?_
          refine ⟨1 * r, [], _, by omega, ?_, r, q + 1, l, ⟨by omega, by rw [hl0]; exact bit_zero hbt⟩, rfl, rfl⟩
          refine Wk.of [0, 3000, 4000] ?_ ?_ ?_ (by decide) rfl
          ·
            refine WkE.upd rfl (by first | exact VR.flat _ rfl | exact VR.eqv (vp_succ _) rfl | exact VR.eqv (vp_succ _).symm rfl | exact VR.eqv (by first | rfl | (congr 1; omega) | (simp; done) | (simp; omega)) rfl) ?_
            refine WkE.upd rfl (.ptr (4000) 0 ⟨_, rfl⟩) ?_
            refine WkE.upd rfl (.ptr (3000) 0 ⟨_, rfl⟩) ?_
            refine WkE.upd rfl (.ptr (0) 0 ⟨_, rfl⟩) ?_
            exact WkE.emp
          ·
            refine WkM.flatM rfl (by first | rfl | assumption | simp) (fun _ => rfl) (fun h => h) ?_
            refine WkM.flatM rfl (by first | rfl | assumption | simp) (fun _ => rfl) (fun h => h) ?_
            refine WkM.refl rfl srcC_flat (fun h => h) ?_
            exact WkM.emp
          ·
            repeat (refine dom_upd_mem (by decide) ?_)
            exact dom_emp
      ·
        obtain rfl : r = 0 := by simpa using hb0
        obtain rfl : q = 254 := by omega
        have hnl : num 256 l = gv (gad s (254 * i)) 254 := num_sample hl0
        rw [gad_add s (254 * i) 254, show 254 * i + 254 = 254 * (i + 1) by omega]
        refine AW.exit ?_
        refine thenA_exit ?_
        refine thenA_exit ?_
        refine inBlockA_hit ?_
        refine thenA_normal ?_
        refine AW.seqR ?_
        refine AWo.sliceA tbok rfl .none .none rfl rfl rfl rfl (by first | decide | omega | (simp; done) | (simp; omega)) (by first | decide | omega | (simp; done) | (simp; omega)) (.inl rfl) (by first | decide | omega | (simp; done) | (simp; omega)) rfl rfl rfl ?_
        refine AWo.callX (fbG32_ctr hbl hll) bd16 [(4000, 0)] [] rfl (.cons rfl .nil) rfl (.cons rfl rfl .nil) (.flat rfl (by first | exact flatM flat_vi | exact flatM flat_bool | (simp [flatV, flat_vi]; done)) (by intro h; first | exact h | rfl) .nil) rfl (.keep rfl .nil) frN (by decide) (.pure (by first | rfl | exact pure_aggM flat_vi | exact pure_aggM flat_bool) (.cons rfl rfl .nil)) rfl rfl rfl rfl ?_
        refine AWo.pure (PureOp.move rfl) rfl rfl ?_
        refine AWo.pure (PureOp.extract rfl rfl) rfl rfl ?_
        refine AWo.pure (PureOp.extract rfl rfl) rfl rfl ?_
        refine AWo.alloc tbok 6000 1 _ rfl rfl rfl rfl rfl rfl ?_
        refine AWo.storeAllN tbok rfl rfl rfl rfl (by first | (simp [*]; done) | rfl) (by first | (simp [*]; done) | rfl) (by first | exact oneM (fun _ => rfl) _ | rfl | (simp; done)) rfl ?_
        refine AWo.pure (PureOp.assign rfl) rfl rfl ?_
        refine AWo.nil trivial ?_
        refine AW.seqR ?_
        refine AWo.pure (PureOp.move rfl) rfl rfl ?_
        first | refine AWo.pure (PureOp.eqN (b := 0) rfl rfl) rfl rfl ?_ | refine AWo.pure (PureOp.bin rfl rfl rfl) rfl rfl ?_
        refine AWo.nil trivial ?_
        refine AW.cond rfl (fun hb2 => ?_) (fun hb2 => ?_)
        ·
          have h0 : rdC l = 0 := by simpa using hb2
          obtain ⟨hok, hrv⟩ := sample_ok hll hnl h0
          obtain rfl : i = j := by
            rcases Nat.lt_or_ge i j with h | h
            · exact absurd hok (hmin i h)
            · omega
          rw [hrv]
          refine AW.seqR ?_
          first | refine AWo.loadAll tbok rfl rfl rfl rfl (by first | (simp [*]; done) | rfl) rfl rfl ?_ | refine AWo.loadAgg tbok rfl rfl rfl rfl (by first | decide | omega) rfl rfl rfl ?_
          refine AWo.storeAllN tbok rfl rfl rfl rfl (by first | (simp [*]; done) | rfl) (by first | (simp [*]; done) | rfl) (by first | exact oneM (fun _ => rfl) _ | rfl | (simp; done)) rfl ?_
          refine AWo.nil trivial ?_
          refine AW.ret ?_
          refine inBlockA_ret ?_
          refine thenA_ret ?_
          refine inBlockA_ret ?_
          refine RetQ.gc [_] [] [.cell 2 33] (.inl rfl) rfl (.val (RVal.cellAll tbok rfl rfl rfl rfl (by first | (simp [*]; done) | rfl)) .nil) rfl (.pure (by first | rfl | exact pure_aggM flat_vi | exact pure_aggM flat_bool) .nil) (OutL.flat rfl srcC_flat (by intro h; first | rfl | exact h.elim id fun h => absurd h.1 (by simp)) trivial) (by decide) rfl
        ·
          have h0 : ¬ rdC l = 0 := by simpa using hb2
          have hij : i ≠ j := fun e => h0 (sample_yes hll hnl (e ▸ hj))
          refine AW.skip ?_
          refine inBlockA_normal ?_
          refine thenA_normal ?_
          refine ⟨j - (i + 1), [], _, by omega, ?_, i + 1, by omega, rfl, rfl⟩
          refine Wk.of [0, 3000] ?_ ?_ ?_ (by decide) rfl
          ·
            refine WkE.upd rfl (.ptr (3000) 0 ⟨_, rfl⟩) ?_
            refine WkE.upd rfl (.ptr (0) 0 ⟨_, rfl⟩) ?_
            exact WkE.emp
          ·
            refine WkM.flatM rfl (by first | rfl | assumption | simp) (fun _ => rfl) (fun h => h) ?_
            refine WkM.refl rfl srcC_flat (fun h => h) ?_
            exact WkM.emp
          ·
            repeat (refine dom_upd_mem (by decide) ?_)
            exact dom_emp
end Go.Proofs.Ytbholmgeaklljaa
namespace Go.Proofs.Ytbholmgeaklljaa
open Go Sim
theorem newS_ctr {b w f p : Nat} {s : GS} (hb : 1 ≤ b ∧ b ≤ 4095) (hw : 1 ≤ w ∧ w ≤ 4095) (hf : f ≤ 1023) (hp : p ≤ 1023) (h : s = gnew b w f p) : GC Try.prog 6 [vi .i64 b, vi .i64 w, vi .i64 f, vi .i64 p] [] [.pointer (some ⟨0, 0, none⟩), .int .i64 0] [⟨srcC s.1 s.2, true, 1⟩] := by
  subst h; exact new_ctr hb hw hf hp
end Go.Proofs.Ytbholmgeaklljaa
namespace Go.Proofs.Ytbholmgeaklljaa
open Go
theorem dig2 : ∀ (n v : Nat) {k : Nat}, k < n → (digs 2 n v).getD k 0 = v / 2 ^ k % 2
  | 0, v, k, h => absurd h (Nat.not_lt_zero k)
  | n + 1, v, 0, _ => by rw [Nat.pow_zero, Nat.div_one]; rfl
  | n + 1, v, k + 1, h => by
    have ih := dig2 n (v / 2) (k := k) (Nat.lt_of_succ_lt_succ h)
    rw [Nat.div_div_eq_div_mul] at ih
    rw [Nat.pow_succ, Nat.mul_comm]
    exact ih
theorem gv_div (s : GS) (q : Nat) : ∀ m, gv s (q + m) / 2 ^ m = gv s q
  | 0 => by rw [Nat.pow_zero, Nat.div_one]; rfl
  | m + 1 => by
    have ih := gv_div s q m
    rw [← Nat.add_assoc, gv, Nat.pow_succ', ← Nat.div_div_eq_div_mul]
    rw [show (2 * gv s (q + m) + (gnx (gad s (q + m))).2.toNat) / 2 = gv s (q + m) by cases (gnx (gad s (q + m))).2 <;> simp <;> omega]
    exact ih
def gbits (s : GS) : List Nat := digs 2 254 (gv s 254)
theorem gbits_len (s : GS) : (gbits s).length = 254 := digs_len ..
theorem gbits_bd (s : GS) : bd 2 (gbits s) := digs_bd (B := 2) (by decide) _ _
theorem gbits_num (s : GS) : num 2 (gbits s) = gv s 254 := num_digs_lt (gv_lt s 254)
theorem gbits_get {s : GS} {q r : Nat} (h : q + (r + 1) = 254) : (gbits s).getD r 0 = (gnx (gad s q)).2.toNat := by
  rw [gbits, dig2 254 _ (by omega), show 254 = (q + 1) + r by omega, gv_div, gv]
  cases (gnx (gad s q)).2 <;> simp <;> omega
def BitI (a : List Nat) (r : Nat) (l : List Nat) : Prop := (∀ k, k < r / 32 → l.getD k 0 = 0) ∧ l.getD (r / 32) 0 = num 2 ((a.drop r).take (32 - r % 32)) ∧
  ∀ k, r / 32 < k → l.getD k 0 = num 2 ((a.drop (32 * k)).take 32)
theorem num_dropcons2 {a : List Nat} {r n : Nat} (hr : r < a.length) : num 2 ((a.drop r).take (n + 1)) = a.getD r 0 + 2 * num 2 ((a.drop (r + 1)).take n) := by
  rw [List.drop_eq_getElem_cons hr, List.take_succ_cons, num, List.getD_eq_getElem?_getD, List.getElem?_eq_getElem hr]; rfl
theorem bitI_init (s : GS) : BitI (gbits s) 254 (List.replicate 8 0) := by
  have hl := gbits_len s
  refine ⟨fun k _ => rep_getD _ _, ?_, fun k hk => ?_⟩
  · rw [rep_getD, List.drop_of_length_le (by omega)]; rfl
  · rw [rep_getD, List.drop_of_length_le (by omega)]; rfl
theorem bitI_val {a l : List Nat} {r : Nat} (hr : r < a.length) (hI : BitI a (r + 1) l) : l.getD (r / 32) 0 * 2 + a.getD r 0 = num 2 ((a.drop r).take (32 - r % 32)) := by
  obtain ⟨h1, h2, h3⟩ := hI
  rw [show 32 - r % 32 = (31 - r % 32) + 1 by omega, num_dropcons2 hr]
  rcases Nat.lt_or_ge (r % 32) 31 with h | h
  · rw [show (r + 1) / 32 = r / 32 by omega, show 32 - (r + 1) % 32 = 31 - r % 32 by omega] at h2
    rw [h2]; omega
  · rw [show 31 - r % 32 = 0 by omega, h1 (r / 32) (by omega)]
    simp [num]
theorem bitI_bd {a l : List Nat} {r : Nat} (h : bd 2 a) (hr : r < a.length) (hI : BitI a (r + 1) l) : l.getD (r / 32) 0 * 2 + a.getD r 0 < 4294967296 := by
  rw [bitI_val hr hI]
  exact num_lt_pow (B := 2) (bd_take (bd_drop h _) _) (by decide) (n := 32) (by simp; omega)
theorem bitI_step {a l : List Nat} {r : Nat} (hl : r / 32 < l.length) (hr : r < a.length) (hI : BitI a (r + 1) l) : BitI a r (l.set (r / 32) (l.getD (r / 32) 0 * 2 + a.getD r 0)) := by
  have hv := bitI_val hr hI
  obtain ⟨h1, h2, h3⟩ := hI
  refine ⟨fun k hk => ?_, ?_, fun k hk => ?_⟩
  · rw [getD_set (by omega)]; exact h1 k (by omega)
  · rw [getD_set_self (by omega)]; exact hv
  · rw [getD_set (by omega)]
    rcases Nat.lt_or_ge ((r + 1) / 32) k with h | h
    · exact h3 k h
    · obtain rfl : k = (r + 1) / 32 := by omega
      rw [h2, show 32 * ((r + 1) / 32) = r + 1 by omega, show 32 - (r + 1) % 32 = 32 by omega]
theorem num_words (a : List Nat) : ∀ (n : Nat) (l : List Nat), l.length = n → (∀ k, k < n → l.getD k 0 = num 2 ((a.drop (32 * k)).take 32)) → a.length ≤ 32 * n → num 4294967296 l = num 2 a := by
  intro n
  induction n generalizing a with
  | zero =>
    intro l hl _ ha
    obtain rfl := List.length_eq_zero_iff.1 hl
    obtain rfl : a = [] := List.length_eq_zero_iff.1 (by omega)
    rfl
  | succ n ih =>
    intro l hl hk ha
    obtain ⟨x, r, rfl⟩ : ∃ x r, l = x :: r := by cases l with
      | nil => simp at hl
      | cons x r => exact ⟨x, r, rfl⟩
    have h0 := hk 0 (by omega)
    simp only [List.getD_cons_zero, Nat.mul_zero, List.drop_zero] at h0
    have hr := ih (a.drop 32) r (by simpa using hl) (fun k hk2 => by
      have := hk (k + 1) (by omega)
      rw [List.getD_cons_succ] at this
      rw [this, List.drop_drop, show 32 + 32 * k = 32 * (k + 1) by omega]) (by simp; omega)
    rw [num, hr, h0]
    rcases Nat.lt_or_ge a.length 32 with h | h
    · rw [List.take_of_length_le (by omega), List.drop_of_length_le (by omega)]; simp [num]
    · have := num_take_drop (B := 2) a 32 h
      rw [this]
theorem bitI_end {s : GS} {l : List Nat} (hl : l.length = 8) (hI : BitI (gbits s) 0 l) : num 4294967296 l = gv s 254 := by
  rw [← gbits_num s]
  obtain ⟨_, h2, h3⟩ := hI
  refine num_words _ 8 l hl (fun k hk => ?_) (by rw [gbits_len]; decide)
  rcases Nat.eq_zero_or_pos k with rfl | h
  · simpa using h2
  · exact h3 k (by omega)
theorem bitI_one {s : GS} {l : List Nat} {q r : Nat} (hq : q + (r + 1) = 254) (hl : l.length = 8) (hI : BitI (gbits s) (r + 1) l) (h : (gnx (gad s q)).2 = true) : BitI (gbits s) r ((l.set (r / 32) (l.getD (r / 32) 0 * 2)).set (r / 32) (l.getD (r / 32) 0 * 2 + 1)) := by
  have := bitI_step (by omega) (by rw [gbits_len]; omega) hI
  rw [gbits_get hq, h] at this
  rw [List.set_set]; exact this
theorem bitI_nil {s : GS} {l : List Nat} {q r : Nat} (hq : q + (r + 1) = 254) (hl : l.length = 8) (hI : BitI (gbits s) (r + 1) l) (h : (gnx (gad s q)).2 = false) : BitI (gbits s) r (l.set (r / 32) (l.getD (r / 32) 0 * 2)) := by
  have := bitI_step (by omega) (by rw [gbits_len]; omega) hI
  rw [gbits_get hq, h] at this
  exact this
theorem bitI_lt {s : GS} {l : List Nat} {q r : Nat} (hq : q + (r + 1) = 254) (hI : BitI (gbits s) (r + 1) l) : l.getD (r / 32) 0 * 2 + (gnx (gad s q)).2.toNat < 4294967296 := by
  have := bitI_bd (gbits_bd s) (by rw [gbits_len]; omega) hI
  rw [gbits_get hq] at this
  exact this
end Go.Proofs.Ytbholmgeaklljaa
namespace Go.Proofs.Ytbholmgeaklljaa
open Go Sim
def pdig : List Nat := [4026531841, 1138881939, 2042196113, 674490440, 2172737629, 3092268470, 3778125865, 811880050]
theorem pdig_bd : bd 4294967296 pdig := by intro x hx; simp only [pdig, List.mem_cons, List.not_mem_nil, or_false] at hx; omega
theorem pdig_num : num 4294967296 pdig = 21888242871839275222246405745257275088548364400416034343698204186575808495617 := by kernel_rfl
def blk (L : List (List Nat)) (c : Nat) : List Nat := L.getD (c % L.length) []
set_option maxRecDepth 10000 in
theorem p02_ctr : GC Try.prog 22 [] [] [.slice (some ⟨0, 0, none⟩) pdig.length 0] [⟨pdig.map (vi .u64), true, 1⟩] := by
 refine gi Try.func22 ?_
 refine zS ?_
 refine yA ?_
 refine zN (zS ?_)
 refine AWo.buildSlice tbok 2000 [(0, vi .u64 4026531841), (1, vi .u64 1138881939), (2, vi .u64 2042196113), (3, vi .u64 674490440), (4, vi .u64 2172737629), (5, vi .u64 3092268470), (6, vi .u64 3778125865), (7, vi .u64 811880050)] (out := [vi .u64 4026531841, vi .u64 1138881939, vi .u64 2042196113, vi .u64 674490440, vi .u64 2172737629, vi .u64 3092268470, vi .u64 3778125865, vi .u64 811880050]) rfl rfl (by decide) rfl rfl rfl (by decide) rfl rfl rfl rfl rfl ?_
 refine yA ?_
 refine zN (zE ?_)
 exact rq [2000] [.tmp 0]
end Go.Proofs.Ytbholmgeaklljaa
