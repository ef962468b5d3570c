/- What the proof stands on, part 3: the walk of each function, and plain laws of numbers. -/
import Derived.Test.YtpahdiljpnfkdaaGreatK2
import Derived.Test.YtpahdiljpnfkdaaGreatProg
import Derived.KernelRfl
import Derived.Laws.Externs
namespace Go.Proofs.YtpahdiljpnfkdaaGreat
open Go Sim
def Tb : Tab where
  sl := [(22, 5), (29, 42), (33, 51), (47, 22), (51, 39), (61, 3)]
  arr := [(40, 4, 39), (74, 32, 5), (110, 9, 51), (118, 12, 39), (119, 12, 39), (133, 5, 39), (157, 0, 16), (171, 96, 5)]
  int := [(2, .i64), (3, .i64), (5, .u8), (6, .u8), (12, .u64), (21, .i32), (36, .i64), (39, .u64), (56, .u64), (160, .u32), (161, .u8), (162, .u8), (165, .i32), (166, .i32)]
  sz := [(2, 1), (3, 1), (5, 1), (6, 1), (12, 1), (21, 1), (36, 1), (39, 1), (56, 1), (160, 1), (161, 1), (162, 1), (165, 1), (166, 1), (4, 1), (22, 1), (29, 1), (33, 1), (47, 1), (51, 1), (61, 1), (40, 4), (74, 32), (110, 9), (118, 12), (119, 12), (133, 5), (157, 0), (171, 96), (7, 4), (8, 4), (13, 2), (14, 2), (18, 1), (19, 1), (23, 4), (24, 4), (27, 4), (41, 4), (42, 4), (64, 4), (65, 4), (89, 4), (94, 3), (95, 3), (107, 3), (108, 3), (120, 12), (121, 12), (148, 1), (149, 1), (155, 4), (156, 4), (158, 0), (159, 0), (167, 11), (168, 11), (1, 1), (9, 1), (10, 1), (11, 1), (15, 1), (16, 1), (17, 1), (20, 1), (25, 1), (26, 1), (28, 1), (30, 1), (31, 1), (32, 1), (34, 1), (35, 1), (38, 1), (43, 1), (44, 1), (45, 1), (46, 1), (49, 1), (50, 1), (52, 1), (53, 1), (54, 1), (55, 1), (57, 1), (58, 1), (59, 1), (60, 1), (62, 1), (63, 1), (67, 1), (68, 1), (70, 1), (71, 1), (72, 1), (73, 1), (75, 1), (76, 1), (78, 1), (79, 1), (80, 1), (81, 1), (83, 1), (84, 1), (85, 1), (86, 1), (87, 1), (88, 1), (91, 1), (92, 1), (93, 1), (96, 1), (97, 1), (98, 1), (99, 1), (100, 1), (101, 1), (103, 1), (104, 1), (105, 1), (106, 1), (109, 1), (111, 1), (112, 1), (114, 1), (115, 1), (117, 1), (123, 1), (124, 1), (125, 1), (126, 1), (127, 1), (129, 1), (131, 1), (132, 1), (134, 1), (135, 1), (136, 1), (137, 1), (139, 1), (140, 1), (141, 1), (142, 1), (143, 1), (144, 1), (146, 1), (147, 1), (150, 1), (151, 1), (152, 1), (153, 1), (154, 1), (163, 1), (164, 1), (169, 1)]
  agg := [(2, false), (3, false), (5, false), (6, false), (12, false), (21, false), (36, false), (39, false), (56, false), (160, false), (161, false), (162, false), (165, false), (166, false), (4, false), (22, false), (29, false), (33, false), (47, false), (51, false), (61, false), (40, true), (74, true), (110, true), (118, true), (119, true), (133, true), (157, true), (171, true), (7, true), (8, true), (13, true), (14, true), (18, true), (19, true), (23, true), (24, true), (27, true), (41, true), (42, true), (64, true), (65, true), (89, true), (94, true), (95, true), (107, true), (108, true), (120, true), (121, true), (148, true), (149, true), (155, true), (156, true), (158, true), (159, true), (167, true), (168, true), (1, false), (9, false), (10, false), (11, false), (15, false), (16, false), (17, false), (20, false), (25, false), (26, false), (28, false), (30, false), (31, false), (32, false), (34, false), (35, false), (38, false), (43, false), (44, false), (45, false), (46, false), (49, false), (50, false), (52, false), (53, false), (54, false), (55, false), (57, false), (58, false), (59, false), (60, false), (62, false), (63, false), (67, false), (68, false), (70, false), (71, false), (72, false), (73, false), (75, false), (76, false), (78, false), (79, false), (80, false), (81, false), (83, false), (84, false), (85, false), (86, false), (87, false), (88, false), (91, false), (92, false), (93, false), (96, false), (97, false), (98, false), (99, false), (100, false), (101, false), (103, false), (104, false), (105, false), (106, false), (109, false), (111, false), (112, false), (114, false), (115, false), (117, false), (123, false), (124, false), (125, false), (126, false), (127, false), (129, false), (131, false), (132, false), (134, false), (135, false), (136, false), (137, false), (139, false), (140, false), (141, false), (142, false), (143, false), (144, false), (146, false), (147, false), (150, false), (151, false), (152, false), (153, false), (154, false), (163, false), (164, false), (169, false)]
  zero := [(2, .int .i64 0), (3, .int .i64 0), (5, .int .u8 0), (6, .int .u8 0), (12, .int .u64 0), (21, .int .i32 0), (36, .int .i64 0), (39, .int .u64 0), (56, .int .u64 0), (160, .int .u32 0), (161, .int .u8 0), (162, .int .u8 0), (165, .int .i32 0), (166, .int .i32 0), (4, .bool false), (22, .slice none 0 0), (29, .slice none 0 0), (33, .slice none 0 0), (47, .slice none 0 0), (51, .slice none 0 0), (61, .slice none 0 0), (40, .agg #[.int .u64 0, .int .u64 0, .int .u64 0, .int .u64 0]), (74, .agg (List.replicate 32 (.int .u8 0)).toArray), (110, .agg (List.replicate 9 (.slice none 0 0)).toArray), (118, .agg (List.replicate 12 (.int .u64 0)).toArray), (119, .agg (List.replicate 12 (.int .u64 0)).toArray), (133, .agg (List.replicate 5 (.int .u64 0)).toArray), (157, .agg #[]), (171, .agg (List.replicate 96 (.int .u8 0)).toArray), (7, .agg #[.int .i64 0, .int .i64 0, .bool false, .int .u8 0]), (8, .agg #[.int .i64 0, .int .i64 0, .bool false, .int .u8 0]), (13, .agg #[.string .empty, .int .u64 0]), (14, .agg #[.string .empty, .int .u64 0]), (18, .agg #[.pointer none]), (19, .agg #[.pointer none]), (23, .agg #[.int .i64 0, .int .i64 0, .int .i64 0, .slice none 0 0]), (24, .agg #[.int .i64 0, .int .i64 0, .int .i64 0, .slice none 0 0]), (27, .agg #[.int .i64 0, .int .i64 0, .int .i64 0, .slice none 0 0]), (41, .agg #[.int .u64 0, .int .u64 0, .int .u64 0, .int .u64 0]), (42, .agg #[.int .u64 0, .int .u64 0, .int .u64 0, .int .u64 0]), (64, .agg #[.int .i64 0, .int .i64 0, .int .i64 0, .string .empty]), (65, .agg #[.int .i64 0, .int .i64 0, .int .i64 0, .string .empty]), (89, .agg #[.int .i64 0, .int .i64 0, .int .i64 0, .string .empty]), (94, .agg #[.int .i64 0, .nilFunc, .slice none 0 0]), (95, .agg #[.int .i64 0, .nilFunc, .slice none 0 0]), (107, .agg #[.slice none 0 0, .int .u64 0, .slice none 0 0]), (108, .agg #[.slice none 0 0, .int .u64 0, .slice none 0 0]), (120, .agg (List.replicate 12 (.int .u64 0)).toArray), (121, .agg (List.replicate 12 (.int .u64 0)).toArray), (148, .agg #[.pointer none]), (149, .agg #[.pointer none]), (155, .agg #[.pointer none, .pointer none, .pointer none, .string .empty]), (156, .agg #[.pointer none, .pointer none, .pointer none, .string .empty]), (158, .agg #[]), (159, .agg #[]), (167, .agg #[.int .u64 0, .int .u64 0, .int .u32 0, .int .u8 0, .int .u8 0, .int .u8 0, .int .u8 0, .nilFunc, .pointer none, .int .i32 0, .int .i32 0]), (168, .agg #[.int .u64 0, .int .u64 0, .int .u32 0, .int .u8 0, .int .u8 0, .int .u8 0, .int .u8 0, .nilFunc, .pointer none, .int .i32 0, .int .i32 0]), (1, .nilFunc), (9, .string .empty), (10, .string .empty), (11, .string .empty), (15, .pointer none), (16, .pointer none), (17, .pointer none), (20, .nilIface), (25, .nilFunc), (26, .nilFunc), (28, .nilFunc), (30, .nilFunc), (31, .nilFunc), (32, .nilFunc), (34, .nilFunc), (35, .nilFunc), (38, .nilFunc), (43, .nilFunc), (44, .nilFunc), (45, .nilFunc), (46, .nilFunc), (49, .nilFunc), (50, .nilFunc), (52, .nilFunc), (53, .nilFunc), (54, .nilFunc), (55, .nilFunc), (57, .nilFunc), (58, .nilFunc), (59, .nilFunc), (60, .nilFunc), (62, .nilFunc), (63, .nilFunc), (67, .nilFunc), (68, .nilFunc), (70, .nilFunc), (71, .nilFunc), (72, .nilFunc), (73, .nilFunc), (75, .nilFunc), (76, .nilFunc), (78, .nilFunc), (79, .nilFunc), (80, .nilFunc), (81, .pointer none), (83, .nilFunc), (84, .nilFunc), (85, .nilFunc), (86, .nilFunc), (87, .nilFunc), (88, .nilFunc), (91, .nilFunc), (92, .nilFunc), (93, .nilFunc), (96, .nilFunc), (97, .nilFunc), (98, .nilFunc), (99, .nilFunc), (100, .nilFunc), (101, .nilFunc), (103, .nilFunc), (104, .nilFunc), (105, .nilFunc), (106, .nilFunc), (109, .nilFunc), (111, .nilFunc), (112, .nilFunc), (114, .nilFunc), (115, .nilFunc), (117, .nilFunc), (123, .nilFunc), (124, .nilFunc), (125, .nilFunc), (126, .nilFunc), (127, .nilFunc), (129, .nilFunc), (131, .nilFunc), (132, .nilFunc), (134, .nilFunc), (135, .nilFunc), (136, .pointer none), (137, .nilFunc), (139, .nilFunc), (140, .nilFunc), (141, .nilFunc), (142, .nilFunc), (143, .nilFunc), (144, .nilFunc), (146, .nilFunc), (147, .nilFunc), (150, .nilFunc), (151, .nilFunc), (152, .nilFunc), (153, .nilFunc), (154, .nilFunc), (163, .nilFunc), (164, .pointer none), (169, .nilFunc)]
  by' := [(2, 8), (3, 8), (5, 1), (6, 1), (12, 8), (21, 4), (36, 8), (39, 8), (56, 8), (160, 4), (161, 1), (162, 1), (165, 4), (166, 4), (4, 1), (22, 24), (29, 24), (33, 24), (47, 24), (51, 24), (61, 24), (40, 32), (74, 32), (110, 216), (118, 96), (119, 96), (133, 40), (157, 0), (171, 96), (7, 24), (8, 24), (13, 24), (14, 24), (18, 8), (19, 8), (23, 48), (24, 48), (27, 48), (41, 32), (42, 32), (64, 40), (65, 40), (89, 40), (94, 40), (95, 40), (107, 56), (108, 56), (120, 96), (121, 96), (148, 8), (149, 8), (155, 40), (156, 40), (158, 0), (159, 0), (167, 48), (168, 48), (1, 8), (9, 16), (10, 16), (11, 16), (15, 8), (16, 8), (17, 8), (20, 16), (25, 8), (26, 8), (28, 8), (30, 8), (31, 8), (32, 8), (34, 8), (35, 8), (38, 8), (43, 8), (44, 8), (45, 8), (46, 8), (49, 8), (50, 8), (52, 8), (53, 8), (54, 8), (55, 8), (57, 8), (58, 8), (59, 8), (60, 8), (62, 8), (63, 8), (67, 8), (68, 8), (70, 8), (71, 8), (72, 8), (73, 8), (75, 8), (76, 8), (78, 8), (79, 8), (80, 8), (81, 8), (83, 8), (84, 8), (85, 8), (86, 8), (87, 8), (88, 8), (91, 8), (92, 8), (93, 8), (96, 8), (97, 8), (98, 8), (99, 8), (100, 8), (101, 8), (103, 8), (104, 8), (105, 8), (106, 8), (109, 8), (111, 8), (112, 8), (114, 8), (115, 8), (117, 8), (123, 8), (124, 8), (125, 8), (126, 8), (127, 8), (129, 8), (131, 8), (132, 8), (134, 8), (135, 8), (136, 8), (137, 8), (139, 8), (140, 8), (141, 8), (142, 8), (143, 8), (144, 8), (146, 8), (147, 8), (150, 8), (151, 8), (152, 8), (153, 8), (154, 8), (163, 8), (164, 8), (169, 8)]
  fld := [((7, 0), 0, 2), ((7, 1), 1, 3), ((7, 2), 2, 4), ((7, 3), 3, 6), ((8, 0), 0, 2), ((8, 1), 1, 3), ((8, 2), 2, 4), ((8, 3), 3, 6), ((13, 0), 0, 9), ((13, 1), 1, 12), ((14, 0), 0, 9), ((14, 1), 1, 12), ((18, 0), 0, 17), ((19, 0), 0, 17), ((23, 0), 0, 3), ((23, 1), 1, 3), ((23, 2), 2, 3), ((23, 3), 3, 22), ((24, 0), 0, 3), ((24, 1), 1, 3), ((24, 2), 2, 3), ((24, 3), 3, 22), ((27, 0), 0, 3), ((27, 1), 1, 3), ((27, 2), 2, 3), ((27, 3), 3, 22), ((41, 0), 0, 40), ((42, 0), 0, 40), ((64, 0), 0, 3), ((64, 1), 1, 3), ((64, 2), 2, 3), ((64, 3), 3, 9), ((65, 0), 0, 3), ((65, 1), 1, 3), ((65, 2), 2, 3), ((65, 3), 3, 9), ((89, 0), 0, 3), ((89, 1), 1, 3), ((89, 2), 2, 3), ((89, 3), 3, 9), ((94, 0), 0, 3), ((94, 1), 1, 93), ((94, 2), 2, 61), ((95, 0), 0, 3), ((95, 1), 1, 93), ((95, 2), 2, 61), ((107, 0), 0, 51), ((107, 1), 1, 39), ((107, 2), 2, 51), ((108, 0), 0, 51), ((108, 1), 1, 39), ((108, 2), 2, 51), ((120, 0), 0, 119), ((121, 0), 0, 119), ((148, 0), 0, 81), ((149, 0), 0, 81), ((155, 0), 0, 17), ((155, 1), 1, 17), ((155, 2), 2, 17), ((155, 3), 3, 9), ((156, 0), 0, 17), ((156, 1), 1, 17), ((156, 2), 2, 17), ((156, 3), 3, 9), ((158, 0), 0, 157), ((159, 0), 0, 157), ((167, 0), 0, 12), ((167, 1), 1, 12), ((167, 2), 2, 160), ((167, 3), 3, 161), ((167, 4), 4, 5), ((167, 5), 5, 5), ((167, 6), 6, 162), ((167, 7), 7, 163), ((167, 8), 8, 164), ((167, 9), 9, 165), ((167, 10), 10, 166), ((168, 0), 0, 12), ((168, 1), 1, 12), ((168, 2), 2, 160), ((168, 3), 3, 161), ((168, 4), 4, 5), ((168, 5), 5, 5), ((168, 6), 6, 162), ((168, 7), 7, 163), ((168, 8), 8, 164), ((168, 9), 9, 165), ((168, 10), 10, 166)]
theorem of_map {α β γ : Type} [BEq α] [LawfulBEq α] {f g : α × β → γ} : ∀ {l : List (α × β)}, l.map f = l.map g → ∀ a b, l.lookup a = some b → f (a, b) = g (a, b)
  | [], _, a, b, h => by simp at h
  | (x, y) :: l, hl, a, b, h => by
    rw [List.map_cons, List.map_cons, List.cons.injEq] at hl
    rw [List.lookup_cons] at h
    split at h
    · rename_i he
      have := eq_of_beq he
      subst this
      cases h
      exact hl.1
    · exact of_map hl.2 a b h
def fldOf (P : Program) (t f : Nat) : Option (Nat × Nat) := match P.underlying t with
  | some (.struct fs) => fs[f]?.map fun d => (d.offset, d.type)
  | _ => none
theorem fldOf_some {P : Program} {t f o t' : Nat} (h : fldOf P t f = some (o, t')) : ∃ fs fd, P.underlying t = some (.struct fs) ∧ fs[f]? = some fd ∧ fd.offset = o ∧ fd.type = t' := by
  unfold fldOf at h
  split at h
  · rename_i fs hu
    cases hf : fs[f]? with
    | none => rw [hf] at h; cases h
    | some d => rw [hf] at h; cases h; exact ⟨fs, d, hu, hf, rfl, rfl⟩
  · cases h
set_option maxRecDepth 100000 in
theorem tbok : TabOk Tryz.prog Tb where
  sl := fun t e h => of_map (f := fun p => Tryz.prog.underlying p.1) (g := fun p => some (.slice p.2)) (by kernel_rfl) t e h
  arr := fun t n e h => of_map (f := fun p => Tryz.prog.underlying p.1) (g := fun p => some (.array p.2.1 p.2.2)) (by kernel_rfl) t (n, e) h
  int := fun t e h => of_map (f := fun p => Tryz.prog.underlying p.1) (g := fun p => some (.int p.2)) (by kernel_rfl) t e h
  sz := fun t e h => of_map (f := fun p => (Tryz.prog.info? p.1).map (·.size)) (g := fun p => some p.2) (by kernel_rfl) t e h
  zero := fun t e h => of_map (f := fun p => (Tryz.prog.info? p.1).map (·.zero)) (g := fun p => some (some p.2)) (by kernel_rfl) t e h
  by' := fun t e h => of_map (f := fun p => (Tryz.prog.info? p.1).map (·.bytes)) (g := fun p => some p.2) (by kernel_rfl) t e h
  agg := fun t e h => Prod.mk.inj (of_map (f := fun p => ((Tryz.prog.underlying p.1).isSome, aggB Tryz.prog p.1)) (g := fun p => (true, p.2)) (by kernel_rfl) t e h)
  fld := fun t f o t' h => fldOf_some (of_map (f := fun p => fldOf Tryz.prog p.1.1 p.1.2) (g := fun p => some p.2) (by kernel_rfl) (t, f) (o, t') h)
theorem pl_of {P : Program} {t : Nat} {fs : Array Field} (hu : P.underlying t = some (.struct fs)) {l : List (Nat × Nat)} (h : fs.toList.map (fun f => (f.offset, (P.info? f.type).map (·.size))) = l.map fun q => (q.1, some q.2)) : ∃ fs, P.underlying t = some (.struct fs) ∧ placesOf P fs l :=
  ⟨fs, hu, by simpa using congrArg List.length h, fun k f q h1 h2 => by
    have := congrArg (fun l : List (Nat × Option Nat) => l[k]?) h
    simp only [List.getElem?_map, Array.getElem?_toList, h1, h2, Option.map_some, Option.some.injEq, Prod.mk.injEq] at this
    exact this⟩
theorem pl24 : ∃ fs, Tryz.prog.underlying 24 = some (.struct fs) ∧ placesOf Tryz.prog fs [(0, 1), (1, 1), (2, 1), (3, 1)] := pl_of Tryz.underlying24 (by kernel_rfl)
theorem zr24 : (Tryz.prog.info? 24).map (·.zero) = some (some (.agg #[.int .i64 0, .int .i64 0, .int .i64 0, .slice none 0 0])) := tbok.zero _ _ rfl
theorem pl27 : ∃ fs, Tryz.prog.underlying 27 = some (.struct fs) ∧ placesOf Tryz.prog fs [(0, 1), (1, 1), (2, 1), (3, 1)] := pl_of Tryz.underlying27 (by kernel_rfl)
theorem zr27 : (Tryz.prog.info? 27).map (·.zero) = some (some (.agg #[.int .i64 0, .int .i64 0, .int .i64 0, .slice none 0 0])) := tbok.zero _ _ rfl
theorem pl42 : ∃ fs, Tryz.prog.underlying 42 = some (.struct fs) ∧ placesOf Tryz.prog fs [(0, 4)] := pl_of Tryz.underlying42 (by kernel_rfl)
theorem zr42 : (Tryz.prog.info? 42).map (·.zero) = some (some (.agg #[.int .u64 0, .int .u64 0, .int .u64 0, .int .u64 0])) := tbok.zero _ _ rfl
theorem pl65 : ∃ fs, Tryz.prog.underlying 65 = some (.struct fs) ∧ placesOf Tryz.prog fs [(0, 1), (1, 1), (2, 1), (3, 1)] := pl_of Tryz.underlying65 (by kernel_rfl)
theorem zr65 : (Tryz.prog.info? 65).map (·.zero) = some (some (.agg #[.int .i64 0, .int .i64 0, .int .i64 0, .string .empty])) := tbok.zero _ _ rfl
theorem pl89 : ∃ fs, Tryz.prog.underlying 89 = some (.struct fs) ∧ placesOf Tryz.prog fs [(0, 1), (1, 1), (2, 1), (3, 1)] := pl_of Tryz.underlying89 (by kernel_rfl)
theorem zr89 : (Tryz.prog.info? 89).map (·.zero) = some (some (.agg #[.int .i64 0, .int .i64 0, .int .i64 0, .string .empty])) := tbok.zero _ _ rfl
theorem pl95 : ∃ fs, Tryz.prog.underlying 95 = some (.struct fs) ∧ placesOf Tryz.prog fs [(0, 1), (1, 1), (2, 1)] := pl_of Tryz.underlying95 (by kernel_rfl)
theorem zr95 : (Tryz.prog.info? 95).map (·.zero) = some (some (.agg #[.int .i64 0, .nilFunc, .slice none 0 0])) := tbok.zero _ _ rfl
theorem pl108 : ∃ fs, Tryz.prog.underlying 108 = some (.struct fs) ∧ placesOf Tryz.prog fs [(0, 1), (1, 1), (2, 1)] := pl_of Tryz.underlying108 (by kernel_rfl)
theorem zr108 : (Tryz.prog.info? 108).map (·.zero) = some (some (.agg #[.slice none 0 0, .int .u64 0, .slice none 0 0])) := tbok.zero _ _ rfl
theorem pl121 : ∃ fs, Tryz.prog.underlying 121 = some (.struct fs) ∧ placesOf Tryz.prog fs [(0, 12)] := pl_of Tryz.underlying121 (by kernel_rfl)
theorem zr121 : (Tryz.prog.info? 121).map (·.zero) = some (some (.agg (List.replicate 12 (.int .u64 0)).toArray)) := tbok.zero _ _ rfl
theorem pl149 : ∃ fs, Tryz.prog.underlying 149 = some (.struct fs) ∧ placesOf Tryz.prog fs [(0, 1)] := pl_of Tryz.underlying149 (by kernel_rfl)
theorem zr149 : (Tryz.prog.info? 149).map (·.zero) = some (some (.agg #[.pointer none])) := tbok.zero _ _ rfl
theorem bo {f : FuncId} {fn : Func} (h : Tryz.prog.funcs[f]? = some fn) (hb : ((fn.name == "runtime.NumGoroutine"), fn.body.isNone) = (false, false)) : Bodied Tryz.prog f := ⟨fn, h, (Prod.mk.inj hb).1, (Prod.mk.inj hb).2⟩
theorem bd5 : Bodied Tryz.prog 5 := bo Tryz.func5 (by kernel_rfl)
theorem bd6 : Bodied Tryz.prog 6 := bo Tryz.func6 (by kernel_rfl)
theorem bd8 : Bodied Tryz.prog 8 := bo Tryz.func8 (by kernel_rfl)
theorem bd12 : Bodied Tryz.prog 12 := bo Tryz.func12 (by kernel_rfl)
theorem bd13 : Bodied Tryz.prog 13 := bo Tryz.func13 (by kernel_rfl)
theorem bd14 : Bodied Tryz.prog 14 := bo Tryz.func14 (by kernel_rfl)
theorem bd15 : Bodied Tryz.prog 15 := bo Tryz.func15 (by kernel_rfl)
theorem bd16 : Bodied Tryz.prog 16 := bo Tryz.func16 (by kernel_rfl)
theorem bd17 : Bodied Tryz.prog 17 := bo Tryz.func17 (by kernel_rfl)
theorem bd18 : Bodied Tryz.prog 18 := bo Tryz.func18 (by kernel_rfl)
theorem bd19 : Bodied Tryz.prog 19 := bo Tryz.func19 (by kernel_rfl)
theorem bd20 : Bodied Tryz.prog 20 := bo Tryz.func20 (by kernel_rfl)
theorem bd21 : Bodied Tryz.prog 21 := bo Tryz.func21 (by kernel_rfl)
theorem bd22 : Bodied Tryz.prog 22 := bo Tryz.func22 (by kernel_rfl)
theorem bd23 : Bodied Tryz.prog 23 := bo Tryz.func23 (by kernel_rfl)
theorem bd26 : Bodied Tryz.prog 26 := bo Tryz.func26 (by kernel_rfl)
theorem bd28 : Bodied Tryz.prog 28 := bo Tryz.func28 (by kernel_rfl)
theorem bd29 : Bodied Tryz.prog 29 := bo Tryz.func29 (by kernel_rfl)
theorem bd30 : Bodied Tryz.prog 30 := bo Tryz.func30 (by kernel_rfl)
theorem bd31 : Bodied Tryz.prog 31 := bo Tryz.func31 (by kernel_rfl)
theorem bd32 : Bodied Tryz.prog 32 := bo Tryz.func32 (by kernel_rfl)
theorem bd33 : Bodied Tryz.prog 33 := bo Tryz.func33 (by kernel_rfl)
theorem bd34 : Bodied Tryz.prog 34 := bo Tryz.func34 (by kernel_rfl)
theorem bd35 : Bodied Tryz.prog 35 := bo Tryz.func35 (by kernel_rfl)
theorem bd36 : Bodied Tryz.prog 36 := bo Tryz.func36 (by kernel_rfl)
theorem bd37 : Bodied Tryz.prog 37 := bo Tryz.func37 (by kernel_rfl)
theorem bd38 : Bodied Tryz.prog 38 := bo Tryz.func38 (by kernel_rfl)
theorem bd39 : Bodied Tryz.prog 39 := bo Tryz.func39 (by kernel_rfl)
theorem bd40 : Bodied Tryz.prog 40 := bo Tryz.func40 (by kernel_rfl)
theorem bd41 : Bodied Tryz.prog 41 := bo Tryz.func41 (by kernel_rfl)
theorem bd42 : Bodied Tryz.prog 42 := bo Tryz.func42 (by kernel_rfl)
theorem bd43 : Bodied Tryz.prog 43 := bo Tryz.func43 (by kernel_rfl)
theorem bd44 : Bodied Tryz.prog 44 := bo Tryz.func44 (by kernel_rfl)
theorem bd45 : Bodied Tryz.prog 45 := bo Tryz.func45 (by kernel_rfl)
theorem bd46 : Bodied Tryz.prog 46 := bo Tryz.func46 (by kernel_rfl)
theorem bd47 : Bodied Tryz.prog 47 := bo Tryz.func47 (by kernel_rfl)
theorem bd48 : Bodied Tryz.prog 48 := bo Tryz.func48 (by kernel_rfl)
theorem bd49 : Bodied Tryz.prog 49 := bo Tryz.func49 (by kernel_rfl)
theorem bd50 : Bodied Tryz.prog 50 := bo Tryz.func50 (by kernel_rfl)
theorem bd51 : Bodied Tryz.prog 51 := bo Tryz.func51 (by kernel_rfl)
theorem bd52 : Bodied Tryz.prog 52 := bo Tryz.func52 (by kernel_rfl)
theorem bd53 : Bodied Tryz.prog 53 := bo Tryz.func53 (by kernel_rfl)
theorem bd55 : Bodied Tryz.prog 55 := bo Tryz.func55 (by kernel_rfl)
theorem bd56 : Bodied Tryz.prog 56 := bo Tryz.func56 (by kernel_rfl)
theorem bd57 : Bodied Tryz.prog 57 := bo Tryz.func57 (by kernel_rfl)
theorem bd58 : Bodied Tryz.prog 58 := bo Tryz.func58 (by kernel_rfl)
theorem bd59 : Bodied Tryz.prog 59 := bo Tryz.func59 (by kernel_rfl)
theorem bd60 : Bodied Tryz.prog 60 := bo Tryz.func60 (by kernel_rfl)
theorem bd61 : Bodied Tryz.prog 61 := bo Tryz.func61 (by kernel_rfl)
theorem bd62 : Bodied Tryz.prog 62 := bo Tryz.func62 (by kernel_rfl)
theorem bd63 : Bodied Tryz.prog 63 := bo Tryz.func63 (by kernel_rfl)
theorem bd64 : Bodied Tryz.prog 64 := bo Tryz.func64 (by kernel_rfl)
theorem bd65 : Bodied Tryz.prog 65 := bo Tryz.func65 (by kernel_rfl)
theorem bd66 : Bodied Tryz.prog 66 := bo Tryz.func66 (by kernel_rfl)
theorem bd67 : Bodied Tryz.prog 67 := bo Tryz.func67 (by kernel_rfl)
theorem bd68 : Bodied Tryz.prog 68 := bo Tryz.func68 (by kernel_rfl)
theorem bd69 : Bodied Tryz.prog 69 := bo Tryz.func69 (by kernel_rfl)
theorem bd70 : Bodied Tryz.prog 70 := bo Tryz.func70 (by kernel_rfl)
theorem bd71 : Bodied Tryz.prog 71 := bo Tryz.func71 (by kernel_rfl)
theorem bd72 : Bodied Tryz.prog 72 := bo Tryz.func72 (by kernel_rfl)
theorem bd73 : Bodied Tryz.prog 73 := bo Tryz.func73 (by kernel_rfl)
theorem bd74 : Bodied Tryz.prog 74 := bo Tryz.func74 (by kernel_rfl)
theorem bd75 : Bodied Tryz.prog 75 := bo Tryz.func75 (by kernel_rfl)
theorem bd76 : Bodied Tryz.prog 76 := bo Tryz.func76 (by kernel_rfl)
theorem bd77 : Bodied Tryz.prog 77 := bo Tryz.func77 (by kernel_rfl)
theorem bd78 : Bodied Tryz.prog 78 := bo Tryz.func78 (by kernel_rfl)
theorem bd79 : Bodied Tryz.prog 79 := bo Tryz.func79 (by kernel_rfl)
theorem bd80 : Bodied Tryz.prog 80 := bo Tryz.func80 (by kernel_rfl)
theorem bd81 : Bodied Tryz.prog 81 := bo Tryz.func81 (by kernel_rfl)
theorem bd82 : Bodied Tryz.prog 82 := bo Tryz.func82 (by kernel_rfl)
theorem bd83 : Bodied Tryz.prog 83 := bo Tryz.func83 (by kernel_rfl)
theorem bd84 : Bodied Tryz.prog 84 := bo Tryz.func84 (by kernel_rfl)
theorem bd86 : Bodied Tryz.prog 86 := bo Tryz.func86 (by kernel_rfl)
theorem bd87 : Bodied Tryz.prog 87 := bo Tryz.func87 (by kernel_rfl)
theorem bd88 : Bodied Tryz.prog 88 := bo Tryz.func88 (by kernel_rfl)
theorem bd89 : Bodied Tryz.prog 89 := bo Tryz.func89 (by kernel_rfl)
theorem bd90 : Bodied Tryz.prog 90 := bo Tryz.func90 (by kernel_rfl)
theorem bd91 : Bodied Tryz.prog 91 := bo Tryz.func91 (by kernel_rfl)
theorem bd92 : Bodied Tryz.prog 92 := bo Tryz.func92 (by kernel_rfl)
theorem bd93 : Bodied Tryz.prog 93 := bo Tryz.func93 (by kernel_rfl)
theorem bd94 : Bodied Tryz.prog 94 := bo Tryz.func94 (by kernel_rfl)
theorem bd95 : Bodied Tryz.prog 95 := bo Tryz.func95 (by kernel_rfl)
theorem bd96 : Bodied Tryz.prog 96 := bo Tryz.func96 (by kernel_rfl)
theorem bd97 : Bodied Tryz.prog 97 := bo Tryz.func97 (by kernel_rfl)
theorem bd98 : Bodied Tryz.prog 98 := bo Tryz.func98 (by kernel_rfl)
theorem bd100 : Bodied Tryz.prog 100 := bo Tryz.func100 (by kernel_rfl)
theorem bd101 : Bodied Tryz.prog 101 := bo Tryz.func101 (by kernel_rfl)
theorem bd102 : Bodied Tryz.prog 102 := bo Tryz.func102 (by kernel_rfl)
theorem bd103 : Bodied Tryz.prog 103 := bo Tryz.func103 (by kernel_rfl)
theorem bd104 : Bodied Tryz.prog 104 := bo Tryz.func104 (by kernel_rfl)
theorem bd105 : Bodied Tryz.prog 105 := bo Tryz.func105 (by kernel_rfl)
theorem bd106 : Bodied Tryz.prog 106 := bo Tryz.func106 (by kernel_rfl)
theorem bd107 : Bodied Tryz.prog 107 := bo Tryz.func107 (by kernel_rfl)
theorem bd108 : Bodied Tryz.prog 108 := bo Tryz.func108 (by kernel_rfl)
theorem bd109 : Bodied Tryz.prog 109 := bo Tryz.func109 (by kernel_rfl)
theorem bd110 : Bodied Tryz.prog 110 := bo Tryz.func110 (by kernel_rfl)
theorem bd111 : Bodied Tryz.prog 111 := bo Tryz.func111 (by kernel_rfl)
theorem bd112 : Bodied Tryz.prog 112 := bo Tryz.func112 (by kernel_rfl)
theorem bd113 : Bodied Tryz.prog 113 := bo Tryz.func113 (by kernel_rfl)
theorem bd114 : Bodied Tryz.prog 114 := bo Tryz.func114 (by kernel_rfl)
theorem mixed : Tryz.prog.follows .mixedOrders = true := by kernel_rfl
end Go.Proofs.YtpahdiljpnfkdaaGreat
namespace Go.Proofs.YtpahdiljpnfkdaaGreat
open Go Sim
def num (B : Nat) : List Nat → Nat
  | [] => 0
  | x :: r => x + B * num B r
def digs (B : Nat) : Nat → Nat → List Nat
  | 0, _ => []
  | n + 1, v => v % B :: digs B n (v / B)
def bd (B : Nat) (l : List Nat) : Prop := ∀ x ∈ l, x < B
section
variable {B : Nat}
theorem digs_len (n v : Nat) : (digs B n v).length = n := by
  induction n generalizing v with
  | zero => rfl
  | succ n ih => simp [digs, ih]
theorem digs_bd (hB : 0 < B) (n v : Nat) : bd B (digs B n v) := by
  induction n generalizing v with
  | zero => intro x hx; simp [digs] at hx
  | succ n ih =>
    intro x hx
    simp only [digs, List.mem_cons] at hx
    rcases hx with rfl | hx
    · exact Nat.mod_lt _ hB
    · exact ih _ x hx
theorem num_digs (n v : Nat) : num B (digs B n v) = v % B ^ n := by
  induction n generalizing v with
  | zero => simp [digs, num, Nat.mod_one]
  | succ n ih =>
    simp only [digs, num, ih]
    rw [Nat.pow_succ, Nat.mul_comm (B ^ n) B, Nat.mod_mul]
theorem num_digs_lt {n v : Nat} (h : v < B ^ n) : num B (digs B n v) = v := by rw [num_digs, Nat.mod_eq_of_lt h]
theorem bd_cons {x : Nat} {r : List Nat} : bd B (x :: r) ↔ x < B ∧ bd B r := by simp [bd]
theorem bd_nil : bd B [] := fun x hx => by simp at hx
theorem num_lt {l : List Nat} (h : bd B l) : num B l < B ^ l.length := by
  induction l with
  | nil => simp [num]
  | cons x r ih =>
    obtain ⟨h1, h2⟩ := bd_cons.1 h
    have := ih h2
    simp only [num, List.length_cons, Nat.pow_succ]
    have h3 : B * (num B r + 1) ≤ B * B ^ r.length := Nat.mul_le_mul_left _ this
    rw [Nat.mul_add, Nat.mul_one] at h3
    rw [Nat.mul_comm (B ^ r.length) B]
    omega
theorem digs_num {l : List Nat} (h : bd B l) : digs B l.length (num B l) = l := by
  induction l with
  | nil => rfl
  | cons x r ih =>
    obtain ⟨h1, h2⟩ := bd_cons.1 h
    simp only [List.length_cons, digs, num]
    rw [Nat.add_mul_mod_self_left, Nat.mod_eq_of_lt h1, Nat.add_mul_div_left _ _ (by omega), Nat.div_eq_of_lt h1, Nat.zero_add, ih h2]
theorem num_inj {l r : List Nat} (hl : bd B l) (hr : bd B r) (hlen : l.length = r.length) (h : num B l = num B r) : l = r := by
  rw [← digs_num hl, ← digs_num hr, hlen, h]
theorem num_getD {l : List Nat} (h : bd B l) (hB : 0 < B) (i : Nat) : l.getD i 0 = num B l / B ^ i % B := by
  induction l generalizing i with
  | nil => simp [num]
  | cons x r ih =>
    obtain ⟨h1, h2⟩ := bd_cons.1 h
    cases i with
    | zero => simp [num, Nat.mod_eq_of_lt h1]
    | succ i =>
      simp only [List.getD_cons_succ, ih h2, num]
      rw [Nat.pow_succ, Nat.mul_comm (B ^ i) B, ← Nat.div_div_eq_div_mul, Nat.add_mul_div_left _ _ hB, Nat.div_eq_of_lt h1, Nat.zero_add]
theorem digs_getD (_hB : 0 < B) {n v i : Nat} (hi : i < n) : (digs B n v).getD i 0 = v / B ^ i % B := by
  induction n generalizing v i with
  | zero => omega
  | succ n ih =>
    cases i with
    | zero => simp [digs]
    | succ i =>
      simp only [digs, List.getD_cons_succ]
      rw [ih (by omega), Nat.div_div_eq_div_mul, Nat.pow_succ, Nat.mul_comm (B ^ i) B]
theorem num_append (l r : List Nat) : num B (l ++ r) = num B l + B ^ l.length * num B r := by
  induction l with
  | nil => simp [num]
  | cons x l ih =>
    simp only [List.cons_append, num, ih, List.length_cons, Nat.pow_succ, Nat.mul_add]
    rw [Nat.mul_comm (B ^ l.length) B, Nat.mul_assoc]
    omega
theorem num_replicate (n : Nat) : num B (List.replicate n 0) = 0 := by
  induction n with
  | zero => rfl
  | succ n ih => simp [List.replicate_succ, num, ih]
theorem num_set {l : List Nat} {k v : Nat} (hk : k < l.length) : num B (l.set k v) + l.getD k 0 * B ^ k = num B l + v * B ^ k := by
  induction l generalizing k with
  | nil => simp at hk
  | cons x l ih =>
    cases k with
    | zero => simp only [List.set_cons_zero, num, List.getD_cons_zero, Nat.pow_zero, Nat.mul_one]; omega
    | succ k =>
      have := ih (k := k) (by simpa using hk)
      simp only [List.set_cons_succ, num, List.getD_cons_succ, Nat.pow_succ]
      have e : ∀ z, z * (B ^ k * B) = B * (z * B ^ k) := fun z => by rw [← Nat.mul_assoc, Nat.mul_comm]
      rw [e, e]
      have h2 : B * (num B (l.set k v) + l.getD k 0 * B ^ k) = B * (num B l + v * B ^ k) := by rw [this]
      rw [Nat.mul_add, Nat.mul_add] at h2
      omega
theorem bd_set {l : List Nat} {k v : Nat} (h : bd B l) (hv : v < B) : bd B (l.set k v) := by
  intro x hx
  rcases List.mem_or_eq_of_mem_set hx with h1 | h1
  · exact h x h1
  · rw [h1]; exact hv
theorem bd_replicate (hB : 0 < B) (n : Nat) : bd B (List.replicate n 0) := by
  intro x hx; rw [List.eq_of_mem_replicate hx]; exact hB
theorem bd_append {l r : List Nat} (h : bd B l) (h' : bd B r) : bd B (l ++ r) := by
  intro x hx; rcases List.mem_append.1 hx with hx | hx
  · exact h x hx
  · exact h' x hx
theorem bd_getD {l : List Nat} (h : bd B l) (hB : 0 < B) (i : Nat) : l.getD i 0 < B := by
  rw [num_getD h hB]; exact Nat.mod_lt _ hB
theorem bd_take {l : List Nat} (h : bd B l) (i : Nat) : bd B (l.take i) := fun x hx => h x (List.mem_of_mem_take hx)
theorem bd_drop {l : List Nat} (h : bd B l) (i : Nat) : bd B (l.drop i) := fun x hx => h x (List.mem_of_mem_drop hx)
theorem num_take {l : List Nat} (h : bd B l) (i : Nat) : num B (l.take i) = num B l % B ^ i := by
  induction l generalizing i with
  | nil => simp [num]
  | cons x l ih =>
    obtain ⟨h1, h2⟩ := bd_cons.1 h
    cases i with
    | zero => simp [num, Nat.mod_one]
    | succ i =>
      simp only [List.take_succ_cons, num, ih h2]
      rw [Nat.pow_succ, Nat.mul_comm (B ^ i) B, Nat.mod_mul, Nat.add_mul_mod_self_left, Nat.mod_eq_of_lt h1, Nat.add_mul_div_left _ _ (by omega), Nat.div_eq_of_lt h1, Nat.zero_add]
theorem num_take_drop (l : List Nat) (i : Nat) (hi : i ≤ l.length) : num B l = num B (l.take i) + B ^ i * num B (l.drop i) := by
  conv => lhs; rw [← List.take_append_drop i l, num_append]
  rw [List.length_take, Nat.min_eq_left hi]
theorem num_take_succ (l : List Nat) (i : Nat) : num B (l.take (i + 1)) = num B (l.take i) + l.getD i 0 * B ^ i := by
  induction l generalizing i with
  | nil => simp [num]
  | cons x l ih =>
    cases i with
    | zero => simp [num]
    | succ i =>
      simp only [List.take_succ_cons, num, ih, List.getD_cons_succ, Nat.mul_add, Nat.pow_succ]
      rw [Nat.add_assoc]; congr 2
      rw [← Nat.mul_assoc, Nat.mul_comm B, Nat.mul_right_comm, Nat.mul_assoc]
theorem mod_succ (v i : Nat) : v % B ^ (i + 1) = v % B ^ i + B ^ i * (v / B ^ i % B) := Nat.mod_pow_succ
def dgo (B : Nat) : Nat → Nat → List Nat
  | 0, _ => []
  | f + 1, v => if v = 0 then [] else v % B :: dgo B f (v / B)
def D (B v : Nat) : List Nat := dgo B v v
theorem dgo_fuel (hB : 2 ≤ B) : ∀ (f g v : Nat), v ≤ f → v ≤ g → dgo B f v = dgo B g v := by
  intro f
  induction f with
  | zero =>
    intro g v h1 h2
    obtain rfl : v = 0 := by omega
    cases g <;> simp [dgo]
  | succ f ih =>
    intro g v h1 h2
    cases g with
    | zero =>
      obtain rfl : v = 0 := by omega
      simp [dgo]
    | succ g =>
      simp only [dgo]
      split
      · rfl
      · have : v / B < v := Nat.div_lt_self (by omega) (by omega)
        rw [ih g (v / B) (by omega) (by omega)]
theorem D_zero : D B 0 = [] := rfl
theorem D_pos (hB : 2 ≤ B) {v : Nat} (hv : v ≠ 0) : D B v = v % B :: D B (v / B) := by
  obtain ⟨w, rfl⟩ : ∃ w, v = w + 1 := ⟨v - 1, by omega⟩
  have h1 : (w + 1) / B < w + 1 := Nat.div_lt_self (by omega) (by omega)
  simp only [D, dgo, Nat.add_one_ne_zero, if_false]
  rw [dgo_fuel hB w ((w + 1) / B) _ (by omega) (Nat.le_refl _)]
theorem D_ind (hB : 2 ≤ B) {p : Nat → Prop} (h0 : p 0) (h1 : ∀ v, v ≠ 0 → p (v / B) → p v) (v : Nat) : p v := by
  induction v using Nat.strongRecOn with
  | _ v ih =>
    by_cases hv : v = 0
    · rw [hv]; exact h0
    · exact h1 v hv (ih _ (Nat.div_lt_self (by omega) (by omega)))
theorem num_D (hB : 2 ≤ B) (v : Nat) : num B (D B v) = v := by
  induction v using D_ind hB with
  | h0 => rfl
  | h1 v hv ih => rw [D_pos hB hv, num, ih]; exact Nat.mod_add_div v B
theorem bd_D (hB : 2 ≤ B) (v : Nat) : bd B (D B v) := by
  induction v using D_ind hB with
  | h0 => exact bd_nil
  | h1 v hv ih => rw [D_pos hB hv]; exact bd_cons.2 ⟨Nat.mod_lt _ (by omega), ih⟩
theorem D_len_le (hB : 2 ≤ B) (v n : Nat) : (D B v).length ≤ n ↔ v < B ^ n := by
  induction v using D_ind hB generalizing n with
  | h0 => simp [D_zero, Nat.pow_pos (show 0 < B by omega)]
  | h1 v hv ih =>
    rw [D_pos hB hv]
    cases n with
    | zero => simp; omega
    | succ n =>
      simp only [List.length_cons, Nat.add_le_add_iff_right, ih]
      rw [Nat.div_lt_iff_lt_mul (by omega), Nat.pow_succ]
theorem D_getD (hB : 2 ≤ B) (v i : Nat) : (D B v).getD i 0 = v / B ^ i % B := by
  rw [num_getD (bd_D hB v) (by omega), num_D hB]
theorem D_take (hB : 2 ≤ B) {l : List Nat} (h : bd B l) : D B (num B l) = l.take (D B (num B l)).length := by
  refine num_inj (bd_D hB _) (bd_take h _) ?_ ?_
  · rw [List.length_take, Nat.min_eq_left ((D_len_le hB _ _).2 (num_lt h))]
  · rw [num_D hB, num_take h, Nat.mod_eq_of_lt ((D_len_le hB _ _).1 (Nat.le_refl _))]
theorem D_stop (hB : 2 ≤ B) {l : List Nat} (h : bd B l) {n : Nat} (hn : n ≤ l.length) (h0 : num B (l.drop n) = 0) (h1 : n = 0 ∨ l.getD (n - 1) 0 ≠ 0) : (D B (num B l)).length = n := by
  have e : num B l = num B (l.take n) := by rw [num_take_drop l n hn, h0]; simp
  have hl : num B l < B ^ n := by
    rw [e]; have := num_lt (bd_take h n); rwa [List.length_take, Nat.min_eq_left hn] at this
  refine Nat.le_antisymm ((D_len_le hB _ _).2 hl) ?_
  rcases Nat.lt_or_ge (D B (num B l)).length n with hlt | hge
  · exfalso
    have h2 := (D_len_le hB _ _).1 (Nat.le_refl (D B (num B l)).length)
    rcases h1 with h1 | h1
    · omega
    · apply h1
      rw [num_getD h (by omega), Nat.div_eq_of_lt, Nat.zero_mod]
      exact Nat.lt_of_lt_of_le h2 (Nat.pow_le_pow_right (by omega) (by omega))
  · exact hge
end
end Go.Proofs.YtpahdiljpnfkdaaGreat
namespace Go.Proofs.YtpahdiljpnfkdaaGreat
open Go Sim
section
variable {P : Program} {ops : Array Oper} {n i : Nat} {os : List Oper} {E : Env} {M : Mem} {D : List Eff → Prop} {K : ASt → Prop}
  {d : Tmp} {ty : TypeId} {ps : String} {af : Array Edge} {g : Option (Nat × Bool)} {o : Op} {x y ix : Operand} {t t' e : TypeId} {v : Value}
theorem yP (hs : PureOp P o E v) (hr : AWo P ops n (i + 1) os ⟨upd E d v, M⟩ (fun es => D (⟨[], []⟩ :: es)) K) (hw : wantA ops E ⟨some d, o, ty, ps, af, g⟩ = some true := by exact rfl) (hd : Nat.blt d n = true := by exact rfl) :
    AWo P ops n i (⟨some d, o, ty, ps, af, g⟩ :: os) ⟨E, M⟩ D K := AWo.pure hs hw hd hr
theorem yM (hr : AWo P ops n (i + 1) os ⟨upd E d v, M⟩ (fun es => D (⟨[], []⟩ :: es)) K) (h : aev E x = some v := by exact rfl) (hw : wantA ops E ⟨some d, .move x, ty, ps, af, g⟩ = some true := by exact rfl) (hd : Nat.blt d n = true := by exact rfl) :
    AWo P ops n i (⟨some d, .move x, ty, ps, af, g⟩ :: os) ⟨E, M⟩ D K := AWo.pure (PureOp.move h) hw hd hr
theorem yA (hr : AWo P ops n (i + 1) os ⟨upd E d v, M⟩ (fun es => D (⟨[], []⟩ :: es)) K) (h : aev E x = some v := by exact rfl) (hw : wantA ops E ⟨some d, .assign x, ty, ps, af, g⟩ = some true := by exact rfl) (hd : Nat.blt d n = true := by exact rfl) :
    AWo P ops n i (⟨some d, .assign x, ty, ps, af, g⟩ :: os) ⟨E, M⟩ D K := AWo.pure (PureOp.assign h) hw hd hr
theorem yK (hr : AWo P ops n (i + 1) os ⟨upd E d undef, M⟩ (fun es => D (⟨[], []⟩ :: es)) K) (hw : wantA ops E ⟨some d, o, ty, ps, af, g⟩ = some false := by exact rfl) (hd : Nat.blt d n = true := by exact rfl) :
    AWo P ops n i (⟨some d, o, ty, ps, af, g⟩ :: os) ⟨E, M⟩ D K := AWo.skipped hw hd hr
theorem yB {b : Bool} (hs : PureOp P o E (.bool b)) (hT : b = true → AWo P ops n (i + 1) os ⟨upd E d (.bool true), M⟩ (fun es => D (⟨[], []⟩ :: es)) K)
    (hF : b = false → AWo P ops n (i + 1) os ⟨upd E d (.bool false), M⟩ (fun es => D (⟨[], []⟩ :: es)) K) (hw : wantA ops E ⟨some d, o, ty, ps, af, g⟩ = some true := by exact rfl) (hd : Nat.blt d n = true := by exact rfl) :
    AWo P ops n i (⟨some d, o, ty, ps, af, g⟩ :: os) ⟨E, M⟩ D K := AWo.pureB hs hw hd hT hF
theorem pX {ix : Nat} {t : Operand} {vs : Array Value} (ht : aev E t = some (.tuple vs) := by exact rfl) (h : vs[ix]? = some v := by exact rfl) : PureOp P (.extract t ix) E v := PureOp.extract ht h
theorem pL {p : Option Addr} {k c : Nat} (h1 : aev E x = some (.slice p k c) := by exact rfl) (ht : Tb.sl.lookup t = some e := by exact rfl) : PureOp Tryz.prog (.call ⟨.builtin .len, #[x], #[t]⟩) E (.int .i64 k) := PureOp.lenS tbok h1 ht
theorem pD {k es : Nat} {cells : List Value} (h1 : aev E x = some (deep k es cells) := by exact rfl) (ht : Tb.sl.lookup t = some e := by exact rfl) : PureOp Tryz.prog (.call ⟨.builtin .len, #[x], #[t]⟩) E (.int .i64 k) := PureOp.lenD tbok h1 ht
theorem pJ {id n : Nat} {kd : IntKind} {j : Nat} (h1 : aev E x = some (.slice (some ⟨id, 0, none⟩) n 0) := by exact rfl) (h2 : aev E ix = some (.int kd (j : Nat)) := by exact rfl)
    (ht : Tb.sl.lookup t = some e := by exact rfl) (hs : Tb.sz.lookup e = some 1 := by exact rfl) (hi : j < n := by first | decide | omega) : PureOp Tryz.prog (.indexAddr t x ix) E (.pointer (some ⟨id, j, none⟩)) :=
  PureOp.idx1 tbok h1 h2 ht hs hi
theorem pA {id n : Nat} {kd : IntKind} {j : Nat} (h1 : aev E x = some (.pointer (some ⟨id, 0, none⟩)) := by exact rfl) (h2 : aev E ix = some (.int kd (j : Nat)) := by exact rfl)
    (ht : Tb.arr.lookup t = some (n, e) := by exact rfl) (hs : Tb.sz.lookup e = some 1 := by exact rfl) (hi : j < n := by first | decide | omega) : PureOp Tryz.prog (.indexAddr t x ix) E (.pointer (some ⟨id, j, none⟩)) :=
  PureOp.arr1 tbok h1 h2 ht hs hi
theorem pF {id o f off sz : Nat} (h1 : aev E x = some (.pointer (some ⟨id, o, none⟩)) := by exact rfl)
    (hf : Tb.fld.lookup (t, f) = some (off, t') := by exact rfl) (hs : Tb.sz.lookup t' = some sz := by exact rfl) (h0 : sz ≠ 0 := by decide) : PureOp Tryz.prog (.fieldAddr t x f) E (.pointer (some ⟨id, o + off, none⟩)) :=
  PureOp.fld tbok h1 hf hs h0
theorem pT {c a b : Operand} (hc : aev E c = some (.bool true) := by exact rfl) (h : aev E a = some v := by exact rfl) : PureOp P (.pick c a b) E v := PureOp.pickT hc h
theorem pE {c a b : Operand} (hc : aev E c = some (.bool false) := by exact rfl) (h : aev E b = some v := by exact rfl) : PureOp P (.pick c a b) E v := PureOp.pickF hc h
theorem pAdd {a b : Nat} (h1 : aev E x = some (vi .i64 a) := by exact rfl) (h2 : aev E y = some (vi .i64 b) := by exact rfl) (h : a + b < 9223372036854775808 := by first | decide | omega) :
    PureOp P (.binOp .add t x y t') E (vi .i64 (a + b)) := PureOp.addI h1 h2 h
theorem pSub {a b : Nat} (h1 : aev E x = some (vi .i64 a) := by exact rfl) (h2 : aev E y = some (vi .i64 b) := by exact rfl) (h : b ≤ a := by first | decide | omega) (ha : a < 9223372036854775808 := by first | decide | omega) :
    PureOp P (.binOp .sub t x y t') E (vi .i64 (a - b)) := PureOp.subI h1 h2 h ha
theorem pLt {k : IntKind} {a b : Nat} (h1 : aev E x = some (vi k a) := by exact rfl) (h2 : aev E y = some (vi k b) := by exact rfl) : PureOp P (.binOp .lss t x y t') E (.bool (decide (a < b))) := PureOp.ltN h1 h2
theorem pGt {k : IntKind} {a b : Nat} (h1 : aev E x = some (vi k a) := by exact rfl) (h2 : aev E y = some (vi k b) := by exact rfl) : PureOp P (.binOp .gtr t x y t') E (.bool (decide (b < a))) := PureOp.gtN h1 h2
theorem pEq {k : IntKind} {a b : Nat} (h1 : aev E x = some (vi k a) := by exact rfl) (h2 : aev E y = some (vi k b) := by exact rfl) : PureOp P (.binOp .eql t x y t') E (.bool (a == b)) := PureOp.eqN h1 h2
theorem pNe {k : IntKind} {a b : Nat} (h1 : aev E x = some (vi k a) := by exact rfl) (h2 : aev E y = some (vi k b) := by exact rfl) : PureOp P (.binOp .neq t x y t') E (.bool (a != b)) := PureOp.neN h1 h2
theorem yL1 {id o : Nat} {b : Blk} (hr : AWo Tryz.prog ops n (i + 1) os ⟨upd E d v, M⟩ (fun es => D (⟨[id], []⟩ :: es)) K) (ha : aev E x = some (.pointer (some ⟨id, o, none⟩)) := by exact rfl) (hb : M id = some b := by exact rfl)
    (ht : Tb.agg.lookup t = some false := by exact rfl) (hv : b.cells[o]? = some v := by exact rfl) (hw : wantA ops E ⟨some d, .load t x, ty, ps, af, g⟩ = some true := by exact rfl) (hd : Nat.blt d n = true := by exact rfl) :
    AWo Tryz.prog ops n i (⟨some d, .load t x, ty, ps, af, g⟩ :: os) ⟨E, M⟩ D K := AWo.load tbok ha hb ht hv hw hd hr
theorem yL {α : Type} {f : α → Value} {l : List α} (dflt : α) {rw : Bool} {es id o : Nat} (hr : AWo Tryz.prog ops n (i + 1) os ⟨upd E d (f (l.getD o dflt)), M⟩ (fun es => D (⟨[id], []⟩ :: es)) K)
    (ha : aev E x = some (.pointer (some ⟨id, o, none⟩)) := by exact rfl) (hb : M id = some ⟨l.map f, rw, es⟩ := by exact rfl) (ht : Tb.agg.lookup t = some false := by exact rfl) (ho : o < l.length := by first | decide | omega)
    (hw : wantA ops E ⟨some d, .load t x, ty, ps, af, g⟩ = some true := by exact rfl) (hd : Nat.blt d n = true := by exact rfl) : AWo Tryz.prog ops n i (⟨some d, .load t x, ty, ps, af, g⟩ :: os) ⟨E, M⟩ D K := AWo.loadM tbok dflt ha hb ht ho hw hd hr
theorem yLA {id sz : Nat} {cells : List Value} {rw : Bool} {es : Nat} (hr : AWo Tryz.prog ops n (i + 1) os ⟨upd E d (.agg cells.toArray), M⟩ (fun es => D (⟨[id], []⟩ :: es)) K)
    (ha : aev E x = some (.pointer (some ⟨id, 0, none⟩)) := by exact rfl) (hb : M id = some ⟨cells, rw, es⟩ := by exact rfl)
    (ht : Tb.agg.lookup t = some true := by exact rfl) (hs : Tb.sz.lookup t = some sz := by exact rfl) (hl : cells.length = sz := by first | (simp [*]; done) | rfl) (hw : wantA ops E ⟨some d, .load t x, ty, ps, af, g⟩ = some true := by exact rfl) (hd : Nat.blt d n = true := by exact rfl) :
    AWo Tryz.prog ops n i (⟨some d, .load t x, ty, ps, af, g⟩ :: os) ⟨E, M⟩ D K := AWo.loadAll tbok ha hb ht hs hl hw hd hr
theorem yS {α : Type} (f : α → Value) {l : List α} {z : α} {es id o : Nat} (hr' : AWo Tryz.prog ops n (i + 1) os ⟨E, upd M id ⟨(l.set o z).map f, true, es⟩⟩ (fun es' => D (⟨[id], [(id, ⟨(l.set o z).map f, true, es⟩)]⟩ :: es')) K)
    (ha : aev E x = some (.pointer (some ⟨id, o, none⟩)) := by exact rfl) (hx : aev E y = some (f z) := by exact rfl)
    (hb : M id = some ⟨l.map f, true, es⟩ := by exact rfl) (hs : Tb.sz.lookup t = some 1 := by exact rfl) (ho : o < l.length := by first | decide | omega) (hc : (f z).oneCell' = true := by exact rfl)
    (hw : wantA ops E ⟨none, .store t x y, ty, ps, af, g⟩ = some true := by exact rfl) : AWo Tryz.prog ops n i (⟨none, .store t x y, ty, ps, af, g⟩ :: os) ⟨E, M⟩ D K := AWo.storeM tbok ha hx hb hs ho hc hw hr'
theorem ySA {id sz : Nat} {cells : List Value} {es : Nat} {vs : List Value} (hr' : AWo Tryz.prog ops n (i + 1) os ⟨E, upd M id ⟨vs, true, es⟩⟩ (fun es' => D (⟨[id], [(id, ⟨vs, true, es⟩)]⟩ :: es')) K)
    (ha : aev E x = some (.pointer (some ⟨id, 0, none⟩)) := by exact rfl) (hx : aev E y = some (.agg vs.toArray) := by exact rfl) (hb : M id = some ⟨cells, true, es⟩ := by exact rfl) (hs : Tb.sz.lookup t = some sz := by exact rfl)
    (h1 : vs.length = sz := by first | (simp [*]; done) | rfl) (h2 : cells.length = sz := by first | (simp [*]; done) | rfl) (hc : vs.all (·.oneCell') = true := by first | exact oneM (fun _ => rfl) _ | rfl | (simp; done))
    (hw : wantA ops E ⟨none, .store t x y, ty, ps, af, g⟩ = some true := by exact rfl) : AWo Tryz.prog ops n i (⟨none, .store t x y, ty, ps, af, g⟩ :: os) ⟨E, M⟩ D K := AWo.storeAllN tbok ha hx hb hs h1 h2 hc hw hr'
theorem yN {z : Value} (id es : Nat) (cells : List Value) (hr : AWo Tryz.prog ops n (i + 1) os ⟨upd E d (.pointer (some ⟨id, 0, none⟩)), upd M id ⟨cells, true, es⟩⟩ (fun es' => D (⟨[], [(id, ⟨cells, true, es⟩)]⟩ :: es')) K)
    (hz : Tb.zero.lookup t = some z := by exact rfl) (hf : z.cells.toList.all flatV = true := by exact rfl) (hc : z.cells.toList = cells := by exact rfl) (hid : M id = none := by exact rfl)
    (hw : wantA ops E ⟨some d, .alloc t, ty, ps, af, g⟩ = some true := by exact rfl) (hd : Nat.blt d n = true := by exact rfl) : AWo Tryz.prog ops n i (⟨some d, .alloc t, ty, ps, af, g⟩ :: os) ⟨E, M⟩ D K := AWo.alloc tbok id es cells hz hf hc hid hw hd hr
theorem yO (id es : Nat) (cells : List Value) (hr : AWo P ops n (i + 1) os ⟨upd E d (.pointer (some ⟨id, 0, none⟩)), upd M id ⟨cells, true, es⟩⟩ (fun es' => D (⟨[], [(id, ⟨cells, true, es⟩)]⟩ :: es')) K)
    (hx : aev E x = some v := by exact rfl) (hc : v.cells.toList = cells := by exact rfl) (hid : M id = none := by exact rfl)
    (hw : wantA ops E ⟨some d, .box t x, ty, ps, af, g⟩ = some true := by exact rfl) (hd : Nat.blt d n = true := by exact rfl) : AWo P ops n i (⟨some d, .box t x, ty, ps, af, g⟩ :: os) ⟨E, M⟩ D K := AWo.box id es cells hx hc hid hw hd hr
end
section
variable {P : Program} {n m : Nat} {σ : ASt} {Q : Exit → ASt → Prop} {ops : Array Oper} {i id l : Nat} {K Y : ASt → Prop} {D : List Eff → Prop} {a b : Code} {c : Operand}
theorem zN (hK : K σ) (hD : D [] := by exact trivial) : AWo P ops n i [] σ D K := AWo.nil hD hK
theorem zD (hK : K σ) (hD : D [] := by kernel_rfl) : AWo P ops n i [] σ D K := AWo.nil hD hK
theorem zS (h : AWo P ops n 0 ops.toList σ (fun _ => True) (fun σ' => AW P n m b σ' Q)) : AW P n m (.seq (.region id ops false) b) σ Q := AW.seqR h
theorem zR (h : AWo P ops n 0 ops.toList σ (fun _ => True) (Q .normal)) : AW P n m (.region id ops false) σ Q := AW.region h
theorem zQ (h : AW P n m a σ (thenA (fun σ' => AW P n m b σ' Q) Q)) : AW P n m (.seq a b) σ Q := AW.seq h
theorem zT (h : Y σ) : thenA Y Q .normal σ := h
theorem zV (h : Q (.exit id) σ) : thenA Y Q (.exit id) σ := h
theorem zU (h : Q .ret σ) : thenA Y Q .ret σ := h
theorem zL (h : Q .normal σ) : inBlockA id Q .normal σ := h
theorem zI (h : Q .ret σ) : inBlockA id Q .ret σ := h
theorem zH (h : Q .normal σ) : inBlockA id Q (.exit id) σ := inBlockA_hit h
theorem zK (h : Q .normal σ) : AW P n m .skip σ Q := AW.skip h
theorem zB (h : AW P n m a σ (inBlockA id Q)) : AW P n m (.block id a) σ Q := AW.block h
theorem zX (h : Q (.exit id) σ) : AW P n m (.exit id) σ Q := AW.exit h
theorem zE (h : Q .ret σ) : AW P n m .ret σ Q := AW.ret h
theorem zC (h : AW P n m a σ Q) (hc : aev σ.env c = some (.bool true) := by exact rfl) : AW P n m (.cond c a b) σ Q := AW.condT hc h
theorem zF (h : AW P n m b σ Q) (hc : aev σ.env c = some (.bool false) := by exact rfl) : AW P n m (.cond c a b) σ Q := AW.condF hc h
theorem zA {b' : Bool} (ht : b' = true → AW P n m a σ Q) (hf : b' = false → AW P n m b σ Q) (hc : aev σ.env c = some (.bool b') := by exact rfl) : AW P n m (.cond c a b) σ Q := AW.cond hc ht hf
end
theorem gi {f : FuncId} {fn : Func} {c : Code} {vs rv : List Value} {M0 Mo : List Blk} (hf : Tryz.prog.funcs[f]? = some fn)
    (h : AW Tryz.prog fn.ntmps M0.length c ⟨envL vs, memL M0⟩ (RetQ Tryz.prog fn M0.length (oneV rv) Mo))
    (hb : fn.body = some c := by exact rfl) (hlen : vs.length ≤ fn.ntmps := by exact of_decide_eq_true rfl) (hM : M0.length ≤ Mo.length := by first | exact Nat.le_refl _ | decide | simp) : GC Tryz.prog f vs M0 rv Mo :=
  GC.intro hf hb hlen hM h
def WkI (_ : List Nat) (Dm : Nat → Prop) (fm : List (Nat × Nat)) (M N : Mem) : Prop := WkM Dm fm M N
theorem WkI.ren {Dm : Nat → Prop} {fm : List (Nat × Nat)} {M N : Mem} {i : Nat} {cells c' : List Value} {rw rw' : Bool} {es : Nat} {ids : List Nat} (h1 : M ((fm.lookup i).getD i) = some ⟨c', rw', es⟩) (hc : cells.map (ren1 (idm fm)) = c')
    (hok : cells.all (okI ids) = true) (hD : ∀ i ∈ ids, Dm i) (h3 : rw = true → rw' = true) (h : WkI ids Dm fm M N) : WkI ids Dm fm M (Sim.upd N i ⟨cells, rw, es⟩) := WkM.ren ids h1 hc hok hD h3 h
theorem WkI.flat {Dm : Nat → Prop} {fm : List (Nat × Nat)} {M N : Mem} {i : Nat} {cells : List Value} {rw rw' : Bool} {es : Nat} {ids : List Nat} (h1 : M ((fm.lookup i).getD i) = some ⟨cells, rw', es⟩)
    (hf : ∀ v ∈ cells, flatV v = true) (h3 : rw = true → rw' = true) (h : WkI ids Dm fm M N) : WkI ids Dm fm M (Sim.upd N i ⟨cells, rw, es⟩) := WkM.flat h1 hf h3 h
theorem WkI.flatM {α : Type} {f : α → Value} {l l' : List α} {Dm : Nat → Prop} {fm : List (Nat × Nat)} {M N : Mem} {i : Nat} {rw rw' : Bool} {es : Nat} {ids : List Nat} (h1 : M ((fm.lookup i).getD i) = some ⟨l'.map f, rw', es⟩)
    (he : l = l') (hf : ∀ x, flatV (f x) = true) (h3 : rw = true → rw' = true) (h : WkI ids Dm fm M N) : WkI ids Dm fm M (Sim.upd N i ⟨l.map f, rw, es⟩) := WkM.flatM h1 he hf h3 h
theorem WkI.cloM {α : Type} {f : α → Value} {l l' : List α} {Dm : Nat → Prop} {fm : List (Nat × Nat)} {M N : Mem} {i : Nat} {rw rw' : Bool} {es : Nat} {ids : List Nat} (h1 : M ((fm.lookup i).getD i) = some ⟨l'.map f, rw', es⟩)
    (he : l = l') (hf : ∀ x, cloV (f x) = true) (h3 : rw = true → rw' = true) (h : WkI ids Dm fm M N) : WkI ids Dm fm M (Sim.upd N i ⟨l.map f, rw, es⟩) := WkM.cloM h1 he hf h3 h
theorem wk {m : Nat} {fm : List (Nat × Nat)} {σ : ASt} {F : Env} {N : Mem} (ids : List Nat)
    (hE : WkE (dom N) fm σ.env F := by
      repeat (first
        | exact WkE.emp
        | refine WkE.upd rfl (.slice _ _ _ 0 ⟨_, rfl⟩ (by simp) (by simp)) ?_
        | refine WkE.upd rfl (.ptr _ _ ⟨_, rfl⟩) ?_
        | refine WkE.upd rfl (VR.flat _ rfl) ?_
        | refine WkE.upd rfl (clo_refl (by simp) rfl) ?_
        | refine WkE.upd rfl (.nilS _ (by simp)) ?_
        | refine WkE.upd rfl (.deepN _ (by simp)) ?_
        | refine WkE.upd rfl (VR.pure rfl) ?_
        | refine WkE.upd rfl (VR.aggM flat_vi) ?_
        | refine WkE.upd rfl (VR.eqv (vp_succ _) rfl) ?_
        | refine WkE.upd rfl (VR.eqv (vp_succ _).symm rfl) ?_
        | refine WkE.upd rfl (VR.eqv (by first | rfl | (congr 1; omega) | (simp; done) | (simp; omega)) rfl) ?_))
    (hM : WkI ids (dom N) fm σ.mem N := by
      repeat (first
        | exact WkM.emp
        | refine WkI.flatM rfl rfl flat_vi (fun h => h) ?_
        | refine WkI.flatM rfl rfl (fun _ => rfl) (fun h => h) ?_
        | refine WkI.cloM rfl rfl (fun _ => rfl) (fun h => h) ?_
        | refine WkI.ren rfl rfl rfl (dom_all rfl) (fun h => h) ?_
        | refine WkI.flatM rfl (by first | assumption | simp) (fun _ => rfl) (fun h => h) ?_
        | refine WkI.flat rfl (by simp [flatV, flat_vi]) (fun h => h) ?_))
    (hids : ∀ i, dom N i → i ∈ ids := by
      repeat (refine dom_upd_mem (by decide) ?_)
      exact dom_emp)
    (hnd : (ids.map fun i => (fm.lookup i).getD i).Nodup := by decide) (hlow : ((List.range m).all fun i => (N i).isSome && (fm.lookup i).getD i == i) = true := by exact rfl) : Wk m fm σ ⟨F, N⟩ :=
  Wk.of ids hE hM hids hnd hlow
theorem rq {fn : Func} {e : Exit} {σ : ASt} {m : Nat} {rv vs : List Value} {Mo : List Blk} (nids : List Nat) (rvs : List ResultVar) (he : e = .ret ∨ e = .normal := by first | exact .inl rfl | exact .inr rfl)
    (hr : fn.results = rvs.toArray := by exact rfl)
    (hv : RVs Tryz.prog σ rvs vs := by
      repeat (first
        | exact .nil
        | (apply RVs.tmp; exact rfl)
        | (apply RVs.val; exact RVal.cell1 tbok rfl rfl rfl rfl)
        | (apply RVs.val; exact RVal.cellAll tbok rfl rfl rfl rfl (by first | (simp [*]; done) | rfl))))
    (hl : Mo.length = m + nids.length := by exact rfl)
    (hres : RelL (hmap m nids) Mo.length rv vs := by
      repeat (first
        | exact .nil
        | refine .pure (pure_aggM flat_vi) ?_
        | refine .pure (pure_aggM flat_bool) ?_
        | refine .cons rfl rfl ?_
        | refine .nilS ?_
        | refine .deepN ?_
        | refine .pure rfl ?_))
    (hb : OutL m nids σ.mem Mo.length 0 Mo := by
      repeat (first
        | exact trivial
        | refine OutL.flat rfl (flatM flat_vi) (by intro h; first | rfl | exact h.elim id fun h => absurd h.1 (by simp)) ?_
        | refine OutL.clo rfl (cloM fun _ => rfl) (by intro h; first | rfl | exact h.elim id fun h => absurd h.1 (by simp)) ?_
        | refine OutL.flat rfl (flatM flat_bool) (by intro h; first | rfl | exact h.elim id fun h => absurd h.1 (by simp)) ?_
        | refine OutL.flat rfl (by simp [flatV, flat_vi]; done) (by intro h; first | rfl | exact h.elim id fun h => absurd h.1 (by simp)) ?_
        | refine OutL.whole rfl rfl (OkL.all rfl) (by intro h; first | rfl | exact h.elim id fun h => absurd h.1 (by simp)) ?_))
    (hnd : nids.Nodup := by decide) (hfar : (nids.all fun i => Nat.ble m i) = true := by exact rfl) : RetQ Tryz.prog fn m (oneV rv) Mo e σ :=
  RetQ.gc vs nids rvs he hr hv hl hres hb hnd hfar
section
variable {P : Program} {ops : Array Oper} {n i : Nat} {os : List Oper} {E : Env} {M : Mem} {D : List Eff → Prop} {K : ASt → Prop}
  {d : Option Tmp} {ty : TypeId} {ps : String} {af : Array Edge} {gd : Option (Nat × Bool)} {f : FuncId} {aops : Array Operand} {tys : Array TypeId} {vals : List Value} {fop : Operand}
theorem yC {vs rv rv' : List Value} {M0 Mo : List Blk} (S : Ctr P f vs M0 (oneV rv) Mo) (hb : Bodied P f) (g : List (Nat × Nat)) (nids : List Nat) {new : List (Nat × Blk)} {fs cs : Array Value} {allv : List Value} {v : Value} {M' : Mem}
    (hr : AWo P ops n (i + 1) os ⟨putE E d v, M'⟩ (fun es => D (⟨g.map (·.1), new⟩ :: es)) K)
    (hf : aev E fop = some (.func (.func f) fs cs) := by exact rfl)
    (hx : Evs E aops.toList vals := by
      repeat (first | exact .nil | (apply Evs.cons; exact rfl)))
    (hall : fs.toList ++ vals ++ cs.toList = allv := by exact rfl)
    (hargs : RelL (gmap g nids) M0.length vs allv := by
      repeat (first
        | exact .nil
        | refine .pure (pure_aggM flat_vi) ?_
        | refine .pure (pure_aggM flat_bool) ?_
        | refine .cons rfl rfl ?_
        | refine .nilS ?_
        | refine .deepN ?_
        | refine .pure rfl ?_))
    (hfit : FitL (gmap g nids) M0.length M M0 g := by
      repeat (first
        | exact .nil
        | refine .flat rfl (flatM flat_vi) (by intro h; first | exact h | rfl) ?_
        | refine .clo rfl (cloM fun _ => rfl) (by intro h; first | exact h | rfl) ?_
        | refine .flat rfl (flatM flat_bool) (by intro h; first | exact h | rfl) ?_
        | refine .flat rfl (by simp [flatV, flat_vi]; done) (by intro h; first | exact h | rfl) ?_
        | refine .whole rfl rfl (OkL.all rfl) (by intro h; first | exact h | rfl) ?_))
    (hl : loneB M0 g = true := by exact rfl)
    (hnew : NewL (gmap g nids) Mo.length M0 Mo g nids new := by
      repeat (first
        | exact .nil
        | (apply NewL.keep; exact rfl)
        | (apply NewL.gone; exact rfl; exact rfl; exact OkL.flat (by simp; done))
        | (apply NewL.chg; exact rfl; exact rfl; exact flat_map_ren (flatM flat_vi); exact OkL.flat (flatM flat_vi))
        | (apply NewL.new; exact flat_map_ren (flatM flat_vi); exact OkL.flat (flatM flat_vi))
        | (apply NewL.new; exact clo_map_ren (cloM fun _ => rfl); exact OkL.clo (cloM fun _ => rfl))
        | (apply NewL.new; exact flat_map_ren (flatM flat_bool); exact OkL.flat (flatM flat_bool))
        | (apply NewL.new; exact rfl; exact OkL.all rfl)))
    (hfr : ∀ i ∈ nids, M i = none := by
      repeat (first | exact frN | refine frC rfl ?_))
    (hnd : nids.Nodup := by decide)
    (hrv : RelR (gmap g nids) Mo.length rv rv' := by
      repeat (first
        | exact .nil
        | (apply RelR.pure; exact pure_aggM flat_vi)
        | (apply RelR.pure; exact pure_aggM flat_bool)
        | (apply RelR.cons; exact rfl; exact rfl)
        | (apply RelR.pure; exact rfl)))
    (hv : oneV rv' = v := by exact rfl) (hM : upds M new = M' := by exact rfl)
    (hw : wantA ops E ⟨d, .call ⟨.value fop, aops, tys⟩, ty, ps, af, gd⟩ = some true := by exact rfl) (hd : dstB n d = true := by exact rfl) :
    AWo P ops n i (⟨d, .call ⟨.value fop, aops, tys⟩, ty, ps, af, gd⟩ :: os) ⟨E, M⟩ D K :=
  AWo.callX S hb g nids hf hx hall hargs hfit hl hnew hfr hnd hrv hv hM hw hd hr
end
end Go.Proofs.YtpahdiljpnfkdaaGreat
namespace Go.Proofs.YtpahdiljpnfkdaaGreat
open Go Sim
theorem add64_run (x y c : Nat) (hc : c ≤ 1) (w : World) : (callFunc 85 #[vi .u64 x, vi .u64 y, vi .u64 c]).run Tryz.prog w =
   .ok (.value (.tuple #[vi .u64 ((x + y + c) % 18446744073709551616), vi .u64 ((x + y + c) / 18446744073709551616)])) w := by
  simp only [vi]
  rw [run_callFunc_extern (fn := Tryz.f85) (by kernel_rfl) (by kernel_rfl) (by kernel_rfl) (by kernel_rfl) (e := add64Entry) (by kernel_rfl), run_add64 x y c (by omega) (by omega) (by omega) (by omega)]
  simp only [Result.andThen]
  congr 5 <;> omega
theorem add64 {aops : Array Operand} {tys : Array TypeId} {E : Env} {x y c : Nat} {fop : Operand} (hf : aev E fop = some (.func (.func 85) #[] #[])) (hv : aops.toList.map (aev E) = [some (vi .u64 x), some (vi .u64 y), some (vi .u64 c)]) (hc : c ≤ 1) :
    PureOp Tryz.prog (.call ⟨.value fop, aops, tys⟩) E (.tuple #[vi .u64 ((x + y + c) % 18446744073709551616), vi .u64 ((x + y + c) / 18446744073709551616)]) :=
  PureOp.extern (f := 85) (vals := [vi .u64 x, vi .u64 y, vi .u64 c]) hf hv rfl (.inr rfl) (add64_run x y c hc)
def sub64E : Array Value → Sem Value := fun args => do
  let (x, y, b) ← Extern.MathBitsCarry.three "Sub64" args
  pure (Extern.MathBitsCarry.pair ((x + Extern.MathBitsCarry.m64 - y - b) % Extern.MathBitsCarry.m64) (if x < y + b then 1 else 0))
theorem sub64_run (x y c : Nat) (hc : c ≤ 1) (w : World) : (callFunc 99 #[vi .u64 x, vi .u64 y, vi .u64 c]).run Tryz.prog w =
   .ok (.value (.tuple #[vi .u64 ((x + 18446744073709551616 - y - c) % 18446744073709551616), vi .u64 (if x < y + c then 1 else 0)])) w := by
  simp only [vi]
  rw [run_callFunc_extern (fn := Tryz.f99) (by kernel_rfl) (by kernel_rfl) (by kernel_rfl) (by kernel_rfl) (e := sub64E) (by kernel_rfl)]
  have : c = 0 ∨ c = 1 := by omega
  rcases this with rfl | rfl <;> rfl
theorem sub64 {aops : Array Operand} {tys : Array TypeId} {E : Env} {x y c : Nat} {fop : Operand} (hf : aev E fop = some (.func (.func 99) #[] #[])) (hv : aops.toList.map (aev E) = [some (vi .u64 x), some (vi .u64 y), some (vi .u64 c)]) (hc : c ≤ 1) :
    PureOp Tryz.prog (.call ⟨.value fop, aops, tys⟩) E (.tuple #[vi .u64 ((x + 18446744073709551616 - y - c) % 18446744073709551616), vi .u64 (if x < y + c then 1 else 0)]) :=
  PureOp.extern (f := 99) (vals := [vi .u64 x, vi .u64 y, vi .u64 c]) hf hv rfl (.inr rfl) (sub64_run x y c hc)
theorem and32 {P : Program} {E : Env} {t t' : TypeId} {x y : Operand} {a : Nat} (h1 : aev E x = some (vi .u64 a)) (h2 : aev E y = some (vi .u64 4294967295)) (ha : a < 18446744073709551616) : PureOp P (.binOp .and t x y t') E (vi .u64 (a % 4294967296)) :=
  (PureOp.andN 18446744073709551616 h1 h2 (by decide) (by decide) ha (by decide)).mono (by
    rw [show (4294967295 : Nat) = 2 ^ 32 - 1 by decide, Nat.and_two_pow_sub_one_eq_mod])
theorem prod_le (x y : Nat) (hx : x < 18446744073709551616) (hy : y < 18446744073709551616) : x % 4294967296 * (y % 4294967296) ≤ 18446744065119617025 ∧ x / 4294967296 * (y % 4294967296) ≤ 18446744065119617025 ∧
    x % 4294967296 * (y / 4294967296) ≤ 18446744065119617025 ∧ x / 4294967296 * (y / 4294967296) ≤ 18446744065119617025 ∧
    x * y = x / 4294967296 * (y / 4294967296) * 18446744073709551616 + x / 4294967296 * (y % 4294967296) * 4294967296 + x % 4294967296 * (y / 4294967296) * 4294967296 + x % 4294967296 * (y % 4294967296) := by
  have h1 : x % 4294967296 ≤ 4294967295 := by omega
  have h2 : x / 4294967296 ≤ 4294967295 := by omega
  have h3 : y % 4294967296 ≤ 4294967295 := by omega
  have h4 : y / 4294967296 ≤ 4294967295 := by omega
  refine ⟨Nat.mul_le_mul h1 h3, Nat.mul_le_mul h2 h3, Nat.mul_le_mul h1 h4, Nat.mul_le_mul h2 h4, ?_⟩
  have e1 : x = x / 4294967296 * 4294967296 + x % 4294967296 := by omega
  have e2 : y = y / 4294967296 * 4294967296 + y % 4294967296 := by omega
  conv => lhs; rw [e1, e2]
  generalize x / 4294967296 = a
  generalize x % 4294967296 = b
  generalize y / 4294967296 = c
  generalize y % 4294967296 = d
  grind
set_option maxRecDepth 10000 in
theorem mul64 {x y : Nat} (hx : x < 18446744073709551616) (hy : y < 18446744073709551616) : GC Tryz.prog 100 [vi .u64 (x), vi .u64 (y)] [] [vi .u64 (x * y / 18446744073709551616), vi .u64 (x * y % 18446744073709551616)] [] := by
  refine gi Tryz.func100 ?_
  have h1 := prod_le x y hx hy
  obtain ⟨h1, h2, h3, h4, h5⟩ := h1
  refine zS ?_
  refine yA ?_
  refine yA ?_
  refine zN (zS ?_)
  refine yM ?_
  refine yP (and32 rfl rfl hx) ?_
  refine yA ?_
  refine zN (zS ?_)
  refine yM ?_
  refine yP ((PureOp.shrN (b := 32) 64 rfl rfl rfl (by decide)).mono (v' := vi .u64 (x / 4294967296)) rfl) ?_
  refine yA ?_
  refine zN (zS ?_)
  refine yM ?_
  refine yP (and32 rfl rfl hy) ?_
  refine yA ?_
  refine zN (zS ?_)
  refine yM ?_
  refine yP ((PureOp.shrN (b := 32) 64 rfl rfl rfl (by decide)).mono (v' := vi .u64 (y / 4294967296)) rfl) ?_
  refine yA ?_
  refine zN (zS ?_)
  refine yM ?_
  refine yM ?_
  refine yP ((PureOp.mulU 18446744073709551616 rfl rfl rfl rfl).mono (v' := vi .u64 ((x % 4294967296) * (y % 4294967296))) (by rw [Nat.mod_eq_of_lt (by omega)])) ?_
  refine yA ?_
  refine zN (zS ?_)
  refine yM ?_
  refine yM ?_
  refine yP ((PureOp.mulU 18446744073709551616 rfl rfl rfl rfl).mono (v' := vi .u64 ((x / 4294967296) * (y % 4294967296))) (by rw [Nat.mod_eq_of_lt (by omega)])) ?_
  refine yM ?_
  refine yP ((PureOp.shrN (b := 32) 64 rfl rfl rfl (by decide)).mono (v' := vi .u64 ((x % 4294967296) * (y % 4294967296) / 4294967296)) rfl) ?_
  refine yP ((PureOp.addU 18446744073709551616 rfl rfl rfl rfl).mono (v' := vi .u64 ((x / 4294967296) * (y % 4294967296) + (x % 4294967296) * (y % 4294967296) / 4294967296)) (by rw [Nat.mod_eq_of_lt (by omega)])) ?_
  refine yA ?_
  refine zN (zS ?_)
  refine yM ?_
  refine yP (and32 rfl rfl (by omega)) ?_
  refine yA ?_
  refine zN (zS ?_)
  refine yM ?_
  refine yP ((PureOp.shrN (b := 32) 64 rfl rfl rfl (by decide)).mono (v' := vi .u64 (((x / 4294967296) * (y % 4294967296) + (x % 4294967296) * (y % 4294967296) / 4294967296) / 4294967296)) rfl) ?_
  refine yA ?_
  refine zN (zS ?_)
  refine yM ?_
  refine yM ?_
  refine yM ?_
  refine yP ((PureOp.mulU 18446744073709551616 rfl rfl rfl rfl).mono (v' := vi .u64 ((x % 4294967296) * (y / 4294967296))) (by rw [Nat.mod_eq_of_lt (by omega)])) ?_
  refine yP ((PureOp.addU 18446744073709551616 rfl rfl rfl rfl).mono (v' := vi .u64 (((x / 4294967296) * (y % 4294967296) + (x % 4294967296) * (y % 4294967296) / 4294967296) % 4294967296 + (x % 4294967296) * (y / 4294967296))) (by rw [Nat.mod_eq_of_lt (by omega)])) ?_
  refine yA ?_
  refine zN (zS ?_)
  refine yM ?_
  refine yM ?_
  refine yP ((PureOp.mulU 18446744073709551616 rfl rfl rfl rfl).mono (v' := vi .u64 ((x / 4294967296) * (y / 4294967296))) (by rw [Nat.mod_eq_of_lt (by omega)])) ?_
  refine yM ?_
  refine yP ((PureOp.addU 18446744073709551616 rfl rfl rfl rfl).mono (v' := vi .u64 ((x / 4294967296) * (y / 4294967296) + ((x / 4294967296) * (y % 4294967296) + (x % 4294967296) * (y % 4294967296) / 4294967296) / 4294967296)) (by rw [Nat.mod_eq_of_lt (by omega)])) ?_
  refine yM ?_
  refine yP ((PureOp.shrN (b := 32) 64 rfl rfl rfl (by decide)).mono (v' := vi .u64 ((((x / 4294967296) * (y % 4294967296) + (x % 4294967296) * (y % 4294967296) / 4294967296) % 4294967296 + (x % 4294967296) * (y / 4294967296)) / 4294967296)) rfl) ?_
  refine yP ((PureOp.addU 18446744073709551616 rfl rfl rfl rfl).mono (v' := vi .u64 (x * y / 18446744073709551616)) (by rw [Nat.mod_eq_of_lt (by omega)]; congr 1; omega)) ?_
  refine yA ?_
  refine zN (zS ?_)
  refine yM ?_
  refine yM ?_
  refine yP (PureOp.mulU 18446744073709551616 rfl rfl rfl rfl) ?_
  refine yA ?_
  refine zN (zE ?_)
  exact rq [] [.tmp 4, .tmp 5]
end Go.Proofs.YtpahdiljpnfkdaaGreat
namespace Go.Proofs.YtpahdiljpnfkdaaGreat
open Go Sim
def cmpI (a b : Nat) : Int := if a < b then -1 else if b < a then 1 else 0
section
variable {B : Nat}
theorem getD_ge {l : List Nat} {i : Nat} (h : l.length ≤ i) : l.getD i 0 = 0 := by
  rw [List.getD_eq_getElem?_getD, List.getElem?_eq_none h]; rfl
theorem top_lt {a c r : Nat} (h : a / B ^ (r + 1) = c / B ^ (r + 1)) (hd : a / B ^ r % B < c / B ^ r % B) : a < c := by
  rcases Nat.lt_or_ge a c with h1 | h1
  · exact h1
  · exfalso
    have h2 := Nat.div_le_div_right (c := B ^ r) h1
    rw [Nat.pow_succ, ← Nat.div_div_eq_div_mul, ← Nat.div_div_eq_div_mul] at h
    have e1 := Nat.div_add_mod (a / B ^ r) B
    have e2 := Nat.div_add_mod (c / B ^ r) B
    rw [h] at e1
    omega
theorem top_eq {a c r : Nat} (h : a / B ^ (r + 1) = c / B ^ (r + 1)) (hd : a / B ^ r % B = c / B ^ r % B) : a / B ^ r = c / B ^ r := by
  rw [Nat.pow_succ, ← Nat.div_div_eq_div_mul, ← Nat.div_div_eq_div_mul] at h
  have e1 := Nat.div_add_mod (a / B ^ r) B
  have e2 := Nat.div_add_mod (c / B ^ r) B
  rw [h, hd] at e1
  omega
theorem div_big {l : List Nat} (h : bd B l) (hB : 0 < B) {n : Nat} (hn : l.length ≤ n) : num B l / B ^ n = 0 :=
  Nat.div_eq_of_lt (Nat.lt_of_lt_of_le (num_lt h) (Nat.pow_le_pow_right hB hn))
theorem num_lt_pow {l : List Nat} (h : bd B l) (hB : 0 < B) {n : Nat} (hn : l.length ≤ n) : num B l < B ^ n := Nat.lt_of_lt_of_le (num_lt h) (Nat.pow_le_pow_right hB hn)
theorem add_step {l : List Nat} {i a b c x y : Nat} (hl : l.length = i) (h : num B l + B ^ i * c = a % B ^ i + b % B ^ i) (hx : x = a / B ^ i % B) (hy : y = b / B ^ i % B) :
    num B (l ++ [(x + y + c) % B]) + B ^ (i + 1) * ((x + y + c) / B) = a % B ^ (i + 1) + b % B ^ (i + 1) := by
  rw [num_append, hl, mod_succ a, mod_succ b, ← hx, ← hy]
  simp only [num, Nat.mul_zero, Nat.add_zero, Nat.pow_succ]
  have e := Nat.mod_add_div (x + y + c) B
  have e2 : B ^ i * ((x + y + c) % B) + B ^ i * B * ((x + y + c) / B) = B ^ i * (x + y + c) := by rw [Nat.mul_assoc, ← Nat.mul_add, e]
  have e3 : B ^ i * (x + y + c) = B ^ i * x + B ^ i * y + B ^ i * c := by rw [Nat.mul_add, Nat.mul_add]
  omega
theorem add_end {l : List Nat} {n a b c : Nat} (hB : 2 ≤ B) (h : num B l + B ^ (n + 1) * c = a % B ^ (n + 1) + b % B ^ (n + 1)) (ha : a < B ^ n) (hb : b < B ^ n) : num B l = a + b := by
  have h1 : B ^ n * 2 ≤ B ^ (n + 1) := by rw [Nat.pow_succ]; exact Nat.mul_le_mul_left _ hB
  rw [Nat.mod_eq_of_lt (by omega), Nat.mod_eq_of_lt (by omega)] at h
  have hc : c = 0 := by
    rcases Nat.eq_zero_or_pos c with h0 | h0
    · exact h0
    · have := Nat.mul_le_mul_left (B ^ (n + 1)) h0
      omega
  rw [hc] at h
  omega
theorem sub_step {l : List Nat} {i a b c x y : Nat} (hl : l.length = i) (h : num B l + b % B ^ i = a % B ^ i + B ^ i * c) (hx : x = a / B ^ i % B) (hy : y = b / B ^ i % B) (hyB : y < B) (hc : c ≤ 1) :
    num B (l ++ [(B + x - y - c) % B]) + b % B ^ (i + 1) = a % B ^ (i + 1) + B ^ (i + 1) * (1 - (B + x - y - c) / B) := by
  have hxB : x < B := by rw [hx]; exact Nat.mod_lt _ (by omega)
  rw [num_append, hl, mod_succ a, mod_succ b, ← hx, ← hy]
  simp only [num, Nat.mul_zero, Nat.add_zero, Nat.pow_succ]
  rcases Nat.lt_or_ge (B + x - y - c) B with h1 | h1
  · rw [Nat.mod_eq_of_lt h1, Nat.div_eq_of_lt h1]
    have e : B ^ i * (B + x - y - c) + B ^ i * y + B ^ i * c = B ^ i * B + B ^ i * x := by
      rw [← Nat.mul_add, ← Nat.mul_add, ← Nat.mul_add]; congr 1; omega
    simp only [Nat.sub_zero, Nat.mul_one]
    omega
  · have e1 : (B + x - y - c) % B = x - y - c := by rw [Nat.mod_eq_sub_mod h1, Nat.mod_eq_of_lt (by omega)]; omega
    have e2 : (B + x - y - c) / B = 1 := by
      rw [Nat.div_eq_of_lt_le (k := 1)] <;> omega
    rw [e1, e2]
    have e : B ^ i * (x - y - c) + B ^ i * y + B ^ i * c = B ^ i * x := by
      rw [← Nat.mul_add, ← Nat.mul_add]; congr 1; omega
    simp only [Nat.sub_self, Nat.mul_zero, Nat.add_zero]
    omega
theorem sub_end {l : List Nat} {n a b c : Nat} (hl : bd B l) (hln : l.length = n) (h : num B l + b % B ^ n = a % B ^ n + B ^ n * c) (ha : a < B ^ n) (hba : b ≤ a) : num B l = a - b := by
  have h1 := num_lt hl
  rw [hln] at h1
  rw [Nat.mod_eq_of_lt ha, Nat.mod_eq_of_lt (by omega)] at h
  have hc : c = 0 := by
    rcases Nat.eq_zero_or_pos c with h0 | h0
    · exact h0
    · have := Nat.mul_le_mul_left (B ^ n) h0
      omega
  rw [hc] at h
  omega
theorem bd_snoc {l : List Nat} {x : Nat} (h : bd B l) (hx : x < B) : bd B (l ++ [x]) := bd_append h fun y hy => by simp at hy; rw [hy]; exact hx
theorem snoc_len {l : List Nat} {x i : Nat} (h : l.length = i) : (l ++ [x]).length = i + 1 := by simp [h]
theorem map_snoc (k : IntKind) (l : List Nat) (x : Nat) : l.map (vi k) ++ [vi k x] = (l ++ [x]).map (vi k) := by simp
theorem dpart (hB : 2 ≤ B) {k : IntKind} {l : List Nat} {v : Nat} (h : bd B l) (hv : num B l = v) : (l.map (vi k)).take ((D B v).map (vi k)).length = (D B v).map (vi k) := by
  subst hv
  rw [List.length_map, ← List.map_take, ← D_take hB h]
theorem dpart_len (hB : 2 ≤ B) {k : IntKind} {l : List Nat} {v : Nat} (h : bd B l) (hv : num B l = v) : ((D B v).map (vi k)).length ≤ (l.map (vi k)).length := by
  subst hv
  rw [List.length_map, List.length_map]
  exact (D_len_le hB _ _).2 (num_lt h)
theorem D_len_num (hB : 2 ≤ B) {l : List Nat} {v : Nat} (h : bd B l) (hv : v ≤ num B l) : (D B v).length ≤ l.length := (D_len_le hB _ _).2 (Nat.lt_of_le_of_lt hv (num_lt h))
theorem drop_zero_step {l : List Nat} {n : Nat} (h : num B (l.drop n) = 0) (hn : 0 < n) (hln : n ≤ l.length) (h0 : l.getD (n - 1) 0 = 0) : num B (l.drop (n - 1)) = 0 := by
  rw [List.drop_eq_getElem_cons (i := n - 1) (by omega)]
  have e : l[n - 1] = 0 := by
    rw [List.getD_eq_getElem?_getD, List.getElem?_eq_getElem (by omega)] at h0; exact h0
  simp only [num, e, Nat.zero_add]
  rw [show n - 1 + 1 = n by omega, h, Nat.mul_zero]
end
end Go.Proofs.YtpahdiljpnfkdaaGreat
namespace Go.Proofs.YtpahdiljpnfkdaaGreat
open Go Sim
set_option maxRecDepth 10000 in
theorem get_ctr {a : List Nat} {i : Nat} : GC Tryz.prog 72 [.slice (some ⟨0, 0, none⟩) a.length 0, vi .i64 (i)] [⟨a.map (vi .u64), false, 1⟩] [vi .u64 (a.getD i 0)] [⟨a.map (vi .u64), false, 1⟩] := by
 refine gi Tryz.func72 ?_
 refine zS ?_
 refine yA ?_
 refine zN (zQ (zS ?_))
 refine yM ?_
 refine yM ?_
 refine yP pL ?_
 refine yP pLt ?_
 refine zN ?_
 refine zA (fun hb0 => ?_) (fun hb0 => ?_)
 ·
  have hi : i < a.length := by simpa using hb0
  refine zS ?_
  refine yM ?_
  refine yM ?_
  refine yP pJ ?_
  refine yL 0 ?_
  refine yA ?_
  refine zN (zE (zU ?_))
  exact rq [] [.tmp 4] (hres := (.cons rfl (by rfl) .nil))
 ·
  have hi : a.length ≤ i := by simpa using hb0
  refine zK (zT (zS ?_))
  refine yA ?_
  refine zN (zE ?_)
  exact rq [] [.tmp 4] (hres := (.cons rfl (by exact congrArg (vi .u64) (getD_ge hi)) .nil))
set_option maxRecDepth 10000 in
theorem trim_ctr {a : List Nat} {v n : Nat} (h : bd 4294967296 a) (hv : num 4294967296 a = v) (hn : a.length = n) (hl : a.length < 1000000000) : GC Tryz.prog 26 [.slice (some ⟨0, 0, none⟩) n 0] [⟨a.map (vi .u64), false, 1⟩] [.slice (some ⟨0, 0, none⟩) (D 4294967296 v).length 0] [⟨a.map (vi .u64), false, 1⟩] := by
 refine gi Tryz.func26 ?_
 subst hn
 refine zS ?_
 refine yA ?_
 refine zN (zS ?_)
 refine yM ?_
 refine yP pL ?_
 refine yA ?_
 refine zN (zQ (zB ?_))
 refine AW.loopw (fun mm σ => ∃ k, (k ≤ a.length ∧ num 4294967296 (a.drop k) = 0) ∧ mm = 1 * k ∧ σ = ⟨(upd (upd emp 0 (.slice (some ⟨0, 0, none⟩) a.length 0)) 3 (vi .i64 k)), (upd emp 0 ⟨a.map (vi .u64), false, 1⟩)⟩) (fm := []) (wk [0]) ⟨a.length, ⟨Nat.le_refl _, by simp [num]⟩, rfl, rfl⟩ ?_
 rintro mm σ ⟨k, ⟨hn, h0⟩, rfl, rfl⟩
 refine zQ (zS ?_)
 refine yM ?_
 refine yB (pGt (b := 0)) (fun hb0 => ?_) (fun hb0 => ?_)
 ·
  have hp : 0 < k := by simpa using hb0
  refine yM ?_
  refine yM ?_
  refine yM ?_
  refine yP (pSub (b := 1)) ?_
  refine yP pJ ?_
  refine yL 0 ?_
  refine yP (pEq (b := 0)) ?_
  refine yP pT ?_
  refine zN ?_
  refine zA (fun hb1 => ?_) (fun hb1 => ?_)
  ·
   have hd : a.getD (k - 1) 0 = 0 := by simpa using hb1
   refine zK (zT (zB (zR ?_)))
   refine yM ?_
   refine yP (pSub (b := 1)) ?_
   refine yA ?_
   refine zN (zL (zT ?_))
   exact ⟨1 * (k - 1), [], _, by omega, wk [0], k - 1, ⟨by omega, drop_zero_step h0 (by omega) hn hd⟩, rfl, rfl⟩
  ·
   have hd : a.getD (k - 1) 0 ≠ 0 := by simpa using hb1
   have hst := D_stop (by decide) h hn h0 (.inr hd)
   rw [hv] at hst
   subst hst
   refine zX (zV (zV (zH (zT (zS ?_)))))
   refine yM ?_
   refine yM ?_
   refine AWo.sliceS tbok rfl .none (.some rfl) rfl rfl rfl rfl (by omega) (by omega) (.inl rfl) rfl rfl rfl ?_
   refine yA ?_
   refine zN (zE ?_)
   exact rq [] [.tmp 2]
 ·
  have hp : k = 0 := by simp at hb0; omega
  have hst := D_stop (by decide) h hn h0 (.inl hp)
  rw [hv] at hst
  subst hst
  refine yM ?_
  refine yK ?_
  refine yK ?_
  refine yK ?_
  refine yK ?_
  refine yK ?_
  refine yK ?_
  refine yP pE ?_
  refine zN (zF (zX (zV (zV (zH (zT (zS ?_)))))))
  refine yM ?_
  refine yM ?_
  refine AWo.sliceS tbok rfl .none (.some rfl) rfl rfl rfl rfl (by omega) (by omega) (.inl rfl) rfl rfl rfl ?_
  refine yA ?_
  refine zN (zE ?_)
  exact rq [] [.tmp 2]
set_option maxRecDepth 10000 in
theorem rcmp_ctr {a b : List Nat} (ha : bd 4294967296 a) (hb : bd 4294967296 b) (hla : a.length < 1000000000) (hlb : b.length < 1000000000) : GC Tryz.prog 70 [.slice (some ⟨0, 0, none⟩) a.length 0, .slice (some ⟨1, 0, none⟩) b.length 0] [⟨a.map (vi .u64), false, 1⟩, ⟨b.map (vi .u64), false, 1⟩] [.int .i64 (cmpI (num 4294967296 a) (num 4294967296 b))] [⟨a.map (vi .u64), false, 1⟩, ⟨b.map (vi .u64), false, 1⟩] := by
 refine gi Tryz.func70 ?_
 have ea := div_big ha (by decide) (show a.length ≤ a.length + b.length + 1 by omega)
 have eb := div_big hb (by decide) (show b.length ≤ a.length + b.length + 1 by omega)
 refine zS ?_
 refine yA ?_
 refine zN (zQ (zS ?_))
 refine yM ?_
 refine yP pL ?_
 refine yM ?_
 refine yP pL ?_
 refine yP pAdd ?_
 refine yA ?_
 refine zN (zB ?_)
 refine AW.loopw (fun mm σ => ∃ r, (r ≤ a.length + b.length + 1 ∧ num 4294967296 a / 4294967296 ^ r = num 4294967296 b / 4294967296 ^ r) ∧ mm = 1 * r ∧ σ = ⟨(upd (upd (upd emp 0 (.slice (some ⟨0, 0, none⟩) a.length 0)) 1 (.slice (some ⟨1, 0, none⟩) b.length 0)) 5 (vp r)), (upd (upd emp 0 ⟨a.map (vi .u64), false, 1⟩) 1 ⟨b.map (vi .u64), false, 1⟩)⟩) (fm := []) (wk [0, 1]) ⟨a.length + b.length + 1, ⟨Nat.le_refl _, ea.trans eb.symm⟩, rfl, rfl⟩ ?_
 rintro mm σ ⟨r, ⟨hr, he⟩, rfl, rfl⟩
 refine zQ (zS ?_)
 refine yM ?_
 refine yP (PureOp.geP rfl rfl) ?_
 refine zN ?_
 refine zA (fun hb0 => ?_) (fun hb0 => ?_)
 ·
  have hp0 : 0 < r := by simpa using hb0
  obtain ⟨r, rfl⟩ : ∃ q, r = q + 1 := ⟨r - 1, by omega⟩
  rw [vp_succ]
  have da := num_getD ha (by decide) r
  have db := num_getD hb (by decide) r
  refine zK (zT (zQ (zB (zQ (zS ?_)))))
  refine yM ?_
  refine yM ?_
  refine yC (get_ctr) bd72 [(0, 0)] [] ?_
  refine yM ?_
  refine yM ?_
  refine yC (get_ctr) bd72 [(1, 0)] [] ?_
  refine yP pLt ?_
  refine zN ?_
  refine zA (fun hb1 => ?_) (fun hb1 => ?_)
  ·
   have hlt : a.getD r 0 < b.getD r 0 := by simpa using hb1
   rw [da, db] at hlt
   have hab := top_lt he hlt
   refine zS ?_
   refine yA ?_
   refine zN (zE (zU (zI (zU (zU (zI (zU ?_)))))))
   exact rq [] [.tmp 4] (hres := (.cons rfl (congrArg (Value.int .i64) (by simp only [cmpI]; split <;> (try split) <;> omega)) .nil))
  ·
   have hge : ¬ a.getD r 0 < b.getD r 0 := by simpa using hb1
   refine zK (zT (zS ?_))
   refine yM ?_
   refine yM ?_
   refine yC (get_ctr) bd72 [(0, 0)] [] ?_
   refine yM ?_
   refine yM ?_
   refine yC (get_ctr) bd72 [(1, 0)] [] ?_
   refine yP pGt ?_
   refine zN ?_
   refine zA (fun hb2 => ?_) (fun hb2 => ?_)
   ·
    have hlt : b.getD r 0 < a.getD r 0 := by simpa using hb2
    rw [da, db] at hlt
    have hab := top_lt he.symm hlt
    refine zS ?_
    refine yA ?_
    refine zN (zE (zI (zU (zU (zI (zU ?_))))))
    exact rq [] [.tmp 4] (hres := (.cons rfl (congrArg (Value.int .i64) (by simp only [cmpI]; split <;> (try split) <;> omega)) .nil))
   ·
    have hge2 : ¬ b.getD r 0 < a.getD r 0 := by simpa using hb2
    rw [da, db] at hge hge2
    refine zK (zL (zT (zR ?_)))
    refine yM ?_
    refine yP (PureOp.subP rfl rfl (by omega)) ?_
    refine yA ?_
    refine zN (zT ?_)
    exact ⟨1 * r, [], _, by omega, wk [0, 1], r, ⟨by omega, top_eq he (by omega)⟩, rfl, rfl⟩
 ·
  obtain rfl : r = 0 := by simpa using hb0
  rw [Nat.pow_zero, Nat.div_one, Nat.div_one] at he
  refine zX (zV (zV (zH (zT (zS ?_)))))
  refine yA ?_
  refine zN (zE ?_)
  exact rq [] [.tmp 4] (hres := (.cons rfl (congrArg (Value.int .i64) (by simp only [cmpI]; split <;> (try split) <;> omega)) .nil))
end Go.Proofs.YtpahdiljpnfkdaaGreat
namespace Go.Proofs.YtpahdiljpnfkdaaGreat
open Go Sim
section
variable {B : Nat}
theorem digs_snoc (n v : Nat) : digs B (n + 1) v = digs B n v ++ [v / B ^ n % B] := by
  induction n generalizing v with
  | zero => simp [digs]
  | succ n ih =>
    rw [digs, ih, digs, List.cons_append, Nat.div_div_eq_div_mul, Nat.pow_succ, Nat.mul_comm (B ^ n) B]
theorem mul_step {l b : List Nat} {i j c p x s : Nat} (hk : i + j < l.length) (h : num B l + c * B ^ (i + j) = p + x * num B (b.take j) * B ^ i) (hs : s = l.getD (i + j) 0 + x * b.getD j 0 + c) :
    num B (l.set (i + j) (s % B)) + s / B * B ^ (i + (j + 1)) = p + x * num B (b.take (j + 1)) * B ^ i := by
  have h1 := num_set (B := B) (l := l) (k := i + j) (v := s % B) hk
  have h2 := Nat.mod_add_div s B
  rw [num_take_succ, ← Nat.add_assoc, Nat.pow_succ]
  rw [Nat.pow_add] at h h1 ⊢
  generalize B ^ i = u at *
  generalize B ^ j = v at *
  generalize num B (l.set (i + j) (s % B)) = z at *
  generalize num B (b.take j) = q at *
  generalize s % B = r at *
  generalize s / B = t at *
  generalize l.getD (i + j) 0 = e at *
  generalize b.getD j 0 = y at *
  have h3 : r * (u * v) + t * (u * v * B) = s * (u * v) := by rw [← h2]; grind
  subst hs
  grind
theorem mul_out {l a : List Nat} {i n c q : Nat} (hk : i + n < l.length) (h : num B l + c * B ^ (i + n) = num B (a.take i) * q + a.getD i 0 * q * B ^ i) (h0 : l.getD (i + n) 0 = 0) :
    num B (l.set (i + n) c) = num B (a.take (i + 1)) * q := by
  have h1 := num_set (B := B) (l := l) (k := i + n) (v := c) hk
  rw [h0, Nat.zero_mul, Nat.add_zero] at h1
  rw [h1, h, num_take_succ, Nat.add_mul]
  congr 1
  rw [Nat.mul_assoc, Nat.mul_comm q, Nat.mul_assoc]
theorem getD_set {l : List Nat} {k j v : Nat} (h : k ≠ j) : (l.set k v).getD j 0 = l.getD j 0 := by
  rw [List.getD_eq_getElem?_getD, List.getElem?_set_ne h, ← List.getD_eq_getElem?_getD]
theorem getD_set_self {l : List Nat} {k v : Nat} (h : k < l.length) : (l.set k v).getD k 0 = v := by
  rw [List.getD_eq_getElem?_getD, List.getElem?_set_self h]; rfl
theorem take_all {l : List Nat} : l.take l.length = l := List.take_of_length_le (Nat.le_refl _)
theorem word_two (v i : Nat) (hB : 0 < B) : v / B ^ (2 * i) % B + v / B ^ (2 * i + 1) % B * B = v / (B * B) ^ i % (B * B) := by
  have e : (B * B) ^ i = B ^ (2 * i) := by rw [← Nat.pow_two, ← Nat.pow_mul]
  rw [e, Nat.pow_succ, ← Nat.div_div_eq_div_mul, Nat.mod_mul, Nat.mul_comm B]
theorem mad_lt {e x y c b : Nat} (he : e < b) (hx : x < b) (hy : y < b) (hc : c < b) : e + x * y + c < b * b := by
  have h1 : x * y ≤ (b - 1) * (b - 1) := Nat.mul_le_mul (by omega) (by omega)
  obtain ⟨d, rfl⟩ : ∃ d, b = d + 1 := ⟨b - 1, by omega⟩
  simp only [Nat.add_sub_cancel] at h1
  have h2 : (d + 1) * (d + 1) = d * d + 2 * d + 1 := by grind
  omega
end
end Go.Proofs.YtpahdiljpnfkdaaGreat
namespace Go.Proofs.YtpahdiljpnfkdaaGreat
open Go Sim
theorem rep_getD (n k : Nat) : (List.replicate n 0).getD k 0 = 0 := by
 rw [List.getD_eq_getElem?_getD]
 rcases Nat.lt_or_ge k n with h | h
 · rw [List.getElem?_eq_getElem (by simpa using h)]; simp
 · rw [List.getElem?_eq_none (by simpa using h)]; rfl
def OfbI (a : List Nat) (r : Nat) (l : List Nat) : Prop := (∀ k, k < r / 4 → l.getD k 0 = 0) ∧ l.getD (r / 4) 0 = num 256 ((a.drop r).take (4 - r % 4)) ∧
 ∀ k, r / 4 < k → l.getD k 0 = num 256 ((a.drop (4 * k)).take 4)
theorem num_dropcons {a : List Nat} {r n : Nat} (hr : r < a.length) : num 256 ((a.drop r).take (n + 1)) = a.getD r 0 + 256 * num 256 ((a.drop (r + 1)).take n) := by
 rw [List.drop_eq_getElem_cons hr, List.take_succ_cons, num, List.getD_eq_getElem?_getD, List.getElem?_eq_getElem hr]; rfl
theorem ofbI_init (a : List Nat) : OfbI a a.length (List.replicate (a.length / 4 + 1) 0) := by
 refine ⟨fun k _ => rep_getD _ _, ?_, fun k hk => ?_⟩
 · rw [rep_getD]; simp [num]
 · rw [rep_getD, List.drop_of_length_le (by omega)]; rfl
theorem ofbI_val {a l : List Nat} {r : Nat} (hr : r < a.length) (hI : OfbI a (r + 1) l) : l.getD (r / 4) 0 * 256 + a.getD r 0 = num 256 ((a.drop r).take (4 - r % 4)) := by
  obtain ⟨h1, h2, h3⟩ := hI
  rw [show 4 - r % 4 = (3 - r % 4) + 1 by omega, num_dropcons hr]
  rcases Nat.lt_or_ge (r % 4) 3 with h | h
  · rw [show (r + 1) / 4 = r / 4 by omega, show 4 - (r + 1) % 4 = 3 - r % 4 by omega] at h2
    rw [h2]; omega
  · rw [show 3 - r % 4 = 0 by omega, h1 (r / 4) (by omega)]
    simp [num]
theorem ofbI_bd {a l : List Nat} {r : Nat} (h : bd 256 a) (_ : l.length = a.length / 4 + 1) (hr : r < a.length) (hI : OfbI a (r + 1) l) : l.getD (r / 4) 0 * 256 + a.getD r 0 < 4294967296 := by
 rw [ofbI_val hr hI]
 exact num_lt_pow (B := 256) (bd_take (bd_drop h _) _) (by decide) (n := 4) (by simp; omega)
theorem ofbI_step {a l : List Nat} {r : Nat} (_ : bd 256 a) (hl : l.length = a.length / 4 + 1) (hr : r < a.length) (hI : OfbI a (r + 1) l) : OfbI a r (l.set (r / 4) (l.getD (r / 4) 0 * 256 + a.getD r 0)) := by
  have hv := ofbI_val hr hI
  obtain ⟨h1, h2, h3⟩ := hI
  refine ⟨fun k hk => ?_, ?_, fun k hk => ?_⟩
  · rw [getD_set (by omega)]; exact h1 k (by omega)
  · rw [getD_set_self (by omega)]; exact hv
  · rw [getD_set (by omega)]
    rcases Nat.lt_or_ge ((r + 1) / 4) k with h | h
    · exact h3 k h
    · obtain rfl : k = (r + 1) / 4 := by omega
      rw [h2, show 4 * ((r + 1) / 4) = r + 1 by omega, show 4 - (r + 1) % 4 = 4 by omega]
theorem num_fours (a : List Nat) : ∀ (n : Nat) (l : List Nat), l.length = n → (∀ k, k < n → l.getD k 0 = num 256 ((a.drop (4 * k)).take 4)) → a.length ≤ 4 * n → num 4294967296 l = num 256 a := by
  intro n
  induction n generalizing a with
  | zero =>
    intro l hl _ ha
    obtain rfl := List.length_eq_zero_iff.1 hl
    obtain rfl : a = [] := List.length_eq_zero_iff.1 (by omega)
    rfl
  | succ n ih =>
    intro l hl hk ha
    obtain ⟨x, r, rfl⟩ : ∃ x r, l = x :: r := by cases l with
      | nil => simp at hl
      | cons x r => exact ⟨x, r, rfl⟩
    have h0 := hk 0 (by omega)
    simp only [List.getD_cons_zero, Nat.mul_zero, List.drop_zero] at h0
    have hr := ih (a.drop 4) r (by simpa using hl) (fun k hk2 => by
      have := hk (k + 1) (by omega)
      rw [List.getD_cons_succ] at this
      rw [this, List.drop_drop, show 4 + 4 * k = 4 * (k + 1) by omega]) (by simp; omega)
    rw [num, hr, h0]
    rcases Nat.lt_or_ge a.length 4 with h | h
    · rw [List.take_of_length_le (by omega), List.drop_of_length_le (by omega)]; simp [num]
    · have := num_take_drop (B := 256) a 4 h
      rw [this]
theorem ofbI_end {a l : List Nat} (_ : bd 256 a) (hl : l.length = a.length / 4 + 1) (hI : OfbI a 0 l) : num 4294967296 l = num 256 a := by
 obtain ⟨_, h2, h3⟩ := hI
 refine num_fours a _ l hl (fun k hk => ?_) (by omega)
 rcases Nat.eq_zero_or_pos k with rfl | h
 · simpa using h2
 · exact h3 k (by omega)
set_option maxRecDepth 10000 in
theorem words_ctr {a : List Nat} {n : Nat} (h : bd 4294967296 a) (hn : n < 100000000) : GC Tryz.prog 46 [.slice (some ⟨0, 0, none⟩) a.length 0, vi .i64 (n)] [⟨a.map (vi .u64), false, 1⟩] [.slice (some ⟨1, 0, none⟩) (digs 18446744073709551616 n (num 4294967296 a)).length 0] [⟨a.map (vi .u64), false, 1⟩, ⟨(digs 18446744073709551616 n (num 4294967296 a)).map (vi .u64), true, 1⟩] := by
 refine gi Tryz.func46 ?_
 refine zS ?_
 refine yA ?_
 refine zN (zS ?_)
 refine yM ?_
 refine AWo.makeSliceC (n := 0) tbok 9000 ((List.replicate 0 0).map (vi .u64)) rfl rfl (by omega) rfl rfl (by decide) rfl rfl rfl rfl (by omega) (by omega) (by simp [vi]) rfl rfl rfl ?_
 refine yA ?_
 refine zN (zQ (zS ?_))
 refine yA ?_
 refine zN (zB ?_)
 refine AW.loopw (fun mm σ => ∃ i, (i ≤ n) ∧ mm = n - i ∧ σ = ⟨(upd (upd (upd (upd emp 0 (.slice (some ⟨0, 0, none⟩) a.length 0)) 1 (vi .i64 n)) 5 (.slice (some ⟨77000, 0, none⟩) i 0)) 6 (vi .i64 i)), (upd (upd emp 0 ⟨a.map (vi .u64), false, 1⟩) 77000 ⟨(digs 18446744073709551616 i (num 4294967296 a)).map (vi .u64), true, 1⟩)⟩) (fm := [(77000, 9000)]) (wk [0, 77000]) ⟨0, Nat.zero_le _, rfl, rfl⟩ ?_
 rintro mm σ ⟨i, hinv, rfl, rfl⟩
 have hx := bd_getD h (by decide) (2 * i)
 have hy := bd_getD h (by decide) (2 * i + 1)
 have hxy := word_two (B := 4294967296) (num 4294967296 a) i (by decide)
 rw [← num_getD h (by decide), ← num_getD h (by decide)] at hxy
 refine zQ (zS ?_)
 refine yM ?_
 refine yM ?_
 refine yP pLt ?_
 refine zN ?_
 refine zA (fun hb0 => ?_) (fun hb0 => ?_)
 ·
  have hi : i < n := by simpa using hb0
  refine zK (zT (zQ (zB (zR ?_))))
  refine yM ?_
  refine yM ?_
  refine yM ?_
  refine yP ((PureOp.mulI (a := 2) rfl rfl (by omega)).mono (v' := vi .i64 (2 * i)) rfl) ?_
  refine yC (get_ctr) bd72 [(0, 0)] [] ?_
  refine yM ?_
  refine yM ?_
  refine yP ((PureOp.mulI (a := 2) rfl rfl (by omega)).mono (v' := vi .i64 (2 * i)) rfl) ?_
  refine yP (pAdd (b := 1)) ?_
  refine yC (get_ctr) bd72 [(0, 0)] [] ?_
  refine yP ((PureOp.mulU (b := 4294967296) 18446744073709551616 rfl rfl rfl rfl).mono (v' := vi .u64 (a.getD (2 * i + 1) 0 * 4294967296)) (by rw [Nat.mod_eq_of_lt (by omega)])) ?_
  refine yP ((PureOp.addU 18446744073709551616 rfl rfl rfl rfl).mono (v' := vi .u64 (num 4294967296 a / 18446744073709551616 ^ i % 18446744073709551616)) (by rw [Nat.mod_eq_of_lt (by omega), hxy])) ?_
  refine AWo.buildSlice tbok 27000 [(0, vi .u64 (num 4294967296 a / 18446744073709551616 ^ i % 18446744073709551616))] (out := [vi .u64 (num 4294967296 a / 18446744073709551616 ^ i % 18446744073709551616)]) rfl rfl (by decide) rfl rfl rfl (by decide) rfl rfl rfl rfl rfl ?_
  refine AWo.append tbok (all := (digs 18446744073709551616 (i + 1) (num 4294967296 a)).map (vi .u64)) 28000 rfl rfl rfl rfl (by simp [digs_len]) rfl (by (simp; done)) (by decide) rfl rfl rfl (by decide) rfl rfl rfl (by omega) (by omega) rfl (by rw [digs_snoc, ← map_snoc]; rfl) rfl rfl ?_
  refine yA ?_
  refine zN (zL (zT (zR ?_)))
  refine yM ?_
  refine yP (pAdd (b := 1)) ?_
  refine yA ?_
  refine zN (zT ?_)
  exact ⟨n - (i + 1), [(77000, 28000)], _, by omega, wk [0, 77000], i + 1, by omega, rfl, rfl⟩
 ·
  have hi : i = n := by simp at hb0; omega
  subst hi
  refine zX (zV (zV (zH (zT (zS ?_)))))
  refine yM ?_
  refine yA ?_
  refine zN (zE ?_)
  exact rq [77000] [.tmp 4] (hres := (.cons rfl (by simp [ren, ren1, hmap, digs_len]) .nil))
set_option maxRecDepth 10000 in
theorem radd_ctr {a b : List Nat} (ha : bd 4294967296 a) (hb : bd 4294967296 b) (hla : a.length < 100000000) (hlb : b.length < 100000000) : GC Tryz.prog 68 [.slice (some ⟨0, 0, none⟩) a.length 0, .slice (some ⟨1, 0, none⟩) b.length 0] [⟨a.map (vi .u64), false, 1⟩, ⟨b.map (vi .u64), false, 1⟩] [.slice (some ⟨2, 0, none⟩) (D 4294967296 (num 4294967296 a + num 4294967296 b)).length 0] [⟨a.map (vi .u64), false, 1⟩, ⟨b.map (vi .u64), false, 1⟩, ⟨(D 4294967296 (num 4294967296 a + num 4294967296 b)).map (vi .u64), true, 1⟩] := by
 refine gi Tryz.func68 ?_
 refine zS ?_
 refine yA ?_
 refine zN (zS ?_)
 refine yM ?_
 refine yP pL ?_
 refine yA ?_
 refine zN (zQ (zS ?_))
 refine yM ?_
 refine yP pL ?_
 refine yM ?_
 refine yP pGt ?_
 refine zN ?_
 refine AW.joinT (fun σ => ∃ n, (a.length ≤ n ∧ b.length ≤ n ∧ n < 900000000) ∧ σ = ⟨(upd (upd (upd emp 0 (.slice (some ⟨0, 0, none⟩) a.length 0)) 1 (.slice (some ⟨1, 0, none⟩) b.length 0)) 5 (vi .i64 n)), (upd (upd emp 0 ⟨a.map (vi .u64), false, 1⟩) 1 ⟨b.map (vi .u64), false, 1⟩)⟩) ?_ ?_
 ·
  refine zA (fun hb0 => ?_) (fun hb0 => ?_)
  ·
   have hab : a.length < b.length := by simpa using hb0
   refine zR ?_
   refine yM ?_
   refine yP pL ?_
   refine yA ?_
   refine zN (zT ?_)
   refine ⟨[], _, ?_, (by exact ⟨b.length, ⟨by omega, by omega, by omega⟩, rfl⟩)⟩
   exact wk [0, 1]
  ·
   have hab : b.length ≤ a.length := by simpa using hb0
   refine zK (zT ?_)
   refine ⟨[], _, ?_, (by exact ⟨a.length, ⟨by omega, by omega, by omega⟩, rfl⟩)⟩
   exact wk [0, 1]
 ·
  rintro σ ⟨n, ⟨hn1, hn2, hn3⟩, rfl⟩
  refine zS ?_
  refine yM ?_
  refine yP (pAdd (b := 1)) ?_
  refine AWo.makeSliceC (n := 0) tbok 21000 ((List.replicate 0 0).map (vi .u64)) rfl rfl (by omega) rfl rfl (by decide) rfl rfl rfl rfl (by omega) (by omega) (by simp [vi]) rfl rfl rfl ?_
  refine yA ?_
  refine zN (zS ?_)
  refine yA ?_
  refine zN (zQ (zS ?_))
  refine yA ?_
  refine zN (zB ?_)
  refine AW.loopw (fun mm σ => ∃ i, ∃ (l : List Nat), ∃ c, (i ≤ n + 1 ∧ l.length = i ∧ bd 4294967296 l ∧ c ≤ 1 ∧ num 4294967296 l + 4294967296 ^ i * c = num 4294967296 a % 4294967296 ^ i + num 4294967296 b % 4294967296 ^ i) ∧ mm = n + 1 - i ∧ σ = ⟨(upd (upd (upd (upd (upd (upd emp 0 (.slice (some ⟨0, 0, none⟩) a.length 0)) 1 (.slice (some ⟨1, 0, none⟩) b.length 0)) 5 (vi .i64 n)) 6 (.slice (some ⟨77000, 0, none⟩) i 0)) 7 (vi .u64 c)) 8 (vi .i64 i)), (upd (upd (upd emp 0 ⟨a.map (vi .u64), false, 1⟩) 1 ⟨b.map (vi .u64), false, 1⟩) 77000 ⟨l.map (vi .u64), true, 1⟩)⟩) (fm := [(77000, 21000)]) (wk [0, 1, 77000]) ⟨0, [], 0, ⟨by omega, rfl, bd_nil, by omega, by simp [num, Nat.mod_one]⟩, rfl, rfl⟩ ?_
  rintro mm σ ⟨i, l, c, ⟨hi0, hl2, hbl, hc, hnl⟩, rfl, rfl⟩
  have hx := bd_getD ha (by decide) i
  have hy := bd_getD hb (by decide) i
  refine zQ (zS ?_)
  refine yM ?_
  refine yM ?_
  refine yP (PureOp.leN rfl rfl) ?_
  refine zN ?_
  refine zA (fun hb1 => ?_) (fun hb1 => ?_)
  ·
   have hi : i ≤ n := by simpa using hb1
   refine zK (zT (zQ (zB (zS ?_))))
   refine yM ?_
   refine yM ?_
   refine yC (get_ctr) bd72 [(0, 0)] [] ?_
   refine yM ?_
   refine yM ?_
   refine yC (get_ctr) bd72 [(1, 0)] [] ?_
   refine yP ((PureOp.addU 18446744073709551616 rfl rfl rfl rfl).mono (v' := vi .u64 (a.getD i 0 + b.getD i 0)) (by rw [Nat.mod_eq_of_lt (by omega)])) ?_
   refine yM ?_
   refine yP ((PureOp.addU 18446744073709551616 rfl rfl rfl rfl).mono (v' := vi .u64 (a.getD i 0 + b.getD i 0 + c)) (by rw [Nat.mod_eq_of_lt (by omega)])) ?_
   refine yA ?_
   refine zN (zS ?_)
   refine yM ?_
   refine yM ?_
   refine yP (PureOp.remN (b := 4294967296) rfl rfl (by decide)) ?_
   refine AWo.buildSlice tbok 39000 [(0, vi .u64 ((a.getD i 0 + b.getD i 0 + c) % 4294967296))] (out := [vi .u64 ((a.getD i 0 + b.getD i 0 + c) % 4294967296)]) rfl rfl (by decide) rfl rfl rfl (by decide) rfl rfl rfl rfl rfl ?_
   refine AWo.append tbok (all := (l ++ [(a.getD i 0 + b.getD i 0 + c) % 4294967296]).map (vi .u64)) 40000 rfl rfl rfl rfl (by simp [hl2]) rfl (by (simp; done)) (by decide) rfl rfl rfl (by decide) rfl rfl rfl (by omega) (by omega) rfl (map_snoc _ _ _) rfl rfl ?_
   refine yA ?_
   refine zN (zR ?_)
   refine yM ?_
   refine yP (PureOp.quoN (b := 4294967296) 18446744073709551616 rfl rfl (by decide) (by decide) (by decide) (by omega)) ?_
   refine yA ?_
   refine zN (zL (zT (zR ?_)))
   refine yM ?_
   refine yP (pAdd (b := 1)) ?_
   refine yA ?_
   refine zN (zT ?_)
   exact ⟨n + 1 - (i + 1), [(77000, 40000)], _, by omega, wk [0, 1, 77000], i + 1, l ++ [(a.getD i 0 + b.getD i 0 + c) % 4294967296], (a.getD i 0 + b.getD i 0 + c) / 4294967296, ⟨by omega, snoc_len hl2, bd_snoc hbl (Nat.mod_lt _ (by decide)), by omega, add_step hl2 hnl (num_getD ha (by decide) i) (num_getD hb (by decide) i)⟩, rfl, rfl⟩
  ·
   have hi : i = n + 1 := by simp at hb1; omega
   subst hi
   have hv := add_end (by decide) hnl (num_lt_pow ha (by decide) hn1) (num_lt_pow hb (by decide) hn2)
   refine zX (zV (zV (zH (zT (zS ?_)))))
   refine yM ?_
   refine yC (trim_ctr (a := l) hbl hv hl2 (by omega)) bd26 [(77000, 0)] [] ?_
   refine yA ?_
   refine zN (zE ?_)
   exact rq [77000] [.tmp 4] (hb := (OutL.flat rfl (by exact flatM flat_vi) (by intro h; exact h.elim id fun h => absurd h.1 (by simp)) (OutL.flat rfl (by exact flatM flat_vi) (by intro h; exact h.elim id fun h => absurd h.1 (by simp)) (OutL.part rfl (dpart (by decide) hbl hv) (flatM flat_vi) (fun _ => rfl) (dpart_len (by decide) hbl hv) trivial))))
set_option maxRecDepth 10000 in
theorem rsub_ctr {a b : List Nat} (ha : bd 4294967296 a) (hb : bd 4294967296 b) (hla : a.length < 100000000) (hlb : b.length < 100000000) (hle : num 4294967296 b ≤ num 4294967296 a) : GC Tryz.prog 71 [.slice (some ⟨0, 0, none⟩) a.length 0, .slice (some ⟨1, 0, none⟩) b.length 0] [⟨a.map (vi .u64), false, 1⟩, ⟨b.map (vi .u64), false, 1⟩] [.slice (some ⟨2, 0, none⟩) (D 4294967296 (num 4294967296 a - num 4294967296 b)).length 0] [⟨a.map (vi .u64), false, 1⟩, ⟨b.map (vi .u64), false, 1⟩, ⟨(D 4294967296 (num 4294967296 a - num 4294967296 b)).map (vi .u64), true, 1⟩] := by
 refine gi Tryz.func71 ?_
 refine zS ?_
 refine yA ?_
 refine zN (zS ?_)
 refine yM ?_
 refine yP pL ?_
 refine AWo.makeSliceC (n := 0) tbok 12000 ((List.replicate 0 0).map (vi .u64)) rfl rfl (by omega) rfl rfl (by decide) rfl rfl rfl rfl (by omega) (by omega) (by simp [vi]) rfl rfl rfl ?_
 refine yA ?_
 refine zN (zS ?_)
 refine yA ?_
 refine zN (zQ (zS ?_))
 refine yA ?_
 refine zN (zB ?_)
 refine AW.loopw (fun mm σ => ∃ i, ∃ (l : List Nat), ∃ c, (i ≤ a.length ∧ l.length = i ∧ bd 4294967296 l ∧ c ≤ 1 ∧ num 4294967296 l + num 4294967296 b % 4294967296 ^ i = num 4294967296 a % 4294967296 ^ i + 4294967296 ^ i * c) ∧ mm = a.length - i ∧ σ = ⟨(upd (upd (upd (upd (upd emp 0 (.slice (some ⟨0, 0, none⟩) a.length 0)) 1 (.slice (some ⟨1, 0, none⟩) b.length 0)) 5 (.slice (some ⟨77000, 0, none⟩) i 0)) 6 (vi .u64 c)) 7 (vi .i64 i)), (upd (upd (upd emp 0 ⟨a.map (vi .u64), false, 1⟩) 1 ⟨b.map (vi .u64), false, 1⟩) 77000 ⟨l.map (vi .u64), true, 1⟩)⟩) (fm := [(77000, 12000)]) (wk [0, 1, 77000]) ⟨0, [], 0, ⟨by omega, rfl, bd_nil, by omega, by simp [num, Nat.mod_one]⟩, rfl, rfl⟩ ?_
 rintro mm σ ⟨i, l, c, ⟨hi0, hl2, hbl, hc, hnl⟩, rfl, rfl⟩
 have hx := bd_getD ha (by decide) i
 have hy := bd_getD hb (by decide) i
 refine zQ (zS ?_)
 refine yM ?_
 refine yM ?_
 refine yP pL ?_
 refine yP pLt ?_
 refine zN ?_
 refine zA (fun hb0 => ?_) (fun hb0 => ?_)
 ·
  have hi : i < a.length := by simpa using hb0
  refine zK (zT (zQ (zB ?_)))
  refine AW.seqD mixed ?_
  refine yM ?_
  refine yM ?_
  refine yP pJ ?_
  refine yL 0 ?_
  refine yP ((PureOp.addU (a := 4294967296) 18446744073709551616 rfl rfl rfl rfl).mono (v' := vi .u64 (4294967296 + a.getD i 0)) (by rw [Nat.mod_eq_of_lt (by omega)])) ?_
  refine yM ?_
  refine yM ?_
  refine yC (get_ctr) bd72 [(1, 0)] [] ?_
  refine yP ((PureOp.subU 18446744073709551616 rfl rfl rfl rfl (by omega)).mono (v' := vi .u64 (4294967296 + a.getD i 0 - b.getD i 0)) (by congr 1; omega)) ?_
  refine yM ?_
  refine yP ((PureOp.subU 18446744073709551616 rfl rfl rfl rfl (by omega)).mono (v' := vi .u64 (4294967296 + a.getD i 0 - b.getD i 0 - c)) (by congr 1; omega)) ?_
  refine yA ?_
  refine zD (zS ?_)
  refine yM ?_
  refine yM ?_
  refine yP (PureOp.remN (b := 4294967296) rfl rfl (by decide)) ?_
  refine AWo.buildSlice tbok 33000 [(0, vi .u64 ((4294967296 + a.getD i 0 - b.getD i 0 - c) % 4294967296))] (out := [vi .u64 ((4294967296 + a.getD i 0 - b.getD i 0 - c) % 4294967296)]) rfl rfl (by decide) rfl rfl rfl (by decide) rfl rfl rfl rfl rfl ?_
  refine AWo.append tbok (all := (l ++ [(4294967296 + a.getD i 0 - b.getD i 0 - c) % 4294967296]).map (vi .u64)) 34000 rfl rfl rfl rfl (by simp [hl2]) rfl (by (simp; done)) (by decide) rfl rfl rfl (by decide) rfl rfl rfl (by omega) (by omega) rfl (map_snoc _ _ _) rfl rfl ?_
  refine yA ?_
  refine zN (zR ?_)
  refine yM ?_
  refine yP (PureOp.quoN (b := 4294967296) 18446744073709551616 rfl rfl (by decide) (by decide) (by decide) (by omega)) ?_
  refine yP ((PureOp.subU (a := 1) 18446744073709551616 rfl rfl rfl rfl (by omega)).mono (v' := vi .u64 (1 - (4294967296 + a.getD i 0 - b.getD i 0 - c) / 4294967296)) (by congr 1; omega)) ?_
  refine yA ?_
  refine zN (zL (zT (zR ?_)))
  refine yM ?_
  refine yP (pAdd (b := 1)) ?_
  refine yA ?_
  refine zN (zT ?_)
  exact ⟨a.length - (i + 1), [(77000, 34000)], _, by omega, wk [0, 1, 77000], i + 1, l ++ [(4294967296 + a.getD i 0 - b.getD i 0 - c) % 4294967296], 1 - (4294967296 + a.getD i 0 - b.getD i 0 - c) / 4294967296, ⟨by omega, snoc_len hl2, bd_snoc hbl (Nat.mod_lt _ (by decide)), by omega, sub_step hl2 hnl (num_getD ha (by decide) i) (num_getD hb (by decide) i) hy hc⟩, rfl, rfl⟩
 ·
  have hi : i = a.length := by simp at hb0; omega
  have hv := sub_end hbl hl2 hnl (by rw [hi]; exact num_lt ha) hle
  refine zX (zV (zV (zH (zT (zS ?_)))))
  refine yM ?_
  refine yC (trim_ctr (a := l) hbl hv hl2 (by omega)) bd26 [(77000, 0)] [] ?_
  refine yA ?_
  refine zN (zE ?_)
  exact rq [77000] [.tmp 4] (hb := (OutL.flat rfl (by exact flatM flat_vi) (by intro h; exact h.elim id fun h => absurd h.1 (by simp)) (OutL.flat rfl (by exact flatM flat_vi) (by intro h; exact h.elim id fun h => absurd h.1 (by simp)) (OutL.part rfl (dpart (by decide) hbl hv) (flatM flat_vi) (fun _ => rfl) (dpart_len (by decide) hbl hv) trivial))))
set_option maxRecDepth 10000 in
theorem rmul_ctr {a b : List Nat} (ha : bd 4294967296 a) (hb : bd 4294967296 b) (hla : a.length < 100000000) (hlb : b.length < 100000000) : GC Tryz.prog 69 [.slice (some ⟨0, 0, none⟩) a.length 0, .slice (some ⟨1, 0, none⟩) b.length 0] [⟨a.map (vi .u64), false, 1⟩, ⟨b.map (vi .u64), false, 1⟩] [.slice (some ⟨2, 0, none⟩) (D 4294967296 (num 4294967296 a * num 4294967296 b)).length 0] [⟨a.map (vi .u64), false, 1⟩, ⟨b.map (vi .u64), false, 1⟩, ⟨(D 4294967296 (num 4294967296 a * num 4294967296 b)).map (vi .u64), true, 1⟩] := by
 refine gi Tryz.func69 ?_
 refine zS ?_
 refine yA ?_
 refine zN (zS ?_)
 refine yM ?_
 refine yP pL ?_
 refine yM ?_
 refine yP pL ?_
 refine yP pAdd ?_
 refine yP (pAdd (b := 1)) ?_
 refine AWo.makeI tbok 17000 rfl rfl rfl rfl rfl rfl (by omega) (by omega) rfl rfl rfl ?_
 refine yA ?_
 refine zN (zQ (zS ?_))
 refine yA ?_
 refine zN (zB ?_)
 refine AW.loopw (fun mm σ => ∃ i, ∃ (l : List Nat), (i ≤ a.length ∧ l.length = a.length + b.length + 1 ∧ bd 4294967296 l ∧ num 4294967296 l = num 4294967296 (a.take i) * num 4294967296 b ∧ (∀ k, i + b.length ≤ k → l.getD k 0 = 0)) ∧ mm = a.length - i ∧ σ = ⟨(upd (upd (upd (upd emp 0 (.slice (some ⟨0, 0, none⟩) a.length 0)) 1 (.slice (some ⟨1, 0, none⟩) b.length 0)) 5 (.slice (some ⟨77000, 0, none⟩) (a.length + b.length + 1) 0)) 6 (vi .i64 i)), (upd (upd (upd emp 0 ⟨a.map (vi .u64), false, 1⟩) 1 ⟨b.map (vi .u64), false, 1⟩) 77000 ⟨l.map (vi .u64), true, 1⟩)⟩) (fm := [(77000, 17000)]) (wk [0, 1, 77000]) ⟨0, List.replicate (a.length + b.length + 1) 0, ⟨by omega, by simp, bd_replicate (by decide) _, by simp [num, num_replicate], fun k _ => rep_getD _ _⟩, rfl, rfl⟩ ?_
 rintro mm σ ⟨i, l, ⟨hi0, hl2, hbl, hnl, hz⟩, rfl, rfl⟩
 refine zQ (zS ?_)
 refine yM ?_
 refine yM ?_
 refine yP pL ?_
 refine yP pLt ?_
 refine zN ?_
 refine zA (fun hb0 => ?_) (fun hb0 => ?_)
 ·
  have hi : i < a.length := by simpa using hb0
  refine zK (zT (zQ (zB (zS ?_))))
  refine yA ?_
  refine zN (zQ (zS ?_))
  refine yA ?_
  refine zN (zB ?_)
  refine AW.loopw (fun mm σ => ∃ j, ∃ (l2 : List Nat), ∃ c, (j ≤ b.length ∧ l2.length = a.length + b.length + 1 ∧ bd 4294967296 l2 ∧ c < 4294967296 ∧ num 4294967296 l2 + c * 4294967296 ^ (i + j) = num 4294967296 (a.take i) * num 4294967296 b + a.getD i 0 * num 4294967296 (b.take j) * 4294967296 ^ i ∧ (∀ k, i + b.length ≤ k → l2.getD k 0 = 0)) ∧ mm = b.length - j ∧ σ = ⟨(upd (upd (upd (upd (upd (upd emp 0 (.slice (some ⟨0, 0, none⟩) a.length 0)) 1 (.slice (some ⟨1, 0, none⟩) b.length 0)) 5 (.slice (some ⟨77000, 0, none⟩) (a.length + b.length + 1) 0)) 6 (vi .i64 i)) 7 (vi .u64 c)) 8 (vi .i64 j)), (upd (upd (upd emp 0 ⟨a.map (vi .u64), false, 1⟩) 1 ⟨b.map (vi .u64), false, 1⟩) 77000 ⟨l2.map (vi .u64), true, 1⟩)⟩) (fm := []) (wk [0, 1, 77000]) ⟨0, l, 0, ⟨by omega, hl2, hbl, by decide, by simp [num, hnl], hz⟩, rfl, rfl⟩ ?_
  rintro mm σ ⟨j, l2, c, ⟨hj0, hk2, hbk, hc, hnk, hzk⟩, rfl, rfl⟩
  have hx := bd_getD ha (by decide) i
  have hy := bd_getD hb (by decide) j
  have he := bd_getD hbk (by decide) (i + j)
  have hlt := mad_lt he hx hy hc
  refine zQ (zS ?_)
  refine yM ?_
  refine yM ?_
  refine yP pL ?_
  refine yP pLt ?_
  refine zN ?_
  refine zA (fun hb1 => ?_) (fun hb1 => ?_)
  ·
   have hj : j < b.length := by simpa using hb1
   refine zK (zT (zQ (zB ?_)))
   refine AW.seqD mixed ?_
   refine yM ?_
   refine yM ?_
   refine yM ?_
   refine yP pAdd ?_
   refine yP pJ ?_
   refine yL 0 ?_
   refine yM ?_
   refine yM ?_
   refine yP pJ ?_
   refine yL 0 ?_
   refine yM ?_
   refine yM ?_
   refine yP pJ ?_
   refine yL 0 ?_
   refine yP ((PureOp.mulU 18446744073709551616 rfl rfl rfl rfl).mono (v' := vi .u64 (a.getD i 0 * b.getD j 0)) (by rw [Nat.mod_eq_of_lt (by omega)])) ?_
   refine yP ((PureOp.addU 18446744073709551616 rfl rfl rfl rfl).mono (v' := vi .u64 (l2.getD (i + j) 0 + a.getD i 0 * b.getD j 0)) (by rw [Nat.mod_eq_of_lt (by omega)])) ?_
   refine yM ?_
   refine yP ((PureOp.addU 18446744073709551616 rfl rfl rfl rfl).mono (v' := vi .u64 (l2.getD (i + j) 0 + a.getD i 0 * b.getD j 0 + c)) (by rw [Nat.mod_eq_of_lt (by omega)])) ?_
   refine yA ?_
   refine zD (zS ?_)
   refine yM ?_
   refine yM ?_
   refine yM ?_
   refine yP pAdd ?_
   refine yM ?_
   refine yP (PureOp.remN (b := 4294967296) rfl rfl (by decide)) ?_
   refine yP pJ ?_
   refine yS (vi .u64) ?_
   refine zN (zR ?_)
   refine yM ?_
   refine yP (PureOp.quoN (b := 4294967296) 18446744073709551616 rfl rfl (by decide) (by decide) (by decide) (by omega)) ?_
   refine yA ?_
   refine zN (zL (zT (zR ?_)))
   refine yM ?_
   refine yP (pAdd (b := 1)) ?_
   refine yA ?_
   refine zN (zT ?_)
   exact ⟨b.length - (j + 1), [], _, by omega, wk [0, 1, 77000], j + 1, l2.set (i + j) ((l2.getD (i + j) 0 + a.getD i 0 * b.getD j 0 + c) % 4294967296), (l2.getD (i + j) 0 + a.getD i 0 * b.getD j 0 + c) / 4294967296, ⟨by omega, by simp [hk2], bd_set hbk (Nat.mod_lt _ (by decide)), Nat.div_lt_of_lt_mul hlt, mul_step (by omega) hnk rfl, fun k hk => by rw [getD_set (by omega)]; exact hzk k hk⟩, rfl, rfl⟩
  ·
   have hj : j = b.length := by simp at hb1; omega
   subst hj
   rw [take_all] at hnk
   refine zX (zV (zV (zH (zT (zR ?_)))))
   refine yM ?_
   refine yM ?_
   refine yM ?_
   refine yP pL ?_
   refine yP pAdd ?_
   refine yM ?_
   refine yP pJ ?_
   refine yS (vi .u64) ?_
   refine zN (zL (zT (zR ?_)))
   refine yM ?_
   refine yP (pAdd (b := 1)) ?_
   refine yA ?_
   refine zN (zT ?_)
   exact ⟨a.length - (i + 1), [], _, by omega, wk [0, 1, 77000], i + 1, l2.set (i + b.length) c, ⟨by omega, by simp [hk2], bd_set hbk hc, mul_out (by omega) hnk (hzk _ (Nat.le_refl _)), fun k hk => by rw [getD_set (by omega)]; exact hzk k (by omega)⟩, rfl, rfl⟩
 ·
  have hi : i = a.length := by simp at hb0; omega
  subst hi
  have hv : num 4294967296 l = num 4294967296 a * num 4294967296 b := by rw [hnl, take_all]
  refine zX (zV (zV (zH (zT (zS ?_)))))
  refine yM ?_
  refine yC (trim_ctr (a := l) hbl hv hl2 (by omega)) bd26 [(77000, 0)] [] ?_
  refine yA ?_
  refine zN (zE ?_)
  exact rq [77000] [.tmp 4] (hb := (OutL.flat rfl (by exact flatM flat_vi) (by intro h; exact h.elim id fun h => absurd h.1 (by simp)) (OutL.flat rfl (by exact flatM flat_vi) (by intro h; exact h.elim id fun h => absurd h.1 (by simp)) (OutL.part rfl (dpart (by decide) hbl hv) (flatM flat_vi) (fun _ => rfl) (dpart_len (by decide) hbl hv) trivial))))
set_option maxRecDepth 10000 in
theorem ofb_ctr {a : List Nat} (h : bd 256 a) (hla : a.length < 100000000) : GC Tryz.prog 20 [.slice (some ⟨0, 0, none⟩) a.length 0] [⟨a.map (vi .u8), false, 1⟩] [.slice (some ⟨1, 0, none⟩) (D 4294967296 (num 256 a)).length 0] [⟨a.map (vi .u8), false, 1⟩, ⟨(D 4294967296 (num 256 a)).map (vi .u64), true, 1⟩] := by
 refine gi Tryz.func20 ?_
 refine zS ?_
 refine yA ?_
 refine zN (zS ?_)
 refine yM ?_
 refine yP pL ?_
 refine yP (PureOp.quoN (b := 4) 9223372036854775808 rfl rfl (by decide) (by decide) (by decide) (by omega)) ?_
 refine yP (pAdd (b := 1)) ?_
 refine AWo.makeI tbok 10000 rfl rfl rfl rfl rfl rfl (by omega) (by omega) rfl rfl rfl ?_
 refine yA ?_
 refine zN (zQ (zS ?_))
 refine yM ?_
 refine yP pL ?_
 refine yP (PureOp.subP rfl rfl (by omega)) ?_
 refine yA ?_
 refine zN (zB ?_)
 refine AW.loopw (fun mm σ => ∃ r, ∃ (l : List Nat), (r ≤ a.length ∧ l.length = a.length / 4 + 1 ∧ bd 4294967296 l ∧ OfbI a r l) ∧ mm = 1 * r ∧ σ = ⟨(upd (upd (upd emp 0 (.slice (some ⟨0, 0, none⟩) a.length 0)) 3 (.slice (some ⟨77000, 0, none⟩) (a.length / 4 + 1) 0)) 4 (vp r)), (upd (upd emp 0 ⟨a.map (vi .u8), false, 1⟩) 77000 ⟨l.map (vi .u64), true, 1⟩)⟩) (fm := [(77000, 10000)]) (wk [0, 77000]) ⟨a.length, List.replicate (a.length / 4 + 1) 0, ⟨Nat.le_refl _, by simp, bd_replicate (by decide) _, ofbI_init a⟩, rfl, rfl⟩ ?_
 rintro mm σ ⟨r, l, ⟨hr, hl2, hbl, hI⟩, rfl, rfl⟩
 refine zQ (zS ?_)
 refine yM ?_
 refine yP (PureOp.geP rfl rfl) ?_
 refine zN ?_
 refine zA (fun hb0 => ?_) (fun hb0 => ?_)
 ·
  have hp0 : 0 < r := by simpa using hb0
  obtain ⟨r, rfl⟩ : ∃ q, r = q + 1 := ⟨r - 1, by omega⟩
  rw [vp_succ]
  have hx := bd_getD h (by decide) r
  have hs := ofbI_bd h hl2 (by omega) hI
  refine zK (zT (zQ (zB ?_)))
  refine AW.draw mixed ?_
  refine yM ?_
  refine yM ?_
  refine yP (PureOp.quoN (b := 4) 9223372036854775808 rfl rfl (by decide) (by decide) (by decide) (by omega)) ?_
  refine yM ?_
  refine yM ?_
  refine yP (PureOp.quoN (b := 4) 9223372036854775808 rfl rfl (by decide) (by decide) (by decide) (by omega)) ?_
  refine yP pJ ?_
  refine yL 0 ?_
  refine yP ((PureOp.mulU (b := 256) 18446744073709551616 rfl rfl rfl rfl).mono (v' := vi .u64 (l.getD (r / 4) 0 * 256)) (by rw [Nat.mod_eq_of_lt (by omega)])) ?_
  refine yM ?_
  refine yM ?_
  refine yP pJ ?_
  refine yL 0 ?_
  refine yP (PureOp.cvtN tbok 18446744073709551616 rfl rfl rfl (by decide) (by decide) (by omega)) ?_
  refine yP ((PureOp.addU 18446744073709551616 rfl rfl rfl rfl).mono (v' := vi .u64 (l.getD (r / 4) 0 * 256 + a.getD r 0)) (by rw [Nat.mod_eq_of_lt (by omega)])) ?_
  refine yP pJ ?_
  refine yS (vi .u64) ?_
  refine zD (zL (zT (zR ?_)))
  refine yM ?_
  refine yP (PureOp.subP rfl rfl (by omega)) ?_
  refine yA ?_
  refine zN (zT ?_)
  exact ⟨1 * r, [], _, by omega, wk [0, 77000], r, l.set (r / 4) (l.getD (r / 4) 0 * 256 + a.getD r 0), ⟨by omega, by simp [hl2], bd_set hbl hs, ofbI_step h hl2 (by omega) hI⟩, rfl, rfl⟩
 ·
  obtain rfl : r = 0 := by simpa using hb0
  have hv := ofbI_end h hl2 hI
  refine zX (zV (zV (zH (zT (zS ?_)))))
  refine yM ?_
  refine yC (trim_ctr (a := l) hbl hv hl2 (by omega)) bd26 [(77000, 0)] [] ?_
  refine yA ?_
  refine zN (zE ?_)
  exact rq [77000] [.tmp 2] (hb := (OutL.flat rfl (by exact flatM flat_vi) (by intro h; exact h.elim id fun h => absurd h.1 (by simp)) (OutL.part rfl (dpart (by decide) hbl hv) (flatM flat_vi) (fun _ => rfl) (dpart_len (by decide) hbl hv) trivial)))
end Go.Proofs.YtpahdiljpnfkdaaGreat
namespace Go.Proofs.YtpahdiljpnfkdaaGreat
open Go Sim
section
variable {B : Nat}
theorem take_set_succ {l : List Nat} {i v : Nat} (h : i < l.length) : (l.set i v).take (i + 1) = l.take i ++ [v] := by
 rw [List.take_succ_eq_append_getElem (by simpa using h), List.take_set_of_le (Nat.le_refl _)]
 simp
theorem sumL_end (hB : 0 < B) {l : List Nat} {n a b c : Nat} (hl : bd B l) (hln : l.length = n) (h : num B (l.take n) + B ^ n * c = a % B ^ n + b % B ^ n) (ha : a < B ^ n) (hb : b < B ^ n) :
  l = digs B n (a + b) ∧ c = (a + b) / B ^ n := by
 have h1 := num_lt hl
 rw [hln] at h1
 rw [← hln, take_all, hln, Nat.mod_eq_of_lt ha, Nat.mod_eq_of_lt hb] at h
 have hp : 0 < B ^ n := by omega
 have h2 : (a + b) / B ^ n = c := by rw [← h, Nat.add_mul_div_left _ _ hp, Nat.div_eq_of_lt h1, Nat.zero_add]
 refine ⟨?_, h2.symm⟩
 refine num_inj hl (digs_bd hB _ _) (by rw [digs_len, hln]) ?_
 rw [num_digs, ← h, Nat.add_mul_mod_self_left, Nat.mod_eq_of_lt h1]
theorem dif_step {l : List Nat} {i a b c x y : Nat} (hl : l.length = i) (h : num B l + b % B ^ i = a % B ^ i + B ^ i * c) (hx : x = a / B ^ i % B) (hy : y = b / B ^ i % B) (hxB : x < B) (hyB : y < B) (hc : c ≤ 1) :
  num B (l ++ [(x + B - y - c) % B]) + b % B ^ (i + 1) = a % B ^ (i + 1) + B ^ (i + 1) * (if x < y + c then 1 else 0) := by
 have h1 := sub_step hl h hx hy hyB hc
 rw [show x + B - y - c = B + x - y - c by omega, h1]
 congr 2
 split
 · rw [Nat.div_eq_of_lt (by omega)]
 · rw [Nat.div_eq_of_lt_le (k := 1)] <;> omega
theorem difL_end (hB : 0 < B) {l : List Nat} {n a b c : Nat} (hl : bd B l) (hln : l.length = n) (h : num B (l.take n) + b % B ^ n = a % B ^ n + B ^ n * c) (ha : a < B ^ n) (hb : b < B ^ n) (hc : c ≤ 1) :
    l = digs B n (a + B ^ n - b) ∧ c = if a < b then 1 else 0 := by
  have h1 := num_lt hl
  rw [hln] at h1
  rw [← hln, take_all, hln, Nat.mod_eq_of_lt ha, Nat.mod_eq_of_lt hb] at h
  rcases (by omega : c = 0 ∨ c = 1) with rfl | rfl
  · refine ⟨num_inj hl (digs_bd hB _ _) (by rw [digs_len, hln]) ?_, by rw [if_neg (by omega)]⟩
    rw [num_digs, show a + B ^ n - b = num B l + B ^ n by omega, Nat.add_mod_right, Nat.mod_eq_of_lt h1]
  · refine ⟨num_inj hl (digs_bd hB _ _) (by rw [digs_len, hln]) ?_, by rw [if_pos (by omega)]⟩
    rw [num_digs, show a + B ^ n - b = num B l by omega, Nat.mod_eq_of_lt h1]
theorem cmpI_eq {x y : Nat} (h : cmpI x y = 0) : x = y := by
 simp only [cmpI] at h
 split at h
 · omega
 · split at h <;> omega
theorem cmpI_top {a c r x y : Nat} (h : a / B ^ (r + 1) = c / B ^ (r + 1)) (hx : x = a / B ^ r % B) (hy : y = c / B ^ r % B) (hne : cmpI x y ≠ 0) : cmpI x y = cmpI a c := by
  have key : x < y → a < c := fun h1 => top_lt h (by rw [← hx, ← hy]; exact h1)
  have key2 : y < x → c < a := fun h1 => top_lt h.symm (by rw [← hx, ← hy]; exact h1)
  simp only [cmpI] at hne ⊢
  by_cases h1 : x < y
  · rw [if_pos h1, if_pos (key h1)]
  · by_cases h2 : y < x
    · have := key2 h2
      rw [if_neg h1, if_pos h2, if_neg (by omega), if_pos this]
    · rw [if_neg h1, if_neg h2] at hne; exact absurd rfl hne
end
set_option maxRecDepth 10000 in
theorem at_ctr {a : List Nat} {i : Nat} : GC Tryz.prog 110 [.slice (some ⟨0, 0, none⟩) a.length 0, vi .i64 (i)] [⟨a.map (vi .u64), false, 1⟩] [vi .u64 (a.getD i 0)] [⟨a.map (vi .u64), false, 1⟩] := by
 refine gi Tryz.func110 ?_
 refine zS ?_
 refine yA ?_
 refine zN (zQ (zS ?_))
 refine yM ?_
 refine yM ?_
 refine yP pL ?_
 refine yP pLt ?_
 refine zN ?_
 refine zA (fun hb0 => ?_) (fun hb0 => ?_)
 ·
  have hi : i < a.length := by simpa using hb0
  refine zS ?_
  refine yM ?_
  refine yM ?_
  refine yP pJ ?_
  refine yL 0 ?_
  refine yA ?_
  refine zN (zE (zU ?_))
  exact rq [] [.tmp 4] (hres := (.cons rfl (by rfl) .nil))
 ·
  have hi : a.length ≤ i := by simpa using hb0
  refine zK (zT (zS ?_))
  refine yA ?_
  refine zN (zE ?_)
  exact rq [] [.tmp 4] (hres := (.cons rfl (by exact congrArg (vi .u64) (getD_ge hi)) .nil))
set_option maxRecDepth 10000 in
theorem step_ctr {a x y c : Nat} (ha : a < 18446744073709551616) (hx : x < 18446744073709551616) (hy : y < 18446744073709551616) (hc : c < 18446744073709551616) : GC Tryz.prog 114 [vi .u64 (a), vi .u64 (x), vi .u64 (y), vi .u64 (c)] [] [vi .u64 ((a + x * y + c) % 18446744073709551616), vi .u64 ((a + x * y + c) / 18446744073709551616)] [] := by
 refine gi Tryz.func114 ?_
 have hp : x * y ≤ 18446744073709551615 * 18446744073709551615 := Nat.mul_le_mul (by omega) (by omega)
 refine zS ?_
 refine yA ?_
 refine yA ?_
 refine zN (zS ?_)
 refine yM ?_
 refine yM ?_
 refine AWo.callX (mul64 (by assumption) (by assumption)) bd100 [] [] rfl (.cons rfl (.cons rfl .nil)) rfl (.cons rfl rfl (.cons rfl rfl .nil)) .nil rfl .nil frN (by decide) (.cons rfl rfl (.cons rfl rfl .nil)) rfl rfl rfl rfl ?_
 refine yM ?_
 refine yP pX ?_
 refine yP pX ?_
 refine yA ?_
 refine yA ?_
 refine zN (zS ?_)
 refine yM ?_
 refine yM ?_
 refine yP (add64 (c := 0) rfl rfl (by decide)) ?_
 refine yM ?_
 refine yP pX ?_
 refine yP pX ?_
 refine yA ?_
 refine yA ?_
 refine zN (zS ?_)
 refine yM ?_
 refine yM ?_
 refine AWo.pure ((PureOp.addU 18446744073709551616 rfl rfl rfl rfl).mono (v' := vi .u64 (x * y / 18446744073709551616 + (x * y % 18446744073709551616 + a + 0) / 18446744073709551616)) (by congr 1; omega)) rfl rfl ?_
 refine yA ?_
 refine zN (zS ?_)
 refine yM ?_
 refine yM ?_
 refine yP (add64 (c := 0) rfl rfl (by decide)) ?_
 refine yM ?_
 refine yP pX ?_
 refine yP pX ?_
 refine yA ?_
 refine yA ?_
 refine AWo.nil trivial ?_
 refine AW.seqR ?_
 first | refine AWo.pure ((PureOp.move rfl).mono (v' := vi .u64 ((a + x * y + c) % 18446744073709551616)) (congrArg (vi .u64) (by omega))) rfl rfl ?_
 refine yM ?_
 refine yM ?_
 refine AWo.pure ((PureOp.addU 18446744073709551616 rfl rfl rfl rfl).mono (v' := vi .u64 ((a + x * y + c) / 18446744073709551616)) (by congr 1; omega)) rfl rfl ?_
 refine yA ?_
 refine yA ?_
 refine zN (zE ?_)
 exact rq [] [.tmp 8, .tmp 9]
set_option maxRecDepth 10000 in
theorem line_ctr {a x y c : Nat} (ha : a < 18446744073709551616) (hx : x < 18446744073709551616) (hy : y < 18446744073709551616) (hc : c < 18446744073709551616) : GC Tryz.prog 87 [vi .u64 (a), vi .u64 (x), vi .u64 (y), vi .u64 (c)] [] [vi .u64 ((a + x * y + c) % 18446744073709551616), vi .u64 ((a + x * y + c) / 18446744073709551616)] [] := by
 refine gi Tryz.func87 ?_
 have hp : x * y ≤ 18446744073709551615 * 18446744073709551615 := Nat.mul_le_mul (by omega) (by omega)
 refine zS ?_
 refine yA ?_
 refine yA ?_
 refine zN (zS ?_)
 refine yM ?_
 refine yM ?_
 refine AWo.callX (mul64 (by assumption) (by assumption)) bd100 [] [] rfl (.cons rfl (.cons rfl .nil)) rfl (.cons rfl rfl (.cons rfl rfl .nil)) .nil rfl .nil frN (by decide) (.cons rfl rfl (.cons rfl rfl .nil)) rfl rfl rfl rfl ?_
 refine yM ?_
 refine yP pX ?_
 refine yP pX ?_
 refine yA ?_
 refine yA ?_
 refine zN (zS ?_)
 refine yM ?_
 refine yM ?_
 refine yP (add64 (c := 0) rfl rfl (by decide)) ?_
 refine yM ?_
 refine yP pX ?_
 refine yP pX ?_
 refine yA ?_
 refine yA ?_
 refine zN (zS ?_)
 refine yM ?_
 refine yM ?_
 refine AWo.pure ((PureOp.addU 18446744073709551616 rfl rfl rfl rfl).mono (v' := vi .u64 (x * y / 18446744073709551616 + (x * y % 18446744073709551616 + a + 0) / 18446744073709551616)) (by congr 1; omega)) rfl rfl ?_
 refine yA ?_
 refine zN (zS ?_)
 refine yM ?_
 refine yM ?_
 refine yP (add64 (c := 0) rfl rfl (by decide)) ?_
 refine yM ?_
 refine yP pX ?_
 refine yP pX ?_
 refine yA ?_
 refine yA ?_
 refine AWo.nil trivial ?_
 refine AW.seqR ?_
 first | refine AWo.pure ((PureOp.move rfl).mono (v' := vi .u64 ((a + x * y + c) % 18446744073709551616)) (congrArg (vi .u64) (by omega))) rfl rfl ?_
 refine yM ?_
 refine yM ?_
 refine AWo.pure ((PureOp.addU 18446744073709551616 rfl rfl rfl rfl).mono (v' := vi .u64 ((a + x * y + c) / 18446744073709551616)) (by congr 1; omega)) rfl rfl ?_
 refine yA ?_
 refine yA ?_
 refine zN (zE ?_)
 exact rq [] [.tmp 8, .tmp 9]
set_option maxRecDepth 10000 in
theorem eachS_ctr {a b : List Nat} (ha : bd 18446744073709551616 a) (hb : bd 18446744073709551616 b) (hla : a.length < 100000000) (hlb : b.length < 100000000) : GC Tryz.prog 111 [.slice (some ⟨0, 0, none⟩) a.length 0, .slice (some ⟨1, 0, none⟩) b.length 0, .func (.func 99) #[] #[]] [⟨a.map (vi .u64), false, 1⟩, ⟨b.map (vi .u64), false, 1⟩] [.slice (some ⟨2, 0, none⟩) (Nat.max a.length b.length) 0, vi .u64 (if num 18446744073709551616 a < num 18446744073709551616 b then 1 else 0)] [⟨a.map (vi .u64), false, 1⟩, ⟨b.map (vi .u64), false, 1⟩, ⟨(digs 18446744073709551616 (Nat.max a.length b.length) (num 18446744073709551616 a + 18446744073709551616 ^ (Nat.max a.length b.length) - num 18446744073709551616 b)).map (vi .u64), true, 1⟩] := by
 refine gi Tryz.func111 ?_
 have hM : Nat.max a.length b.length < 1000000000 := Nat.max_lt.2 ⟨by omega, by omega⟩
 have hM1 : a.length ≤ Nat.max a.length b.length := Nat.le_max_left _ _
 have hM2 : b.length ≤ Nat.max a.length b.length := Nat.le_max_right _ _
 refine zS ?_
 refine yA ?_
 refine yA ?_
 refine zN (zS ?_)
 refine yM ?_
 refine yP pL ?_
 refine yM ?_
 refine yP pL ?_
 refine yP (PureOp.maxN rfl rfl) ?_
 refine AWo.makeI tbok 17000 rfl rfl rfl rfl rfl rfl (by omega) (by omega) rfl rfl rfl ?_
 refine yA ?_
 refine zN (zS ?_)
 refine yA ?_
 refine zN (zQ (zS ?_))
 refine yM ?_
 refine yP pL ?_
 refine yM ?_
 refine zN (zB ?_)
 refine AW.loopw (fun mm σ => ∃ i, ∃ (l : List Nat), ∃ c, (i ≤ (Nat.max a.length b.length) ∧ l.length = (Nat.max a.length b.length) ∧ bd 18446744073709551616 l ∧ c ≤ 1 ∧ num 18446744073709551616 (l.take i) + num 18446744073709551616 b % 18446744073709551616 ^ i = num 18446744073709551616 a % 18446744073709551616 ^ i + 18446744073709551616 ^ i * c) ∧ mm = (Nat.max a.length b.length) - i ∧ σ = ⟨(upd (upd (upd (upd (upd (upd (upd emp 0 (.slice (some ⟨0, 0, none⟩) a.length 0)) 1 (.slice (some ⟨1, 0, none⟩) b.length 0)) 2 (.func (.func 99) #[] #[])) 8 (.slice (some ⟨77000, 0, none⟩) (Nat.max a.length b.length) 0)) 18 (vi .i64 (Nat.max a.length b.length))) 19 (vi .i64 i)) 9 (vi .u64 c)), (upd (upd (upd emp 0 ⟨a.map (vi .u64), false, 1⟩) 1 ⟨b.map (vi .u64), false, 1⟩) 77000 ⟨l.map (vi .u64), true, 1⟩)⟩) (fm := [(77000, 17000)]) (wk [0, 1, 77000]) ⟨0, List.replicate (Nat.max a.length b.length) 0, 0, ⟨Nat.zero_le _, by simp, bd_replicate (by decide) _, by omega, by simp [num, Nat.mod_one]⟩, rfl, rfl⟩ ?_
 rintro mm σ ⟨i, l, c, ⟨hi0, hl2, hbl, hc, hnl⟩, rfl, rfl⟩
 have hx := bd_getD ha (by decide) i
 have hy := bd_getD hb (by decide) i
 refine zS ?_
 refine yP pLt ?_
 refine zN (zQ ?_)
 refine zA (fun hb0 => ?_) (fun hb0 => ?_)
 ·
  have hi : i < (Nat.max a.length b.length) := by simpa using hb0
  refine zK (zT (zQ (zB (zS ?_))))
  refine yM ?_
  refine yA ?_
  refine zN (zR ?_)
  refine yM ?_
  refine yM ?_
  refine yM ?_
  refine yM ?_
  refine yM ?_
  refine yC (at_ctr) bd110 [(0, 0)] [] ?_
  refine yM ?_
  refine yM ?_
  refine yC (at_ctr) bd110 [(1, 0)] [] ?_
  refine yM ?_
  refine yP (sub64 rfl rfl (by omega)) ?_
  refine yM ?_
  refine yP pX ?_
  refine yP pX ?_
  refine yP pJ ?_
  refine yS (vi .u64) ?_
  refine yA ?_
  refine zN (zL (zT (zR ?_)))
  refine yP (pAdd (b := 1)) ?_
  refine yM ?_
  refine zN (zT ?_)
  exact ⟨(Nat.max a.length b.length) - (i + 1), [], _, by omega, wk [0, 1, 77000], i + 1, l.set i ((a.getD i 0 + 18446744073709551616 - b.getD i 0 - c) % 18446744073709551616), (if a.getD i 0 < b.getD i 0 + c then 1 else 0), ⟨by omega, by simp [hl2], bd_set hbl (Nat.mod_lt _ (by decide)), by split <;> omega, by rw [take_set_succ (by omega)]; exact dif_step (by simp [hl2]; omega) hnl (num_getD ha (by decide) i) (num_getD hb (by decide) i) hx hy hc⟩, rfl, rfl⟩
 ·
  obtain rfl : i = (Nat.max a.length b.length) := by simp at hb0; omega
  obtain ⟨e1, e2⟩ := difL_end (by decide) hbl hl2 hnl (num_lt_pow ha (by decide) hM1) (num_lt_pow hb (by decide) hM2) hc
  subst e1; subst e2
  refine zX (zV (zV (zH (zT (zS ?_)))))
  refine yM ?_
  refine yM ?_
  refine yA ?_
  refine yA ?_
  refine zN (zE ?_)
  exact rq [77000] [.tmp 6, .tmp 7]
set_option maxRecDepth 10000 in
theorem lsub_ctr {a b : List Nat} (ha : bd 18446744073709551616 a) (hb : bd 18446744073709551616 b) (hla : a.length < 100000000) (hlb : b.length < 100000000) : GC Tryz.prog 102 [.slice (some ⟨0, 0, none⟩) a.length 0, .slice (some ⟨1, 0, none⟩) b.length 0] [⟨a.map (vi .u64), false, 1⟩, ⟨b.map (vi .u64), false, 1⟩] [.slice (some ⟨2, 0, none⟩) (Nat.max a.length b.length) 0, vi .u64 (if num 18446744073709551616 a < num 18446744073709551616 b then 1 else 0)] [⟨a.map (vi .u64), false, 1⟩, ⟨b.map (vi .u64), false, 1⟩, ⟨(digs 18446744073709551616 (Nat.max a.length b.length) (num 18446744073709551616 a + 18446744073709551616 ^ (Nat.max a.length b.length) - num 18446744073709551616 b)).map (vi .u64), true, 1⟩] := by
 refine gi Tryz.func102 ?_
 refine zS ?_
 refine yA ?_
 refine yA ?_
 refine zN (zS ?_)
 refine yM ?_
 refine yM ?_
 refine AWo.callX (eachS_ctr (by assumption) (by assumption) (by assumption) (by assumption)) bd111 [(0, 0), (1, 0)] [9000] rfl (.cons rfl (.cons rfl (.cons rfl .nil))) rfl (.cons rfl rfl (.cons rfl rfl (.cons rfl rfl .nil))) (.flat rfl (by exact flatM flat_vi) (by intro h; exact h) (.flat rfl (by exact flatM flat_vi) (by intro h; exact h) .nil)) rfl (.keep rfl (.keep rfl (.new (flat_map_ren (by exact flatM flat_vi)) (OkL.flat (by exact flatM flat_vi)) .nil))) (frC rfl frN) (by decide) (.cons rfl rfl (.cons rfl rfl .nil)) rfl rfl rfl rfl ?_
 refine yP pX ?_
 refine yP pX ?_
 refine yA ?_
 refine yA ?_
 refine zN (zE ?_)
 exact rq [9000] [.tmp 4, .tmp 5]
set_option maxRecDepth 10000 in
theorem isnan_ctr {x : Nat} : GC Tryz.prog 113 [vi .u64 (x)] [] [.bool false] [] := by
 refine gi Tryz.func113 ?_
 refine zS ?_
 refine yA ?_
 refine zN (zS ?_)
 refine yM ?_
 refine yM ?_
 refine yP ((PureOp.neN rfl rfl).mono (v' := .bool false) (by simp)) ?_
 refine yA ?_
 refine zN (zE ?_)
 exact rq [] [.tmp 2]
set_option maxRecDepth 10000 in
theorem compare_ctr {x y : Nat} : GC Tryz.prog 109 [vi .u64 (x), vi .u64 (y)] [] [.int .i64 (cmpI x y)] [] := by
 refine gi Tryz.func109 ?_
 refine zS ?_
 refine yA ?_
 refine zN (zS ?_)
 refine yM ?_
 refine yC (isnan_ctr) bd113 [] [] ?_
 refine yA ?_
 refine zN (zS ?_)
 refine yM ?_
 refine yC (isnan_ctr) bd113 [] [] ?_
 refine yA ?_
 refine zN (zQ (zS ?_))
 refine yM ?_
 refine zN (zF (zK (zT (zQ (zS ?_)))))
 refine yM ?_
 refine zN (zF (zK (zT (zQ (zS ?_)))))
 refine yM ?_
 refine yM ?_
 refine yP pLt ?_
 refine zN ?_
 refine zA (fun hb0 => ?_) (fun hb0 => ?_)
 ·
  have hxy : x < y := by simpa using hb0
  refine zS ?_
  refine yA ?_
  refine zN (zE (zU ?_))
  exact rq [] [.tmp 4] (hres := (.cons rfl (congrArg (Value.int .i64) (by simp only [cmpI]; split <;> (try split) <;> omega)) .nil))
 ·
  have hxy : ¬ x < y := by simpa using hb0
  refine zK (zT (zQ (zS ?_)))
  refine yM ?_
  refine yM ?_
  refine yP pGt ?_
  refine zN ?_
  refine zA (fun hb1 => ?_) (fun hb1 => ?_)
  ·
   have hyx : y < x := by simpa using hb1
   refine zS ?_
   refine yA ?_
   refine zN (zE (zU ?_))
   exact rq [] [.tmp 4] (hres := (.cons rfl (congrArg (Value.int .i64) (by simp only [cmpI]; split <;> (try split) <;> omega)) .nil))
  ·
   have hyx : ¬ y < x := by simpa using hb1
   refine zK (zT (zS ?_))
   refine yA ?_
   refine zN (zE ?_)
   exact rq [] [.tmp 4] (hres := (.cons rfl (congrArg (Value.int .i64) (by simp only [cmpI]; split <;> (try split) <;> omega)) .nil))
set_option maxRecDepth 10000 in
theorem lcmp_ctr {a b : List Nat} (ha : bd 18446744073709551616 a) (hb : bd 18446744073709551616 b) (hla : a.length < 100000000) (hlb : b.length < 100000000) : GC Tryz.prog 101 [.slice (some ⟨0, 0, none⟩) a.length 0, .slice (some ⟨1, 0, none⟩) b.length 0] [⟨a.map (vi .u64), false, 1⟩, ⟨b.map (vi .u64), false, 1⟩] [.int .i64 (cmpI (num 18446744073709551616 a) (num 18446744073709551616 b))] [⟨a.map (vi .u64), false, 1⟩, ⟨b.map (vi .u64), false, 1⟩] := by
 refine gi Tryz.func101 ?_
 have hM : Nat.max a.length b.length < 1000000000 := Nat.max_lt.2 ⟨by omega, by omega⟩
 have hM1 : a.length ≤ Nat.max a.length b.length := Nat.le_max_left _ _
 have hM2 : b.length ≤ Nat.max a.length b.length := Nat.le_max_right _ _
 have ea := div_big ha (by decide) hM1
 have eb := div_big hb (by decide) hM2
 refine zS ?_
 refine yA ?_
 refine zN (zQ (zS ?_))
 refine yM ?_
 refine yP pL ?_
 refine yM ?_
 refine yP pL ?_
 refine yP (PureOp.maxN rfl rfl) ?_
 refine yP ((PureOp.subP rfl rfl (by omega)).mono (v' := vp (Nat.max a.length b.length)) (by rfl)) ?_
 refine yA ?_
 refine zN (zB ?_)
 refine AW.loopw (fun mm σ => ∃ r, (r ≤ Nat.max a.length b.length ∧ num 18446744073709551616 a / 18446744073709551616 ^ r = num 18446744073709551616 b / 18446744073709551616 ^ r) ∧ mm = 1 * r ∧ σ = ⟨(upd (upd (upd emp 0 (.slice (some ⟨0, 0, none⟩) a.length 0)) 1 (.slice (some ⟨1, 0, none⟩) b.length 0)) 5 (vp r)), (upd (upd emp 0 ⟨a.map (vi .u64), false, 1⟩) 1 ⟨b.map (vi .u64), false, 1⟩)⟩) (fm := []) (wk [0, 1]) ⟨Nat.max a.length b.length, ⟨Nat.le_refl _, ea.trans eb.symm⟩, rfl, rfl⟩ ?_
 rintro mm σ ⟨r, ⟨hr, he⟩, rfl, rfl⟩
 refine zQ (zS ?_)
 refine yM ?_
 refine yP (PureOp.geP rfl rfl) ?_
 refine zN ?_
 refine zA (fun hb0 => ?_) (fun hb0 => ?_)
 ·
  have hp0 : 0 < r := by simpa using hb0
  obtain ⟨r, rfl⟩ : ∃ q, r = q + 1 := ⟨r - 1, by omega⟩
  rw [vp_succ]
  have da := num_getD ha (by decide) r
  have db := num_getD hb (by decide) r
  refine zK (zT (zQ (zB (zS ?_))))
  refine yM ?_
  refine yM ?_
  refine yC (at_ctr) bd110 [(0, 0)] [] ?_
  refine yM ?_
  refine yM ?_
  refine yC (at_ctr) bd110 [(1, 0)] [] ?_
  refine yC (compare_ctr) bd109 [] [] ?_
  refine yA ?_
  refine zN (zS ?_)
  refine yM ?_
  refine yP (PureOp.bin rfl rfl rfl) ?_
  refine zN ?_
  refine zA (fun hb1 => ?_) (fun hb1 => ?_)
  ·
   have hne : cmpI (a.getD r 0) (b.getD r 0) ≠ 0 := by simpa using hb1
   have hres := cmpI_top he da db hne
   refine zS ?_
   refine yM ?_
   refine yA ?_
   refine zN (zE (zI (zU (zU (zI (zU ?_))))))
   exact rq [] [.tmp 4] (hres := (.cons rfl (congrArg (Value.int .i64) (by exact hres.symm)) .nil))
  ·
   have hdd : num 18446744073709551616 a / 18446744073709551616 ^ r % 18446744073709551616 = num 18446744073709551616 b / 18446744073709551616 ^ r % 18446744073709551616 := by
    have hz : cmpI (a.getD r 0) (b.getD r 0) = 0 := by simpa using hb1
    rw [← da, ← db]; exact cmpI_eq hz
   refine zK (zL (zT (zR ?_)))
   refine yM ?_
   refine yP (PureOp.subP rfl rfl (by omega)) ?_
   refine yA ?_
   refine zN (zT ?_)
   exact ⟨1 * r, [], _, by omega, wk [0, 1], r, ⟨by omega, top_eq he hdd⟩, rfl, rfl⟩
 ·
  obtain rfl : r = 0 := by simpa using hb0
  rw [Nat.pow_zero, Nat.div_one, Nat.div_one] at he
  refine zX (zV (zV (zH (zT (zS ?_)))))
  refine yA ?_
  refine zN (zE ?_)
  exact rq [] [.tmp 4] (hres := (.cons rfl (congrArg (Value.int .i64) (by (rw [he]; simp [cmpI]))) .nil))
end Go.Proofs.YtpahdiljpnfkdaaGreat
namespace Go.Proofs.YtpahdiljpnfkdaaGreat
open Go Sim
def blen (n : Nat) : Nat := if n = 0 then 0 else n.log2 + 1
theorem blen_top {n r : Nat} (h1 : 2 ^ r ≤ n) (h2 : n < 2 ^ (r + 1)) : blen n = r + 1 := by
 have hp : 0 < 2 ^ r := Nat.pow_pos (by decide)
 simp only [blen]
 rw [if_neg (by omega)]
 congr 1
 exact (Nat.log2_eq_iff (by omega)).2 ⟨h1, h2⟩
theorem blen_shift {n k : Nat} (h : n / 2 ^ k ≠ 0) : blen n = k + blen (n / 2 ^ k) := by
  have hp : 0 < 2 ^ k := Nat.pow_pos (by decide)
  obtain ⟨r, hr⟩ : ∃ r, r = (n / 2 ^ k).log2 := ⟨_, rfl⟩
  obtain ⟨h1, h2⟩ := (Nat.log2_eq_iff h).1 hr.symm
  rw [blen_top h1 h2, blen_top (r := k + r)]
  · omega
  · rw [Nat.pow_add]
    have := Nat.mul_le_mul_left (2 ^ k) h1
    have h4 := Nat.mul_div_le n (2 ^ k)
    omega
  · rw [Nat.add_assoc, Nat.pow_add]
    rw [Nat.mul_comm]; exact (Nat.div_lt_iff_lt_mul hp).1 h2
theorem shl_byte {x k : Nat} (hx : x < 256) (hk : k < 8) : x * 2 ^ (8 * k) % 18446744073709551616 = x * 256 ^ k ∧ x * 256 ^ k < 18446744073709551616 := by
 have e : 2 ^ (8 * k) = 256 ^ k := by rw [Nat.pow_mul]
 have h1 : 256 ^ k ≤ 256 ^ 7 := Nat.pow_le_pow_right (by decide) (by omega)
 have h2 : x * 256 ^ k < 18446744073709551616 := by
  have := Nat.mul_le_mul (show x ≤ 255 by omega) h1
  have h3 : 255 * 256 ^ 7 < 18446744073709551616 := by decide
  omega
 rw [e]
 exact ⟨Nat.mod_eq_of_lt h2, h2⟩
theorem or_add {e x k : Nat} (he : e < 256 ^ k) : e ||| x * 256 ^ k = e + x * 256 ^ k := by
 have e1 : (256 : Nat) ^ k = 2 ^ (8 * k) := by rw [Nat.pow_mul]
 rw [e1] at he ⊢
 have := Nat.two_pow_add_eq_or_of_lt (i := 8 * k) (b := e) he x
 rw [Nat.mul_comm x, Nat.or_comm, ← this, Nat.add_comm]
theorem W_256 (i : Nat) : 256 ^ i = 18446744073709551616 ^ (i / 8) * 256 ^ (i % 8) := by
 rw [show (18446744073709551616 : Nat) = 256 ^ 8 from by decide, ← Nat.pow_mul, ← Nat.pow_add, Nat.div_add_mod]
theorem words_low {a l : List Nat} {i : Nat} (h : bd 256 a) (hb : bd 18446744073709551616 l) (hn : num 18446744073709551616 l = num 256 (a.take i)) : l.getD (i / 8) 0 < 256 ^ (i % 8) := by
 rw [num_getD hb (by decide), hn]
 have h1 : num 256 (a.take i) < 256 ^ i := by
  have := num_lt (bd_take h i)
  exact Nat.lt_of_lt_of_le this (Nat.pow_le_pow_right (by decide) (by simp; omega))
 have h2 : num 256 (a.take i) / 18446744073709551616 ^ (i / 8) < 256 ^ (i % 8) := by
  rw [Nat.div_lt_iff_lt_mul (Nat.pow_pos (by decide)), Nat.mul_comm, ← W_256]
  exact h1
 exact Nat.lt_of_le_of_lt (Nat.mod_le _ _) h2
theorem words_bd {e x k : Nat} (hx : x < 256) (he : e < 256 ^ k) (hk : k < 8) : e + x * 256 ^ k < 18446744073709551616 := by
 have h1 : 256 ^ k ≤ 256 ^ 7 := Nat.pow_le_pow_right (by decide) (by omega)
 have h2 := Nat.mul_le_mul_right (256 ^ k) (show x + 1 ≤ 256 by omega)
 rw [Nat.add_mul, Nat.one_mul] at h2
 have h3 : 256 * 256 ^ 7 = 18446744073709551616 := by decide
 omega
theorem words_step {a l : List Nat} {i : Nat} (hi : i / 8 < l.length) (hn : num 18446744073709551616 l = num 256 (a.take i)) : num 18446744073709551616 (l.set (i / 8) (l.getD (i / 8) 0 + a.getD i 0 * 256 ^ (i % 8))) = num 256 (a.take (i + 1)) := by
 have h := num_set (B := 18446744073709551616) (l := l) (k := i / 8) (v := l.getD (i / 8) 0 + a.getD i 0 * 256 ^ (i % 8)) hi
 rw [num_take_succ, ← hn, W_256 i]
 rw [Nat.add_mul, Nat.mul_assoc, Nat.mul_comm (256 ^ (i % 8))] at h
 omega
theorem byte_at {a : List Nat} {i j : Nat} (h : bd 18446744073709551616 a) (_ : i < a.length) (hj : j < 8) : a.getD i 0 / 256 ^ j % 256 = num 18446744073709551616 a / 256 ^ (8 * i + j) % 256 := by
 rw [num_getD h (by decide), Nat.pow_add, Nat.pow_mul, show (256 : Nat) ^ 8 = 18446744073709551616 from by decide, ← Nat.div_div_eq_div_mul]
 generalize num 18446744073709551616 a / 18446744073709551616 ^ i = z
 have e : 18446744073709551616 = 256 ^ j * (256 * 256 ^ (7 - j)) := by
  rw [← Nat.mul_assoc, Nat.mul_right_comm, ← Nat.pow_add, show j + (7 - j) = 7 by omega]
 rw [e, Nat.mod_mul_right_div_self, Nat.mod_mul_right_mod]
set_option maxRecDepth 10000 in
theorem lwords_ctr {a : List Nat} (h : bd 256 a) (hl : a.length < 100000000) : GC Tryz.prog 33 [.slice (some ⟨0, 0, none⟩) a.length 0] [⟨a.map (vi .u8), false, 1⟩] [.slice (some ⟨1, 0, none⟩) ((a.length + 7) / 8) 0] [⟨a.map (vi .u8), false, 1⟩, ⟨(digs 18446744073709551616 ((a.length + 7) / 8) (num 256 a)).map (vi .u64), true, 1⟩] := by
 refine gi Tryz.func33 ?_
 refine zS ?_
 refine yA ?_
 refine zN (zS ?_)
 refine yM ?_
 refine yP pL ?_
 refine yP (pAdd (b := 7)) ?_
 refine yP (PureOp.quoN (b := 8) 9223372036854775808 rfl rfl (by decide) (by decide) (by decide) (by omega)) ?_
 refine AWo.makeI tbok 11000 rfl rfl rfl rfl rfl rfl (by omega) (by omega) rfl rfl rfl ?_
 refine yA ?_
 refine zN (zQ (zS ?_))
 refine yM ?_
 refine yP pL ?_
 refine yM ?_
 refine zN (zB ?_)
 refine AW.loopw (fun mm σ => ∃ i, ∃ (l : List Nat), (i ≤ a.length ∧ l.length = ((a.length + 7) / 8) ∧ bd 18446744073709551616 l ∧ num 18446744073709551616 l = num 256 (a.take i)) ∧ mm = a.length - i ∧ σ = ⟨(upd (upd (upd (upd (upd emp 0 (.slice (some ⟨0, 0, none⟩) a.length 0)) 3 (.slice (some ⟨77000, 0, none⟩) ((a.length + 7) / 8) 0)) 11 (.slice (some ⟨0, 0, none⟩) a.length 0)) 12 (vi .i64 a.length)) 13 (vi .i64 i)), (upd (upd emp 0 ⟨a.map (vi .u8), false, 1⟩) 77000 ⟨l.map (vi .u64), true, 1⟩)⟩) (fm := [(77000, 11000)]) (wk [0, 77000]) ⟨0, List.replicate ((a.length + 7) / 8) 0, ⟨Nat.zero_le _, by simp, bd_replicate (by decide) _, by simp [num, num_replicate]⟩, rfl, rfl⟩ ?_
 rintro mm σ ⟨i, l, ⟨hi0, hl2, hbl, hnl⟩, rfl, rfl⟩
 refine zS ?_
 refine yP pLt ?_
 refine zN (zQ ?_)
 refine zA (fun hb0 => ?_) (fun hb0 => ?_)
 ·
  have hi : i < a.length := by simpa using hb0
  have hx := bd_getD h (by decide) i
  obtain ⟨hb1, hb2⟩ := shl_byte hx (Nat.mod_lt i (show 0 < 8 by decide))
  have he := words_low h hbl hnl
  have hs2 := words_bd hx he (Nat.mod_lt i (show 0 < 8 by decide))
  have he64 := bd_getD hbl (by decide) (i / 8)
  refine zK (zT (zQ (zB (zS ?_))))
  refine yM ?_
  refine yP pJ ?_
  refine yL 0 ?_
  refine yA ?_
  refine yA ?_
  refine zN ?_
  refine AW.draw mixed ?_
  refine yM ?_
  refine yM ?_
  refine yP (PureOp.quoN (b := 8) 9223372036854775808 rfl rfl (by decide) (by decide) (by decide) (by omega)) ?_
  refine yP pJ ?_
  refine yL 0 ?_
  refine yM ?_
  refine yP (PureOp.cvtN tbok 18446744073709551616 rfl rfl rfl (by decide) (by decide) (by omega)) ?_
  refine yM ?_
  refine yP (PureOp.remN (b := 8) rfl rfl (by decide)) ?_
  refine yP (PureOp.mulI (a := 8) rfl rfl (by omega)) ?_
  refine yP ((PureOp.shlUge 18446744073709551616 rfl rfl rfl rfl).mono (v' := vi .u64 (a.getD i 0 * 256 ^ (i % 8))) (congrArg (vi .u64) hb1)) ?_
  refine yP ((PureOp.orN 18446744073709551616 rfl rfl (by decide) (by decide) he64 hb2).mono (v' := vi .u64 (l.getD (i / 8) 0 + a.getD i 0 * 256 ^ (i % 8))) (congrArg (vi .u64) (or_add he))) ?_
  refine yP pJ ?_
  refine yS (vi .u64) ?_
  refine zD (zL (zT (zR ?_)))
  refine yP (pAdd (b := 1)) ?_
  refine yM ?_
  refine zN (zT ?_)
  exact ⟨a.length - (i + 1), [], _, by omega, wk [0, 77000], i + 1, l.set (i / 8) (l.getD (i / 8) 0 + a.getD i 0 * 256 ^ (i % 8)), ⟨by omega, by simp [hl2], bd_set hbl hs2, words_step (by omega) hnl⟩, rfl, rfl⟩
 ·
  have hi : i = a.length := by simp at hb0; omega
  subst hi
  rw [take_all] at hnl
  obtain rfl : l = digs 18446744073709551616 ((a.length + 7) / 8) (num 256 a) := by rw [← hnl, ← hl2, digs_num hbl]
  refine zX (zV (zV (zH (zT (zS ?_)))))
  refine yM ?_
  refine yA ?_
  refine zN (zE ?_)
  exact rq [77000] [.tmp 2]
set_option maxRecDepth 10000 in
theorem rbytes_ctr {a : List Nat} (h : bd 18446744073709551616 a) (hl : a.length < 100000000) : GC Tryz.prog 73 [.slice (some ⟨0, 0, none⟩) a.length 0] [⟨a.map (vi .u64), false, 1⟩] [.slice (some ⟨1, 0, none⟩) (8 * a.length) 0] [⟨a.map (vi .u64), false, 1⟩, ⟨(digs 256 (8 * a.length) (num 18446744073709551616 a)).map (vi .u8), true, 1⟩] := by
 refine gi Tryz.func73 ?_
 refine zS ?_
 refine yA ?_
 refine zN (zS ?_)
 refine AWo.buildSlice tbok 8000 [] (out := []) rfl rfl (by decide) rfl rfl rfl (by decide) rfl rfl rfl rfl rfl ?_
 refine yA ?_
 refine zN (zQ (zS ?_))
 refine yA ?_
 refine zN (zB ?_)
 refine AW.loopw (fun mm σ => ∃ i, (i ≤ a.length) ∧ mm = a.length - i ∧ σ = ⟨(upd (upd (upd emp 0 (.slice (some ⟨0, 0, none⟩) a.length 0)) 3 (.slice (some ⟨77000, 0, none⟩) (8 * i) 0)) 4 (vi .i64 i)), (upd (upd emp 0 ⟨a.map (vi .u64), false, 1⟩) 77000 ⟨(digs 256 (8 * i) (num 18446744073709551616 a)).map (vi .u8), true, 1⟩)⟩) (fm := [(77000, 8000)]) (wk [0, 77000]) ⟨0, Nat.zero_le _, rfl, rfl⟩ ?_
 rintro mm σ ⟨i, hinv, rfl, rfl⟩
 refine zQ (zS ?_)
 refine yM ?_
 refine yM ?_
 refine yP pL ?_
 refine yP pLt ?_
 refine zN ?_
 refine zA (fun hb0 => ?_) (fun hb0 => ?_)
 ·
  have hi : i < a.length := by simpa using hb0
  have hx := bd_getD h (by decide) i
  refine zK (zT (zQ (zB (zS ?_))))
  refine yM ?_
  refine yM ?_
  refine yP pJ ?_
  refine yL 0 ?_
  refine yA ?_
  refine zN (zS ?_)
  refine yA ?_
  refine zN (zB ?_)
  refine AW.loopw (fun mm σ => ∃ j, (j ≤ 8) ∧ mm = 8 - j ∧ σ = ⟨(upd (upd (upd (upd (upd emp 0 (.slice (some ⟨0, 0, none⟩) a.length 0)) 3 (.slice (some ⟨77000, 0, none⟩) (8 * i + j) 0)) 4 (vi .i64 i)) 5 (vi .u64 (a.getD i 0 / 256 ^ j))) 6 (vi .i64 j)), (upd (upd emp 0 ⟨a.map (vi .u64), false, 1⟩) 77000 ⟨(digs 256 (8 * i + j) (num 18446744073709551616 a)).map (vi .u8), true, 1⟩)⟩) (fm := []) (wk [0, 77000]) ⟨0, Nat.zero_le _, rfl, rfl⟩ ?_
  rintro mm σ ⟨j, hj0, rfl, rfl⟩
  refine zQ (zS ?_)
  refine yM ?_
  refine yP (pLt (b := 8)) ?_
  refine zN ?_
  refine zA (fun hb1 => ?_) (fun hb1 => ?_)
  ·
   have hj : j < 8 := by simpa using hb1
   have hby := byte_at h hi hj
   refine zK (zT (zQ (zB (zS ?_))))
   refine yM ?_
   refine yM ?_
   refine yP (PureOp.remN (b := 256) rfl rfl (by decide)) ?_
   refine yP ((PureOp.cvtU tbok 256 rfl rfl rfl rfl rfl).mono (v' := vi .u8 (num 18446744073709551616 a / 256 ^ (8 * i + j) % 256)) (congrArg (vi .u8) (by rw [Nat.mod_mod]; exact hby))) ?_
   refine AWo.buildSlice tbok 27000 [(0, vi .u8 (num 18446744073709551616 a / 256 ^ (8 * i + j) % 256))] (out := [vi .u8 (num 18446744073709551616 a / 256 ^ (8 * i + j) % 256)]) rfl rfl (by decide) rfl rfl rfl (by decide) rfl rfl rfl rfl rfl ?_
   refine AWo.append tbok (all := (digs 256 (8 * i + j + 1) (num 18446744073709551616 a)).map (vi .u8)) 28000 rfl rfl rfl rfl (by simp [digs_len]) rfl (by (simp; done)) (by decide) rfl rfl rfl (by decide) rfl rfl rfl (by omega) (by omega) rfl (by rw [digs_snoc, ← map_snoc]; rfl) rfl rfl ?_
   refine yA ?_
   refine zN (zR ?_)
   refine yM ?_
   refine yP (PureOp.quoN (b := 256) 18446744073709551616 rfl rfl (by decide) (by decide) (by decide) (Nat.lt_of_le_of_lt (Nat.div_le_self _ _) hx)) ?_
   refine yA ?_
   refine zN (zL (zT (zR ?_)))
   refine yM ?_
   refine yP (pAdd (b := 1)) ?_
   refine yA ?_
   refine zN (zT ?_)
   refine ⟨8 - (j + 1), [(77000, 28000)], _, by omega, ?_, j + 1, by omega, rfl, rfl⟩
   refine Wk.of [0, 77000] ?_ ?_ ?_ (by decide) rfl
   ·
    refine WkE.upd rfl (by exact VR.flat _ rfl) ?_
    refine WkE.upd rfl (VR.eqv (by exact congrArg (vi .u64) (by rw [Nat.pow_succ, Nat.div_div_eq_div_mul])) rfl) ?_
    refine WkE.upd rfl (by exact VR.flat _ rfl) ?_
    refine WkE.upd rfl (.slice (77000) 0 _ 0 ⟨_, rfl⟩ (by simp) (by simp)) ?_
    refine WkE.upd rfl (.slice (0) 0 _ 0 ⟨_, rfl⟩ (by simp) (by simp)) ?_
    exact WkE.emp
   ·
    refine WkM.flatM rfl (by rfl) (fun _ => rfl) (fun h => h) ?_
    refine WkM.flatM rfl (by rfl) (fun _ => rfl) (fun h => h) ?_
    exact WkM.emp
   ·
    repeat (refine dom_upd_mem (by decide) ?_)
    exact dom_emp
  ·
   obtain rfl : j = 8 := by simp at hb1; omega
   refine zX (zV (zV (zH (zL (zT (zR ?_))))))
   refine yM ?_
   refine yP (pAdd (b := 1)) ?_
   refine yA ?_
   refine zN (zT ?_)
   exact ⟨a.length - (i + 1), [], _, by omega, wk [0, 77000], i + 1, by omega, rfl, rfl⟩
 ·
  have hi : i = a.length := by simp at hb0; omega
  subst hi
  refine zX (zV (zV (zH (zT (zS ?_)))))
  refine yM ?_
  refine yA ?_
  refine zN (zE ?_)
  exact rq [77000] [.tmp 2]
set_option maxRecDepth 10000 in
theorem lbytes_ctr {a : List Nat} (h : bd 18446744073709551616 a) (hl : a.length < 100000000) : GC Tryz.prog 63 [.slice (some ⟨0, 0, none⟩) a.length 0] [⟨a.map (vi .u64), false, 1⟩] [.slice (some ⟨1, 0, none⟩) (8 * a.length) 0] [⟨a.map (vi .u64), false, 1⟩, ⟨(digs 256 (8 * a.length) (num 18446744073709551616 a)).map (vi .u8), true, 1⟩] := by
 refine gi Tryz.func63 ?_
 refine zS ?_
 refine yA ?_
 refine zN (zS ?_)
 refine yA ?_
 refine zN (zQ (zS ?_))
 refine yM ?_
 refine yP pL ?_
 refine yM ?_
 refine zN (zB ?_)
 refine AW.ghost 77000 1 rfl ?_
 refine AW.loopw (fun mm σ => ∃ i, (i ≤ a.length) ∧ mm = a.length - i ∧ σ = ⟨(upd (upd (upd (upd (upd emp 0 (.slice (some ⟨0, 0, none⟩) a.length 0)) 3 (.slice (some ⟨77000, 0, none⟩) (8 * i) 0)) 8 (vi .i64 i)) 6 (.slice (some ⟨0, 0, none⟩) a.length 0)) 7 (vi .i64 a.length)), (upd (upd emp 0 ⟨a.map (vi .u64), false, 1⟩) 77000 ⟨(digs 256 (8 * i) (num 18446744073709551616 a)).map (vi .u8), true, 1⟩)⟩) (fm := []) (wk [0, 77000]) ⟨0, Nat.zero_le _, rfl, rfl⟩ ?_
 rintro mm σ ⟨i, hinv, rfl, rfl⟩
 refine zS ?_
 refine yP pLt ?_
 refine zN (zQ ?_)
 refine zA (fun hb0 => ?_) (fun hb0 => ?_)
 ·
  have hi : i < a.length := by simpa using hb0
  have hx := bd_getD h (by decide) i
  refine zK (zT (zQ (zB (zS ?_))))
  refine yP pJ ?_
  refine yL 0 ?_
  refine yA ?_
  refine zN (zS ?_)
  refine yM ?_
  refine zN (zB ?_)
  refine AW.loopw (fun mm σ => ∃ j, (j ≤ 8) ∧ mm = 8 - j ∧ σ = ⟨(upd (upd (upd (upd (upd (upd (upd emp 0 (.slice (some ⟨0, 0, none⟩) a.length 0)) 3 (.slice (some ⟨77000, 0, none⟩) (8 * i + j) 0)) 8 (vi .i64 i)) 6 (.slice (some ⟨0, 0, none⟩) a.length 0)) 7 (vi .i64 a.length)) 5 (vi .u64 (a.getD i 0 / 256 ^ j))) 12 (vi .i64 j)), (upd (upd emp 0 ⟨a.map (vi .u64), false, 1⟩) 77000 ⟨(digs 256 (8 * i + j) (num 18446744073709551616 a)).map (vi .u8), true, 1⟩)⟩) (fm := []) (wk [0, 77000]) ⟨0, Nat.zero_le _, rfl, rfl⟩ ?_
  rintro mm σ ⟨j, hj0, rfl, rfl⟩
  refine zS ?_
  refine yP (pLt (b := 8)) ?_
  refine zN (zQ ?_)
  refine zA (fun hb1 => ?_) (fun hb1 => ?_)
  ·
   have hj : j < 8 := by simpa using hb1
   have hby := byte_at h hi hj
   refine zK (zT (zQ (zB (zS ?_))))
   refine yM ?_
   refine yM ?_
   refine yP ((PureOp.cvtU tbok 256 rfl rfl rfl rfl rfl).mono (v' := vi .u8 (num 18446744073709551616 a / 256 ^ (8 * i + j) % 256)) (congrArg (vi .u8) hby)) ?_
   refine AWo.buildSlice tbok 18000 [(0, vi .u8 (num 18446744073709551616 a / 256 ^ (8 * i + j) % 256))] (out := [vi .u8 (num 18446744073709551616 a / 256 ^ (8 * i + j) % 256)]) rfl rfl (by decide) rfl rfl rfl (by decide) rfl rfl rfl rfl rfl ?_
   refine AWo.append tbok (all := (digs 256 (8 * i + j + 1) (num 18446744073709551616 a)).map (vi .u8)) 19000 rfl rfl rfl rfl (by simp [digs_len]) rfl (by (simp; done)) (by decide) rfl rfl rfl (by decide) rfl rfl rfl (by omega) (by omega) rfl (by rw [digs_snoc, ← map_snoc]; rfl) rfl rfl ?_
   refine yA ?_
   refine zN (zR ?_)
   refine yM ?_
   refine yP ((PureOp.shrN (b := 8) 64 rfl rfl rfl (by decide)).mono (v' := vi .u64 (a.getD i 0 / 256 ^ j / 256)) rfl) ?_
   refine yA ?_
   refine zN (zL (zT (zR ?_)))
   refine yP (pAdd (b := 1)) ?_
   refine yM ?_
   refine zN (zT ?_)
   refine ⟨8 - (j + 1), [(77000, 19000)], _, by omega, ?_, j + 1, by omega, rfl, rfl⟩
   refine Wk.of [0, 77000] ?_ ?_ ?_ (by decide) rfl
   ·
    refine WkE.upd rfl (by exact VR.flat _ rfl) ?_
    refine WkE.upd rfl (VR.eqv (by exact congrArg (vi .u64) (by rw [Nat.pow_succ, Nat.div_div_eq_div_mul])) rfl) ?_
    refine WkE.upd rfl (by exact VR.flat _ rfl) ?_
    refine WkE.upd rfl (.slice (0) 0 _ 0 ⟨_, rfl⟩ (by simp) (by simp)) ?_
    refine WkE.upd rfl (by exact VR.flat _ rfl) ?_
    refine WkE.upd rfl (.slice (77000) 0 _ 0 ⟨_, rfl⟩ (by simp) (by simp)) ?_
    refine WkE.upd rfl (.slice (0) 0 _ 0 ⟨_, rfl⟩ (by simp) (by simp)) ?_
    exact WkE.emp
   ·
    refine WkM.flatM rfl (by rfl) (fun _ => rfl) (fun h => h) ?_
    refine WkM.flatM rfl (by rfl) (fun _ => rfl) (fun h => h) ?_
    exact WkM.emp
   ·
    repeat (refine dom_upd_mem (by decide) ?_)
    exact dom_emp
  ·
   obtain rfl : j = 8 := by simp at hb1; omega
   refine zX (zV (zV (zH (zL (zT (zR ?_))))))
   refine yP (pAdd (b := 1)) ?_
   refine yM ?_
   refine zN (zT ?_)
   exact ⟨a.length - (i + 1), [], _, by omega, wk [0, 77000], i + 1, by omega, rfl, rfl⟩
 ·
  have hi : i = a.length := by simp at hb0; omega
  subst hi
  refine zX (zV (zV (zH (zT (zS ?_)))))
  refine yM ?_
  refine yA ?_
  refine zN (zE ?_)
  exact rq [77000] [.tmp 2]
set_option maxRecDepth 10000 in
theorem shift_ctr {a : List Nat} {k : Nat} (h : bd 4294967296 a) (hl : a.length < 100000000) (hk : k < 32) : GC Tryz.prog 67 [.slice (some ⟨0, 0, none⟩) a.length 0, vi .i64 (k)] [⟨a.map (vi .u64), false, 1⟩] [.slice (some ⟨1, 0, none⟩) (D 4294967296 (num 4294967296 a * 2 ^ k)).length 0] [⟨a.map (vi .u64), false, 1⟩, ⟨(D 4294967296 (num 4294967296 a * 2 ^ k)).map (vi .u64), true, 1⟩] := by
 refine gi Tryz.func67 ?_
 refine zS ?_
 refine yA ?_
 refine zN (zS ?_)
 refine yA ?_
 refine zN (zQ (zS ?_))
 refine yA ?_
 refine zN (zB ?_)
 refine AW.loopw (fun mm σ => ∃ j, (j ≤ k) ∧ mm = k - j ∧ σ = ⟨(upd (upd (upd (upd emp 0 (.slice (some ⟨0, 0, none⟩) a.length 0)) 1 (vi .i64 k)) 5 (vi .u64 (2 ^ j))) 6 (vi .i64 j)), (upd emp 0 ⟨a.map (vi .u64), false, 1⟩)⟩) (fm := []) (wk [0]) ⟨0, Nat.zero_le _, rfl, rfl⟩ ?_
 rintro mm σ ⟨j, hinv, rfl, rfl⟩
 refine zQ (zS ?_)
 refine yM ?_
 refine yM ?_
 refine yP pLt ?_
 refine zN ?_
 refine zA (fun hb0 => ?_) (fun hb0 => ?_)
 ·
  have hj : j < k := by simpa using hb0
  have hp : 2 ^ j ≤ 2 ^ 31 := Nat.pow_le_pow_right (by decide) (by omega)
  refine zK (zT (zQ (zB (zR ?_))))
  refine yM ?_
  refine yP ((PureOp.mulU (b := 2) 18446744073709551616 rfl rfl rfl rfl).mono (v' := vi .u64 (2 ^ j * 2)) (congrArg (vi .u64) (Nat.mod_eq_of_lt (by omega)))) ?_
  refine yA ?_
  refine zN (zL (zT (zR ?_)))
  refine yM ?_
  refine yP (pAdd (b := 1)) ?_
  refine yA ?_
  refine zN (zT ?_)
  exact ⟨k - (j + 1), [], _, by omega, wk [0], j + 1, by omega, rfl, rfl⟩
 ·
  obtain rfl : j = k := by simp at hb0; omega
  have hp : 2 ^ j ≤ 2 ^ 31 := Nat.pow_le_pow_right (by decide) (by omega)
  refine zX (zV (zV (zH (zT (zS ?_)))))
  refine yM ?_
  refine yM ?_
  refine AWo.buildSlice tbok 17000 [(0, vi .u64 (2 ^ j))] (out := [vi .u64 (2 ^ j)]) rfl rfl (by decide) rfl rfl rfl (by decide) rfl rfl rfl rfl rfl ?_
  refine yC (rmul_ctr (a := a) (b := [2 ^ j]) h (bd_cons.2 ⟨by omega, bd_nil⟩) (by omega) (by simp)) bd69 [(0, 0), (17000, 0)] [18000] ?_
  refine yA ?_
  refine zN (zE ?_)
  rw [show num 4294967296 [2 ^ j] = 2 ^ j by simp [num]]
  exact rq [18000] [.tmp 4]
end Go.Proofs.YtpahdiljpnfkdaaGreat
namespace Go.Proofs.YtpahdiljpnfkdaaGreat
open Go Sim
theorem blen_half {x k : Nat} (h : x / 2 ^ k ≠ 0) : blen x = k + blen (x / 2 ^ k) := blen_shift h
theorem blen_lt {x k : Nat} (h : x < 2 ^ k) : blen x ≤ k := by
  simp only [blen]
  split
  · omega
  · rename_i h0
    have := Nat.log2_lt h0 |>.2 h
    omega
theorem blen_le {x : Nat} {b : Nat} (h : x < b) : blen x ≤ b := by
  simp only [blen]
  split
  · omega
  · rename_i h0
    have := Nat.log2_self_le h0
    have h2 : x.log2 < 2 ^ x.log2 := Nat.lt_two_pow_self
    omega
def lenTabOk (s : ByteArray) : Bool := (List.range 256).all fun j => s[j]? == some (UInt8.ofNat (blen j))
theorem lenTab {P : Program} {E : Env} {t : TypeId} {x : Operand} {s : ByteArray} {y : Nat} (ht : P.underlying t = some .string) (hx : aev E (.const (.string s)) = some (.string s)) (hy : aev E x = some (vi .u8 y)) (hlt : y < 256) (hs : lenTabOk s = true) :
  PureOp P (.index t (.const (.string s)) x) E (vi .u8 (blen y)) := by
 have h := List.all_eq_true.1 hs y (List.mem_range.2 hlt)
 refine (PureOp.idxStr hx hy ht (eq_of_beq h)).mono (congrArg (vi .u8) ?_)
 have h8 : blen y ≤ 8 := blen_lt (k := 8) hlt
 simp
 omega
theorem word_next {a : List Nat} {r : Nat} (h : bd 18446744073709551616 a) (hlt : num 18446744073709551616 a < 18446744073709551616 ^ (r + 1)) (hz : a.getD r 0 = 0) : num 18446744073709551616 a < 18446744073709551616 ^ r := by
 rw [num_getD h (by decide)] at hz
 have hp : 0 < 18446744073709551616 ^ r := Nat.pow_pos (by decide)
 have h1 : num 18446744073709551616 a / 18446744073709551616 ^ r < 18446744073709551616 := by rw [Nat.div_lt_iff_lt_mul hp, Nat.mul_comm, ← Nat.pow_succ]; exact hlt
 rw [Nat.mod_eq_of_lt h1] at hz
 rcases Nat.div_eq_zero_iff.1 hz with h3 | h3
 · omega
 · exact h3
theorem word_top {a : List Nat} {r : Nat} (h : bd 18446744073709551616 a) (hlt : num 18446744073709551616 a < 18446744073709551616 ^ (r + 1)) (hz : a.getD r 0 ≠ 0) : blen (num 18446744073709551616 a) = 64 * r + blen (a.getD r 0) := by
 rw [num_getD h (by decide)] at hz ⊢
 have hp : 0 < 18446744073709551616 ^ r := Nat.pow_pos (by decide)
 have h1 : num 18446744073709551616 a / 18446744073709551616 ^ r < 18446744073709551616 := by rw [Nat.div_lt_iff_lt_mul hp, Nat.mul_comm, ← Nat.pow_succ]; exact hlt
 rw [Nat.mod_eq_of_lt h1] at hz ⊢
 have e : (18446744073709551616 : Nat) ^ r = 2 ^ (64 * r) := by rw [Nat.pow_mul]
 rw [e] at hz ⊢
 exact blen_shift hz
set_option maxRecDepth 10000 in
theorem len64_ctr {x : Nat} (hx : x < 18446744073709551616) : GC Tryz.prog 64 [vi .u64 (x)] [] [vi .i64 (blen x)] [] := by
 refine gi Tryz.func64 ?_
 refine zS ?_
 refine yA ?_
 refine zN (zQ (zS ?_))
 refine yM ?_
 refine yP (PureOp.geN (b := 4294967296) rfl rfl) ?_
 refine zN ?_
 refine AW.joinT (fun σ => ∃ m, ∃ y, (blen x = m + blen y ∧ y < 4294967296 ∧ m ≤ 32) ∧ σ = ⟨(upd (upd emp 0 (vi .u64 y)) 2 (vi .i64 m)), emp⟩) ?_ ?_
 ·
  refine zA (fun hb0 => ?_) (fun hb0 => ?_)
  ·
   have hge : 4294967296 ≤ x := by simpa using hb0
   refine zS ?_
   refine yM ?_
   refine yP (PureOp.shrN (b := 32) 64 rfl rfl rfl (by decide)) ?_
   refine yA ?_
   refine zN (zR ?_)
   refine yA ?_
   refine zN (zT ?_)
   refine ⟨[], _, ?_, (by exact ⟨32, x / 2 ^ 32, ⟨blen_half (by omega), by omega, by omega⟩, rfl⟩)⟩
   exact wk []
  ·
   have hge : ¬ 4294967296 ≤ x := by simpa using hb0
   refine zK (zT ?_)
   refine ⟨[], _, ?_, (by exact ⟨0, x, ⟨by omega, by omega, by omega⟩, rfl⟩)⟩
   exact wk []
 ·
  rintro σ ⟨m, y, ⟨he, hy, hm⟩, rfl⟩
  refine zQ (zS ?_)
  refine yM ?_
  refine yP (PureOp.geN (b := 65536) rfl rfl) ?_
  refine zN ?_
  refine AW.joinT (fun σ => ∃ m, ∃ y, (blen x = m + blen y ∧ y < 65536 ∧ m ≤ 48) ∧ σ = ⟨(upd (upd emp 0 (vi .u64 y)) 2 (vi .i64 m)), emp⟩) ?_ ?_
  ·
   refine zA (fun hb1 => ?_) (fun hb1 => ?_)
   ·
    have hge : 65536 ≤ y := by simpa using hb1
    refine zS ?_
    refine yM ?_
    refine yP (PureOp.shrN (b := 16) 64 rfl rfl rfl (by decide)) ?_
    refine yA ?_
    refine zN (zR ?_)
    refine yM ?_
    refine yP (pAdd (b := 16)) ?_
    refine yA ?_
    refine zN (zT ?_)
    refine ⟨[], _, ?_, (by exact ⟨m + 16, y / 2 ^ 16, ⟨by rw [he, blen_half (k := 16) (by omega)]; omega, by omega, by omega⟩, rfl⟩)⟩
    exact wk []
   ·
    have hge : ¬ 65536 ≤ y := by simpa using hb1
    refine zK (zT ?_)
    refine ⟨[], _, ?_, (by exact ⟨m, y, ⟨by omega, by omega, by omega⟩, rfl⟩)⟩
    exact wk []
  ·
   rintro σ ⟨m, y, ⟨he, hy, hm⟩, rfl⟩
   refine zQ (zS ?_)
   refine yM ?_
   refine yP (PureOp.geN (b := 256) rfl rfl) ?_
   refine zN ?_
   refine AW.joinT (fun σ => ∃ m, ∃ y, (blen x = m + blen y ∧ y < 256 ∧ m ≤ 56) ∧ σ = ⟨(upd (upd emp 0 (vi .u64 y)) 2 (vi .i64 m)), emp⟩) ?_ ?_
   ·
    refine zA (fun hb2 => ?_) (fun hb2 => ?_)
    ·
     have hge : 256 ≤ y := by simpa using hb2
     refine zS ?_
     refine yM ?_
     refine yP (PureOp.shrN (b := 8) 64 rfl rfl rfl (by decide)) ?_
     refine yA ?_
     refine zN (zR ?_)
     refine yM ?_
     refine yP (pAdd (b := 8)) ?_
     refine yA ?_
     refine zN (zT ?_)
     refine ⟨[], _, ?_, (by exact ⟨m + 8, y / 2 ^ 8, ⟨by rw [he, blen_half (k := 8) (by omega)]; omega, by omega, by omega⟩, rfl⟩)⟩
     exact wk []
    ·
     have hge : ¬ 256 ≤ y := by simpa using hb2
     refine zK (zT ?_)
     refine ⟨[], _, ?_, (by exact ⟨m, y, ⟨by omega, by omega, by omega⟩, rfl⟩)⟩
     exact wk []
   ·
    rintro σ ⟨m, y, ⟨he, hy, hm⟩, rfl⟩
    refine zS ?_
    refine yM ?_
    refine yM ?_
    refine yP ((PureOp.cvtU tbok 256 rfl rfl rfl rfl rfl).mono (v' := vi .u8 y) (congrArg (vi .u8) (Nat.mod_eq_of_lt hy))) ?_
    refine yP (lenTab Tryz.underlying9 rfl rfl hy (by kernel_rfl)) ?_
    refine yP (PureOp.cvtN tbok 9223372036854775808 rfl rfl rfl (by decide) (by decide) (by have := blen_le hy; omega)) ?_
    refine yP ((PureOp.addI rfl rfl (by have := blen_le hy; omega)).mono (v' := vi .i64 (blen x)) (congrArg (vi .i64) he.symm)) ?_
    refine yA ?_
    refine zN (zE ?_)
    exact rq [] [.tmp 2]
set_option maxRecDepth 10000 in
theorem lbits_ctr {a : List Nat} (h : bd 18446744073709551616 a) (hl : a.length < 100000000) : GC Tryz.prog 38 [.slice (some ⟨0, 0, none⟩) a.length 0] [⟨a.map (vi .u64), false, 1⟩] [vi .i64 (blen (num 18446744073709551616 a))] [⟨a.map (vi .u64), false, 1⟩] := by
 refine gi Tryz.func38 ?_
 refine zS ?_
 refine yA ?_
 refine zN (zQ (zS ?_))
 refine yM ?_
 refine yP pL ?_
 refine yP ((PureOp.subP rfl rfl (by omega)).mono (v' := vp a.length) (by rfl)) ?_
 refine yA ?_
 refine zN (zB ?_)
 refine AW.loopw (fun mm σ => ∃ r, (r ≤ a.length ∧ num 18446744073709551616 a < 18446744073709551616 ^ r) ∧ mm = 1 * r ∧ σ = ⟨(upd (upd emp 0 (.slice (some ⟨0, 0, none⟩) a.length 0)) 3 (vp r)), (upd emp 0 ⟨a.map (vi .u64), false, 1⟩)⟩) (fm := []) (wk [0]) ⟨a.length, ⟨Nat.le_refl _, num_lt h⟩, rfl, rfl⟩ ?_
 rintro mm σ ⟨r, ⟨hr, hlt⟩, rfl, rfl⟩
 refine zQ (zS ?_)
 refine yM ?_
 refine yP (PureOp.geP rfl rfl) ?_
 refine zN ?_
 refine zA (fun hb0 => ?_) (fun hb0 => ?_)
 ·
  have hp0 : 0 < r := by simpa using hb0
  obtain ⟨r, rfl⟩ : ∃ q, r = q + 1 := ⟨r - 1, by omega⟩
  rw [vp_succ]
  refine zK (zT (zQ (zB (zS ?_))))
  refine yM ?_
  refine yM ?_
  refine yP pJ ?_
  refine yL 0 ?_
  refine yP (pNe (b := 0)) ?_
  refine zN ?_
  refine zA (fun hb1 => ?_) (fun hb1 => ?_)
  ·
   have hnz : a.getD r 0 ≠ 0 := by simpa using hb1
   refine zS ?_
   refine yM ?_
   refine yP (PureOp.mulI (a := 64) rfl rfl (by omega)) ?_
   refine yM ?_
   refine yM ?_
   refine yP pJ ?_
   refine yL 0 ?_
   refine yC (len64_ctr (x := a.getD r 0) (bd_getD h (by decide) r)) bd64 [] [] ?_
   refine yP ((PureOp.addI rfl rfl (by have := blen_lt (k := 64) (bd_getD h (by decide) r); omega)).mono (v' := vi .i64 (blen (num 18446744073709551616 a))) (congrArg (vi .i64) (word_top h hlt hnz).symm)) ?_
   refine yA ?_
   refine zN (zE (zI (zU (zU (zI (zU ?_))))))
   exact rq [] [.tmp 2] (hres := (.cons rfl (by rfl) .nil))
  ·
   have hz : a.getD r 0 = 0 := by simpa using hb1
   refine zK (zL (zT (zR ?_)))
   refine yM ?_
   refine yP (PureOp.subP rfl rfl (by omega)) ?_
   refine yA ?_
   refine zN (zT ?_)
   exact ⟨1 * r, [], _, by omega, wk [0], r, ⟨by omega, word_next h hlt hz⟩, rfl, rfl⟩
 ·
  obtain rfl : r = 0 := by simpa using hb0
  have hz0 : num 18446744073709551616 a = 0 := by simpa using hlt
  refine zX (zV (zV (zH (zT (zS ?_)))))
  refine yA ?_
  refine zN (zE ?_)
  exact rq [] [.tmp 2] (hres := (.cons rfl (by exact congrArg (vi .i64) (by rw [hz0]; rfl)) .nil))
set_option maxRecDepth 10000 in
theorem clone_ctr {a : List Nat} (h0 : 0 < a.length) (hl : a.length < 100000000) : GC Tryz.prog 65 [.slice (some ⟨0, 0, none⟩) a.length 0] [⟨a.map (vi .u64), false, 1⟩] [.slice (some ⟨1, 0, none⟩) a.length 0] [⟨a.map (vi .u64), false, 1⟩, ⟨a.map (vi .u64), true, 1⟩] := by
 refine gi Tryz.func65 ?_
 refine zS ?_
 refine yA ?_
 refine zN (zQ (zS ?_))
 refine yM ?_
 refine yP (PureOp.slEqNil Tryz.underlying51 rfl (by omega)) ?_
 refine zN (zF (zK (zT (zS ?_))))
 refine AWo.buildSlice tbok 6000 [] (out := []) rfl rfl (by decide) rfl rfl rfl (by decide) rfl rfl rfl rfl rfl ?_
 refine yM ?_
 refine AWo.append tbok (all := a.map (vi .u64)) (news := a.map (vi .u64)) 8000 rfl rfl rfl rfl rfl (by show List.take _ (List.drop 0 _) = _; rw [List.drop_zero]; exact List.take_of_length_le (by simp)) (by (simp; done)) (by decide) rfl rfl rfl (by decide) rfl rfl rfl (by omega) (by omega) (by exact oneM (fun _ => rfl) _) rfl rfl rfl ?_
 refine yA ?_
 refine zN (zE ?_)
 exact rq [8000] [.tmp 2] (hres := (.cons rfl (by simp [ren, ren1, hmap]) .nil))
end Go.Proofs.YtpahdiljpnfkdaaGreat
namespace Go.Proofs.YtpahdiljpnfkdaaGreat
open Go Sim
section
variable {B : Nat}
theorem mad_step {l b : List Nat} {j c p x s : Nat} (hk : j < l.length) (h : num B l + c * B ^ j = p + x * num B (b.take j)) (hs : s = l.getD j 0 + x * b.getD j 0 + c) :
    num B (l.set j (s % B)) + s / B * B ^ (j + 1) = p + x * num B (b.take (j + 1)) := by
  have := mul_step (B := B) (l := l) (b := b) (i := 0) (j := j) (c := c) (p := p) (x := x) (s := s) (by omega) (by simpa using h) (by simpa using hs)
  simpa using this
theorem red_step {u q : List Nat} {j c k s t : Nat} (hj : 0 < j) (hju : j < u.length) (h : B * num B (u.take (j - 1)) + c * B ^ j = t % B ^ j + k * num B (q.take j)) (hs : s = u.getD j 0 + k * q.getD j 0 + c)
    (hu : u.getD j 0 = t / B ^ j % B) : B * num B ((u.set (j - 1) (s % B)).take j) + s / B * B ^ (j + 1) = t % B ^ (j + 1) + k * num B (q.take (j + 1)) := by
  obtain ⟨m, rfl⟩ : ∃ m, j = m + 1 := ⟨j - 1, by omega⟩
  simp only [Nat.add_sub_cancel] at h ⊢
  rw [take_set_succ (by omega), num_append, List.length_take, Nat.min_eq_left (by omega), mod_succ t, num_take_succ q, ← hu]
  simp only [num, Nat.mul_zero, Nat.add_zero]
  have h2 := Nat.mod_add_div s B
  generalize num B (u.take m) = a at *
  generalize num B (q.take (m + 1)) = b at *
  generalize t % B ^ (m + 1) = d at *
  generalize s % B = r at *
  generalize s / B = e at *
  generalize u.getD (m + 1) 0 = f at *
  generalize q.getD (m + 1) 0 = g at *
  rw [Nat.pow_succ B (m + 1)]
  rw [Nat.pow_succ] at h ⊢
  generalize B ^ m = v at *
  subst hs
  have h3 : r * (v * B) + e * (v * B * B) = (f + k * g + c) * (v * B) := by rw [← h2]; grind
  grind
theorem red_end {u : List Nat} {n c k t P : Nat} (hn : u.length = n + 2) (h : B * num B (u.take n) + c * B ^ (n + 1) = t % B ^ (n + 1) + k * P) (hu : u.getD (n + 1) 0 = t / B ^ (n + 1)) :
    B * num B ((u.set n ((u.getD (n + 1) 0 + c) % B)).set (n + 1) ((u.getD (n + 1) 0 + c) / B)) = t + k * P := by
  have e : (u.set n ((u.getD (n + 1) 0 + c) % B)).set (n + 1) ((u.getD (n + 1) 0 + c) / B) = u.take n ++ [(u.getD (n + 1) 0 + c) % B, (u.getD (n + 1) 0 + c) / B] := by
    have hl : ((u.set n ((u.getD (n + 1) 0 + c) % B)).set (n + 1) ((u.getD (n + 1) 0 + c) / B)).length = n + 1 + 1 := by simp [hn]
    rw [← List.take_of_length_le (Nat.le_of_eq hl), take_set_succ (by simp [hn]), take_set_succ (by omega), List.append_assoc]
    rfl
  rw [e, num_append, List.length_take, Nat.min_eq_left (by omega)]
  simp only [num, Nat.mul_zero, Nat.add_zero]
  rw [Nat.mod_add_div, hu]
  have h3 := Nat.mod_add_div t (B ^ (n + 1))
  rw [Nat.pow_succ] at h h3 ⊢
  generalize t / (B ^ n * B) = d at *
  generalize t % (B ^ n * B) = f at *
  generalize num B (u.take n) = a at *
  generalize B ^ n = v at *
  grind
theorem mont_lt {T x b k P T' : Nat} (h : B * T' = T + x * b + k * P) (hT : T < 2 * P) (hx : x < B) (hb : b < P) (hk : k < B) : T' < 2 * P := by
  have h1 : x * b ≤ (B - 1) * P := Nat.mul_le_mul (by omega) (by omega)
  have h2 : k * P ≤ (B - 1) * P := Nat.mul_le_mul (by omega) (Nat.le_refl _)
  obtain ⟨d, rfl⟩ : ∃ d, B = d + 1 := ⟨B - 1, by omega⟩
  simp only [Nat.add_sub_cancel] at h1 h2
  have h3 : (d + 1) * T' < (d + 1) * (2 * P) := by
    rw [h]
    have e : (d + 1) * (2 * P) = 2 * P + d * P + d * P := by grind
    rw [e]; omega
  exact Nat.lt_of_mul_lt_mul_left h3
theorem mont_mod {T x b k P T' i A : Nat} (h : B * T' = T + x * b + k * P) (hT : T * B ^ i % P = A * b % P) : T' * B ^ (i + 1) % P = (A + x * B ^ i) * b % P := by
  have e : T' * B ^ (i + 1) = T * B ^ i + x * B ^ i * b + k * B ^ i * P := by
    rw [Nat.pow_succ]
    have : B * T' * B ^ i = (T + x * b + k * P) * B ^ i := by rw [h]
    grind
  rw [e, Nat.add_mul_mod_self_right, Nat.add_mod, hT, ← Nat.add_mod, Nat.add_mul]
theorem mont_uniq {R P r r' : Nat} (hc : Nat.Coprime R P) (hr : r < P) (hr' : r' < P) (h : r * R % P = r' * R % P) : r = r' := by
  have key : ∀ {a b : Nat}, a ≤ b → b < P → a * R % P = b * R % P → a = b := by
    intro a b hab hb h
    have h1 : P ∣ (b - a) * R := by
      have h2 := Nat.dvd_of_mod_eq_zero (Nat.sub_mod_eq_zero_of_mod_eq h.symm)
      rwa [← Nat.sub_mul] at h2
    have h3 := (Nat.Coprime.symm hc).dvd_of_dvd_mul_right h1
    rcases Nat.eq_zero_or_pos (b - a) with h0 | h0
    · omega
    · have := Nat.le_of_dvd h0 h3
      omega
  rcases Nat.le_total r r' with h1 | h1
  · exact key h1 hr' h
  · exact (key h1 hr h.symm).symm
theorem mont_low {t k P inv : Nat} (hB : 0 < B) (hi : (P * inv + 1) % B = 0) (hk : k = t % B * inv % B) : (t % B + k * (P % B)) % B = 0 := by
  subst hk
  have e : (t % B + t % B * inv % B * (P % B)) % B = (t % B * (P * inv + 1)) % B := by
    rw [Nat.add_mod, ← Nat.mul_mod (t % B * inv) P B, ← Nat.add_mod, Nat.mul_add, Nat.mul_one, Nat.add_comm, Nat.mul_assoc, Nat.mul_comm inv P]
  rw [e, Nat.mul_mod, hi, Nat.mul_zero, Nat.zero_mod]
end
end Go.Proofs.YtpahdiljpnfkdaaGreat
namespace Go.Proofs.YtpahdiljpnfkdaaGreat
open Go Sim
def MwOk (mw : List Nat) : Prop := bd 18446744073709551616 mw ∧ 0 < mw.length ∧ mw.length ≤ 1000 ∧ 0 < num 18446744073709551616 mw
section
variable {B : Nat}
theorem less_c {n N c a : Nat} (hN : N < B ^ n) (h : a + c * B ^ n < 2 * N) : c ≤ 1 := by
  rcases Nat.lt_or_ge c 2 with h1 | h1
  · omega
  · have := Nat.mul_le_mul_right (B ^ n) h1
    omega
theorem less_ge2 {n N c a : Nat} (hc : c ≠ 0) (hN : N < B ^ n) : N ≤ a + c * B ^ n := by
  have := Nat.mul_le_mul_right (B ^ n) (show 1 ≤ c by omega)
  omega
theorem lt_of_cmp {a b : Nat} (h : cmpI a b < 0) : a < b := by
  simp only [cmpI] at h
  split at h
  · assumption
  · split at h <;> omega
theorem ge_of_cmp {a b : Nat} (h : 0 ≤ cmpI a b) : b ≤ a := by
  simp only [cmpI] at h
  split at h
  · omega
  · omega
theorem less_sub {n N c a : Nat} (hA : a < B ^ n) (hN : N < B ^ n) (h : a + c * B ^ n < 2 * N) (hge : N ≤ a + c * B ^ n) : digs B n ((a + c * B ^ n) % N) = digs B n (a + B ^ n - N) := by
  have hB : 0 < B := by
    rcases Nat.eq_zero_or_pos B with h0 | h0
    · subst h0
      cases n with
      | zero => simp at hA hN; omega
      | succ n => simp at hA
    · exact h0
  have hc := less_c hN h
  refine num_inj (digs_bd hB _ _) (digs_bd hB _ _) (by simp [digs_len]) ?_
  have e : (a + c * B ^ n) % N = a + c * B ^ n - N := by
    rw [Nat.mod_eq_sub_mod hge, Nat.mod_eq_of_lt (by omega)]
  rw [num_digs, num_digs, e]
  rcases (by omega : c = 0 ∨ c = 1) with rfl | rfl
  · rw [Nat.zero_mul, Nat.add_zero] at *
    rw [show a + B ^ n - N = (a - N) + B ^ n by omega, Nat.add_mod_right]
  · rw [Nat.one_mul]
end
theorem or_low {x d : Nat} (hd : d ≤ 1) : x * 2 % 18446744073709551616 ||| d = x * 2 % 18446744073709551616 + d := by
 have e : x * 2 % 18446744073709551616 = 2 ^ 1 * (x * 2 % 18446744073709551616 / 2) := by omega
 rw [e]
 exact (Nat.two_pow_add_eq_or_of_lt (i := 1) (b := d) (by omega) _).symm
theorem twice_step {l a : List Nat} {i c d : Nat} (hi : i < l.length) (h : num 18446744073709551616 (l.take i) + 18446744073709551616 ^ i * d = 2 * num 18446744073709551616 (a.take i) + c) :
  num 18446744073709551616 ((l.set i (a.getD i 0 * 2 % 18446744073709551616 + d)).take (i + 1)) + 18446744073709551616 ^ (i + 1) * (a.getD i 0 / 9223372036854775808) = 2 * num 18446744073709551616 (a.take (i + 1)) + c := by
 rw [take_set_succ hi, num_append, List.length_take, Nat.min_eq_left (by omega), num_take_succ, Nat.pow_succ]
 simp only [num, Nat.mul_zero, Nat.add_zero]
 have e : a.getD i 0 * 2 = a.getD i 0 * 2 % 18446744073709551616 + 18446744073709551616 * (a.getD i 0 / 9223372036854775808) := by omega
 generalize a.getD i 0 * 2 % 18446744073709551616 = r at *
 generalize a.getD i 0 / 9223372036854775808 = q at *
 generalize a.getD i 0 = x at *
 generalize 18446744073709551616 ^ i = w at *
 grind
theorem num_lt_blen (n : Nat) : n / 2 ^ blen n = 0 := by
 refine Nat.div_eq_of_lt ?_
 simp only [blen]
 split
 · rename_i h; rw [h]; decide
 · exact Nat.lt_log2_self
theorem red_init {n N : Nat} (_ : 0 < N) (h : n / 2 ^ blen n = 0) {k : Nat} : digs 18446744073709551616 k (n / 2 ^ blen n % N) = List.replicate k 0 := by
 rw [h, Nat.zero_mod]
 refine num_inj (digs_bd (by decide) _ _) (bd_replicate (by decide) _) (by simp [digs_len]) ?_
 rw [num_digs, num_replicate, Nat.zero_mod]
theorem bit64_at {a : List Nat} (h : bd 18446744073709551616 a) (i : Nat) : a.getD (i / 64) 0 / 2 ^ (i % 64) % 2 = num 18446744073709551616 a / 2 ^ i % 2 := by
 rw [num_getD h (by decide)]
 have e1 : (2 : Nat) ^ i = 18446744073709551616 ^ (i / 64) * 2 ^ (i % 64) := by
  rw [show (18446744073709551616 : Nat) = 2 ^ 64 from by decide, ← Nat.pow_mul, ← Nat.pow_add, Nat.div_add_mod]
 rw [e1, ← Nat.div_div_eq_div_mul]
 generalize num 18446744073709551616 a / 18446744073709551616 ^ (i / 64) = z
 have hk : i % 64 < 64 := Nat.mod_lt _ (by decide)
 generalize i % 64 = k at hk
 have e : 18446744073709551616 = 2 ^ k * (2 * 2 ^ (63 - k)) := by
  rw [← Nat.mul_assoc, Nat.mul_right_comm, ← Nat.pow_add, show k + (63 - k) = 63 by omega]
 rw [e, Nat.mod_mul_right_div_self, Nat.mod_mul_right_mod]
theorem bit_len {a : List Nat} {r : Nat} (h : bd 18446744073709551616 a) (hr : r < blen (num 18446744073709551616 a)) : r / 64 < a.length := by
 have h1 := num_lt h
 rw [show (18446744073709551616 : Nat) = 2 ^ 64 from by decide, ← Nat.pow_mul] at h1
 have h2 := blen_lt h1
 rw [show (2 : Nat) ^ 64 = 18446744073709551616 from by decide] at h2
 omega
theorem blen_words {a : List Nat} (h : bd 18446744073709551616 a) : blen (num 18446744073709551616 a) ≤ 64 * a.length := by
 have h1 := num_lt h
 rw [show (18446744073709551616 : Nat) = 2 ^ 64 from by decide, ← Nat.pow_mul] at h1
 have h2 := blen_lt h1
 rwa [show (2 : Nat) ^ 64 = 18446744073709551616 from by decide] at h2
theorem red_next {n r N k : Nat} (hN : 0 < N) (hk : N < 18446744073709551616 ^ k) : digs 18446744073709551616 k (n / 2 ^ r % N) = digs 18446744073709551616 k ((2 * num 18446744073709551616 (digs 18446744073709551616 k (n / 2 ^ (r + 1) % N)) + n / 2 ^ r % 2) % N) := by
 rw [num_digs_lt (Nat.lt_trans (Nat.mod_lt _ hN) hk)]
 have e : n / 2 ^ r = 2 * (n / 2 ^ (r + 1)) + n / 2 ^ r % 2 := by
  rw [Nat.pow_succ, ← Nat.div_div_eq_div_mul]
  omega
 generalize n / 2 ^ r % 2 = b at *
 generalize n / 2 ^ (r + 1) = m at *
 rw [e]
 congr 1
 rw [Nat.add_mod, Nat.mul_mod, ← Nat.mod_mod_of_dvd m (Nat.dvd_refl N)]
 simp [Nat.add_mod, Nat.mul_mod]
theorem lcmp_ctrN {a b : List Nat} {na nb : Nat} (hna : a.length = na) (hnb : b.length = nb) (ha : bd 18446744073709551616 a) (hb : bd 18446744073709551616 b) (hla : a.length < 100000000) (hlb : b.length < 100000000) : GC Tryz.prog 101 [.slice (some ⟨0, 0, none⟩) na 0, .slice (some ⟨1, 0, none⟩) nb 0] [⟨a.map (vi .u64), false, 1⟩, ⟨b.map (vi .u64), false, 1⟩] [.int .i64 (cmpI (num 18446744073709551616 a) (num 18446744073709551616 b))] [⟨a.map (vi .u64), false, 1⟩, ⟨b.map (vi .u64), false, 1⟩] := by
 subst hna; subst hnb
 exact lcmp_ctr ha hb hla hlb
theorem lsub_ctrN {a b : List Nat} {na nb : Nat} (hna : a.length = na) (hnb : b.length = nb) (ha : bd 18446744073709551616 a) (hb : bd 18446744073709551616 b) (hla : a.length < 100000000) (hlb : b.length < 100000000) : GC Tryz.prog 102 [.slice (some ⟨0, 0, none⟩) na 0, .slice (some ⟨1, 0, none⟩) nb 0] [⟨a.map (vi .u64), false, 1⟩, ⟨b.map (vi .u64), false, 1⟩] [.slice (some ⟨2, 0, none⟩) (Nat.max na nb) 0, vi .u64 (if num 18446744073709551616 a < num 18446744073709551616 b then 1 else 0)] [⟨a.map (vi .u64), false, 1⟩, ⟨b.map (vi .u64), false, 1⟩, ⟨(digs 18446744073709551616 (Nat.max na nb) (num 18446744073709551616 a + 18446744073709551616 ^ (Nat.max na nb) - num 18446744073709551616 b)).map (vi .u64), true, 1⟩] := by
 subst hna; subst hnb
 exact lsub_ctr ha hb hla hlb
set_option maxRecDepth 10000 in
theorem less_ctr {mw sq a : List Nat} {iv c ns : Nat} (hM : MwOk mw) (ha : bd 18446744073709551616 a) (hla : a.length = mw.length) (h : num 18446744073709551616 a + c * 18446744073709551616 ^ mw.length < 2 * num 18446744073709551616 mw) : GC Tryz.prog 88 [.pointer (some ⟨0, 0, none⟩), .slice (some ⟨3, 0, none⟩) mw.length 0, vi .u64 (c)] [⟨[.slice (some ⟨1, 0, none⟩) mw.length 0, vi .u64 iv, .slice (some ⟨2, 0, none⟩) ns 0], false, 1⟩, ⟨(mw).map (vi .u64), false, 1⟩, ⟨(sq).map (vi .u64), false, 1⟩, ⟨a.map (vi .u64), true, 1⟩] [.slice (some ⟨4, 0, none⟩) mw.length 0] [⟨[.slice (some ⟨1, 0, none⟩) mw.length 0, vi .u64 iv, .slice (some ⟨2, 0, none⟩) ns 0], false, 1⟩, ⟨(mw).map (vi .u64), false, 1⟩, ⟨(sq).map (vi .u64), false, 1⟩, ⟨[], false, 1⟩, ⟨(digs 18446744073709551616 mw.length ((num 18446744073709551616 a + c * 18446744073709551616 ^ mw.length) % num 18446744073709551616 mw)).map (vi .u64), true, 1⟩] := by
 refine gi Tryz.func88 ?_
 obtain ⟨hbm, hm0, hml, hN⟩ := hM
 refine AW.move 3 77000 1 rfl rfl rfl ?_
 have hA := num_lt ha
 rw [hla] at hA
 have hNW := num_lt hbm
 have hc1 := less_c hNW h
 refine zS ?_
 refine yA ?_
 refine zN (zQ (zS ?_))
 refine yM ?_
 refine yB (pEq (b := 0)) (fun hb0 => ?_) (fun hb0 => ?_)
 ·
  have hc0 : c = 0 := by simpa using hb0
  refine yM ?_
  refine yM ?_
  refine yM ?_
  refine yP (PureOp.nilCheck rfl) ?_
  refine yP pF ?_
  refine yL1 ?_
  refine yC (lcmp_ctrN hla rfl ha hbm (by omega) (by omega)) bd101 [(77000, 0), (1, 0)] [] ?_
  refine yP (PureOp.bin rfl rfl rfl) ?_
  refine yP pT ?_
  refine zN ?_
  refine zA (fun hb1 => ?_) (fun hb1 => ?_)
  ·
   have hlt := lt_of_cmp (by simpa using hb1)
   rw [show digs 18446744073709551616 mw.length ((num 18446744073709551616 a + c * 18446744073709551616 ^ mw.length) % num 18446744073709551616 mw) = a from by rw [hc0, Nat.zero_mul, Nat.add_zero, Nat.mod_eq_of_lt hlt, ← hla, digs_num ha]]
   refine zS ?_
   refine yM ?_
   refine yA ?_
   refine zN (zE (zU ?_))
   exact rq [77000] [.tmp 6] (hb := (OutL.whole rfl rfl (OkL.all rfl) (by intro h; exact h.elim id fun h => absurd h.1 (by simp)) (OutL.flat rfl (flatM flat_vi) (by intro h; exact h.elim id fun h => absurd h.1 (by simp)) (OutL.flat rfl (flatM flat_vi) (by intro h; exact h.elim id fun h => absurd h.1 (by simp)) (OutL.husk rfl rfl (OutL.flat rfl (by exact flatM flat_vi) (by intro h; rfl) trivial))))))
  ·
   have hge : num 18446744073709551616 mw ≤ num 18446744073709551616 a + c * 18446744073709551616 ^ mw.length := Nat.le_trans (ge_of_cmp (by simpa using hb1)) (Nat.le_add_right _ _)
   refine zK (zT (zS ?_))
   refine yM ?_
   refine yM ?_
   refine yP (PureOp.nilCheck rfl) ?_
   refine yP pF ?_
   refine yL1 ?_
   refine yC (lsub_ctrN hla rfl ha hbm (by omega) (by omega)) bd102 [(77000, 0), (1, 0)] [28000] ?_
   refine yM ?_
   refine yP pX ?_
   refine yP pX ?_
   refine yA ?_
   refine yA ?_
   refine zN ?_
   rw [show Nat.max mw.length mw.length = mw.length from Nat.max_self _]
   rw [show digs 18446744073709551616 mw.length ((num 18446744073709551616 a + c * 18446744073709551616 ^ mw.length) % num 18446744073709551616 mw) = digs 18446744073709551616 mw.length (num 18446744073709551616 a + 18446744073709551616 ^ mw.length - num 18446744073709551616 mw) from less_sub hA hNW h hge]
   refine zS ?_
   refine yM ?_
   refine yA ?_
   refine zN (zE ?_)
   exact rq [28000] [.tmp 6] (hb := (OutL.whole rfl rfl (OkL.all rfl) (by intro h; exact h.elim id fun h => absurd h.1 (by simp)) (OutL.flat rfl (flatM flat_vi) (by intro h; exact h.elim id fun h => absurd h.1 (by simp)) (OutL.flat rfl (flatM flat_vi) (by intro h; exact h.elim id fun h => absurd h.1 (by simp)) (OutL.husk rfl rfl (OutL.flat rfl (by exact flatM flat_vi) (by intro h; rfl) trivial))))))
 ·
  have hc0 : c ≠ 0 := by simpa using hb0
  have hge : num 18446744073709551616 mw ≤ num 18446744073709551616 a + c * 18446744073709551616 ^ mw.length := less_ge2 hc0 hNW
  refine yM ?_
  refine yK ?_
  refine yK ?_
  refine yK ?_
  refine yK ?_
  refine yK ?_
  refine yK ?_
  refine yK ?_
  refine yP pE ?_
  refine zN (zF (zK (zT (zS ?_))))
  refine yM ?_
  refine yM ?_
  refine yP (PureOp.nilCheck rfl) ?_
  refine yP pF ?_
  refine yL1 ?_
  refine yC (lsub_ctrN hla rfl ha hbm (by omega) (by omega)) bd102 [(77000, 0), (1, 0)] [28000] ?_
  refine yM ?_
  refine yP pX ?_
  refine yP pX ?_
  refine yA ?_
  refine yA ?_
  refine zN ?_
  rw [show Nat.max mw.length mw.length = mw.length from Nat.max_self _]
  rw [show digs 18446744073709551616 mw.length ((num 18446744073709551616 a + c * 18446744073709551616 ^ mw.length) % num 18446744073709551616 mw) = digs 18446744073709551616 mw.length (num 18446744073709551616 a + 18446744073709551616 ^ mw.length - num 18446744073709551616 mw) from less_sub hA hNW h hge]
  refine zS ?_
  refine yM ?_
  refine yA ?_
  refine zN (zE ?_)
  exact rq [28000] [.tmp 6] (hb := (OutL.whole rfl rfl (OkL.all rfl) (by intro h; exact h.elim id fun h => absurd h.1 (by simp)) (OutL.flat rfl (flatM flat_vi) (by intro h; exact h.elim id fun h => absurd h.1 (by simp)) (OutL.flat rfl (flatM flat_vi) (by intro h; exact h.elim id fun h => absurd h.1 (by simp)) (OutL.husk rfl rfl (OutL.flat rfl (by exact flatM flat_vi) (by intro h; rfl) trivial))))))
set_option maxRecDepth 10000 in
theorem twice_ctr {mw sq a : List Nat} {iv c ns : Nat} (hM : MwOk mw) (ha : bd 18446744073709551616 a) (hla : a.length = mw.length) (hlt : num 18446744073709551616 a < num 18446744073709551616 mw) (hc : c ≤ 1) : GC Tryz.prog 66 [.pointer (some ⟨0, 0, none⟩), .slice (some ⟨3, 0, none⟩) mw.length 0, vi .u64 (c)] [⟨[.slice (some ⟨1, 0, none⟩) mw.length 0, vi .u64 iv, .slice (some ⟨2, 0, none⟩) ns 0], false, 1⟩, ⟨(mw).map (vi .u64), false, 1⟩, ⟨(sq).map (vi .u64), false, 1⟩, ⟨a.map (vi .u64), false, 1⟩] [.slice (some ⟨4, 0, none⟩) mw.length 0] [⟨[.slice (some ⟨1, 0, none⟩) mw.length 0, vi .u64 iv, .slice (some ⟨2, 0, none⟩) ns 0], false, 1⟩, ⟨(mw).map (vi .u64), false, 1⟩, ⟨(sq).map (vi .u64), false, 1⟩, ⟨a.map (vi .u64), false, 1⟩, ⟨(digs 18446744073709551616 mw.length ((2 * num 18446744073709551616 a + c) % num 18446744073709551616 mw)).map (vi .u64), true, 1⟩] := by
 refine gi Tryz.func66 ?_
 obtain ⟨hbm, hm0, hml, hN⟩ := hM
 refine zS ?_
 refine yA ?_
 refine zN (zS ?_)
 refine yM ?_
 refine yP pL ?_
 refine AWo.makeI tbok 13000 rfl rfl rfl rfl rfl rfl (by omega) (by omega) rfl rfl rfl ?_
 refine yA ?_
 refine zN (zQ (zS ?_))
 refine yM ?_
 refine yP pL ?_
 refine yM ?_
 refine zN (zB ?_)
 refine AW.loopw (fun mm σ => ∃ i, ∃ (l : List Nat), ∃ d, (i ≤ mw.length ∧ l.length = mw.length ∧ bd 18446744073709551616 l ∧ d ≤ 1 ∧ num 18446744073709551616 (l.take i) + 18446744073709551616 ^ i * d = 2 * num 18446744073709551616 (a.take i) + c) ∧ mm = mw.length - i ∧ σ = ⟨(upd (upd (upd (upd (upd (upd emp 0 (.pointer (some ⟨0, 0, none⟩))) 2 (vi .u64 d)) 7 (.slice (some ⟨77000, 0, none⟩) mw.length 0)) 13 (.slice (some ⟨3, 0, none⟩) mw.length 0)) 14 (vi .i64 mw.length)) 15 (vi .i64 i)), (upd (upd (upd (upd (upd emp 0 ⟨[.slice (some ⟨1, 0, none⟩) mw.length 0, vi .u64 iv, .slice (some ⟨2, 0, none⟩) ns 0], false, 1⟩) 1 ⟨mw.map (vi .u64), false, 1⟩) 2 ⟨sq.map (vi .u64), false, 1⟩) 3 ⟨a.map (vi .u64), false, 1⟩) 77000 ⟨l.map (vi .u64), true, 1⟩)⟩) (fm := [(77000, 13000)]) (wk [0, 1, 2, 3, 77000]) ⟨0, List.replicate mw.length 0, c, ⟨Nat.zero_le _, by simp, bd_replicate (by decide) _, hc, by simp [num]⟩, rfl, rfl⟩ ?_
 rintro mm σ ⟨i, l, d, ⟨hi0, hl2, hbl, hd, hnl⟩, rfl, rfl⟩
 have hx := bd_getD ha (by decide) i
 refine zS ?_
 refine yP pLt ?_
 refine zN (zQ ?_)
 refine zA (fun hb0 => ?_) (fun hb0 => ?_)
 ·
  have hi : i < mw.length := by simpa using hb0
  refine zK (zT (zQ (zB (zS ?_))))
  refine yM ?_
  refine yP pJ ?_
  refine yL 0 ?_
  refine yA ?_
  refine yA ?_
  refine zN (zS ?_)
  refine yM ?_
  refine yM ?_
  refine yM ?_
  refine yP ((PureOp.shlUge (b := 1) 18446744073709551616 rfl rfl rfl rfl).mono (v' := vi .u64 (a.getD i 0 * 2 % 18446744073709551616)) rfl) ?_
  refine yM ?_
  refine yP ((PureOp.orN 18446744073709551616 rfl rfl (by decide) (by decide) (Nat.mod_lt _ (by decide)) (by omega)).mono (v' := vi .u64 (a.getD i 0 * 2 % 18446744073709551616 + d)) (congrArg (vi .u64) (or_low hd))) ?_
  refine yP pJ ?_
  refine yS (vi .u64) ?_
  refine zN (zR ?_)
  refine yM ?_
  refine yP ((PureOp.shrN (b := 63) 64 rfl rfl rfl (by decide)).mono (v' := vi .u64 (a.getD i 0 / 9223372036854775808)) rfl) ?_
  refine yA ?_
  refine zN (zL (zT (zR ?_)))
  refine yP (pAdd (b := 1)) ?_
  refine yM ?_
  refine zN (zT ?_)
  exact ⟨mw.length - (i + 1), [], _, by omega, wk [0, 1, 2, 3, 77000], i + 1, l.set i (a.getD i 0 * 2 % 18446744073709551616 + d), a.getD i 0 / 9223372036854775808, ⟨by omega, by simp [hl2], bd_set hbl (by omega), by omega, twice_step (by omega) hnl⟩, rfl, rfl⟩
 ·
  have hi : i = mw.length := by simp at hb0; omega
  subst hi
  have hfin : num 18446744073709551616 l + d * 18446744073709551616 ^ mw.length = 2 * num 18446744073709551616 a + c := by
   rw [← hl2, take_all, hl2, ← hla, take_all, hla, Nat.mul_comm] at hnl
   exact hnl
  refine zX (zV (zV (zH (zT ?_))))
  rw [← hfin]
  refine zS ?_
  refine yM ?_
  refine yM ?_
  refine yM ?_
  refine AWo.callX (less_ctr (a := l) ⟨hbm, hm0, hml, hN⟩ hbl hl2 (by rw [hfin]; omega)) bd88 [(0, 0), (1, 0), (2, 0), (77000, 0)] [34000] rfl (.cons rfl (.cons rfl (.cons rfl .nil))) rfl (.cons rfl rfl (.cons rfl rfl (.cons rfl rfl .nil))) (.whole rfl rfl (OkL.all rfl) (by intro h; exact h) (.flat rfl (flatM flat_vi) (by intro h; exact h) (.flat rfl (flatM flat_vi) (by intro h; exact h) (.flat rfl (by exact flatM flat_vi) (by intro h; exact h) .nil)))) rfl (.keep rfl (.keep rfl (.keep rfl (.gone rfl rfl (OkL.flat (by simp)) (.new (flat_map_ren (by exact flatM flat_vi)) (OkL.flat (by exact flatM flat_vi)) .nil))))) (frC rfl frN) (by decide) (.cons rfl rfl .nil) rfl rfl rfl rfl ?_
  refine yA ?_
  refine zN (zE ?_)
  refine RetQ.gc [_] [34000] [.tmp 6] (.inl rfl) rfl (.tmp rfl .nil) rfl (.cons rfl rfl .nil) (OutL.whole rfl rfl (OkL.all rfl) (by intro h; exact h.elim id fun h => absurd h.1 (by simp)) (OutL.flat rfl (flatM flat_vi) (by intro h; exact h.elim id fun h => absurd h.1 (by simp)) (OutL.flat rfl (flatM flat_vi) (by intro h; exact h.elim id fun h => absurd h.1 (by simp)) (OutL.flat rfl (by exact flatM flat_vi) (by intro h; exact h.elim id fun h => absurd h.1 (by simp)) (OutL.flat rfl (by exact flatM flat_vi) (by intro h; rfl) trivial))))) (by decide) rfl
set_option maxRecDepth 10000 in
theorem reduce_ctr {mw sq a : List Nat} {iv ns : Nat} (hM : MwOk mw) (ha : bd 18446744073709551616 a) (hla : a.length ≤ 1000) : GC Tryz.prog 43 [.pointer (some ⟨0, 0, none⟩), .slice (some ⟨3, 0, none⟩) a.length 0] [⟨[.slice (some ⟨1, 0, none⟩) mw.length 0, vi .u64 iv, .slice (some ⟨2, 0, none⟩) ns 0], false, 1⟩, ⟨(mw).map (vi .u64), false, 1⟩, ⟨(sq).map (vi .u64), false, 1⟩, ⟨a.map (vi .u64), false, 1⟩] [.slice (some ⟨4, 0, none⟩) mw.length 0] [⟨[.slice (some ⟨1, 0, none⟩) mw.length 0, vi .u64 iv, .slice (some ⟨2, 0, none⟩) ns 0], false, 1⟩, ⟨(mw).map (vi .u64), false, 1⟩, ⟨(sq).map (vi .u64), false, 1⟩, ⟨a.map (vi .u64), false, 1⟩, ⟨(digs 18446744073709551616 mw.length (num 18446744073709551616 a % num 18446744073709551616 mw)).map (vi .u64), true, 1⟩] := by
 refine gi Tryz.func43 ?_
 obtain ⟨hbm, hm0, hml, hN⟩ := hM
 have hA := num_lt_blen (num 18446744073709551616 a)
 have hbw := blen_words ha
 refine zS ?_
 refine yA ?_
 refine zN (zS ?_)
 refine yM ?_
 refine yP (PureOp.nilCheck rfl) ?_
 refine yP pF ?_
 refine yL1 ?_
 refine yP pL ?_
 refine AWo.makeI tbok 13000 rfl rfl rfl rfl rfl rfl (by omega) (by omega) rfl rfl rfl ?_
 refine yA ?_
 refine zN (zQ (zS ?_))
 refine yM ?_
 refine yC (lbits_ctr ha (by omega)) bd38 [(3, 0)] [] ?_
 refine yP ((PureOp.subP rfl rfl (by omega)).mono (v' := vp (blen (num 18446744073709551616 a))) (by rfl)) ?_
 refine yA ?_
 refine zN (zB ?_)
 refine AW.loopw (fun mm σ => ∃ r, (r ≤ blen (num 18446744073709551616 a)) ∧ mm = 1 * r ∧ σ = ⟨(upd (upd (upd (upd emp 0 (.pointer (some ⟨0, 0, none⟩))) 1 (.slice (some ⟨3, 0, none⟩) a.length 0)) 5 (.slice (some ⟨77000, 0, none⟩) mw.length 0)) 6 (vp r)), (upd (upd (upd (upd (upd emp 0 ⟨[.slice (some ⟨1, 0, none⟩) mw.length 0, vi .u64 iv, .slice (some ⟨2, 0, none⟩) ns 0], false, 1⟩) 1 ⟨mw.map (vi .u64), false, 1⟩) 2 ⟨sq.map (vi .u64), false, 1⟩) 3 ⟨a.map (vi .u64), false, 1⟩) 77000 ⟨(digs 18446744073709551616 mw.length (num 18446744073709551616 a / 2 ^ r % num 18446744073709551616 mw)).map (vi .u64), true, 1⟩)⟩) (fm := [(77000, 13000)]) ?_ ⟨blen (num 18446744073709551616 a), Nat.le_refl _, rfl, rfl⟩ ?_
 ·
  refine Wk.of [0, 1, 2, 3, 77000] ?_ ?_ ?_ (by decide) rfl
  ·
   refine WkE.upd rfl (by exact VR.flat _ rfl) ?_
   refine WkE.upd rfl (.slice (77000) 0 _ 0 ⟨_, rfl⟩ (by simp) (by simp)) ?_
   refine WkE.upd rfl (.slice (3) 0 _ 0 ⟨_, rfl⟩ (by simp) (by simp)) ?_
   refine WkE.upd rfl (.ptr (0) 0 ⟨_, rfl⟩) ?_
   exact WkE.emp
  ·
   refine WkM.flatM rfl (by exact red_init hN hA) flat_vi (fun h => h) ?_
   refine WkM.flatM rfl (by rfl) (fun _ => rfl) (fun h => h) ?_
   refine WkM.flatM rfl (by rfl) (fun _ => rfl) (fun h => h) ?_
   refine WkM.flatM rfl (by rfl) (fun _ => rfl) (fun h => h) ?_
   refine WkM.ren [1, 2] rfl rfl rfl (dom_all rfl) (fun h => h) ?_
   exact WkM.emp
  ·
   repeat (refine dom_upd_mem (by decide) ?_)
   exact dom_emp
 ·
  rintro mm σ ⟨r, hr, rfl, rfl⟩
  refine zQ (zS ?_)
  refine yM ?_
  refine yP (PureOp.geP rfl rfl) ?_
  refine zN ?_
  refine zA (fun hb0 => ?_) (fun hb0 => ?_)
  ·
   have hp0 : 0 < r := by simpa using hb0
   obtain ⟨r, rfl⟩ : ∃ q, r = q + 1 := ⟨r - 1, by omega⟩
   rw [vp_succ]
   have hal := bit_len ha (show r < blen (num 18446744073709551616 a) by omega)
   refine zK (zT (zQ (zB ?_)))
   have hal := bit_len ha (show r < blen (num 18446744073709551616 a) by omega)
   refine zR ?_
   refine yM ?_
   refine yM ?_
   refine yM ?_
   refine yM ?_
   refine yP ((PureOp.quoN (b := 64) 9223372036854775808 rfl rfl (by decide) (by decide) (by decide) (by omega)).mono (v' := vi .i64 (r / 64)) rfl) ?_
   refine yP pJ ?_
   refine yL 0 ?_
   refine yM ?_
   refine yP ((PureOp.remN (b := 64) rfl rfl (by decide)).mono (v' := vi .i64 (r % 64)) rfl) ?_
   refine yP (PureOp.shrN (b := r % 64) 64 rfl rfl rfl (by omega)) ?_
   refine yP ((PureOp.andN 18446744073709551616 rfl rfl (by decide) (by decide) (Nat.lt_of_le_of_lt (Nat.div_le_self _ _) (bd_getD ha (by decide) _)) (by decide)).mono (v' := vi .u64 (num 18446744073709551616 a / 2 ^ r % 2)) (congrArg (vi .u64) ((Nat.and_one_is_mod _).trans (bit64_at ha r)))) ?_
   refine AWo.callX (twice_ctr (a := digs 18446744073709551616 mw.length (num 18446744073709551616 a / 2 ^ (r + 1) % num 18446744073709551616 mw)) ⟨hbm, hm0, hml, hN⟩ (digs_bd (by decide) _ _) (digs_len _ _) (by rw [num_digs_lt (Nat.lt_trans (Nat.mod_lt _ hN) (num_lt hbm))]; exact Nat.mod_lt _ hN) (by omega)) bd66 [(0, 0), (1, 0), (2, 0), (77000, 0)] [32000] rfl (.cons rfl (.cons rfl (.cons rfl .nil))) rfl (.cons rfl rfl (.cons rfl rfl (.cons rfl rfl .nil))) (.whole rfl rfl (OkL.all rfl) (by intro h; exact h) (.flat rfl (flatM flat_vi) (by intro h; exact h) (.flat rfl (flatM flat_vi) (by intro h; exact h) (.flat rfl (by exact flatM flat_vi) (by intro h; rfl) .nil)))) rfl (.keep rfl (.keep rfl (.keep rfl (.keep rfl (.new (flat_map_ren (by exact flatM flat_vi)) (OkL.flat (by exact flatM flat_vi)) .nil))))) (frC rfl frN) (by decide) (.cons rfl rfl .nil) rfl rfl rfl rfl ?_
   refine yA ?_
   refine zN (zL (zT (zR ?_)))
   refine yM ?_
   refine yP (PureOp.subP rfl rfl (by omega)) ?_
   refine yA ?_
   refine zN (zT ?_)
   refine ⟨1 * r, [(77000, 32000)], _, by omega, ?_, r, by omega, rfl, rfl⟩
   refine Wk.of [0, 1, 2, 3, 77000] ?_ ?_ ?_ (by decide) rfl
   ·
    refine WkE.upd rfl (by exact VR.flat _ rfl) ?_
    refine WkE.upd rfl (.slice (77000) 0 _ 0 ⟨_, rfl⟩ (by simp) (by simp)) ?_
    refine WkE.upd rfl (.slice (3) 0 _ 0 ⟨_, rfl⟩ (by simp) (by simp)) ?_
    refine WkE.upd rfl (.ptr (0) 0 ⟨_, rfl⟩) ?_
    exact WkE.emp
   ·
    refine WkM.flatM rfl (by exact red_next hN (num_lt hbm)) flat_vi (fun h => h) ?_
    refine WkM.flatM rfl (by rfl) (fun _ => rfl) (fun h => h) ?_
    refine WkM.flatM rfl (by rfl) (fun _ => rfl) (fun h => h) ?_
    refine WkM.flatM rfl (by rfl) (fun _ => rfl) (fun h => h) ?_
    refine WkM.ren [1, 2] rfl rfl rfl (dom_all rfl) (fun h => h) ?_
    exact WkM.emp
   ·
    repeat (refine dom_upd_mem (by decide) ?_)
    exact dom_emp
  ·
   obtain rfl : r = 0 := by simpa using hb0
   rw [Nat.pow_zero, Nat.div_one]
   refine zX (zV (zV (zH (zT (zS ?_)))))
   refine yM ?_
   refine yA ?_
   refine zN (zE ?_)
   refine RetQ.gc [_] [77000] [.tmp 4] (.inl rfl) rfl (.tmp rfl .nil) rfl (.cons rfl rfl .nil) (OutL.whole rfl rfl (OkL.all rfl) (by intro h; exact h.elim id fun h => absurd h.1 (by simp)) (OutL.flat rfl (flatM flat_vi) (by intro h; exact h.elim id fun h => absurd h.1 (by simp)) (OutL.flat rfl (flatM flat_vi) (by intro h; exact h.elim id fun h => absurd h.1 (by simp)) (OutL.flat rfl (by exact flatM flat_vi) (by intro h; exact h.elim id fun h => absurd h.1 (by simp)) (OutL.flat rfl (by exact flatM flat_vi) (by intro h; rfl) trivial))))) (by decide) rfl
end Go.Proofs.YtpahdiljpnfkdaaGreat
namespace Go.Proofs.YtpahdiljpnfkdaaGreat
open Go Sim
theorem fitPre {h : Rho} {n : Nat} {M : Mem} {c c' : List Value} {rw : Bool} {es id : Nat} {r : List Blk} {g : List (Nat × Nat)} (h1 : M id = some ⟨c', true, es⟩) (h2 : c'.take c.length = c)
  (h3 : ∀ x ∈ c, flatV x = true) (h4 : c.length ≤ c'.length) (hr : FitL h n M r g) : FitL h n M (⟨c, rw, es⟩ :: r) ((id, 0) :: g) :=
 .cons h1 (by rw [flat_map_ren h3]; exact h2) (OkL.flat h3) (by simpa using h4) rfl (fun _ => ⟨rfl, rfl⟩) hr
section
variable {B : Nat}
theorem mad_stepT {l b : List Nat} {j c p x s m : Nat} (hj : j < m) (hm : m ≤ l.length) (h : num B (l.take m) + c * B ^ j = p + x * num B (b.take j)) (hs : s = l.getD j 0 + x * b.getD j 0 + c) :
  num B ((l.set j (s % B)).take m) + s / B * B ^ (j + 1) = p + x * num B (b.take (j + 1)) := by
 have e : (l.take m).getD j 0 = l.getD j 0 := by rw [List.getD_eq_getElem?_getD, List.getElem?_take, if_pos hj, ← List.getD_eq_getElem?_getD]
 rw [List.take_set]
 exact mad_step (by simp; omega) h (by rw [e]; exact hs)
theorem top_two {l : List Nat} {n c : Nat} (hl : l.length = n + 2) : num B ((l.set n ((l.getD n 0 + c) % B)).set (n + 1) ((l.getD n 0 + c) / B)) = num B (l.take (n + 1)) + c * B ^ n := by
 have hl2 : ((l.set n ((l.getD n 0 + c) % B)).set (n + 1) ((l.getD n 0 + c) / B)).length = n + 1 + 1 := by simp [hl]
 have e : (l.set n ((l.getD n 0 + c) % B)).set (n + 1) ((l.getD n 0 + c) / B) = l.take n ++ [(l.getD n 0 + c) % B, (l.getD n 0 + c) / B] := by
  rw [← List.take_of_length_le (Nat.le_of_eq hl2), take_set_succ (by simp [hl]), take_set_succ (by omega), List.append_assoc]
  rfl
 rw [e, num_append, List.length_take, Nat.min_eq_left (by omega), num_take_succ]
 simp only [num, Nat.mul_zero, Nat.add_zero]
 rw [Nat.mod_add_div]
 generalize l.getD n 0 = x
 generalize B ^ n = w
 grind
theorem red_end2 {u : List Nat} {n c k t N : Nat} (hu : u.length = n + 2) (hn : 0 < n) (h : B * num B (u.take (n - 1)) + c * B ^ n = t % B ^ n + k * N) (h1 : u.getD n 0 = t / B ^ n % B) (h2 : u.getD (n + 1) 0 = t / B ^ (n + 1) % B) (ht : t < B ^ (n + 2)) :
  B * num B (((u.set (n - 1) ((u.getD n 0 + c) % B)).set n (u.getD (n + 1) 0 + (u.getD n 0 + c) / B)).take (n + 1)) = t + k * N := by
 obtain ⟨m, rfl⟩ : ∃ m, n = m + 1 := ⟨n - 1, by omega⟩
 simp only [Nat.add_sub_cancel] at h ⊢
 rw [take_set_succ (by simp; omega), take_set_succ (by omega), List.append_assoc, num_append, List.length_take, Nat.min_eq_left (by omega)]
 simp only [List.singleton_append, num, Nat.mul_zero, Nat.add_zero]
 have hB : 0 < B := by
  rcases Nat.eq_zero_or_pos B with h0 | h0
  · subst h0; simp at ht
  · exact h0
 have e2 : t / B ^ (m + 1 + 1) < B := by
  rw [Nat.div_lt_iff_lt_mul (Nat.pow_pos hB), Nat.mul_comm, ← Nat.pow_succ]; exact ht
 rw [Nat.mod_eq_of_lt e2] at h2
 have e3 := Nat.mod_add_div t (B ^ (m + 1))
 have e4 : t / B ^ (m + 1) = u.getD (m + 1) 0 + B * u.getD (m + 1 + 1) 0 := by
  rw [h1, h2, Nat.pow_succ B (m + 1), ← Nat.div_div_eq_div_mul, Nat.mod_add_div]
 rw [e4] at e3
 have e5 := Nat.mod_add_div (u.getD (m + 1) 0 + c) B
 generalize (u.getD (m + 1) 0 + c) % B = r at *
 generalize (u.getD (m + 1) 0 + c) / B = q at *
 generalize u.getD (m + 1) 0 = x at *
 generalize u.getD (m + 1 + 1) 0 = y at *
 generalize t % B ^ (m + 1) = z at *
 generalize num B (u.take m) = a at *
 rw [Nat.pow_succ] at h e3
 generalize B ^ m = w at *
 have e6 : w * B * (r + B * q) = w * B * (x + c) := by rw [e5]
 grind
theorem top_small {l : List Nat} {n v N : Nat} (hl : n < l.length) (h : num B ((l.set n v).take (n + 1)) < 2 * N) (hN : N < B ^ n) : v < 2 := by
  rw [take_set_succ hl, num_append, List.length_take, Nat.min_eq_left (by omega)] at h
  simp only [num, Nat.mul_zero, Nat.add_zero] at h
  rcases Nat.lt_or_ge v 2 with h1 | h1
  · exact h1
  · have := Nat.mul_le_mul_left (B ^ n) h1
    omega
theorem cop_pow {N iv : Nat} (h : (N * iv + 1) % B = 0) (n : Nat) : Nat.Coprime (B ^ n) N := by
 apply Nat.Coprime.pow_left
 have h1 : B ∣ N * iv + 1 := Nat.dvd_of_mod_eq_zero h
 have h2 : Nat.gcd B N ∣ 1 := (Nat.dvd_add_right (Nat.dvd_trans (Nat.gcd_dvd_right B N) (Nat.dvd_mul_right N iv))).1 (Nat.dvd_trans (Nat.gcd_dvd_left B N) h1)
 exact Nat.dvd_one.1 h2
theorem mont_initG {l q : List Nat} {k iv : Nat} (hl : bd 18446744073709551616 l) (hq : bd 18446744073709551616 q) (hi : (num 18446744073709551616 q * iv + 1) % 18446744073709551616 = 0) (hk : k = l.getD 0 0 * iv % 18446744073709551616) :
  18446744073709551616 * num 18446744073709551616 (l.take (1 - 1)) + (l.getD 0 0 + k * q.getD 0 0 + 0) / 18446744073709551616 * 18446744073709551616 ^ 1 = num 18446744073709551616 l % 18446744073709551616 ^ 1 + k * num 18446744073709551616 (q.take 1) := by
 have e1 : l.getD 0 0 = num 18446744073709551616 l % 18446744073709551616 := by rw [num_getD hl (by decide)]; simp
 have e2 : q.getD 0 0 = num 18446744073709551616 q % 18446744073709551616 := by rw [num_getD hq (by decide)]; simp
 have e3 : num 18446744073709551616 (q.take 1) = num 18446744073709551616 q % 18446744073709551616 := by rw [num_take hq, Nat.pow_one]
 have h := mont_low (by decide) hi (t := num 18446744073709551616 l) (k := k) (by rw [hk, e1])
 rw [e3, e1, e2, Nat.pow_one, Nat.add_zero]
 have h2 := Nat.mod_add_div (num 18446744073709551616 l % 18446744073709551616 + k * (num 18446744073709551616 q % 18446744073709551616)) 18446744073709551616
 rw [h, Nat.zero_add] at h2
 simp only [Nat.sub_self, List.take_zero, num, Nat.mul_zero, Nat.zero_add]
 rw [Nat.mul_comm]
 exact h2
end
set_option maxRecDepth 10000 in
theorem shrink_ctr {mw sq a b : List Nat} {iv r ns : Nat} (hM : MwOk mw) (ha : bd 18446744073709551616 a) (hb : bd 18446744073709551616 b) (hla : a.length = mw.length) (hlb : b.length = mw.length) (hpb : num 18446744073709551616 b < num 18446744073709551616 mw) (hiv : (num 18446744073709551616 mw * iv + 1) % 18446744073709551616 = 0) (hr : r < num 18446744073709551616 mw)
  (h : r * 18446744073709551616 ^ mw.length % num 18446744073709551616 mw = num 18446744073709551616 a * num 18446744073709551616 b % num 18446744073709551616 mw) : GC Tryz.prog 112 [.pointer (some ⟨0, 0, none⟩), .slice (some ⟨3, 0, none⟩) mw.length 0, .slice (some ⟨4, 0, none⟩) mw.length 0] [⟨[.slice (some ⟨1, 0, none⟩) mw.length 0, vi .u64 iv, .slice (some ⟨2, 0, none⟩) ns 0], false, 1⟩, ⟨(mw).map (vi .u64), false, 1⟩, ⟨(sq).map (vi .u64), false, 1⟩, ⟨a.map (vi .u64), false, 1⟩, ⟨b.map (vi .u64), false, 1⟩] [.slice (some ⟨5, 0, none⟩) mw.length 0] [⟨[.slice (some ⟨1, 0, none⟩) mw.length 0, vi .u64 iv, .slice (some ⟨2, 0, none⟩) ns 0], false, 1⟩, ⟨(mw).map (vi .u64), false, 1⟩, ⟨(sq).map (vi .u64), false, 1⟩, ⟨a.map (vi .u64), false, 1⟩, ⟨b.map (vi .u64), false, 1⟩, ⟨(digs 18446744073709551616 mw.length (r)).map (vi .u64), true, 1⟩] := by
 refine gi Tryz.func112 ?_
 obtain ⟨hbm, hm0, hml, hN⟩ := hM
 have hNW := num_lt hbm
 have hcop := cop_pow hiv mw.length
 refine zS ?_
 refine yA ?_
 refine zN (zS ?_)
 refine yM ?_
 refine yP (PureOp.nilCheck rfl) ?_
 refine yP pF ?_
 refine yL1 ?_
 refine yP pL ?_
 refine yA ?_
 refine zN (zS ?_)
 refine yM ?_
 refine yP (pAdd (b := 2)) ?_
 refine AWo.makeI tbok 25000 rfl rfl rfl rfl rfl rfl (by omega) (by omega) rfl rfl rfl ?_
 refine yA ?_
 refine zN (zQ (zS ?_))
 refine yM ?_
 refine yP pL ?_
 refine yM ?_
 refine zN (zB ?_)
 refine AW.loopw (fun mm σ => ∃ i, ∃ (l : List Nat), (i ≤ mw.length ∧ l.length = mw.length + 2 ∧ bd 18446744073709551616 l ∧ num 18446744073709551616 (l.take (mw.length + 1)) < 2 * num 18446744073709551616 mw ∧ num 18446744073709551616 (l.take (mw.length + 1)) * 18446744073709551616 ^ i % num 18446744073709551616 mw = num 18446744073709551616 (a.take i) * num 18446744073709551616 b % num 18446744073709551616 mw) ∧ mm = mw.length - i ∧ σ = ⟨(upd (upd (upd (upd (upd (upd (upd emp 0 (.pointer (some ⟨0, 0, none⟩))) 2 (.slice (some ⟨4, 0, none⟩) mw.length 0)) 7 (vi .i64 mw.length)) 8 (.slice (some ⟨25000, 0, none⟩) (mw.length + 2) 0)) 25 (.slice (some ⟨3, 0, none⟩) mw.length 0)) 26 (vi .i64 mw.length)) 27 (vi .i64 i)), (upd (upd (upd (upd (upd (upd emp 0 ⟨[.slice (some ⟨1, 0, none⟩) mw.length 0, vi .u64 iv, .slice (some ⟨2, 0, none⟩) ns 0], false, 1⟩) 1 ⟨mw.map (vi .u64), false, 1⟩) 2 ⟨sq.map (vi .u64), false, 1⟩) 3 ⟨a.map (vi .u64), false, 1⟩) 4 ⟨b.map (vi .u64), false, 1⟩) 25000 ⟨l.map (vi .u64), true, 1⟩)⟩) (fm := []) (wk [0, 1, 2, 3, 4, 25000]) ⟨0, List.replicate (mw.length + 2) 0, ⟨Nat.zero_le _, by simp, bd_replicate (by decide) _, by rw [List.take_replicate, num_replicate]; omega, by simp [List.take_replicate, num, num_replicate]⟩, rfl, rfl⟩ ?_
 rintro mm σ ⟨i, l, ⟨hi0, hl2, hbl, hT, hTm⟩, rfl, rfl⟩
 refine zS ?_
 refine yP pLt ?_
 refine zN (zQ ?_)
 refine zA (fun hb0 => ?_) (fun hb0 => ?_)
 ·
  have hi : i < mw.length := by simpa using hb0
  have hxa := bd_getD ha (by decide) i
  refine zK (zT (zQ (zB (zS ?_))))
  refine yP pJ ?_
  refine yL 0 ?_
  refine yA ?_
  refine zN (zS ?_)
  refine yA ?_
  refine yA ?_
  refine zN (zQ (zS ?_))
  refine yM ?_
  refine yP pL ?_
  refine yM ?_
  refine zN (zB ?_)
  refine AW.loopw (fun mm σ => ∃ j, ∃ (l2 : List Nat), ∃ c, (j ≤ mw.length ∧ l2.length = mw.length + 2 ∧ bd 18446744073709551616 l2 ∧ c < 18446744073709551616 ∧ num 18446744073709551616 (l2.take (mw.length + 1)) + c * 18446744073709551616 ^ j = num 18446744073709551616 (l.take (mw.length + 1)) + a.getD i 0 * num 18446744073709551616 (b.take j)) ∧ mm = mw.length - j ∧ σ = ⟨(upd (upd (upd (upd (upd (upd (upd (upd (upd (upd (upd (upd emp 0 (.pointer (some ⟨0, 0, none⟩))) 2 (.slice (some ⟨4, 0, none⟩) mw.length 0)) 7 (vi .i64 mw.length)) 8 (.slice (some ⟨25000, 0, none⟩) (mw.length + 2) 0)) 25 (.slice (some ⟨3, 0, none⟩) mw.length 0)) 26 (vi .i64 mw.length)) 27 (vi .i64 i)) 10 (vi .u64 (a.getD i 0))) 11 (vi .u64 c)) 31 (.slice (some ⟨4, 0, none⟩) mw.length 0)) 32 (vi .i64 mw.length)) 33 (vi .i64 j)), (upd (upd (upd (upd (upd (upd emp 0 ⟨[.slice (some ⟨1, 0, none⟩) mw.length 0, vi .u64 iv, .slice (some ⟨2, 0, none⟩) ns 0], false, 1⟩) 1 ⟨mw.map (vi .u64), false, 1⟩) 2 ⟨sq.map (vi .u64), false, 1⟩) 3 ⟨a.map (vi .u64), false, 1⟩) 4 ⟨b.map (vi .u64), false, 1⟩) 25000 ⟨l2.map (vi .u64), true, 1⟩)⟩) (fm := []) (wk [0, 1, 2, 3, 4, 25000]) ⟨0, l, 0, ⟨by omega, hl2, hbl, by decide, by simp [num]⟩, rfl, rfl⟩ ?_
  rintro mm σ ⟨j, l2, c, ⟨hj0, hk2, hbk, hc, hnk⟩, rfl, rfl⟩
  have hx := bd_getD ha (by decide) i
  have hy := bd_getD hb (by decide) j
  have he := bd_getD hbk (by decide) j
  have hlt := mad_lt he hx hy hc
  refine zS ?_
  refine yP pLt ?_
  refine zN (zQ ?_)
  refine zA (fun hb1 => ?_) (fun hb1 => ?_)
  ·
   have hj : j < mw.length := by simpa using hb1
   refine zK (zT (zQ (zB (zS ?_))))
   refine yM ?_
   refine yP pJ ?_
   refine yL 0 ?_
   refine yA ?_
   refine yA ?_
   refine zN (zR ?_)
   refine yM ?_
   refine yM ?_
   refine yM ?_
   refine yM ?_
   refine yP pJ ?_
   refine yL 0 ?_
   refine yM ?_
   refine yM ?_
   refine yM ?_
   refine AWo.callX (step_ctr (by assumption) (by assumption) (by assumption) (by assumption)) bd114 [] [] rfl (.cons rfl (.cons rfl (.cons rfl (.cons rfl .nil)))) rfl (.cons rfl rfl (.cons rfl rfl (.cons rfl rfl (.cons rfl rfl .nil)))) .nil rfl .nil frN (by decide) (.cons rfl rfl (.cons rfl rfl .nil)) rfl rfl rfl rfl ?_
   refine yM ?_
   refine yP pX ?_
   refine yP pX ?_
   refine yP pJ ?_
   refine yS (vi .u64) ?_
   refine yA ?_
   refine zN (zL (zT (zR ?_)))
   refine yP (pAdd (b := 1)) ?_
   refine yM ?_
   refine zN (zT ?_)
   refine ⟨mw.length - (j + 1), [], _, by omega, ?_, j + 1, l2.set j ((l2.getD j 0 + a.getD i 0 * b.getD j 0 + c) % 18446744073709551616), (l2.getD j 0 + a.getD i 0 * b.getD j 0 + c) / 18446744073709551616, ⟨by omega, by simp [hk2], bd_set hbk (Nat.mod_lt _ (by decide)), Nat.div_lt_of_lt_mul hlt, mad_stepT (by omega) (by omega) hnk rfl⟩, rfl, rfl⟩
   exact wk [0, 1, 2, 3, 4, 25000]
  ·
   have hj : j = mw.length := by simp at hb1; omega
   subst hj
   rw [show b.take mw.length = b from List.take_of_length_le (by omega)] at hnk
   refine zX (zV (zV (zH (zT (zS ?_)))))
   refine yM ?_
   refine yM ?_
   refine yM ?_
   refine yM ?_
   refine yP pJ ?_
   refine yL 0 ?_
   refine yM ?_
   refine yP ((add64 (c := 0) rfl rfl (by decide)).mono (v' := .tuple #[vi .u64 ((l2.getD mw.length 0 + c) % 18446744073709551616), vi .u64 ((l2.getD mw.length 0 + c) / 18446744073709551616)]) rfl) ?_
   refine yM ?_
   refine yP pX ?_
   refine yP pX ?_
   refine yP pJ ?_
   refine yS (vi .u64) ?_
   refine yA ?_
   refine zN (zS ?_)
   refine yM ?_
   refine yM ?_
   refine yP (pAdd (b := 1)) ?_
   refine yM ?_
   refine yP pJ ?_
   refine AWo.storeM (f := (vi .u64)) tbok rfl rfl rfl rfl (by (simp; omega)) rfl rfl ?_
   refine zN ?_
   obtain ⟨l3, hl3⟩ : ∃ l3, l3 = (l2.set mw.length ((l2.getD mw.length 0 + c) % 18446744073709551616)).set (mw.length + 1) ((l2.getD mw.length 0 + c) / 18446744073709551616) := ⟨_, rfl⟩
   rw [← hl3]
   have hb3 : bd 18446744073709551616 l3 := by rw [hl3]; exact bd_set (bd_set hbk (Nat.mod_lt _ (by decide))) (Nat.div_lt_of_lt_mul (Nat.lt_of_lt_of_le (Nat.add_lt_add (bd_getD hbk (by decide) _) hc) (by decide)))
   have hk3 : l3.length = mw.length + 2 := by rw [hl3]; simp [hk2]
   have hS : num 18446744073709551616 l3 = num 18446744073709551616 (l.take (mw.length + 1)) + a.getD i 0 * num 18446744073709551616 b := by
    rw [hl3, top_two hk2]; exact hnk
   refine AW.seqD mixed ?_
   refine yM ?_
   refine yP (pJ (j := 0)) ?_
   refine yL 0 ?_
   refine yM ?_
   refine yP (PureOp.nilCheck rfl) ?_
   refine yP pF ?_
   refine yL1 ?_
   refine yP (PureOp.mulU 18446744073709551616 rfl rfl rfl rfl) ?_
   refine yA ?_
   refine zD ?_
   obtain ⟨k, hkk⟩ : ∃ k, k = l3.getD 0 0 * iv % 18446744073709551616 := ⟨_, rfl⟩
   rw [← hkk]
   have hk : k < 18446744073709551616 := by rw [hkk]; exact Nat.mod_lt _ (by decide)
   refine AW.seqD mixed ?_
   refine yM ?_
   refine yP (pJ (j := 0)) ?_
   refine yL 0 ?_
   refine yM ?_
   refine yM ?_
   refine yP (PureOp.nilCheck rfl) ?_
   refine yP pF ?_
   refine yL1 ?_
   refine yP (pJ (j := 0)) ?_
   refine yL 0 ?_
   refine yC (step_ctr (c := 0) (bd_getD hb3 (by decide) 0) hk (bd_getD hbm (by decide) 0) (by decide)) bd114 [] [] ?_
   refine yM ?_
   refine yP pX ?_
   refine yP pX ?_
   refine yA ?_
   refine zD (zQ (zS ?_))
   refine yA ?_
   refine zN (zB ?_)
   refine AW.loopw (fun mm σ => ∃ j, ∃ (u : List Nat), ∃ c, ((1 ≤ j ∧ j ≤ mw.length) ∧ u.length = mw.length + 2 ∧ bd 18446744073709551616 u ∧ c < 18446744073709551616 ∧ 18446744073709551616 * num 18446744073709551616 (u.take (j - 1)) + c * 18446744073709551616 ^ j = num 18446744073709551616 l3 % 18446744073709551616 ^ j + k * num 18446744073709551616 (mw.take j) ∧ (∀ m, j ≤ m → u.getD m 0 = num 18446744073709551616 l3 / 18446744073709551616 ^ m % 18446744073709551616)) ∧ mm = mw.length - j ∧ σ = ⟨(upd (upd (upd (upd (upd (upd (upd (upd (upd (upd emp 0 (.pointer (some ⟨0, 0, none⟩))) 2 (.slice (some ⟨4, 0, none⟩) mw.length 0)) 7 (vi .i64 mw.length)) 8 (.slice (some ⟨25000, 0, none⟩) (mw.length + 2) 0)) 25 (.slice (some ⟨3, 0, none⟩) mw.length 0)) 26 (vi .i64 mw.length)) 27 (vi .i64 i)) 11 (vi .u64 c)) 15 (vi .u64 k)) 16 (vi .i64 j)), (upd (upd (upd (upd (upd (upd emp 0 ⟨[.slice (some ⟨1, 0, none⟩) mw.length 0, vi .u64 iv, .slice (some ⟨2, 0, none⟩) ns 0], false, 1⟩) 1 ⟨mw.map (vi .u64), false, 1⟩) 2 ⟨sq.map (vi .u64), false, 1⟩) 3 ⟨a.map (vi .u64), false, 1⟩) 4 ⟨b.map (vi .u64), false, 1⟩) 25000 ⟨u.map (vi .u64), true, 1⟩)⟩) (fm := []) (wk [0, 1, 2, 3, 4, 25000]) ⟨1, l3, (l3.getD 0 0 + k * mw.getD 0 0 + 0) / 18446744073709551616, ⟨⟨by omega, by omega⟩, hk3, hb3, Nat.div_lt_of_lt_mul (mad_lt (bd_getD hb3 (by decide) 0) hk (bd_getD hbm (by decide) 0) (by decide)), mont_initG hb3 hbm hiv hkk, fun m _ => num_getD hb3 (by decide) m⟩, rfl, rfl⟩ ?_
   rintro mm σ ⟨j, u, c, ⟨⟨hj1, hj0⟩, hku, hbu, hc, hred, hum⟩, rfl, rfl⟩
   have he := bd_getD hbu (by decide) j
   have hq := bd_getD hbm (by decide) j
   have hlt2 := mad_lt he hk hq hc
   have hun := bd_getD hbu (by decide) mw.length
   refine zQ (zS ?_)
   refine yM ?_
   refine yM ?_
   refine yP pLt ?_
   refine zN ?_
   refine zA (fun hb2 => ?_) (fun hb2 => ?_)
   ·
    have hj : j < mw.length := by simpa using hb2
    refine zK (zT (zQ (zB ?_)))
    refine AW.draw mixed ?_
    refine yM ?_
    refine yM ?_
    refine yP (pSub (b := 1)) ?_
    refine yM ?_
    refine yM ?_
    refine yP pJ ?_
    refine yL 0 ?_
    refine yM ?_
    refine yM ?_
    refine yP (PureOp.nilCheck rfl) ?_
    refine yP pF ?_
    refine yL1 ?_
    refine yM ?_
    refine yP pJ ?_
    refine yL 0 ?_
    refine yM ?_
    refine AWo.callX (step_ctr (by assumption) (by assumption) (by assumption) (by assumption)) bd114 [] [] rfl (.cons rfl (.cons rfl (.cons rfl (.cons rfl .nil)))) rfl (.cons rfl rfl (.cons rfl rfl (.cons rfl rfl (.cons rfl rfl .nil)))) .nil rfl .nil frN (by decide) (.cons rfl rfl (.cons rfl rfl .nil)) rfl rfl rfl rfl ?_
    refine yM ?_
    refine yP pX ?_
    refine yP pX ?_
    refine yP pJ ?_
    refine yS (vi .u64) ?_
    refine yA ?_
    refine zD (zL (zT (zR ?_)))
    refine yM ?_
    refine yP (pAdd (b := 1)) ?_
    refine yA ?_
    refine zN (zT ?_)
    refine ⟨mw.length - (j + 1), [], _, by omega, ?_, j + 1, u.set (j - 1) ((u.getD j 0 + k * mw.getD j 0 + c) % 18446744073709551616), (u.getD j 0 + k * mw.getD j 0 + c) / 18446744073709551616, ⟨⟨by omega, by omega⟩, by simp [hku], bd_set hbu (Nat.mod_lt _ (by decide)), Nat.div_lt_of_lt_mul hlt2, red_step (by omega) (by omega) hred rfl (hum j (Nat.le_refl _)), fun m hm => by rw [getD_set (by omega)]; exact hum m (by omega)⟩, rfl, rfl⟩
    exact wk [0, 1, 2, 3, 4, 25000]
   ·
    have hj : j = mw.length := by simp at hb2; omega
    subst hj
    rw [take_all] at hred
    refine zX (zV (zV (zH (zT ?_))))
    have hfin := red_end2 hku hm0 hred (hum mw.length (Nat.le_refl _)) (hum (mw.length + 1) (by omega)) (by have := num_lt hb3; rwa [hk3] at this)
    rw [hS] at hfin
    have hT2 := mont_lt hfin hT hxa hpb hk
    have htop := top_small (by simp [hku]) hT2 hNW
    refine zS ?_
    refine yM ?_
    refine yM ?_
    refine yP (pSub (b := 1)) ?_
    refine yM ?_
    refine yM ?_
    refine yP pJ ?_
    refine yL 0 ?_
    refine yM ?_
    refine yP ((add64 (c := 0) rfl rfl (by decide)).mono (v' := .tuple #[vi .u64 ((u.getD mw.length 0 + c) % 18446744073709551616), vi .u64 ((u.getD mw.length 0 + c) / 18446744073709551616)]) rfl) ?_
    refine yM ?_
    refine yP pX ?_
    refine yP pX ?_
    refine yP pJ ?_
    refine yS (vi .u64) ?_
    refine yA ?_
    refine zN (zR ?_)
    refine yM ?_
    refine yM ?_
    refine yM ?_
    refine yM ?_
    refine yP (pAdd (b := 1)) ?_
    refine yP pJ ?_
    refine AWo.loadM tbok 0 rfl rfl rfl (by (simp; omega)) rfl rfl ?_
    refine yM ?_
    refine yP ((PureOp.addU 18446744073709551616 rfl rfl rfl rfl).mono (v' := vi .u64 (u.getD (mw.length + 1) 0 + (u.getD mw.length 0 + c) / 18446744073709551616)) (by rw [getD_set (by omega), Nat.mod_eq_of_lt (Nat.lt_of_lt_of_le htop (by decide))])) ?_
    refine yP pJ ?_
    refine AWo.storeM (f := (vi .u64)) (y := u.getD (mw.length + 1) 0 + (u.getD mw.length 0 + c) / 18446744073709551616) tbok rfl rfl rfl rfl (by simp; omega) rfl rfl ?_
    refine zN (zL (zT (zR ?_)))
    refine yP (pAdd (b := 1)) ?_
    refine yM ?_
    refine zN (zT ?_)
    exact ⟨mw.length - (i + 1), [], _, by omega, wk [0, 1, 2, 3, 4, 25000], i + 1, (u.set (mw.length - 1) ((u.getD mw.length 0 + c) % 18446744073709551616)).set mw.length (u.getD (mw.length + 1) 0 + (u.getD mw.length 0 + c) / 18446744073709551616), ⟨by omega, by simp [hku], bd_set (bd_set hbu (Nat.mod_lt _ (by decide))) (Nat.lt_of_lt_of_le htop (by decide)), hT2, by rw [num_take_succ a i]; exact mont_mod hfin hTm⟩, rfl, rfl⟩
 ·
  have hi : i = mw.length := by simp at hb0; omega
  subst hi
  refine zX (zV (zV (zH (zT ?_))))
  have hT4 : num 18446744073709551616 (l.take mw.length) + l.getD mw.length 0 * 18446744073709551616 ^ mw.length = num 18446744073709551616 (l.take (mw.length + 1)) := (num_take_succ _ _).symm
  have hres : (num 18446744073709551616 (l.take mw.length) + l.getD mw.length 0 * 18446744073709551616 ^ mw.length) % num 18446744073709551616 mw = r := by
   rw [hT4]
   refine mont_uniq (R := 18446744073709551616 ^ mw.length) hcop (Nat.mod_lt _ hN) hr ?_
   rw [Nat.mod_mul_mod, hTm, h, ← hla, take_all]
  refine AW.seqD mixed ?_
  refine yM ?_
  refine yM ?_
  refine yM ?_
  refine AWo.sliceS tbok rfl .none (.some rfl) rfl rfl rfl rfl (by omega) (by omega) (.inl rfl) rfl rfl rfl ?_
  refine yM ?_
  refine yM ?_
  refine yP pJ ?_
  refine yL 0 ?_
  refine yC (less_ctr (a := l.take mw.length) (c := l.getD mw.length 0) ⟨hbm, hm0, hml, hN⟩ (bd_take hbl _) (by rw [List.length_take]; omega) (by rw [hT4]; exact hT)) bd88 [(0, 0), (1, 0), (2, 0), (25000, 0)] [151000] ?_ (hfit := (.whole rfl rfl (OkL.all rfl) (by intro h; exact h) (.flat rfl (flatM flat_vi) (by intro h; exact h) (.flat rfl (flatM flat_vi) (by intro h; exact h) (fitPre rfl (by rw [List.length_map, List.length_take, ← List.map_take, Nat.min_eq_left (by omega)]) (flatM flat_vi) (by simp; omega) .nil)))))
  refine yA ?_
  refine zD (zE ?_)
  rw [hres]
  refine RetQ.gc [_] [151000] [.tmp 6] (.inl rfl) rfl (.tmp rfl .nil) rfl (.cons rfl rfl .nil) (OutL.whole rfl rfl (OkL.all rfl) (by intro h; exact h.elim id fun h => absurd h.1 (by simp)) (OutL.flat rfl (flatM flat_vi) (by intro h; exact h.elim id fun h => absurd h.1 (by simp)) (OutL.flat rfl (flatM flat_vi) (by intro h; exact h.elim id fun h => absurd h.1 (by simp)) (OutL.flat rfl (by exact flatM flat_vi) (by intro h; exact h.elim id fun h => absurd h.1 (by simp)) (OutL.flat rfl (by exact flatM flat_vi) (by intro h; exact h.elim id fun h => absurd h.1 (by simp)) (OutL.flat rfl (by exact flatM flat_vi) (by intro h; rfl) trivial)))))) (by decide) rfl
end Go.Proofs.YtpahdiljpnfkdaaGreat
namespace Go.Proofs.YtpahdiljpnfkdaaGreat
open Go Sim
theorem dnum {mw : List Nat} (hM : MwOk mw) {v : Nat} : num 18446744073709551616 (digs 18446744073709551616 mw.length (v % num 18446744073709551616 mw)) = v % num 18446744073709551616 mw := num_digs_lt (Nat.lt_trans (Nat.mod_lt _ hM.2.2.2) (num_lt hM.1))
theorem sh_in (a w N : Nat) : a * w % N * w % N = a % N * (w * w % N) % N := by
 rw [Nat.mod_mul_mod, Nat.mod_mul_mod, Nat.mul_mod_mod, Nat.mul_assoc]
theorem sh_sq (x y w N : Nat) : x * y * w % N * w % N = x * w % N * (y * w % N) % N := by
 rw [Nat.mod_mul_mod, ← Nat.mul_mod]
 congr 1
 grind
theorem one_digs {mw : List Nat} (hb : bd 18446744073709551616 mw) (h0 : 0 < mw.length) (h1 : 1 < num 18446744073709551616 mw) : (List.replicate mw.length 0).set 0 1 = digs 18446744073709551616 mw.length (1 % num 18446744073709551616 mw) := by
 rw [Nat.mod_eq_of_lt h1]
 refine num_inj (bd_set (bd_replicate (by decide) _) (by decide)) (digs_bd (by decide) _ _) (by simp [digs_len]) ?_
 have := num_set (B := 18446744073709551616) (l := List.replicate mw.length 0) (k := 0) (v := 1) (by simpa using h0)
 rw [rep_getD, num_replicate] at this
 rw [num_digs_lt (Nat.lt_trans h1 (num_lt hb))]
 simpa using this
theorem pow_odd {a b r : Nat} (h : b / 2 ^ r % 2 = 1) : a ^ (b / 2 ^ r) = a ^ (b / 2 ^ (r + 1)) * a ^ (b / 2 ^ (r + 1)) * a := by
 have e : b / 2 ^ r = b / 2 ^ (r + 1) + b / 2 ^ (r + 1) + 1 := by
  rw [Nat.pow_succ, ← Nat.div_div_eq_div_mul]; omega
 conv => lhs; rw [e]
 rw [Nat.pow_succ, Nat.pow_add]
theorem pow_even {a b r : Nat} (h : ¬ b / 2 ^ r % 2 = 1) : a ^ (b / 2 ^ r) = a ^ (b / 2 ^ (r + 1)) * a ^ (b / 2 ^ (r + 1)) := by
 have e : b / 2 ^ r = b / 2 ^ (r + 1) + b / 2 ^ (r + 1) := by
  rw [Nat.pow_succ, ← Nat.div_div_eq_div_mul]; omega
 conv => lhs; rw [e]
 rw [Nat.pow_add]
theorem exp_init {a b n N w : Nat} (h : b / 2 ^ blen b = 0) : digs 18446744073709551616 n (a ^ (b / 2 ^ blen b) * w % N) = digs 18446744073709551616 n (1 * w % N) := by rw [h, Nat.pow_zero]
set_option maxRecDepth 10000 in
theorem mexp_ctr {mw a b : List Nat} {iv : Nat} (hM : MwOk mw) (ha : bd 18446744073709551616 a) (hb : bd 18446744073709551616 b) (hla : a.length ≤ 1000) (hlb : b.length ≤ 1000) (hiv : (num 18446744073709551616 mw * iv + 1) % 18446744073709551616 = 0) (hN1 : 1 < num 18446744073709551616 mw) : GC Tryz.prog 107 [.pointer (some ⟨0, 0, none⟩), .slice (some ⟨3, 0, none⟩) a.length 0, .slice (some ⟨4, 0, none⟩) b.length 0] [⟨[.slice (some ⟨1, 0, none⟩) mw.length 0, vi .u64 iv, .slice (some ⟨2, 0, none⟩) mw.length 0], false, 1⟩, ⟨(mw).map (vi .u64), false, 1⟩, ⟨(digs 18446744073709551616 mw.length (18446744073709551616 ^ mw.length * 18446744073709551616 ^ mw.length % num 18446744073709551616 mw)).map (vi .u64), false, 1⟩, ⟨a.map (vi .u64), false, 1⟩, ⟨b.map (vi .u64), false, 1⟩] [.slice (some ⟨5, 0, none⟩) mw.length 0] [⟨[.slice (some ⟨1, 0, none⟩) mw.length 0, vi .u64 iv, .slice (some ⟨2, 0, none⟩) mw.length 0], false, 1⟩, ⟨(mw).map (vi .u64), false, 1⟩, ⟨(digs 18446744073709551616 mw.length (18446744073709551616 ^ mw.length * 18446744073709551616 ^ mw.length % num 18446744073709551616 mw)).map (vi .u64), false, 1⟩, ⟨a.map (vi .u64), false, 1⟩, ⟨b.map (vi .u64), false, 1⟩, ⟨(digs 18446744073709551616 mw.length (num 18446744073709551616 a ^ num 18446744073709551616 b % num 18446744073709551616 mw)).map (vi .u64), true, 1⟩] := by
 refine gi Tryz.func107 ?_
 have hM0 := hM
 obtain ⟨hbm, hm0, hml, hN⟩ := hM
 have hB := num_lt_blen (num 18446744073709551616 b)
 have hbw := blen_words hb
 have h1N : 1 % num 18446744073709551616 mw = 1 := Nat.mod_eq_of_lt hN1
 refine zS ?_
 refine yA ?_
 refine zN (zS ?_)
 refine yM ?_
 refine yP (PureOp.nilCheck rfl) ?_
 refine yP pF ?_
 refine yL1 ?_
 refine yP pL ?_
 refine AWo.makeI tbok 17000 rfl rfl rfl rfl rfl rfl (by omega) (by omega) rfl rfl rfl ?_
 refine yA ?_
 refine zN (zS ?_)
 refine yM ?_
 refine yP (pJ (j := 0)) ?_
 refine AWo.storeM (f := (vi .u64)) (y := 1) tbok rfl rfl rfl rfl (by simp; omega) rfl rfl ?_
 refine zN ?_
 rw [show (List.replicate mw.length 0).set 0 1 = digs 18446744073709551616 mw.length (1 % num 18446744073709551616 mw) from one_digs hbm hm0 hN1]
 refine AW.seqD mixed ?_
 refine yM ?_
 refine yM ?_
 refine yM ?_
 refine AWo.callX (reduce_ctr (a := a) ⟨hbm, hm0, hml, hN⟩ ha hla) bd43 [(0, 0), (1, 0), (2, 0), (3, 0)] [23000] rfl (.cons rfl (.cons rfl .nil)) rfl (.cons rfl rfl (.cons rfl rfl .nil)) (.whole rfl rfl (OkL.all rfl) (by intro h; exact h) (.flat rfl (flatM flat_vi) (by intro h; exact h) (.flat rfl (flatM flat_vi) (by intro h; exact h) (.flat rfl (by exact flatM flat_vi) (by intro h; exact h) .nil)))) rfl (.keep rfl (.keep rfl (.keep rfl (.keep rfl (.new (flat_map_ren (by exact flatM flat_vi)) (OkL.flat (by exact flatM flat_vi)) .nil))))) (frC rfl frN) (by decide) (.cons rfl rfl .nil) rfl rfl rfl rfl ?_
 refine yM ?_
 refine yP (PureOp.nilCheck rfl) ?_
 refine yP pF ?_
 refine yL1 ?_
 refine AWo.callX (shrink_ctr (a := digs 18446744073709551616 mw.length (num 18446744073709551616 a % num 18446744073709551616 mw)) (b := digs 18446744073709551616 mw.length (18446744073709551616 ^ mw.length * 18446744073709551616 ^ mw.length % num 18446744073709551616 mw)) (r := num 18446744073709551616 a * 18446744073709551616 ^ mw.length % num 18446744073709551616 mw) ⟨hbm, hm0, hml, hN⟩ (digs_bd (by decide) _ _) (digs_bd (by decide) _ _) (digs_len _ _) (digs_len _ _) (by rw [dnum hM0]; exact Nat.mod_lt _ hN) hiv (Nat.mod_lt _ hN) (by rw [dnum hM0, dnum hM0]; exact sh_in _ _ _)) bd112 [(0, 0), (1, 0), (2, 0), (23000, 0), (2, 0)] [28000] rfl (.cons rfl (.cons rfl (.cons rfl .nil))) rfl (.cons rfl rfl (.cons rfl rfl (.cons rfl rfl .nil))) (.whole rfl rfl (OkL.all rfl) (by intro h; exact h) (.flat rfl (flatM flat_vi) (by intro h; exact h) (.flat rfl (flatM flat_vi) (by intro h; exact h) (.flat rfl (by exact flatM flat_vi) (by intro h; rfl) (.flat rfl (by exact flatM flat_vi) (by intro h; exact h) .nil))))) rfl (.keep rfl (.keep rfl (.keep rfl (.keep rfl (.keep rfl (.new (flat_map_ren (by exact flatM flat_vi)) (OkL.flat (by exact flatM flat_vi)) .nil)))))) (frC rfl frN) (by decide) (.cons rfl rfl .nil) rfl rfl rfl rfl ?_
 refine yM ?_
 refine yM ?_
 refine yM ?_
 refine yP (PureOp.nilCheck rfl) ?_
 refine yP pF ?_
 refine yL1 ?_
 refine AWo.callX (shrink_ctr (a := digs 18446744073709551616 mw.length (1 % num 18446744073709551616 mw)) (b := digs 18446744073709551616 mw.length (18446744073709551616 ^ mw.length * 18446744073709551616 ^ mw.length % num 18446744073709551616 mw)) (r := 1 * 18446744073709551616 ^ mw.length % num 18446744073709551616 mw) ⟨hbm, hm0, hml, hN⟩ (digs_bd (by decide) _ _) (digs_bd (by decide) _ _) (digs_len _ _) (digs_len _ _) (by rw [dnum hM0]; exact Nat.mod_lt _ hN) hiv (Nat.mod_lt _ hN) (by rw [dnum hM0, dnum hM0]; exact sh_in _ _ _)) bd112 [(0, 0), (1, 0), (2, 0), (17000, 0), (2, 0)] [35000] rfl (.cons rfl (.cons rfl (.cons rfl .nil))) rfl (.cons rfl rfl (.cons rfl rfl (.cons rfl rfl .nil))) (.whole rfl rfl (OkL.all rfl) (by intro h; exact h) (.flat rfl (flatM flat_vi) (by intro h; exact h) (.flat rfl (flatM flat_vi) (by intro h; exact h) (.flat rfl (by exact flatM flat_vi) (by intro h; rfl) (.flat rfl (by exact flatM flat_vi) (by intro h; exact h) .nil))))) rfl (.keep rfl (.keep rfl (.keep rfl (.keep rfl (.keep rfl (.new (flat_map_ren (by exact flatM flat_vi)) (OkL.flat (by exact flatM flat_vi)) .nil)))))) (frC rfl frN) (by decide) (.cons rfl rfl .nil) rfl rfl rfl rfl ?_
 refine yA ?_
 refine yA ?_
 refine zD (zQ (zS ?_))
 refine yM ?_
 refine yC (lbits_ctr hb (by omega)) bd38 [(4, 0)] [] ?_
 refine yP ((PureOp.subP rfl rfl (by omega)).mono (v' := vp (blen (num 18446744073709551616 b))) (by rfl)) ?_
 refine yA ?_
 refine zN (zB ?_)
 refine AW.loopw (fun mm σ => ∃ r, (r ≤ blen (num 18446744073709551616 b)) ∧ mm = 1 * r ∧ σ = ⟨(upd (upd (upd (upd (upd (upd emp 0 (.pointer (some ⟨0, 0, none⟩))) 2 (.slice (some ⟨4, 0, none⟩) b.length 0)) 7 (.slice (some ⟨17000, 0, none⟩) mw.length 0)) 8 (.slice (some ⟨28000, 0, none⟩) mw.length 0)) 9 (.slice (some ⟨77000, 0, none⟩) mw.length 0)) 10 (vp r)), (upd (upd (upd (upd (upd (upd (upd (upd emp 0 ⟨[.slice (some ⟨1, 0, none⟩) mw.length 0, vi .u64 iv, .slice (some ⟨2, 0, none⟩) mw.length 0], false, 1⟩) 1 ⟨mw.map (vi .u64), false, 1⟩) 2 ⟨(digs 18446744073709551616 mw.length (18446744073709551616 ^ mw.length * 18446744073709551616 ^ mw.length % num 18446744073709551616 mw)).map (vi .u64), false, 1⟩) 3 ⟨a.map (vi .u64), false, 1⟩) 4 ⟨b.map (vi .u64), false, 1⟩) 17000 ⟨(digs 18446744073709551616 mw.length (1 % num 18446744073709551616 mw)).map (vi .u64), true, 1⟩) 28000 ⟨(digs 18446744073709551616 mw.length (num 18446744073709551616 a * 18446744073709551616 ^ mw.length % num 18446744073709551616 mw)).map (vi .u64), true, 1⟩) 77000 ⟨(digs 18446744073709551616 mw.length (num 18446744073709551616 a ^ (num 18446744073709551616 b / 2 ^ r) * 18446744073709551616 ^ mw.length % num 18446744073709551616 mw)).map (vi .u64), true, 1⟩)⟩) (fm := [(77000, 35000)]) ?_ ⟨blen (num 18446744073709551616 b), Nat.le_refl _, rfl, rfl⟩ ?_
 ·
  refine Wk.of [0, 1, 2, 3, 4, 17000, 28000, 77000] ?_ ?_ ?_ (by decide) rfl
  ·
   refine WkE.upd rfl (by exact VR.flat _ rfl) ?_
   refine WkE.upd rfl (.slice (77000) 0 _ 0 ⟨_, rfl⟩ (by simp) (by simp)) ?_
   refine WkE.upd rfl (.slice (28000) 0 _ 0 ⟨_, rfl⟩ (by simp) (by simp)) ?_
   refine WkE.upd rfl (.slice (17000) 0 _ 0 ⟨_, rfl⟩ (by simp) (by simp)) ?_
   refine WkE.upd rfl (.slice (4) 0 _ 0 ⟨_, rfl⟩ (by simp) (by simp)) ?_
   refine WkE.upd rfl (.ptr (0) 0 ⟨_, rfl⟩) ?_
   exact WkE.emp
  ·
   refine WkM.flatM rfl (by exact exp_init hB) flat_vi (fun h => h) ?_
   refine WkM.flatM rfl (by rfl) (fun _ => rfl) (fun h => h) ?_
   refine WkM.flatM rfl (by rfl) (fun _ => rfl) (fun h => h) ?_
   refine WkM.flatM rfl (by rfl) (fun _ => rfl) (fun h => h) ?_
   refine WkM.flatM rfl (by rfl) (fun _ => rfl) (fun h => h) ?_
   refine WkM.flatM rfl (by rfl) (fun _ => rfl) (fun h => h) ?_
   refine WkM.flatM rfl (by rfl) (fun _ => rfl) (fun h => h) ?_
   refine WkM.ren [1, 2] rfl rfl rfl (dom_all rfl) (fun h => h) ?_
   exact WkM.emp
  ·
   repeat (refine dom_upd_mem (by decide) ?_)
   exact dom_emp
 ·
  rintro mm σ ⟨r, hr, rfl, rfl⟩
  refine zQ (zS ?_)
  refine yM ?_
  refine yP (PureOp.geP rfl rfl) ?_
  refine zN ?_
  refine zA (fun hb0 => ?_) (fun hb0 => ?_)
  ·
   have hp0 : 0 < r := by simpa using hb0
   obtain ⟨r, rfl⟩ : ∃ q, r = q + 1 := ⟨r - 1, by omega⟩
   rw [vp_succ]
   have hal := bit_len hb (show r < blen (num 18446744073709551616 b) by omega)
   refine zK (zT (zQ (zB (zS ?_))))
   refine yM ?_
   refine yM ?_
   refine yM ?_
   refine AWo.callX (shrink_ctr (a := digs 18446744073709551616 mw.length (num 18446744073709551616 a ^ (num 18446744073709551616 b / 2 ^ (r + 1)) * 18446744073709551616 ^ mw.length % num 18446744073709551616 mw)) (b := digs 18446744073709551616 mw.length (num 18446744073709551616 a ^ (num 18446744073709551616 b / 2 ^ (r + 1)) * 18446744073709551616 ^ mw.length % num 18446744073709551616 mw)) (r := (num 18446744073709551616 a ^ (num 18446744073709551616 b / 2 ^ (r + 1)) * num 18446744073709551616 a ^ (num 18446744073709551616 b / 2 ^ (r + 1))) * 18446744073709551616 ^ mw.length % num 18446744073709551616 mw) ⟨hbm, hm0, hml, hN⟩ (digs_bd (by decide) _ _) (digs_bd (by decide) _ _) (digs_len _ _) (digs_len _ _) (by rw [dnum hM0]; exact Nat.mod_lt _ hN) hiv (Nat.mod_lt _ hN) (by rw [dnum hM0]; exact sh_sq _ _ _ _)) bd112 [(0, 0), (1, 0), (2, 0), (77000, 0), (77000, 0)] [46000] rfl (.cons rfl (.cons rfl (.cons rfl .nil))) rfl (.cons rfl rfl (.cons rfl rfl (.cons rfl rfl .nil))) (.whole rfl rfl (OkL.all rfl) (by intro h; exact h) (.flat rfl (flatM flat_vi) (by intro h; exact h) (.flat rfl (flatM flat_vi) (by intro h; exact h) (.flat rfl (by exact flatM flat_vi) (by intro h; rfl) (.flat rfl (by exact flatM flat_vi) (by intro h; rfl) .nil))))) rfl (.keep rfl (.keep rfl (.keep rfl (.keep rfl (.keep rfl (.new (flat_map_ren (by exact flatM flat_vi)) (OkL.flat (by exact flatM flat_vi)) .nil)))))) (frC rfl frN) (by decide) (.cons rfl rfl .nil) rfl rfl rfl rfl ?_
   refine yA ?_
   refine zN (zS ?_)
   refine yM ?_
   refine yM ?_
   refine yP ((PureOp.quoN (b := 64) 9223372036854775808 rfl rfl (by decide) (by decide) (by decide) (by omega)).mono (v' := vi .i64 (r / 64)) rfl) ?_
   refine yP pJ ?_
   refine yL 0 ?_
   refine yM ?_
   refine yP ((PureOp.remN (b := 64) rfl rfl (by decide)).mono (v' := vi .i64 (r % 64)) rfl) ?_
   refine yP (PureOp.shrN (b := r % 64) 64 rfl rfl rfl (by omega)) ?_
   refine yP ((PureOp.andN 18446744073709551616 rfl rfl (by decide) (by decide) (Nat.lt_of_le_of_lt (Nat.div_le_self _ _) (bd_getD hb (by decide) _)) (by decide)).mono (v' := vi .u64 (num 18446744073709551616 b / 2 ^ r % 2)) (congrArg (vi .u64) ((Nat.and_one_is_mod _).trans (bit64_at hb r)))) ?_
   refine yP (pEq (b := 1)) ?_
   refine zN ?_
   refine zA (fun hb1 => ?_) (fun hb1 => ?_)
   ·
    have hbit : num 18446744073709551616 b / 2 ^ r % 2 = 1 := by simpa using hb1
    refine zR ?_
    refine yM ?_
    refine yM ?_
    refine yM ?_
    refine AWo.callX (shrink_ctr (a := digs 18446744073709551616 mw.length ((num 18446744073709551616 a ^ (num 18446744073709551616 b / 2 ^ (r + 1)) * num 18446744073709551616 a ^ (num 18446744073709551616 b / 2 ^ (r + 1))) * 18446744073709551616 ^ mw.length % num 18446744073709551616 mw)) (b := digs 18446744073709551616 mw.length (num 18446744073709551616 a * 18446744073709551616 ^ mw.length % num 18446744073709551616 mw)) (r := ((num 18446744073709551616 a ^ (num 18446744073709551616 b / 2 ^ (r + 1)) * num 18446744073709551616 a ^ (num 18446744073709551616 b / 2 ^ (r + 1))) * num 18446744073709551616 a) * 18446744073709551616 ^ mw.length % num 18446744073709551616 mw) ⟨hbm, hm0, hml, hN⟩ (digs_bd (by decide) _ _) (digs_bd (by decide) _ _) (digs_len _ _) (digs_len _ _) (by rw [dnum hM0]; exact Nat.mod_lt _ hN) hiv (Nat.mod_lt _ hN) (by rw [dnum hM0, dnum hM0]; exact sh_sq _ _ _ _)) bd112 [(0, 0), (1, 0), (2, 0), (46000, 0), (28000, 0)] [60000] rfl (.cons rfl (.cons rfl (.cons rfl .nil))) rfl (.cons rfl rfl (.cons rfl rfl (.cons rfl rfl .nil))) (.whole rfl rfl (OkL.all rfl) (by intro h; exact h) (.flat rfl (flatM flat_vi) (by intro h; exact h) (.flat rfl (flatM flat_vi) (by intro h; exact h) (.flat rfl (by exact flatM flat_vi) (by intro h; rfl) (.flat rfl (by exact flatM flat_vi) (by intro h; rfl) .nil))))) rfl (.keep rfl (.keep rfl (.keep rfl (.keep rfl (.keep rfl (.new (flat_map_ren (by exact flatM flat_vi)) (OkL.flat (by exact flatM flat_vi)) .nil)))))) (frC rfl frN) (by decide) (.cons rfl rfl .nil) rfl rfl rfl rfl ?_
    refine yA ?_
    refine zN (zL (zT (zR ?_)))
    refine yM ?_
    refine yP (PureOp.subP rfl rfl (by omega)) ?_
    refine yA ?_
    refine zN (zT ?_)
    refine ⟨1 * r, [(77000, 60000)], _, by omega, ?_, r, by omega, rfl, rfl⟩
    refine Wk.of [0, 1, 2, 3, 4, 17000, 28000, 77000] ?_ ?_ ?_ (by decide) rfl
    ·
     refine WkE.upd rfl (by exact VR.flat _ rfl) ?_
     refine WkE.upd rfl (.slice (77000) 0 _ 0 ⟨_, rfl⟩ (by simp) (by simp)) ?_
     refine WkE.upd rfl (.slice (28000) 0 _ 0 ⟨_, rfl⟩ (by simp) (by simp)) ?_
     refine WkE.upd rfl (.slice (17000) 0 _ 0 ⟨_, rfl⟩ (by simp) (by simp)) ?_
     refine WkE.upd rfl (.slice (4) 0 _ 0 ⟨_, rfl⟩ (by simp) (by simp)) ?_
     refine WkE.upd rfl (.ptr (0) 0 ⟨_, rfl⟩) ?_
     exact WkE.emp
    ·
     refine WkM.flatM rfl (by exact congrArg (fun z => digs 18446744073709551616 mw.length (z * 18446744073709551616 ^ mw.length % num 18446744073709551616 mw)) (pow_odd hbit)) flat_vi (fun h => h) ?_
     refine WkM.flatM rfl (by rfl) (fun _ => rfl) (fun h => h) ?_
     refine WkM.flatM rfl (by rfl) (fun _ => rfl) (fun h => h) ?_
     refine WkM.flatM rfl (by rfl) (fun _ => rfl) (fun h => h) ?_
     refine WkM.flatM rfl (by rfl) (fun _ => rfl) (fun h => h) ?_
     refine WkM.flatM rfl (by rfl) (fun _ => rfl) (fun h => h) ?_
     refine WkM.flatM rfl (by rfl) (fun _ => rfl) (fun h => h) ?_
     refine WkM.ren [1, 2] rfl rfl rfl (dom_all rfl) (fun h => h) ?_
     exact WkM.emp
    ·
     repeat (refine dom_upd_mem (by decide) ?_)
     exact dom_emp
   ·
    have hbit : ¬ num 18446744073709551616 b / 2 ^ r % 2 = 1 := by simpa using hb1
    refine zK (zL (zT (zR ?_)))
    refine yM ?_
    refine yP (PureOp.subP rfl rfl (by omega)) ?_
    refine yA ?_
    refine zN (zT ?_)
    refine ⟨1 * r, [(77000, 46000)], _, by omega, ?_, r, by omega, rfl, rfl⟩
    refine Wk.of [0, 1, 2, 3, 4, 17000, 28000, 77000] ?_ ?_ ?_ (by decide) rfl
    ·
     refine WkE.upd rfl (by exact VR.flat _ rfl) ?_
     refine WkE.upd rfl (.slice (77000) 0 _ 0 ⟨_, rfl⟩ (by simp) (by simp)) ?_
     refine WkE.upd rfl (.slice (28000) 0 _ 0 ⟨_, rfl⟩ (by simp) (by simp)) ?_
     refine WkE.upd rfl (.slice (17000) 0 _ 0 ⟨_, rfl⟩ (by simp) (by simp)) ?_
     refine WkE.upd rfl (.slice (4) 0 _ 0 ⟨_, rfl⟩ (by simp) (by simp)) ?_
     refine WkE.upd rfl (.ptr (0) 0 ⟨_, rfl⟩) ?_
     exact WkE.emp
    ·
     refine WkM.flatM rfl (by exact congrArg (fun z => digs 18446744073709551616 mw.length (z * 18446744073709551616 ^ mw.length % num 18446744073709551616 mw)) (pow_even hbit)) flat_vi (fun h => h) ?_
     refine WkM.flatM rfl (by rfl) (fun _ => rfl) (fun h => h) ?_
     refine WkM.flatM rfl (by rfl) (fun _ => rfl) (fun h => h) ?_
     refine WkM.flatM rfl (by rfl) (fun _ => rfl) (fun h => h) ?_
     refine WkM.flatM rfl (by rfl) (fun _ => rfl) (fun h => h) ?_
     refine WkM.flatM rfl (by rfl) (fun _ => rfl) (fun h => h) ?_
     refine WkM.flatM rfl (by rfl) (fun _ => rfl) (fun h => h) ?_
     refine WkM.ren [1, 2] rfl rfl rfl (dom_all rfl) (fun h => h) ?_
     exact WkM.emp
    ·
     repeat (refine dom_upd_mem (by decide) ?_)
     exact dom_emp
  ·
   obtain rfl : r = 0 := by simpa using hb0
   refine zX (zV (zV (zH (zT ?_))))
   rw [Nat.pow_zero, Nat.div_one]
   refine zS ?_
   refine yM ?_
   refine yM ?_
   refine yM ?_
   refine AWo.callX (shrink_ctr (a := digs 18446744073709551616 mw.length (num 18446744073709551616 a ^ num 18446744073709551616 b * 18446744073709551616 ^ mw.length % num 18446744073709551616 mw)) (b := digs 18446744073709551616 mw.length (1 % num 18446744073709551616 mw)) (r := num 18446744073709551616 a ^ num 18446744073709551616 b % num 18446744073709551616 mw) ⟨hbm, hm0, hml, hN⟩ (digs_bd (by decide) _ _) (digs_bd (by decide) _ _) (digs_len _ _) (digs_len _ _) (by rw [dnum hM0]; exact Nat.mod_lt _ hN) hiv (Nat.mod_lt _ hN) (by rw [dnum hM0, dnum hM0, h1N, Nat.mul_one, Nat.mod_mod, Nat.mod_mul_mod])) bd112 [(0, 0), (1, 0), (2, 0), (77000, 0), (17000, 0)] [64000] rfl (.cons rfl (.cons rfl (.cons rfl .nil))) rfl (.cons rfl rfl (.cons rfl rfl (.cons rfl rfl .nil))) (.whole rfl rfl (OkL.all rfl) (by intro h; exact h) (.flat rfl (flatM flat_vi) (by intro h; exact h) (.flat rfl (flatM flat_vi) (by intro h; exact h) (.flat rfl (by exact flatM flat_vi) (by intro h; rfl) (.flat rfl (by exact flatM flat_vi) (by intro h; rfl) .nil))))) rfl (.keep rfl (.keep rfl (.keep rfl (.keep rfl (.keep rfl (.new (flat_map_ren (by exact flatM flat_vi)) (OkL.flat (by exact flatM flat_vi)) .nil)))))) (frC rfl frN) (by decide) (.cons rfl rfl .nil) rfl rfl rfl rfl ?_
   refine yA ?_
   refine zN (zE ?_)
   refine RetQ.gc [_] [64000] [.tmp 6] (.inl rfl) rfl (.tmp rfl .nil) rfl (.cons rfl rfl .nil) (OutL.whole rfl rfl (OkL.all rfl) (by intro h; exact h.elim id fun h => absurd h.1 (by simp)) (OutL.flat rfl (flatM flat_vi) (by intro h; exact h.elim id fun h => absurd h.1 (by simp)) (OutL.flat rfl (flatM flat_vi) (by intro h; exact h.elim id fun h => absurd h.1 (by simp)) (OutL.flat rfl (by exact flatM flat_vi) (by intro h; exact h.elim id fun h => absurd h.1 (by simp)) (OutL.flat rfl (by exact flatM flat_vi) (by intro h; exact h.elim id fun h => absurd h.1 (by simp)) (OutL.flat rfl (by exact flatM flat_vi) (by intro h; rfl) trivial)))))) (by decide) rfl
end Go.Proofs.YtpahdiljpnfkdaaGreat
namespace Go.Proofs.YtpahdiljpnfkdaaGreat
open Go Sim
def ninv (m : Nat) : Nat → Nat
 | 0 => 1
 | i + 1 => ninv m i * ((2 + (18446744073709551616 - m * ninv m i % 18446744073709551616)) % 18446744073709551616) % 18446744073709551616
def ninvR (m : Nat) : Nat := (18446744073709551616 - ninv m 6) % 18446744073709551616
theorem ninv_lt (m i : Nat) : ninv m i < 18446744073709551616 := by
 cases i with
 | zero => show 1 < 18446744073709551616; decide
 | succ i => exact Nat.mod_lt _ (by decide)
theorem cast3 {a b c d : Nat} (h : a * b + c = d) : (a : Int) * b + c = d := by rw [← Int.natCast_mul, ← Int.natCast_add, h]
theorem ninv_step (m x : Nat) : ∃ k : Int, ((x * ((2 + (18446744073709551616 - m * x % 18446744073709551616)) % 18446744073709551616) % 18446744073709551616 : Nat) : Int) = x * (2 - m * x) + 18446744073709551616 * k := by
 have h1 := Nat.div_add_mod (x * ((2 + (18446744073709551616 - m * x % 18446744073709551616)) % 18446744073709551616)) 18446744073709551616
 have h2 := Nat.div_add_mod (2 + (18446744073709551616 - m * x % 18446744073709551616)) 18446744073709551616
 have h3 := Nat.div_add_mod (m * x) 18446744073709551616
 have h4 := Nat.mod_lt (m * x) (show 0 < 18446744073709551616 by decide)
 generalize x * ((2 + (18446744073709551616 - m * x % 18446744073709551616)) % 18446744073709551616) % 18446744073709551616 = x' at *
 generalize x * ((2 + (18446744073709551616 - m * x % 18446744073709551616)) % 18446744073709551616) / 18446744073709551616 = q1 at *
 generalize (2 + (18446744073709551616 - m * x % 18446744073709551616)) % 18446744073709551616 = t at *
 generalize (2 + (18446744073709551616 - m * x % 18446744073709551616)) / 18446744073709551616 = q2 at *
 generalize m * x % 18446744073709551616 = r at *
 generalize m * x / 18446744073709551616 = q3 at *
 refine ⟨x * (q3 + 1 - q2) - q1, ?_⟩
 have e1 : (18446744073709551616 * q1 + x' : Int) = x * t := (cast3 h1).trans (Int.natCast_mul _ _)
 have e2 : (18446744073709551616 * q2 + t : Int) = 2 + (18446744073709551616 - r) := by omega
 have e3 : (18446744073709551616 * q3 + r : Int) = m * x := (cast3 h3).trans (Int.natCast_mul _ _)
 grind
theorem ninv_ok {m : Nat} (h : m % 2 = 1) : ∀ k, k ≤ 6 → ∃ z : Int, (m : Int) * ninv m k = 1 + (2 : Int) ^ (2 ^ k) * z := by
 intro k
 induction k with
 | zero =>
  intro _
  refine ⟨((m / 2 : Nat) : Int), ?_⟩
  simp only [ninv]
  omega
 | succ k ih =>
  intro hk
  obtain ⟨z, hz⟩ := ih (by omega)
  obtain ⟨j, hj⟩ := ninv_step m (ninv m k)
  have e : (ninv m (k + 1) : Int) = ninv m k * (2 - m * ninv m k) + 18446744073709551616 * j := hj
  have hd : ∃ d : Int, (18446744073709551616 : Int) = (2 : Int) ^ (2 ^ (k + 1)) * d := by
   refine ⟨(2 : Int) ^ (64 - 2 ^ (k + 1)), ?_⟩
   have h6 : 2 ^ (k + 1) ≤ 64 := by
    have : 2 ^ (k + 1) ≤ 2 ^ 6 := Nat.pow_le_pow_right (by decide) hk
    omega
   rw [← Int.pow_add, show 2 ^ (k + 1) + (64 - 2 ^ (k + 1)) = 64 by omega]
   rfl
  obtain ⟨d, hd⟩ := hd
  have hs : (2 : Int) ^ (2 ^ (k + 1)) = (2 : Int) ^ (2 ^ k) * (2 : Int) ^ (2 ^ k) := by rw [← Int.pow_add]; congr 1; omega
  refine ⟨m * d * j - z * z, ?_⟩
  rw [e, hd, hs]
  generalize (2 : Int) ^ (2 ^ k) = p at *
  generalize (ninv m k : Int) = x at *
  grind
theorem ninvR_ok {l : List Nat} (hb : bd 18446744073709551616 l) (h : l.getD 0 0 % 2 = 1) : (num 18446744073709551616 l * ninvR (l.getD 0 0) + 1) % 18446744073709551616 = 0 := by
  obtain ⟨z, hz⟩ := ninv_ok h 6 (Nat.le_refl _)
  have hx := ninv_lt (l.getD 0 0) 6
  have hm : l.getD 0 0 = num 18446744073709551616 l % 18446744073709551616 := by rw [num_getD hb (by decide)]; simp
  have h3 := Nat.div_add_mod (num 18446744073709551616 l) 18446744073709551616
  rw [← hm] at h3
  have hx0 : 0 < ninv (l.getD 0 0) 6 := by
    rcases Nat.eq_zero_or_pos (ninv (l.getD 0 0) 6) with h0 | h0
    · rw [h0] at hz
      have : (2 : Int) ^ (2 ^ 6) = 18446744073709551616 := by decide
      rw [this] at hz
      omega
    · exact h0
  have e : ninvR (l.getD 0 0) = 18446744073709551616 - ninv (l.getD 0 0) 6 := by rw [ninvR, Nat.mod_eq_of_lt (by omega)]
  rw [e]
  generalize ninv (l.getD 0 0) 6 = x at *
  generalize l.getD 0 0 = m at *
  generalize num 18446744073709551616 l = N at *
  generalize N / 18446744073709551616 = q at *
  have e2 : (2 : Int) ^ (2 ^ 6) = 18446744073709551616 := by decide
  rw [e2] at hz
  have e4 : ((N * (18446744073709551616 - x) + 1 : Nat) : Int) = 18446744073709551616 * ((N : Int) - q * x - z) := by
    have h5 : ((18446744073709551616 - x : Nat) : Int) = 18446744073709551616 - x := by omega
    have h6 : (N : Int) = 18446744073709551616 * q + m := (cast3 h3).symm
    rw [Int.natCast_add, Int.natCast_mul, h5]
    grind
  omega
theorem right_gt {l : List Nat} (hb : bd 18446744073709551616 l) (h1 : 1 ≤ l.length) (ht : l.getD (l.length - 1) 0 ≠ 0) (hn : ¬ (l.length = 1 ∧ l.getD 0 0 = 1)) : 1 < num 18446744073709551616 l := by
  obtain ⟨x, r, rfl⟩ : ∃ x r, l = x :: r := by cases l with
    | nil => simp at h1
    | cons x r => exact ⟨x, r, rfl⟩
  cases r with
  | nil => simp [num] at *; omega
  | cons y s =>
    have h2 : (x :: y :: s).getD ((x :: y :: s).length - 1) 0 = num 18446744073709551616 (x :: y :: s) / 18446744073709551616 ^ ((x :: y :: s).length - 1) % 18446744073709551616 := num_getD hb (by decide) _
    rw [h2] at ht
    rcases Nat.lt_or_ge 1 (num 18446744073709551616 (x :: y :: s)) with h | h
    · exact h
    · exfalso
      apply ht
      rw [Nat.div_eq_of_lt, Nat.zero_mod]
      refine Nat.lt_of_le_of_lt h ?_
      have : 18446744073709551616 ^ 1 ≤ 18446744073709551616 ^ ((x :: y :: s).length - 1) := Nat.pow_le_pow_right (by decide) (by simp)
      omega
theorem two_next {mw : List Nat} {i : Nat} (hM : MwOk mw) : digs 18446744073709551616 mw.length (2 ^ (i + 1) % num 18446744073709551616 mw) = digs 18446744073709551616 mw.length ((2 * num 18446744073709551616 (digs 18446744073709551616 mw.length (2 ^ i % num 18446744073709551616 mw)) + 0) % num 18446744073709551616 mw) := by
 rw [dnum hM]
 show _ = digs 18446744073709551616 mw.length (2 * (2 ^ i % num 18446744073709551616 mw) % num 18446744073709551616 mw)
 rw [Nat.mul_mod_mod, Nat.pow_succ, Nat.mul_comm]
theorem two_pow {n : Nat} : 2 ^ (128 * n) = 18446744073709551616 ^ n * 18446744073709551616 ^ n := by
 rw [show (18446744073709551616 : Nat) = 2 ^ 64 from by decide, ← Nat.pow_mul, ← Nat.pow_add]
 congr 1
 omega
set_option maxRecDepth 10000 in
theorem lnew_ctr {mw : List Nat} (hbm : bd 18446744073709551616 mw) (h1 : 1 ≤ mw.length) (h16 : mw.length ≤ 16) (hodd : mw.getD 0 0 % 2 = 1) (htop : mw.getD (mw.length - 1) 0 ≠ 0) (hnot : ¬ (mw.length = 1 ∧ mw.getD 0 0 = 1)) : GC Tryz.prog 42 [.slice (some ⟨0, 0, none⟩) mw.length 0] [⟨mw.map (vi .u64), false, 1⟩] [.pointer (some ⟨1, 0, none⟩), .int .i64 0] [⟨mw.map (vi .u64), false, 1⟩, ⟨[.slice (some ⟨2, 0, none⟩) mw.length 0, vi .u64 (ninvR (mw.getD 0 0)), .slice (some ⟨3, 0, none⟩) mw.length 0], true, 1⟩, ⟨(mw).map (vi .u64), true, 1⟩, ⟨(digs 18446744073709551616 mw.length (18446744073709551616 ^ mw.length * 18446744073709551616 ^ mw.length % num 18446744073709551616 mw)).map (vi .u64), true, 1⟩] := by
 refine gi Tryz.func42 ?_
 have hm0 : 0 < mw.length := h1
 have hx0 := bd_getD hbm (by decide) 0
 have hml : mw.length ≤ 1000 := by omega
 have hN1 := right_gt hbm h1 htop hnot
 have hN : 0 < num 18446744073709551616 mw := by omega
 refine zS ?_
 refine yA ?_
 refine yA ?_
 refine zN (zQ (zS ?_))
 refine yM ?_
 refine yP pL ?_
 refine yP ((PureOp.ltN (b := 1) rfl rfl).mono (v' := .bool false) (congrArg Value.bool (decide_eq_false (by omega)))) ?_
 refine yM ?_
 refine yM ?_
 refine yP pL ?_
 refine yP ((PureOp.gtN (b := 16) rfl rfl).mono (v' := .bool false) (congrArg Value.bool (decide_eq_false (by omega)))) ?_
 refine yP pE ?_
 refine yM ?_
 refine yM ?_
 refine yP (pJ (j := 0)) ?_
 refine yL 0 ?_
 refine yP ((PureOp.andN 18446744073709551616 rfl rfl (by decide) (by decide) hx0 (by decide)).mono (v' := vi .u64 (mw.getD 0 0 % 2)) (congrArg (vi .u64) (Nat.and_one_is_mod _))) ?_
 refine yP ((PureOp.eqN (b := 0) rfl rfl).mono (v' := .bool false) (by rw [hodd]; rfl)) ?_
 refine yP pE ?_
 refine yM ?_
 refine yM ?_
 refine yM ?_
 refine yP pL ?_
 refine yP (pSub (b := 1)) ?_
 refine yP pJ ?_
 refine yL 0 ?_
 refine yP ((PureOp.eqN (b := 0) rfl rfl).mono (v' := .bool false) (congrArg Value.bool (beq_eq_false_iff_ne.2 htop))) ?_
 refine yP pE ?_
 refine yM ?_
 refine yM ?_
 refine yP pL ?_
 refine yB (pEq (b := 1)) (fun hb0 => ?_) (fun hb0 => ?_)
 ·
  have hl1 : mw.length = 1 := by simpa using hb0
  refine yM ?_
  refine yM ?_
  refine yP (pJ (j := 0)) ?_
  refine yL 0 ?_
  refine yP ((PureOp.eqN (b := 1) rfl rfl).mono (v' := .bool false) (congrArg Value.bool (beq_eq_false_iff_ne.2 (fun e => hnot ⟨by assumption, e⟩)))) ?_
  refine yP pT ?_
  refine yP pE ?_
  refine zN (zF (zK (zT (zS ?_))))
  refine yM ?_
  refine yC (clone_ctr (by omega) (by omega)) bd65 [(0, 0)] [43000] ?_
  refine yP ((PureOp.buildStruct [(0, .slice (some ⟨43000, 0, none⟩) mw.length 0)] pl108.choose_spec.1 zr108 (by decide) pl108.choose_spec.2 rfl rfl).mono (v' := .agg #[.slice (some ⟨43000, 0, none⟩) mw.length 0, vi .u64 0, .slice none 0 0]) rfl) ?_
  refine AWo.box 45000 1 [.slice (some ⟨43000, 0, none⟩) mw.length 0, vi .u64 0, .slice none 0 0] rfl rfl rfl rfl rfl ?_
  refine yA ?_
  refine zN (zS ?_)
  refine yA ?_
  refine zN (zQ (zS ?_))
  refine yM ?_
  refine zN (zB ?_)
  refine AW.loopw (fun mm σ => ∃ i, (i ≤ 6) ∧ mm = 6 - i ∧ σ = ⟨(upd (upd (upd (upd emp 0 (.slice (some ⟨0, 0, none⟩) mw.length 0)) 4 (.pointer (some ⟨45000, 0, none⟩))) 5 (vi .u64 (ninv (mw.getD 0 0) i))) 45 (vi .i64 i)), (upd (upd (upd emp 0 ⟨mw.map (vi .u64), false, 1⟩) 43000 ⟨mw.map (vi .u64), true, 1⟩) 45000 ⟨[.slice (some ⟨43000, 0, none⟩) mw.length 0, vi .u64 0, .slice none 0 0], true, 1⟩)⟩) (fm := []) (wk [0, 43000, 45000]) ⟨0, by decide, rfl, rfl⟩ ?_
  rintro mm σ ⟨i, hinv, rfl, rfl⟩
  have hnv := ninv_lt (mw.getD 0 0) i
  refine zS ?_
  refine yP (pLt (b := 6)) ?_
  refine zN (zQ ?_)
  refine zA (fun hb1 => ?_) (fun hb1 => ?_)
  ·
   have hi : i < 6 := by simpa using hb1
   refine zK (zT (zQ (zB (zR ?_))))
   refine yM ?_
   refine yM ?_
   refine yP (pJ (j := 0)) ?_
   refine yL 0 ?_
   refine yM ?_
   refine yP (PureOp.mulU 18446744073709551616 rfl rfl rfl rfl) ?_
   refine yP ((PureOp.subU (a := 2) 18446744073709551616 rfl rfl rfl rfl (by omega)).mono (v' := vi .u64 ((2 + (18446744073709551616 - mw.getD 0 0 * ninv (mw.getD 0 0) i % 18446744073709551616)) % 18446744073709551616)) rfl) ?_
   refine yP (PureOp.mulU 18446744073709551616 rfl rfl rfl rfl) ?_
   refine yA ?_
   refine zN (zL (zT (zR ?_)))
   refine yP (pAdd (b := 1)) ?_
   refine yM ?_
   refine zN (zT ?_)
   exact ⟨6 - (i + 1), [], _, by omega, wk [0, 43000, 45000], i + 1, by omega, rfl, rfl⟩
  ·
   obtain rfl : i = 6 := by simp at hb1; omega
   have hnv := ninv_lt (mw.getD 0 0) 6
   refine zX (zV (zV (zH (zT (zS ?_)))))
   refine yM ?_
   refine yM ?_
   first | refine AWo.pure ((PureOp.negU 18446744073709551616 rfl rfl rfl (by omega)).mono (v' := vi .u64 (ninvR (mw.getD 0 0))) rfl) rfl rfl ?_
   refine yP (PureOp.nilCheck rfl) ?_
   refine yP pF ?_
   refine AWo.store1 tbok rfl rfl rfl rfl rfl (by simp) rfl rfl ?_
   refine zN (zS ?_)
   refine yM ?_
   refine yM ?_
   refine yP pL ?_
   refine AWo.makeI tbok 65000 rfl rfl rfl rfl rfl rfl (by omega) (by omega) rfl rfl rfl ?_
   refine yP (PureOp.nilCheck rfl) ?_
   refine yP pF ?_
   refine AWo.store1 tbok rfl rfl rfl rfl rfl (by simp) rfl rfl ?_
   refine zN (zS ?_)
   refine yM ?_
   refine yP (PureOp.nilCheck rfl) ?_
   refine yP pF ?_
   refine yL1 ?_
   refine yP (pJ (j := 0)) ?_
   refine AWo.storeM (f := (vi .u64)) (y := 1) tbok rfl rfl rfl rfl (by simp; omega) rfl rfl ?_
   refine zN (zQ ?_)
   rw [show (List.replicate mw.length 0).set 0 1 = digs 18446744073709551616 mw.length (2 ^ 0 % num 18446744073709551616 mw) from one_digs hbm (by omega) hN1]
   refine zS ?_
   refine yM ?_
   refine yP pL ?_
   refine yP (PureOp.mulI (a := 128) rfl rfl (by omega)) ?_
   refine yM ?_
   refine zN (zB ?_)
   refine AW.loopw (fun mm σ => ∃ i, (i ≤ 128 * mw.length) ∧ mm = 128 * mw.length - i ∧ σ = ⟨(upd (upd (upd (upd emp 0 (.slice (some ⟨0, 0, none⟩) mw.length 0)) 4 (.pointer (some ⟨45000, 0, none⟩))) 74 (vi .i64 (128 * mw.length))) 75 (vi .i64 i)), (upd (upd (upd (upd emp 0 ⟨mw.map (vi .u64), false, 1⟩) 43000 ⟨mw.map (vi .u64), true, 1⟩) 45000 ⟨[.slice (some ⟨43000, 0, none⟩) mw.length 0, vi .u64 (ninvR (mw.getD 0 0)), .slice (some ⟨77000, 0, none⟩) mw.length 0], true, 1⟩) 77000 ⟨(digs 18446744073709551616 mw.length (2 ^ i % num 18446744073709551616 mw)).map (vi .u64), true, 1⟩)⟩) (fm := [(77000, 65000)]) (wk [0, 43000, 45000, 77000]) ⟨0, Nat.zero_le _, rfl, rfl⟩ ?_
   rintro mm σ ⟨i, hinv, rfl, rfl⟩
   refine zS ?_
   refine yP pLt ?_
   refine zN (zQ ?_)
   refine zA (fun hb2 => ?_) (fun hb2 => ?_)
   ·
    have hi : i < 128 * mw.length := by simpa using hb2
    refine zK (zT (zQ (zB (zR ?_))))
    refine yM ?_
    refine yM ?_
    refine yM ?_
    refine yP (PureOp.nilCheck rfl) ?_
    refine yP pF ?_
    refine yL1 ?_
    refine yC (twice_ctr (a := digs 18446744073709551616 mw.length (2 ^ i % num 18446744073709551616 mw)) (c := 0) ⟨hbm, hm0, hml, hN⟩ (digs_bd (by decide) _ _) (digs_len _ _) (by rw [dnum ⟨hbm, hm0, hml, hN⟩]; exact Nat.mod_lt _ hN) (by decide)) bd66 [(45000, 0), (43000, 0), (77000, 0), (77000, 0)] [84000] ?_
    refine yP (PureOp.nilCheck rfl) ?_
    refine yP pF ?_
    refine AWo.store1 tbok rfl rfl rfl rfl rfl (by simp) rfl rfl ?_
    refine zN (zL (zT (zR ?_)))
    refine yP (pAdd (b := 1)) ?_
    refine yM ?_
    refine zN (zT ?_)
    refine ⟨128 * mw.length - (i + 1), [(77000, 84000)], _, by omega, ?_, i + 1, by omega, rfl, rfl⟩
    refine Wk.of [0, 43000, 45000, 77000] ?_ ?_ ?_ (by decide) rfl
    ·
     refine WkE.upd rfl (by exact VR.flat _ rfl) ?_
     refine WkE.upd rfl (by exact VR.flat _ rfl) ?_
     refine WkE.upd rfl (.ptr (45000) 0 ⟨_, rfl⟩) ?_
     refine WkE.upd rfl (.slice (0) 0 _ 0 ⟨_, rfl⟩ (by simp) (by simp)) ?_
     exact WkE.emp
    ·
     refine WkM.flatM rfl (by exact two_next ⟨hbm, hm0, hml, hN⟩) flat_vi (fun h => h) ?_
     refine WkM.ren [43000, 77000] rfl rfl rfl (dom_all rfl) (fun h => h) ?_
     refine WkM.flatM rfl (by rfl) (fun _ => rfl) (fun h => h) ?_
     refine WkM.flatM rfl (by rfl) (fun _ => rfl) (fun h => h) ?_
     exact WkM.emp
    ·
     repeat (refine dom_upd_mem (by decide) ?_)
     exact dom_emp
   ·
    have hi : i = 128 * mw.length := by simp at hb2; omega
    rw [show digs 18446744073709551616 mw.length (2 ^ i % num 18446744073709551616 mw) = digs 18446744073709551616 mw.length (18446744073709551616 ^ mw.length * 18446744073709551616 ^ mw.length % num 18446744073709551616 mw) from by rw [hi, two_pow]]
    refine zX (zV (zV (zH (zT (zS ?_)))))
    refine yM ?_
    refine yA ?_
    refine yA ?_
    refine zN (zE ?_)
    exact rq [45000, 43000, 77000] [.tmp 2, .tmp 3]
 ·
  refine yM ?_
  refine yK ?_
  refine yK ?_
  refine yK ?_
  refine yK ?_
  refine yP pE ?_
  refine yP pE ?_
  refine zN (zF (zK (zT (zS ?_))))
  refine yM ?_
  refine yC (clone_ctr (by omega) (by omega)) bd65 [(0, 0)] [43000] ?_
  refine yP ((PureOp.buildStruct [(0, .slice (some ⟨43000, 0, none⟩) mw.length 0)] pl108.choose_spec.1 zr108 (by decide) pl108.choose_spec.2 rfl rfl).mono (v' := .agg #[.slice (some ⟨43000, 0, none⟩) mw.length 0, vi .u64 0, .slice none 0 0]) rfl) ?_
  refine AWo.box 45000 1 [.slice (some ⟨43000, 0, none⟩) mw.length 0, vi .u64 0, .slice none 0 0] rfl rfl rfl rfl rfl ?_
  refine yA ?_
  refine zN (zS ?_)
  refine yA ?_
  refine zN (zQ (zS ?_))
  refine yM ?_
  refine zN (zB ?_)
  refine AW.loopw (fun mm σ => ∃ i, (i ≤ 6) ∧ mm = 6 - i ∧ σ = ⟨(upd (upd (upd (upd emp 0 (.slice (some ⟨0, 0, none⟩) mw.length 0)) 4 (.pointer (some ⟨45000, 0, none⟩))) 5 (vi .u64 (ninv (mw.getD 0 0) i))) 45 (vi .i64 i)), (upd (upd (upd emp 0 ⟨mw.map (vi .u64), false, 1⟩) 43000 ⟨mw.map (vi .u64), true, 1⟩) 45000 ⟨[.slice (some ⟨43000, 0, none⟩) mw.length 0, vi .u64 0, .slice none 0 0], true, 1⟩)⟩) (fm := []) (wk [0, 43000, 45000]) ⟨0, by decide, rfl, rfl⟩ ?_
  rintro mm σ ⟨i, hinv, rfl, rfl⟩
  have hnv := ninv_lt (mw.getD 0 0) i
  refine zS ?_
  refine yP (pLt (b := 6)) ?_
  refine zN (zQ ?_)
  refine zA (fun hb3 => ?_) (fun hb3 => ?_)
  ·
   have hi : i < 6 := by simpa using hb3
   refine zK (zT (zQ (zB (zR ?_))))
   refine yM ?_
   refine yM ?_
   refine yP (pJ (j := 0)) ?_
   refine yL 0 ?_
   refine yM ?_
   refine yP (PureOp.mulU 18446744073709551616 rfl rfl rfl rfl) ?_
   refine yP ((PureOp.subU (a := 2) 18446744073709551616 rfl rfl rfl rfl (by omega)).mono (v' := vi .u64 ((2 + (18446744073709551616 - mw.getD 0 0 * ninv (mw.getD 0 0) i % 18446744073709551616)) % 18446744073709551616)) rfl) ?_
   refine yP (PureOp.mulU 18446744073709551616 rfl rfl rfl rfl) ?_
   refine yA ?_
   refine zN (zL (zT (zR ?_)))
   refine yP (pAdd (b := 1)) ?_
   refine yM ?_
   refine zN (zT ?_)
   exact ⟨6 - (i + 1), [], _, by omega, wk [0, 43000, 45000], i + 1, by omega, rfl, rfl⟩
  ·
   obtain rfl : i = 6 := by simp at hb3; omega
   have hnv := ninv_lt (mw.getD 0 0) 6
   refine zX (zV (zV (zH (zT (zS ?_)))))
   refine yM ?_
   refine yM ?_
   first | refine AWo.pure ((PureOp.negU 18446744073709551616 rfl rfl rfl (by omega)).mono (v' := vi .u64 (ninvR (mw.getD 0 0))) rfl) rfl rfl ?_
   refine yP (PureOp.nilCheck rfl) ?_
   refine yP pF ?_
   refine AWo.store1 tbok rfl rfl rfl rfl rfl (by simp) rfl rfl ?_
   refine zN (zS ?_)
   refine yM ?_
   refine yM ?_
   refine yP pL ?_
   refine AWo.makeI tbok 65000 rfl rfl rfl rfl rfl rfl (by omega) (by omega) rfl rfl rfl ?_
   refine yP (PureOp.nilCheck rfl) ?_
   refine yP pF ?_
   refine AWo.store1 tbok rfl rfl rfl rfl rfl (by simp) rfl rfl ?_
   refine zN (zS ?_)
   refine yM ?_
   refine yP (PureOp.nilCheck rfl) ?_
   refine yP pF ?_
   refine yL1 ?_
   refine yP (pJ (j := 0)) ?_
   refine AWo.storeM (f := (vi .u64)) (y := 1) tbok rfl rfl rfl rfl (by simp; omega) rfl rfl ?_
   refine zN (zQ ?_)
   rw [show (List.replicate mw.length 0).set 0 1 = digs 18446744073709551616 mw.length (2 ^ 0 % num 18446744073709551616 mw) from one_digs hbm (by omega) hN1]
   refine zS ?_
   refine yM ?_
   refine yP pL ?_
   refine yP (PureOp.mulI (a := 128) rfl rfl (by omega)) ?_
   refine yM ?_
   refine zN (zB ?_)
   refine AW.loopw (fun mm σ => ∃ i, (i ≤ 128 * mw.length) ∧ mm = 128 * mw.length - i ∧ σ = ⟨(upd (upd (upd (upd emp 0 (.slice (some ⟨0, 0, none⟩) mw.length 0)) 4 (.pointer (some ⟨45000, 0, none⟩))) 74 (vi .i64 (128 * mw.length))) 75 (vi .i64 i)), (upd (upd (upd (upd emp 0 ⟨mw.map (vi .u64), false, 1⟩) 43000 ⟨mw.map (vi .u64), true, 1⟩) 45000 ⟨[.slice (some ⟨43000, 0, none⟩) mw.length 0, vi .u64 (ninvR (mw.getD 0 0)), .slice (some ⟨77000, 0, none⟩) mw.length 0], true, 1⟩) 77000 ⟨(digs 18446744073709551616 mw.length (2 ^ i % num 18446744073709551616 mw)).map (vi .u64), true, 1⟩)⟩) (fm := [(77000, 65000)]) (wk [0, 43000, 45000, 77000]) ⟨0, Nat.zero_le _, rfl, rfl⟩ ?_
   rintro mm σ ⟨i, hinv, rfl, rfl⟩
   refine zS ?_
   refine yP pLt ?_
   refine zN (zQ ?_)
   refine zA (fun hb4 => ?_) (fun hb4 => ?_)
   ·
    have hi : i < 128 * mw.length := by simpa using hb4
    refine zK (zT (zQ (zB (zR ?_))))
    refine yM ?_
    refine yM ?_
    refine yM ?_
    refine yP (PureOp.nilCheck rfl) ?_
    refine yP pF ?_
    refine yL1 ?_
    refine yC (twice_ctr (a := digs 18446744073709551616 mw.length (2 ^ i % num 18446744073709551616 mw)) (c := 0) ⟨hbm, hm0, hml, hN⟩ (digs_bd (by decide) _ _) (digs_len _ _) (by rw [dnum ⟨hbm, hm0, hml, hN⟩]; exact Nat.mod_lt _ hN) (by decide)) bd66 [(45000, 0), (43000, 0), (77000, 0), (77000, 0)] [84000] ?_
    refine yP (PureOp.nilCheck rfl) ?_
    refine yP pF ?_
    refine AWo.store1 tbok rfl rfl rfl rfl rfl (by simp) rfl rfl ?_
    refine zN (zL (zT (zR ?_)))
    refine yP (pAdd (b := 1)) ?_
    refine yM ?_
    refine zN (zT ?_)
    refine ⟨128 * mw.length - (i + 1), [(77000, 84000)], _, by omega, ?_, i + 1, by omega, rfl, rfl⟩
    refine Wk.of [0, 43000, 45000, 77000] ?_ ?_ ?_ (by decide) rfl
    ·
     refine WkE.upd rfl (by exact VR.flat _ rfl) ?_
     refine WkE.upd rfl (by exact VR.flat _ rfl) ?_
     refine WkE.upd rfl (.ptr (45000) 0 ⟨_, rfl⟩) ?_
     refine WkE.upd rfl (.slice (0) 0 _ 0 ⟨_, rfl⟩ (by simp) (by simp)) ?_
     exact WkE.emp
    ·
     refine WkM.flatM rfl (by exact two_next ⟨hbm, hm0, hml, hN⟩) flat_vi (fun h => h) ?_
     refine WkM.ren [43000, 77000] rfl rfl rfl (dom_all rfl) (fun h => h) ?_
     refine WkM.flatM rfl (by rfl) (fun _ => rfl) (fun h => h) ?_
     refine WkM.flatM rfl (by rfl) (fun _ => rfl) (fun h => h) ?_
     exact WkM.emp
    ·
     repeat (refine dom_upd_mem (by decide) ?_)
     exact dom_emp
   ·
    have hi : i = 128 * mw.length := by simp at hb4; omega
    rw [show digs 18446744073709551616 mw.length (2 ^ i % num 18446744073709551616 mw) = digs 18446744073709551616 mw.length (18446744073709551616 ^ mw.length * 18446744073709551616 ^ mw.length % num 18446744073709551616 mw) from by rw [hi, two_pow]]
    refine zX (zV (zV (zH (zT (zS ?_)))))
    refine yM ?_
    refine yA ?_
    refine yA ?_
    refine zN (zE ?_)
    exact rq [45000, 43000, 77000] [.tmp 2, .tmp 3]
set_option maxRecDepth 10000 in
theorem mwords_ctr {mw sq : List Nat} {iv ns : Nat} (h0 : 0 < mw.length) (hl : mw.length ≤ 1000) : GC Tryz.prog 105 [.pointer (some ⟨0, 0, none⟩)] [⟨[.slice (some ⟨1, 0, none⟩) mw.length 0, vi .u64 iv, .slice (some ⟨2, 0, none⟩) ns 0], false, 1⟩, ⟨(mw).map (vi .u64), false, 1⟩, ⟨(sq).map (vi .u64), false, 1⟩] [.slice (some ⟨3, 0, none⟩) mw.length 0] [⟨[.slice (some ⟨1, 0, none⟩) mw.length 0, vi .u64 iv, .slice (some ⟨2, 0, none⟩) ns 0], false, 1⟩, ⟨(mw).map (vi .u64), false, 1⟩, ⟨(sq).map (vi .u64), false, 1⟩, ⟨mw.map (vi .u64), true, 1⟩] := by
 refine gi Tryz.func105 ?_
 refine zS ?_
 refine yA ?_
 refine zN (zS ?_)
 refine yM ?_
 refine yP (PureOp.nilCheck rfl) ?_
 refine yP pF ?_
 refine yL1 ?_
 refine yC (clone_ctr h0 (by omega)) bd65 [(1, 0)] [8000] ?_
 refine yA ?_
 refine zN (zE ?_)
 refine RetQ.gc [_] [8000] [.tmp 2] (.inl rfl) rfl (.tmp rfl .nil) rfl (.cons rfl rfl .nil) (OutL.whole rfl rfl (OkL.all rfl) (by intro h; exact h.elim id fun h => absurd h.1 (by simp)) (OutL.flat rfl (flatM flat_vi) (by intro h; exact h.elim id fun h => absurd h.1 (by simp)) (OutL.flat rfl (flatM flat_vi) (by intro h; exact h.elim id fun h => absurd h.1 (by simp)) (OutL.flat rfl (by exact flatM flat_vi) (by intro h; rfl) trivial)))) (by decide) rfl
end Go.Proofs.YtpahdiljpnfkdaaGreat
namespace Go.Proofs.YtpahdiljpnfkdaaGreat
open Go Sim
theorem reads_num {b : List Nat} (h : bd 256 b) : num 18446744073709551616 (digs 18446744073709551616 ((b.length + 7) / 8) (num 256 b)) = num 256 b := by
 refine num_digs_lt (Nat.lt_of_lt_of_le (num_lt h) ?_)
 rw [show (18446744073709551616 : Nat) = 256 ^ 8 from by decide, ← Nat.pow_mul]
 exact Nat.pow_le_pow_right (by decide) (by omega)
end Go.Proofs.YtpahdiljpnfkdaaGreat
