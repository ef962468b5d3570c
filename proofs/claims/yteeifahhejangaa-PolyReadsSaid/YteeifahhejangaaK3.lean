/- What the proof stands on, part 3: the walk of each function, and plain laws of numbers. -/
import Derived.Test.YteeifahhejangaaK2
import Derived.Test.YteeifahhejangaaProg
import Derived.KernelRfl
import Derived.Laws.Externs
namespace Go.Proofs.Yteeifahhejangaa
open Go Sim
def Tb : Tab where
  sl := [(41, 29), (46, 5), (47, 33), (48, 33), (51, 41), (52, 41), (58, 46), (77, 51), (78, 51), (115, 4), (142, 141), (151, 3)]
  arr := [(22, 4, 3), (31, 4, 29), (37, 80, 4), (38, 80, 4), (70, 9, 46), (71, 9, 46), (73, 3, 33), (74, 3, 33), (75, 3, 74), (76, 3, 74), (111, 32, 5), (163, 5, 29), (167, 9, 41), (168, 9, 29), (169, 9, 29), (171, 9, 169), (185, 0, 16)]
  int := [(2, .i64), (3, .i64), (5, .u8), (6, .u8), (12, .u64), (21, .i32), (23, .u16), (26, .i64), (29, .u64), (110, .u64), (188, .u32), (189, .u8), (190, .u8), (193, .i32), (194, .i32)]
  sz := [(2, 1), (3, 1), (5, 1), (6, 1), (12, 1), (21, 1), (23, 1), (26, 1), (29, 1), (110, 1), (188, 1), (189, 1), (190, 1), (193, 1), (194, 1), (4, 1), (41, 1), (46, 1), (47, 1), (48, 1), (51, 1), (52, 1), (58, 1), (77, 1), (78, 1), (115, 1), (142, 1), (151, 1), (22, 4), (31, 4), (37, 80), (38, 80), (70, 9), (71, 9), (73, 12), (74, 12), (75, 36), (76, 36), (111, 32), (163, 5), (167, 9), (168, 9), (169, 9), (171, 81), (185, 0), (7, 4), (8, 4), (13, 2), (14, 2), (18, 1), (19, 1), (32, 4), (33, 4), (107, 81), (108, 81), (155, 3), (156, 3), (183, 4), (184, 4), (186, 0), (187, 0), (195, 11), (196, 11), (1, 1), (9, 1), (10, 1), (11, 1), (15, 1), (16, 1), (17, 1), (20, 1), (24, 1), (25, 1), (28, 1), (30, 1), (34, 1), (35, 1), (36, 1), (40, 1), (43, 1), (44, 1), (45, 1), (50, 1), (54, 1), (55, 1), (56, 1), (57, 1), (59, 1), (61, 1), (62, 1), (63, 1), (64, 1), (65, 1), (66, 1), (67, 1), (68, 1), (69, 1), (72, 1), (80, 1), (81, 1), (82, 1), (83, 1), (84, 1), (85, 1), (86, 1), (87, 1), (88, 1), (89, 1), (90, 1), (91, 1), (92, 1), (93, 1), (94, 1), (95, 1), (96, 1), (97, 1), (98, 1), (99, 1), (100, 1), (101, 1), (102, 1), (103, 1), (104, 1), (105, 1), (106, 1), (109, 1), (113, 1), (114, 1), (116, 1), (118, 1), (119, 1), (120, 1), (121, 1), (122, 1), (123, 1), (124, 1), (126, 1), (127, 1), (128, 1), (130, 1), (131, 1), (132, 1), (133, 1), (134, 1), (135, 1), (136, 1), (137, 1), (138, 1), (139, 1), (140, 1), (141, 1), (143, 1), (144, 1), (145, 1), (146, 1), (147, 1), (148, 1), (149, 1), (150, 1), (153, 1), (154, 1), (157, 1), (158, 1), (159, 1), (161, 1), (162, 1), (164, 1), (165, 1), (166, 1), (170, 1), (172, 1), (173, 1), (174, 1), (175, 1), (176, 1), (178, 1), (179, 1), (180, 1), (181, 1), (182, 1), (191, 1), (192, 1)]
  agg := [(2, false), (3, false), (5, false), (6, false), (12, false), (21, false), (23, false), (26, false), (29, false), (110, false), (188, false), (189, false), (190, false), (193, false), (194, false), (4, false), (41, false), (46, false), (47, false), (48, false), (51, false), (52, false), (58, false), (77, false), (78, false), (115, false), (142, false), (151, false), (22, true), (31, true), (37, true), (38, true), (70, true), (71, true), (73, true), (74, true), (75, true), (76, true), (111, true), (163, true), (167, true), (168, true), (169, true), (171, true), (185, true), (7, true), (8, true), (13, true), (14, true), (18, true), (19, true), (32, true), (33, true), (107, true), (108, true), (155, true), (156, true), (183, true), (184, true), (186, true), (187, true), (195, true), (196, true), (1, false), (9, false), (10, false), (11, false), (15, false), (16, false), (17, false), (20, false), (24, false), (25, false), (28, false), (30, false), (34, false), (35, false), (36, false), (40, false), (43, false), (44, false), (45, false), (50, false), (54, false), (55, false), (56, false), (57, false), (59, false), (61, false), (62, false), (63, false), (64, false), (65, false), (66, false), (67, false), (68, false), (69, false), (72, false), (80, false), (81, false), (82, false), (83, false), (84, false), (85, false), (86, false), (87, false), (88, false), (89, false), (90, false), (91, false), (92, false), (93, false), (94, false), (95, false), (96, false), (97, false), (98, false), (99, false), (100, false), (101, false), (102, false), (103, false), (104, false), (105, false), (106, false), (109, false), (113, false), (114, false), (116, false), (118, false), (119, false), (120, false), (121, false), (122, false), (123, false), (124, false), (126, false), (127, false), (128, false), (130, false), (131, false), (132, false), (133, false), (134, false), (135, false), (136, false), (137, false), (138, false), (139, false), (140, false), (141, false), (143, false), (144, false), (145, false), (146, false), (147, false), (148, false), (149, false), (150, false), (153, false), (154, false), (157, false), (158, false), (159, false), (161, false), (162, false), (164, false), (165, false), (166, false), (170, false), (172, false), (173, false), (174, false), (175, false), (176, false), (178, false), (179, false), (180, false), (181, false), (182, false), (191, false), (192, false)]
  zero := [(2, .int .i64 0), (3, .int .i64 0), (5, .int .u8 0), (6, .int .u8 0), (12, .int .u64 0), (21, .int .i32 0), (23, .int .u16 0), (26, .int .i64 0), (29, .int .u64 0), (110, .int .u64 0), (188, .int .u32 0), (189, .int .u8 0), (190, .int .u8 0), (193, .int .i32 0), (194, .int .i32 0), (4, .bool false), (41, .slice none 0 0), (46, .slice none 0 0), (47, .slice none 0 0), (48, .slice none 0 0), (51, .slice none 0 0), (52, .slice none 0 0), (58, .slice none 0 0), (77, .slice none 0 0), (78, .slice none 0 0), (115, .slice none 0 0), (142, .slice none 0 0), (151, .slice none 0 0), (22, .agg #[.int .i64 0, .int .i64 0, .int .i64 0, .int .i64 0]), (31, .agg #[.int .u64 0, .int .u64 0, .int .u64 0, .int .u64 0]), (37, .agg (List.replicate 80 (.bool false)).toArray), (38, .agg (List.replicate 80 (.bool false)).toArray), (70, .agg (List.replicate 9 (.slice none 0 0)).toArray), (71, .agg (List.replicate 9 (.slice none 0 0)).toArray), (73, .agg (List.replicate 12 (.int .u64 0)).toArray), (74, .agg (List.replicate 12 (.int .u64 0)).toArray), (75, .agg (List.replicate 36 (.int .u64 0)).toArray), (76, .agg (List.replicate 36 (.int .u64 0)).toArray), (111, .agg (List.replicate 32 (.int .u8 0)).toArray), (163, .agg (List.replicate 5 (.int .u64 0)).toArray), (167, .agg (List.replicate 9 (.slice none 0 0)).toArray), (168, .agg (List.replicate 9 (.int .u64 0)).toArray), (169, .agg (List.replicate 9 (.int .u64 0)).toArray), (171, .agg (List.replicate 81 (.int .u64 0)).toArray), (185, .agg #[]), (7, .agg #[.int .i64 0, .int .i64 0, .bool false, .int .u8 0]), (8, .agg #[.int .i64 0, .int .i64 0, .bool false, .int .u8 0]), (13, .agg #[.string .empty, .int .u64 0]), (14, .agg #[.string .empty, .int .u64 0]), (18, .agg #[.pointer none]), (19, .agg #[.pointer none]), (32, .agg #[.int .u64 0, .int .u64 0, .int .u64 0, .int .u64 0]), (33, .agg #[.int .u64 0, .int .u64 0, .int .u64 0, .int .u64 0]), (107, .agg #[.bool false, .bool false, .bool false, .bool false, .bool false, .bool false, .bool false, .bool false, .bool false, .bool false, .bool false, .bool false, .bool false, .bool false, .bool false, .bool false, .bool false, .bool false, .bool false, .bool false, .bool false, .bool false, .bool false, .bool false, .bool false, .bool false, .bool false, .bool false, .bool false, .bool false, .bool false, .bool false, .bool false, .bool false, .bool false, .bool false, .bool false, .bool false, .bool false, .bool false, .bool false, .bool false, .bool false, .bool false, .bool false, .bool false, .bool false, .bool false, .bool false, .bool false, .bool false, .bool false, .bool false, .bool false, .bool false, .bool false, .bool false, .bool false, .bool false, .bool false, .bool false, .bool false, .bool false, .bool false, .bool false, .bool false, .bool false, .bool false, .bool false, .bool false, .bool false, .bool false, .bool false, .bool false, .bool false, .bool false, .bool false, .bool false, .bool false, .bool false, .int .i64 0]), (108, .agg #[.bool false, .bool false, .bool false, .bool false, .bool false, .bool false, .bool false, .bool false, .bool false, .bool false, .bool false, .bool false, .bool false, .bool false, .bool false, .bool false, .bool false, .bool false, .bool false, .bool false, .bool false, .bool false, .bool false, .bool false, .bool false, .bool false, .bool false, .bool false, .bool false, .bool false, .bool false, .bool false, .bool false, .bool false, .bool false, .bool false, .bool false, .bool false, .bool false, .bool false, .bool false, .bool false, .bool false, .bool false, .bool false, .bool false, .bool false, .bool false, .bool false, .bool false, .bool false, .bool false, .bool false, .bool false, .bool false, .bool false, .bool false, .bool false, .bool false, .bool false, .bool false, .bool false, .bool false, .bool false, .bool false, .bool false, .bool false, .bool false, .bool false, .bool false, .bool false, .bool false, .bool false, .bool false, .bool false, .bool false, .bool false, .bool false, .bool false, .bool false, .int .i64 0]), (155, .agg #[.slice none 0 0, .int .u64 0, .slice none 0 0]), (156, .agg #[.slice none 0 0, .int .u64 0, .slice none 0 0]), (183, .agg #[.pointer none, .pointer none, .pointer none, .string .empty]), (184, .agg #[.pointer none, .pointer none, .pointer none, .string .empty]), (186, .agg #[]), (187, .agg #[]), (195, .agg #[.int .u64 0, .int .u64 0, .int .u32 0, .int .u8 0, .int .u8 0, .int .u8 0, .int .u8 0, .nilFunc, .pointer none, .int .i32 0, .int .i32 0]), (196, .agg #[.int .u64 0, .int .u64 0, .int .u32 0, .int .u8 0, .int .u8 0, .int .u8 0, .int .u8 0, .nilFunc, .pointer none, .int .i32 0, .int .i32 0]), (1, .nilFunc), (9, .string .empty), (10, .string .empty), (11, .string .empty), (15, .pointer none), (16, .pointer none), (17, .pointer none), (20, .nilIface), (24, .nilFunc), (25, .pointer none), (28, .nilFunc), (30, .nilFunc), (34, .nilFunc), (35, .nilFunc), (36, .nilFunc), (40, .nilFunc), (43, .nilFunc), (44, .nilFunc), (45, .nilFunc), (50, .nilFunc), (54, .nilFunc), (55, .nilFunc), (56, .nilFunc), (57, .nilFunc), (59, .nilFunc), (61, .nilFunc), (62, .nilFunc), (63, .nilFunc), (64, .nilFunc), (65, .nilFunc), (66, .nilFunc), (67, .nilFunc), (68, .nilFunc), (69, .nilFunc), (72, .nilFunc), (80, .nilFunc), (81, .nilFunc), (82, .nilFunc), (83, .nilFunc), (84, .nilFunc), (85, .nilFunc), (86, .nilFunc), (87, .nilFunc), (88, .nilFunc), (89, .nilFunc), (90, .nilFunc), (91, .nilFunc), (92, .nilFunc), (93, .nilFunc), (94, .nilFunc), (95, .nilFunc), (96, .nilFunc), (97, .nilFunc), (98, .nilFunc), (99, .nilFunc), (100, .nilFunc), (101, .nilFunc), (102, .nilFunc), (103, .nilFunc), (104, .nilFunc), (105, .nilFunc), (106, .nilFunc), (109, .nilFunc), (113, .nilFunc), (114, .nilFunc), (116, .nilFunc), (118, .nilFunc), (119, .nilFunc), (120, .nilFunc), (121, .nilFunc), (122, .nilFunc), (123, .nilFunc), (124, .nilFunc), (126, .nilFunc), (127, .nilFunc), (128, .pointer none), (130, .nilFunc), (131, .nilFunc), (132, .nilFunc), (133, .nilFunc), (134, .nilFunc), (135, .nilFunc), (136, .nilFunc), (137, .nilFunc), (138, .nilFunc), (139, .nilFunc), (140, .nilFunc), (141, .nilFunc), (143, .nilFunc), (144, .nilFunc), (145, .nilFunc), (146, .nilFunc), (147, .nilFunc), (148, .nilFunc), (149, .nilFunc), (150, .nilFunc), (153, .nilFunc), (154, .nilFunc), (157, .nilFunc), (158, .nilFunc), (159, .nilFunc), (161, .nilFunc), (162, .nilFunc), (164, .nilFunc), (165, .nilFunc), (166, .nilFunc), (170, .nilFunc), (172, .nilFunc), (173, .nilFunc), (174, .nilFunc), (175, .nilFunc), (176, .nilFunc), (178, .nilFunc), (179, .nilFunc), (180, .nilFunc), (181, .nilFunc), (182, .nilFunc), (191, .nilFunc), (192, .pointer none)]
  by' := [(2, 8), (3, 8), (5, 1), (6, 1), (12, 8), (21, 4), (23, 2), (26, 8), (29, 8), (110, 8), (188, 4), (189, 1), (190, 1), (193, 4), (194, 4), (4, 1), (41, 24), (46, 24), (47, 24), (48, 24), (51, 24), (52, 24), (58, 24), (77, 24), (78, 24), (115, 24), (142, 24), (151, 24), (22, 32), (31, 32), (37, 80), (38, 80), (70, 216), (71, 216), (73, 96), (74, 96), (75, 288), (76, 288), (111, 32), (163, 40), (167, 216), (168, 72), (169, 72), (171, 648), (185, 0), (7, 24), (8, 24), (13, 24), (14, 24), (18, 8), (19, 8), (32, 32), (33, 32), (107, 88), (108, 88), (155, 56), (156, 56), (183, 40), (184, 40), (186, 0), (187, 0), (195, 48), (196, 48), (1, 8), (9, 16), (10, 16), (11, 16), (15, 8), (16, 8), (17, 8), (20, 16), (24, 8), (25, 8), (28, 8), (30, 8), (34, 8), (35, 8), (36, 8), (40, 8), (43, 8), (44, 8), (45, 8), (50, 8), (54, 8), (55, 8), (56, 8), (57, 8), (59, 8), (61, 8), (62, 8), (63, 8), (64, 8), (65, 8), (66, 8), (67, 8), (68, 8), (69, 8), (72, 8), (80, 8), (81, 8), (82, 8), (83, 8), (84, 8), (85, 8), (86, 8), (87, 8), (88, 8), (89, 8), (90, 8), (91, 8), (92, 8), (93, 8), (94, 8), (95, 8), (96, 8), (97, 8), (98, 8), (99, 8), (100, 8), (101, 8), (102, 8), (103, 8), (104, 8), (105, 8), (106, 8), (109, 8), (113, 8), (114, 8), (116, 8), (118, 8), (119, 8), (120, 8), (121, 8), (122, 8), (123, 8), (124, 8), (126, 8), (127, 8), (128, 8), (130, 8), (131, 8), (132, 8), (133, 8), (134, 8), (135, 8), (136, 8), (137, 8), (138, 8), (139, 8), (140, 8), (141, 8), (143, 8), (144, 8), (145, 8), (146, 8), (147, 8), (148, 8), (149, 8), (150, 8), (153, 8), (154, 8), (157, 8), (158, 8), (159, 8), (161, 8), (162, 8), (164, 8), (165, 8), (166, 8), (170, 8), (172, 8), (173, 8), (174, 8), (175, 8), (176, 8), (178, 8), (179, 8), (180, 8), (181, 8), (182, 8), (191, 8), (192, 8)]
  fld := [((7, 0), 0, 2), ((7, 1), 1, 3), ((7, 2), 2, 4), ((7, 3), 3, 6), ((8, 0), 0, 2), ((8, 1), 1, 3), ((8, 2), 2, 4), ((8, 3), 3, 6), ((13, 0), 0, 9), ((13, 1), 1, 12), ((14, 0), 0, 9), ((14, 1), 1, 12), ((18, 0), 0, 17), ((19, 0), 0, 17), ((32, 0), 0, 31), ((33, 0), 0, 31), ((107, 0), 0, 37), ((107, 1), 80, 3), ((108, 0), 0, 37), ((108, 1), 80, 3), ((155, 0), 0, 41), ((155, 1), 1, 29), ((155, 2), 2, 41), ((156, 0), 0, 41), ((156, 1), 1, 29), ((156, 2), 2, 41), ((183, 0), 0, 17), ((183, 1), 1, 17), ((183, 2), 2, 17), ((183, 3), 3, 9), ((184, 0), 0, 17), ((184, 1), 1, 17), ((184, 2), 2, 17), ((184, 3), 3, 9), ((186, 0), 0, 185), ((187, 0), 0, 185), ((195, 0), 0, 12), ((195, 1), 1, 12), ((195, 2), 2, 188), ((195, 3), 3, 189), ((195, 4), 4, 5), ((195, 5), 5, 5), ((195, 6), 6, 190), ((195, 7), 7, 191), ((195, 8), 8, 192), ((195, 9), 9, 193), ((195, 10), 10, 194), ((196, 0), 0, 12), ((196, 1), 1, 12), ((196, 2), 2, 188), ((196, 3), 3, 189), ((196, 4), 4, 5), ((196, 5), 5, 5), ((196, 6), 6, 190), ((196, 7), 7, 191), ((196, 8), 8, 192), ((196, 9), 9, 193), ((196, 10), 10, 194)]
theorem of_map {α β γ : Type} [BEq α] [LawfulBEq α] {f g : α × β → γ} : ∀ {l : List (α × β)}, l.map f = l.map g → ∀ a b, l.lookup a = some b → f (a, b) = g (a, b)
  | [], _, a, b, h => by simp at h
  | (x, y) :: l, hl, a, b, h => by
    rw [List.map_cons, List.map_cons, List.cons.injEq] at hl
    rw [List.lookup_cons] at h
    split at h
    · rename_i he
      have := eq_of_beq he
      subst this
      cases h
      exact hl.1
    · exact of_map hl.2 a b h
def fldOf (P : Program) (t f : Nat) : Option (Nat × Nat) := match P.underlying t with
  | some (.struct fs) => fs[f]?.map fun d => (d.offset, d.type)
  | _ => none
theorem fldOf_some {P : Program} {t f o t' : Nat} (h : fldOf P t f = some (o, t')) : ∃ fs fd, P.underlying t = some (.struct fs) ∧ fs[f]? = some fd ∧ fd.offset = o ∧ fd.type = t' := by
  unfold fldOf at h
  split at h
  · rename_i fs hu
    cases hf : fs[f]? with
    | none => rw [hf] at h; cases h
    | some d => rw [hf] at h; cases h; exact ⟨fs, d, hu, hf, rfl, rfl⟩
  · cases h
set_option maxRecDepth 100000 in
theorem tbok : TabOk Try.prog Tb where
  sl := fun t e h => of_map (f := fun p => Try.prog.underlying p.1) (g := fun p => some (.slice p.2)) (by kernel_rfl) t e h
  arr := fun t n e h => of_map (f := fun p => Try.prog.underlying p.1) (g := fun p => some (.array p.2.1 p.2.2)) (by kernel_rfl) t (n, e) h
  int := fun t e h => of_map (f := fun p => Try.prog.underlying p.1) (g := fun p => some (.int p.2)) (by kernel_rfl) t e h
  sz := fun t e h => of_map (f := fun p => (Try.prog.info? p.1).map (·.size)) (g := fun p => some p.2) (by kernel_rfl) t e h
  zero := fun t e h => of_map (f := fun p => (Try.prog.info? p.1).map (·.zero)) (g := fun p => some (some p.2)) (by kernel_rfl) t e h
  by' := fun t e h => of_map (f := fun p => (Try.prog.info? p.1).map (·.bytes)) (g := fun p => some p.2) (by kernel_rfl) t e h
  agg := fun t e h => Prod.mk.inj (of_map (f := fun p => ((Try.prog.underlying p.1).isSome, aggB Try.prog p.1)) (g := fun p => (true, p.2)) (by kernel_rfl) t e h)
  fld := fun t f o t' h => fldOf_some (of_map (f := fun p => fldOf Try.prog p.1.1 p.1.2) (g := fun p => some p.2) (by kernel_rfl) (t, f) (o, t') h)
theorem pl_of {P : Program} {t : Nat} {fs : Array Field} (hu : P.underlying t = some (.struct fs)) {l : List (Nat × Nat)} (h : fs.toList.map (fun f => (f.offset, (P.info? f.type).map (·.size))) = l.map fun q => (q.1, some q.2)) : ∃ fs, P.underlying t = some (.struct fs) ∧ placesOf P fs l :=
  ⟨fs, hu, by simpa using congrArg List.length h, fun k f q h1 h2 => by
    have := congrArg (fun l : List (Nat × Option Nat) => l[k]?) h
    simp only [List.getElem?_map, Array.getElem?_toList, h1, h2, Option.map_some, Option.some.injEq, Prod.mk.injEq] at this
    exact this⟩
theorem pl33 : ∃ fs, Try.prog.underlying 33 = some (.struct fs) ∧ placesOf Try.prog fs [(0, 4)] := pl_of Try.underlying33 (by kernel_rfl)
theorem zr33 : (Try.prog.info? 33).map (·.zero) = some (some (.agg #[.int .u64 0, .int .u64 0, .int .u64 0, .int .u64 0])) := tbok.zero _ _ rfl
theorem bo {f : FuncId} {fn : Func} (h : Try.prog.funcs[f]? = some fn) (hb : ((fn.name == "runtime.NumGoroutine"), fn.body.isNone) = (false, false)) : Bodied Try.prog f := ⟨fn, h, (Prod.mk.inj hb).1, (Prod.mk.inj hb).2⟩
theorem bd19 : Bodied Try.prog 19 := bo Try.func19 (by kernel_rfl)
theorem bd22 : Bodied Try.prog 22 := bo Try.func22 (by kernel_rfl)
theorem bd23 : Bodied Try.prog 23 := bo Try.func23 (by kernel_rfl)
theorem bd24 : Bodied Try.prog 24 := bo Try.func24 (by kernel_rfl)
theorem bd25 : Bodied Try.prog 25 := bo Try.func25 (by kernel_rfl)
theorem bd26 : Bodied Try.prog 26 := bo Try.func26 (by kernel_rfl)
theorem bd27 : Bodied Try.prog 27 := bo Try.func27 (by kernel_rfl)
theorem bd31 : Bodied Try.prog 31 := bo Try.func31 (by kernel_rfl)
theorem bd33 : Bodied Try.prog 33 := bo Try.func33 (by kernel_rfl)
theorem bd34 : Bodied Try.prog 34 := bo Try.func34 (by kernel_rfl)
theorem bd35 : Bodied Try.prog 35 := bo Try.func35 (by kernel_rfl)
theorem bd36 : Bodied Try.prog 36 := bo Try.func36 (by kernel_rfl)
theorem bd37 : Bodied Try.prog 37 := bo Try.func37 (by kernel_rfl)
theorem bd38 : Bodied Try.prog 38 := bo Try.func38 (by kernel_rfl)
theorem bd39 : Bodied Try.prog 39 := bo Try.func39 (by kernel_rfl)
theorem bd45 : Bodied Try.prog 45 := bo Try.func45 (by kernel_rfl)
theorem bd46 : Bodied Try.prog 46 := bo Try.func46 (by kernel_rfl)
theorem bd52 : Bodied Try.prog 52 := bo Try.func52 (by kernel_rfl)
theorem bd65 : Bodied Try.prog 65 := bo Try.func65 (by kernel_rfl)
theorem bd73 : Bodied Try.prog 73 := bo Try.func73 (by kernel_rfl)
theorem bd78 : Bodied Try.prog 78 := bo Try.func78 (by kernel_rfl)
theorem bd79 : Bodied Try.prog 79 := bo Try.func79 (by kernel_rfl)
theorem bd80 : Bodied Try.prog 80 := bo Try.func80 (by kernel_rfl)
theorem bd81 : Bodied Try.prog 81 := bo Try.func81 (by kernel_rfl)
theorem bd82 : Bodied Try.prog 82 := bo Try.func82 (by kernel_rfl)
theorem bd83 : Bodied Try.prog 83 := bo Try.func83 (by kernel_rfl)
theorem bd84 : Bodied Try.prog 84 := bo Try.func84 (by kernel_rfl)
theorem bd86 : Bodied Try.prog 86 := bo Try.func86 (by kernel_rfl)
theorem bd88 : Bodied Try.prog 88 := bo Try.func88 (by kernel_rfl)
theorem bd89 : Bodied Try.prog 89 := bo Try.func89 (by kernel_rfl)
theorem bd90 : Bodied Try.prog 90 := bo Try.func90 (by kernel_rfl)
theorem bd91 : Bodied Try.prog 91 := bo Try.func91 (by kernel_rfl)
theorem bd92 : Bodied Try.prog 92 := bo Try.func92 (by kernel_rfl)
theorem bd93 : Bodied Try.prog 93 := bo Try.func93 (by kernel_rfl)
theorem bd94 : Bodied Try.prog 94 := bo Try.func94 (by kernel_rfl)
theorem bd95 : Bodied Try.prog 95 := bo Try.func95 (by kernel_rfl)
theorem bd96 : Bodied Try.prog 96 := bo Try.func96 (by kernel_rfl)
theorem bd97 : Bodied Try.prog 97 := bo Try.func97 (by kernel_rfl)
theorem bd98 : Bodied Try.prog 98 := bo Try.func98 (by kernel_rfl)
theorem bd116 : Bodied Try.prog 116 := bo Try.func116 (by kernel_rfl)
theorem bd117 : Bodied Try.prog 117 := bo Try.func117 (by kernel_rfl)
theorem bd120 : Bodied Try.prog 120 := bo Try.func120 (by kernel_rfl)
theorem bd121 : Bodied Try.prog 121 := bo Try.func121 (by kernel_rfl)
theorem bd122 : Bodied Try.prog 122 := bo Try.func122 (by kernel_rfl)
theorem bd123 : Bodied Try.prog 123 := bo Try.func123 (by kernel_rfl)
theorem bd124 : Bodied Try.prog 124 := bo Try.func124 (by kernel_rfl)
theorem bd127 : Bodied Try.prog 127 := bo Try.func127 (by kernel_rfl)
theorem bd128 : Bodied Try.prog 128 := bo Try.func128 (by kernel_rfl)
theorem bd130 : Bodied Try.prog 130 := bo Try.func130 (by kernel_rfl)
theorem bd131 : Bodied Try.prog 131 := bo Try.func131 (by kernel_rfl)
theorem bd132 : Bodied Try.prog 132 := bo Try.func132 (by kernel_rfl)
theorem bd133 : Bodied Try.prog 133 := bo Try.func133 (by kernel_rfl)
theorem bd145 : Bodied Try.prog 145 := bo Try.func145 (by kernel_rfl)
theorem bd146 : Bodied Try.prog 146 := bo Try.func146 (by kernel_rfl)
theorem bd147 : Bodied Try.prog 147 := bo Try.func147 (by kernel_rfl)
theorem mixed : Try.prog.follows .mixedOrders = true := by kernel_rfl
end Go.Proofs.Yteeifahhejangaa
namespace Go.Proofs.Yteeifahhejangaa
open Go Sim
def num (B : Nat) : List Nat → Nat
  | [] => 0
  | x :: r => x + B * num B r
def digs (B : Nat) : Nat → Nat → List Nat
  | 0, _ => []
  | n + 1, v => v % B :: digs B n (v / B)
def bd (B : Nat) (l : List Nat) : Prop := ∀ x ∈ l, x < B
section
variable {B : Nat}
theorem digs_len (n v : Nat) : (digs B n v).length = n := by
  induction n generalizing v with
  | zero => rfl
  | succ n ih => simp [digs, ih]
theorem digs_bd (hB : 0 < B) (n v : Nat) : bd B (digs B n v) := by
  induction n generalizing v with
  | zero => intro x hx; simp [digs] at hx
  | succ n ih =>
    intro x hx
    simp only [digs, List.mem_cons] at hx
    rcases hx with rfl | hx
    · exact Nat.mod_lt _ hB
    · exact ih _ x hx
theorem num_digs (n v : Nat) : num B (digs B n v) = v % B ^ n := by
  induction n generalizing v with
  | zero => simp [digs, num, Nat.mod_one]
  | succ n ih =>
    simp only [digs, num, ih]
    rw [Nat.pow_succ, Nat.mul_comm (B ^ n) B, Nat.mod_mul]
theorem num_digs_lt {n v : Nat} (h : v < B ^ n) : num B (digs B n v) = v := by rw [num_digs, Nat.mod_eq_of_lt h]
theorem bd_cons {x : Nat} {r : List Nat} : bd B (x :: r) ↔ x < B ∧ bd B r := by simp [bd]
theorem bd_nil : bd B [] := fun x hx => by simp at hx
theorem num_lt {l : List Nat} (h : bd B l) : num B l < B ^ l.length := by
  induction l with
  | nil => simp [num]
  | cons x r ih =>
    obtain ⟨h1, h2⟩ := bd_cons.1 h
    have := ih h2
    simp only [num, List.length_cons, Nat.pow_succ]
    have h3 : B * (num B r + 1) ≤ B * B ^ r.length := Nat.mul_le_mul_left _ this
    rw [Nat.mul_add, Nat.mul_one] at h3
    rw [Nat.mul_comm (B ^ r.length) B]
    omega
theorem digs_num {l : List Nat} (h : bd B l) : digs B l.length (num B l) = l := by
  induction l with
  | nil => rfl
  | cons x r ih =>
    obtain ⟨h1, h2⟩ := bd_cons.1 h
    simp only [List.length_cons, digs, num]
    rw [Nat.add_mul_mod_self_left, Nat.mod_eq_of_lt h1, Nat.add_mul_div_left _ _ (by omega), Nat.div_eq_of_lt h1, Nat.zero_add, ih h2]
theorem num_inj {l r : List Nat} (hl : bd B l) (hr : bd B r) (hlen : l.length = r.length) (h : num B l = num B r) : l = r := by
  rw [← digs_num hl, ← digs_num hr, hlen, h]
theorem num_getD {l : List Nat} (h : bd B l) (hB : 0 < B) (i : Nat) : l.getD i 0 = num B l / B ^ i % B := by
  induction l generalizing i with
  | nil => simp [num]
  | cons x r ih =>
    obtain ⟨h1, h2⟩ := bd_cons.1 h
    cases i with
    | zero => simp [num, Nat.mod_eq_of_lt h1]
    | succ i =>
      simp only [List.getD_cons_succ, ih h2, num]
      rw [Nat.pow_succ, Nat.mul_comm (B ^ i) B, ← Nat.div_div_eq_div_mul, Nat.add_mul_div_left _ _ hB, Nat.div_eq_of_lt h1, Nat.zero_add]
theorem num_append (l r : List Nat) : num B (l ++ r) = num B l + B ^ l.length * num B r := by
  induction l with
  | nil => simp [num]
  | cons x l ih =>
    simp only [List.cons_append, num, ih, List.length_cons, Nat.pow_succ, Nat.mul_add]
    rw [Nat.mul_comm (B ^ l.length) B, Nat.mul_assoc]
    omega
theorem num_replicate (n : Nat) : num B (List.replicate n 0) = 0 := by
  induction n with
  | zero => rfl
  | succ n ih => simp [List.replicate_succ, num, ih]
theorem num_set {l : List Nat} {k v : Nat} (hk : k < l.length) : num B (l.set k v) + l.getD k 0 * B ^ k = num B l + v * B ^ k := by
  induction l generalizing k with
  | nil => simp at hk
  | cons x l ih =>
    cases k with
    | zero => simp only [List.set_cons_zero, num, List.getD_cons_zero, Nat.pow_zero, Nat.mul_one]; omega
    | succ k =>
      have := ih (k := k) (by simpa using hk)
      simp only [List.set_cons_succ, num, List.getD_cons_succ, Nat.pow_succ]
      have e : ∀ z, z * (B ^ k * B) = B * (z * B ^ k) := fun z => by rw [← Nat.mul_assoc, Nat.mul_comm]
      rw [e, e]
      have h2 : B * (num B (l.set k v) + l.getD k 0 * B ^ k) = B * (num B l + v * B ^ k) := by rw [this]
      rw [Nat.mul_add, Nat.mul_add] at h2
      omega
theorem bd_set {l : List Nat} {k v : Nat} (h : bd B l) (hv : v < B) : bd B (l.set k v) := by
  intro x hx
  rcases List.mem_or_eq_of_mem_set hx with h1 | h1
  · exact h x h1
  · rw [h1]; exact hv
theorem bd_replicate (hB : 0 < B) (n : Nat) : bd B (List.replicate n 0) := by
  intro x hx; rw [List.eq_of_mem_replicate hx]; exact hB
theorem bd_getD {l : List Nat} (h : bd B l) (hB : 0 < B) (i : Nat) : l.getD i 0 < B := by
  rw [num_getD h hB]; exact Nat.mod_lt _ hB
theorem bd_take {l : List Nat} (h : bd B l) (i : Nat) : bd B (l.take i) := fun x hx => h x (List.mem_of_mem_take hx)
theorem bd_drop {l : List Nat} (h : bd B l) (i : Nat) : bd B (l.drop i) := fun x hx => h x (List.mem_of_mem_drop hx)
theorem num_take {l : List Nat} (h : bd B l) (i : Nat) : num B (l.take i) = num B l % B ^ i := by
  induction l generalizing i with
  | nil => simp [num]
  | cons x l ih =>
    obtain ⟨h1, h2⟩ := bd_cons.1 h
    cases i with
    | zero => simp [num, Nat.mod_one]
    | succ i =>
      simp only [List.take_succ_cons, num, ih h2]
      rw [Nat.pow_succ, Nat.mul_comm (B ^ i) B, Nat.mod_mul, Nat.add_mul_mod_self_left, Nat.mod_eq_of_lt h1, Nat.add_mul_div_left _ _ (by omega), Nat.div_eq_of_lt h1, Nat.zero_add]
theorem num_take_drop (l : List Nat) (i : Nat) (hi : i ≤ l.length) : num B l = num B (l.take i) + B ^ i * num B (l.drop i) := by
  conv => lhs; rw [← List.take_append_drop i l, num_append]
  rw [List.length_take, Nat.min_eq_left hi]
theorem num_take_succ (l : List Nat) (i : Nat) : num B (l.take (i + 1)) = num B (l.take i) + l.getD i 0 * B ^ i := by
  induction l generalizing i with
  | nil => simp [num]
  | cons x l ih =>
    cases i with
    | zero => simp [num]
    | succ i =>
      simp only [List.take_succ_cons, num, ih, List.getD_cons_succ, Nat.mul_add, Nat.pow_succ]
      rw [Nat.add_assoc]; congr 2
      rw [← Nat.mul_assoc, Nat.mul_comm B, Nat.mul_right_comm, Nat.mul_assoc]
theorem mod_succ (v i : Nat) : v % B ^ (i + 1) = v % B ^ i + B ^ i * (v / B ^ i % B) := Nat.mod_pow_succ
def dgo (B : Nat) : Nat → Nat → List Nat
  | 0, _ => []
  | f + 1, v => if v = 0 then [] else v % B :: dgo B f (v / B)
def D (B v : Nat) : List Nat := dgo B v v
theorem dgo_fuel (hB : 2 ≤ B) : ∀ (f g v : Nat), v ≤ f → v ≤ g → dgo B f v = dgo B g v := by
  intro f
  induction f with
  | zero =>
    intro g v h1 h2
    obtain rfl : v = 0 := by omega
    cases g <;> simp [dgo]
  | succ f ih =>
    intro g v h1 h2
    cases g with
    | zero =>
      obtain rfl : v = 0 := by omega
      simp [dgo]
    | succ g =>
      simp only [dgo]
      split
      · rfl
      · have : v / B < v := Nat.div_lt_self (by omega) (by omega)
        rw [ih g (v / B) (by omega) (by omega)]
theorem D_zero : D B 0 = [] := rfl
theorem D_pos (hB : 2 ≤ B) {v : Nat} (hv : v ≠ 0) : D B v = v % B :: D B (v / B) := by
  obtain ⟨w, rfl⟩ : ∃ w, v = w + 1 := ⟨v - 1, by omega⟩
  have h1 : (w + 1) / B < w + 1 := Nat.div_lt_self (by omega) (by omega)
  simp only [D, dgo, Nat.add_one_ne_zero, if_false]
  rw [dgo_fuel hB w ((w + 1) / B) _ (by omega) (Nat.le_refl _)]
theorem D_ind (hB : 2 ≤ B) {p : Nat → Prop} (h0 : p 0) (h1 : ∀ v, v ≠ 0 → p (v / B) → p v) (v : Nat) : p v := by
  induction v using Nat.strongRecOn with
  | _ v ih =>
    by_cases hv : v = 0
    · rw [hv]; exact h0
    · exact h1 v hv (ih _ (Nat.div_lt_self (by omega) (by omega)))
theorem num_D (hB : 2 ≤ B) (v : Nat) : num B (D B v) = v := by
  induction v using D_ind hB with
  | h0 => rfl
  | h1 v hv ih => rw [D_pos hB hv, num, ih]; exact Nat.mod_add_div v B
theorem bd_D (hB : 2 ≤ B) (v : Nat) : bd B (D B v) := by
  induction v using D_ind hB with
  | h0 => exact bd_nil
  | h1 v hv ih => rw [D_pos hB hv]; exact bd_cons.2 ⟨Nat.mod_lt _ (by omega), ih⟩
theorem D_len_le (hB : 2 ≤ B) (v n : Nat) : (D B v).length ≤ n ↔ v < B ^ n := by
  induction v using D_ind hB generalizing n with
  | h0 => simp [D_zero, Nat.pow_pos (show 0 < B by omega)]
  | h1 v hv ih =>
    rw [D_pos hB hv]
    cases n with
    | zero => simp; omega
    | succ n =>
      simp only [List.length_cons, Nat.add_le_add_iff_right, ih]
      rw [Nat.div_lt_iff_lt_mul (by omega), Nat.pow_succ]
theorem D_take (hB : 2 ≤ B) {l : List Nat} (h : bd B l) : D B (num B l) = l.take (D B (num B l)).length := by
  refine num_inj (bd_D hB _) (bd_take h _) ?_ ?_
  · rw [List.length_take, Nat.min_eq_left ((D_len_le hB _ _).2 (num_lt h))]
  · rw [num_D hB, num_take h, Nat.mod_eq_of_lt ((D_len_le hB _ _).1 (Nat.le_refl _))]
theorem D_stop (hB : 2 ≤ B) {l : List Nat} (h : bd B l) {n : Nat} (hn : n ≤ l.length) (h0 : num B (l.drop n) = 0) (h1 : n = 0 ∨ l.getD (n - 1) 0 ≠ 0) : (D B (num B l)).length = n := by
  have e : num B l = num B (l.take n) := by rw [num_take_drop l n hn, h0]; simp
  have hl : num B l < B ^ n := by
    rw [e]; have := num_lt (bd_take h n); rwa [List.length_take, Nat.min_eq_left hn] at this
  refine Nat.le_antisymm ((D_len_le hB _ _).2 hl) ?_
  rcases Nat.lt_or_ge (D B (num B l)).length n with hlt | hge
  · exfalso
    have h2 := (D_len_le hB _ _).1 (Nat.le_refl (D B (num B l)).length)
    rcases h1 with h1 | h1
    · omega
    · apply h1
      rw [num_getD h (by omega), Nat.div_eq_of_lt, Nat.zero_mod]
      exact Nat.lt_of_lt_of_le h2 (Nat.pow_le_pow_right (by omega) (by omega))
  · exact hge
end
end Go.Proofs.Yteeifahhejangaa
namespace Go.Proofs.Yteeifahhejangaa
open Go Sim
section
variable {P : Program} {ops : Array Oper} {n i : Nat} {os : List Oper} {E : Env} {M : Mem} {D : List Eff → Prop} {K : ASt → Prop}
  {d : Tmp} {ty : TypeId} {ps : String} {af : Array Edge} {g : Option (Nat × Bool)} {o : Op} {x y ix : Operand} {t t' e : TypeId} {v : Value}
theorem yP (hs : PureOp P o E v) (hr : AWo P ops n (i + 1) os ⟨upd E d v, M⟩ (fun es => D (⟨[], []⟩ :: es)) K) (hw : wantA ops E ⟨some d, o, ty, ps, af, g⟩ = some true := by exact rfl) (hd : Nat.blt d n = true := by exact rfl) :
    AWo P ops n i (⟨some d, o, ty, ps, af, g⟩ :: os) ⟨E, M⟩ D K := AWo.pure hs hw hd hr
theorem yM (hr : AWo P ops n (i + 1) os ⟨upd E d v, M⟩ (fun es => D (⟨[], []⟩ :: es)) K) (h : aev E x = some v := by exact rfl) (hw : wantA ops E ⟨some d, .move x, ty, ps, af, g⟩ = some true := by exact rfl) (hd : Nat.blt d n = true := by exact rfl) :
    AWo P ops n i (⟨some d, .move x, ty, ps, af, g⟩ :: os) ⟨E, M⟩ D K := AWo.pure (PureOp.move h) hw hd hr
theorem yA (hr : AWo P ops n (i + 1) os ⟨upd E d v, M⟩ (fun es => D (⟨[], []⟩ :: es)) K) (h : aev E x = some v := by exact rfl) (hw : wantA ops E ⟨some d, .assign x, ty, ps, af, g⟩ = some true := by exact rfl) (hd : Nat.blt d n = true := by exact rfl) :
    AWo P ops n i (⟨some d, .assign x, ty, ps, af, g⟩ :: os) ⟨E, M⟩ D K := AWo.pure (PureOp.assign h) hw hd hr
theorem yK (hr : AWo P ops n (i + 1) os ⟨upd E d undef, M⟩ (fun es => D (⟨[], []⟩ :: es)) K) (hw : wantA ops E ⟨some d, o, ty, ps, af, g⟩ = some false := by exact rfl) (hd : Nat.blt d n = true := by exact rfl) :
    AWo P ops n i (⟨some d, o, ty, ps, af, g⟩ :: os) ⟨E, M⟩ D K := AWo.skipped hw hd hr
theorem yB {b : Bool} (hs : PureOp P o E (.bool b)) (hT : b = true → AWo P ops n (i + 1) os ⟨upd E d (.bool true), M⟩ (fun es => D (⟨[], []⟩ :: es)) K)
    (hF : b = false → AWo P ops n (i + 1) os ⟨upd E d (.bool false), M⟩ (fun es => D (⟨[], []⟩ :: es)) K) (hw : wantA ops E ⟨some d, o, ty, ps, af, g⟩ = some true := by exact rfl) (hd : Nat.blt d n = true := by exact rfl) :
    AWo P ops n i (⟨some d, o, ty, ps, af, g⟩ :: os) ⟨E, M⟩ D K := AWo.pureB hs hw hd hT hF
theorem pX {ix : Nat} {t : Operand} {vs : Array Value} (ht : aev E t = some (.tuple vs) := by exact rfl) (h : vs[ix]? = some v := by exact rfl) : PureOp P (.extract t ix) E v := PureOp.extract ht h
theorem pL {p : Option Addr} {k c : Nat} (h1 : aev E x = some (.slice p k c) := by exact rfl) (ht : Tb.sl.lookup t = some e := by exact rfl) : PureOp Try.prog (.call ⟨.builtin .len, #[x], #[t]⟩) E (.int .i64 k) := PureOp.lenS tbok h1 ht
theorem pI {id o n sz : Nat} {kd : IntKind} {j : Nat} (h1 : aev E x = some (.slice (some ⟨id, o, none⟩) n 0) := by exact rfl) (h2 : aev E ix = some (.int kd (j : Nat)) := by exact rfl)
    (ht : Tb.sl.lookup t = some e := by exact rfl) (hs : Tb.sz.lookup e = some sz := by exact rfl) (hi : j < n := by first | decide | omega) : PureOp Try.prog (.indexAddr t x ix) E (.pointer (some ⟨id, o + j * sz, none⟩)) :=
  PureOp.idxN tbok h1 h2 ht hs hi
theorem pJ {id n : Nat} {kd : IntKind} {j : Nat} (h1 : aev E x = some (.slice (some ⟨id, 0, none⟩) n 0) := by exact rfl) (h2 : aev E ix = some (.int kd (j : Nat)) := by exact rfl)
    (ht : Tb.sl.lookup t = some e := by exact rfl) (hs : Tb.sz.lookup e = some 1 := by exact rfl) (hi : j < n := by first | decide | omega) : PureOp Try.prog (.indexAddr t x ix) E (.pointer (some ⟨id, j, none⟩)) :=
  PureOp.idx1 tbok h1 h2 ht hs hi
theorem pA {id n : Nat} {kd : IntKind} {j : Nat} (h1 : aev E x = some (.pointer (some ⟨id, 0, none⟩)) := by exact rfl) (h2 : aev E ix = some (.int kd (j : Nat)) := by exact rfl)
    (ht : Tb.arr.lookup t = some (n, e) := by exact rfl) (hs : Tb.sz.lookup e = some 1 := by exact rfl) (hi : j < n := by first | decide | omega) : PureOp Try.prog (.indexAddr t x ix) E (.pointer (some ⟨id, j, none⟩)) :=
  PureOp.arr1 tbok h1 h2 ht hs hi
theorem pF {id o f off sz : Nat} (h1 : aev E x = some (.pointer (some ⟨id, o, none⟩)) := by exact rfl)
    (hf : Tb.fld.lookup (t, f) = some (off, t') := by exact rfl) (hs : Tb.sz.lookup t' = some sz := by exact rfl) (h0 : sz ≠ 0 := by decide) : PureOp Try.prog (.fieldAddr t x f) E (.pointer (some ⟨id, o + off, none⟩)) :=
  PureOp.fld tbok h1 hf hs h0
theorem pT {c a b : Operand} (hc : aev E c = some (.bool true) := by exact rfl) (h : aev E a = some v := by exact rfl) : PureOp P (.pick c a b) E v := PureOp.pickT hc h
theorem pE {c a b : Operand} (hc : aev E c = some (.bool false) := by exact rfl) (h : aev E b = some v := by exact rfl) : PureOp P (.pick c a b) E v := PureOp.pickF hc h
theorem pAdd {a b : Nat} (h1 : aev E x = some (vi .i64 a) := by exact rfl) (h2 : aev E y = some (vi .i64 b) := by exact rfl) (h : a + b < 9223372036854775808 := by first | decide | omega) :
    PureOp P (.binOp .add t x y t') E (vi .i64 (a + b)) := PureOp.addI h1 h2 h
theorem pSub {a b : Nat} (h1 : aev E x = some (vi .i64 a) := by exact rfl) (h2 : aev E y = some (vi .i64 b) := by exact rfl) (h : b ≤ a := by first | decide | omega) (ha : a < 9223372036854775808 := by first | decide | omega) :
    PureOp P (.binOp .sub t x y t') E (vi .i64 (a - b)) := PureOp.subI h1 h2 h ha
theorem pLt {k : IntKind} {a b : Nat} (h1 : aev E x = some (vi k a) := by exact rfl) (h2 : aev E y = some (vi k b) := by exact rfl) : PureOp P (.binOp .lss t x y t') E (.bool (decide (a < b))) := PureOp.ltN h1 h2
theorem pGt {k : IntKind} {a b : Nat} (h1 : aev E x = some (vi k a) := by exact rfl) (h2 : aev E y = some (vi k b) := by exact rfl) : PureOp P (.binOp .gtr t x y t') E (.bool (decide (b < a))) := PureOp.gtN h1 h2
theorem pEq {k : IntKind} {a b : Nat} (h1 : aev E x = some (vi k a) := by exact rfl) (h2 : aev E y = some (vi k b) := by exact rfl) : PureOp P (.binOp .eql t x y t') E (.bool (a == b)) := PureOp.eqN h1 h2
theorem pNe {k : IntKind} {a b : Nat} (h1 : aev E x = some (vi k a) := by exact rfl) (h2 : aev E y = some (vi k b) := by exact rfl) : PureOp P (.binOp .neq t x y t') E (.bool (a != b)) := PureOp.neN h1 h2
theorem yL1 {id o : Nat} {b : Blk} (hr : AWo Try.prog ops n (i + 1) os ⟨upd E d v, M⟩ (fun es => D (⟨[id], []⟩ :: es)) K) (ha : aev E x = some (.pointer (some ⟨id, o, none⟩)) := by exact rfl) (hb : M id = some b := by exact rfl)
    (ht : Tb.agg.lookup t = some false := by exact rfl) (hv : b.cells[o]? = some v := by exact rfl) (hw : wantA ops E ⟨some d, .load t x, ty, ps, af, g⟩ = some true := by exact rfl) (hd : Nat.blt d n = true := by exact rfl) :
    AWo Try.prog ops n i (⟨some d, .load t x, ty, ps, af, g⟩ :: os) ⟨E, M⟩ D K := AWo.load tbok ha hb ht hv hw hd hr
theorem yL {α : Type} {f : α → Value} {l : List α} (dflt : α) {rw : Bool} {es id o : Nat} (hr : AWo Try.prog ops n (i + 1) os ⟨upd E d (f (l.getD o dflt)), M⟩ (fun es => D (⟨[id], []⟩ :: es)) K)
    (ha : aev E x = some (.pointer (some ⟨id, o, none⟩)) := by exact rfl) (hb : M id = some ⟨l.map f, rw, es⟩ := by exact rfl) (ht : Tb.agg.lookup t = some false := by exact rfl) (ho : o < l.length := by first | decide | omega)
    (hw : wantA ops E ⟨some d, .load t x, ty, ps, af, g⟩ = some true := by exact rfl) (hd : Nat.blt d n = true := by exact rfl) : AWo Try.prog ops n i (⟨some d, .load t x, ty, ps, af, g⟩ :: os) ⟨E, M⟩ D K := AWo.loadM tbok dflt ha hb ht ho hw hd hr
theorem yLA {id sz : Nat} {cells : List Value} {rw : Bool} {es : Nat} (hr : AWo Try.prog ops n (i + 1) os ⟨upd E d (.agg cells.toArray), M⟩ (fun es => D (⟨[id], []⟩ :: es)) K)
    (ha : aev E x = some (.pointer (some ⟨id, 0, none⟩)) := by exact rfl) (hb : M id = some ⟨cells, rw, es⟩ := by exact rfl)
    (ht : Tb.agg.lookup t = some true := by exact rfl) (hs : Tb.sz.lookup t = some sz := by exact rfl) (hl : cells.length = sz := by first | (simp [*]; done) | rfl) (hw : wantA ops E ⟨some d, .load t x, ty, ps, af, g⟩ = some true := by exact rfl) (hd : Nat.blt d n = true := by exact rfl) :
    AWo Try.prog ops n i (⟨some d, .load t x, ty, ps, af, g⟩ :: os) ⟨E, M⟩ D K := AWo.loadAll tbok ha hb ht hs hl hw hd hr
theorem yS {α : Type} (f : α → Value) {l : List α} {z : α} {es id o : Nat} (hr' : AWo Try.prog ops n (i + 1) os ⟨E, upd M id ⟨(l.set o z).map f, true, es⟩⟩ (fun es' => D (⟨[id], [(id, ⟨(l.set o z).map f, true, es⟩)]⟩ :: es')) K)
    (ha : aev E x = some (.pointer (some ⟨id, o, none⟩)) := by exact rfl) (hx : aev E y = some (f z) := by exact rfl)
    (hb : M id = some ⟨l.map f, true, es⟩ := by exact rfl) (hs : Tb.sz.lookup t = some 1 := by exact rfl) (ho : o < l.length := by first | decide | omega) (hc : (f z).oneCell' = true := by exact rfl)
    (hw : wantA ops E ⟨none, .store t x y, ty, ps, af, g⟩ = some true := by exact rfl) : AWo Try.prog ops n i (⟨none, .store t x y, ty, ps, af, g⟩ :: os) ⟨E, M⟩ D K := AWo.storeM tbok ha hx hb hs ho hc hw hr'
theorem ySA {id sz : Nat} {cells : List Value} {es : Nat} {vs : List Value} (hr' : AWo Try.prog ops n (i + 1) os ⟨E, upd M id ⟨vs, true, es⟩⟩ (fun es' => D (⟨[id], [(id, ⟨vs, true, es⟩)]⟩ :: es')) K)
    (ha : aev E x = some (.pointer (some ⟨id, 0, none⟩)) := by exact rfl) (hx : aev E y = some (.agg vs.toArray) := by exact rfl) (hb : M id = some ⟨cells, true, es⟩ := by exact rfl) (hs : Tb.sz.lookup t = some sz := by exact rfl)
    (h1 : vs.length = sz := by first | (simp [*]; done) | rfl) (h2 : cells.length = sz := by first | (simp [*]; done) | rfl) (hc : vs.all (·.oneCell') = true := by first | exact oneM (fun _ => rfl) _ | rfl | (simp; done))
    (hw : wantA ops E ⟨none, .store t x y, ty, ps, af, g⟩ = some true := by exact rfl) : AWo Try.prog ops n i (⟨none, .store t x y, ty, ps, af, g⟩ :: os) ⟨E, M⟩ D K := AWo.storeAllN tbok ha hx hb hs h1 h2 hc hw hr'
theorem yN {z : Value} (id es : Nat) (cells : List Value) (hr : AWo Try.prog ops n (i + 1) os ⟨upd E d (.pointer (some ⟨id, 0, none⟩)), upd M id ⟨cells, true, es⟩⟩ (fun es' => D (⟨[], [(id, ⟨cells, true, es⟩)]⟩ :: es')) K)
    (hz : Tb.zero.lookup t = some z := by exact rfl) (hf : z.cells.toList.all flatV = true := by exact rfl) (hc : z.cells.toList = cells := by exact rfl) (hid : M id = none := by exact rfl)
    (hw : wantA ops E ⟨some d, .alloc t, ty, ps, af, g⟩ = some true := by exact rfl) (hd : Nat.blt d n = true := by exact rfl) : AWo Try.prog ops n i (⟨some d, .alloc t, ty, ps, af, g⟩ :: os) ⟨E, M⟩ D K := AWo.alloc tbok id es cells hz hf hc hid hw hd hr
theorem yO (id es : Nat) (cells : List Value) (hr : AWo P ops n (i + 1) os ⟨upd E d (.pointer (some ⟨id, 0, none⟩)), upd M id ⟨cells, true, es⟩⟩ (fun es' => D (⟨[], [(id, ⟨cells, true, es⟩)]⟩ :: es')) K)
    (hx : aev E x = some v := by exact rfl) (hc : v.cells.toList = cells := by exact rfl) (hid : M id = none := by exact rfl)
    (hw : wantA ops E ⟨some d, .box t x, ty, ps, af, g⟩ = some true := by exact rfl) (hd : Nat.blt d n = true := by exact rfl) : AWo P ops n i (⟨some d, .box t x, ty, ps, af, g⟩ :: os) ⟨E, M⟩ D K := AWo.box id es cells hx hc hid hw hd hr
end
section
variable {P : Program} {n m : Nat} {σ : ASt} {Q : Exit → ASt → Prop} {ops : Array Oper} {i id l : Nat} {K Y : ASt → Prop} {D : List Eff → Prop} {a b : Code} {c : Operand}
theorem zN (hK : K σ) (hD : D [] := by exact trivial) : AWo P ops n i [] σ D K := AWo.nil hD hK
theorem zD (hK : K σ) (hD : D [] := by kernel_rfl) : AWo P ops n i [] σ D K := AWo.nil hD hK
theorem zS (h : AWo P ops n 0 ops.toList σ (fun _ => True) (fun σ' => AW P n m b σ' Q)) : AW P n m (.seq (.region id ops false) b) σ Q := AW.seqR h
theorem zR (h : AWo P ops n 0 ops.toList σ (fun _ => True) (Q .normal)) : AW P n m (.region id ops false) σ Q := AW.region h
theorem zQ (h : AW P n m a σ (thenA (fun σ' => AW P n m b σ' Q) Q)) : AW P n m (.seq a b) σ Q := AW.seq h
theorem zT (h : Y σ) : thenA Y Q .normal σ := h
theorem zV (h : Q (.exit id) σ) : thenA Y Q (.exit id) σ := h
theorem zU (h : Q .ret σ) : thenA Y Q .ret σ := h
theorem zL (h : Q .normal σ) : inBlockA id Q .normal σ := h
theorem zI (h : Q .ret σ) : inBlockA id Q .ret σ := h
theorem zH (h : Q .normal σ) : inBlockA id Q (.exit id) σ := inBlockA_hit h
theorem zK (h : Q .normal σ) : AW P n m .skip σ Q := AW.skip h
theorem zB (h : AW P n m a σ (inBlockA id Q)) : AW P n m (.block id a) σ Q := AW.block h
theorem zX (h : Q (.exit id) σ) : AW P n m (.exit id) σ Q := AW.exit h
theorem zE (h : Q .ret σ) : AW P n m .ret σ Q := AW.ret h
theorem zC (h : AW P n m a σ Q) (hc : aev σ.env c = some (.bool true) := by exact rfl) : AW P n m (.cond c a b) σ Q := AW.condT hc h
theorem zF (h : AW P n m b σ Q) (hc : aev σ.env c = some (.bool false) := by exact rfl) : AW P n m (.cond c a b) σ Q := AW.condF hc h
theorem zA {b' : Bool} (ht : b' = true → AW P n m a σ Q) (hf : b' = false → AW P n m b σ Q) (hc : aev σ.env c = some (.bool b') := by exact rfl) : AW P n m (.cond c a b) σ Q := AW.cond hc ht hf
end
theorem gi {f : FuncId} {fn : Func} {c : Code} {vs rv : List Value} {M0 Mo : List Blk} (hf : Try.prog.funcs[f]? = some fn)
    (h : AW Try.prog fn.ntmps M0.length c ⟨envL vs, memL M0⟩ (RetQ Try.prog fn M0.length (oneV rv) Mo))
    (hb : fn.body = some c := by exact rfl) (hlen : vs.length ≤ fn.ntmps := by exact of_decide_eq_true rfl) (hM : M0.length ≤ Mo.length := by first | exact Nat.le_refl _ | decide | simp) : GC Try.prog f vs M0 rv Mo :=
  GC.intro hf hb hlen hM h
def WkI (_ : List Nat) (Dm : Nat → Prop) (fm : List (Nat × Nat)) (M N : Mem) : Prop := WkM Dm fm M N
theorem WkI.ren {Dm : Nat → Prop} {fm : List (Nat × Nat)} {M N : Mem} {i : Nat} {cells c' : List Value} {rw rw' : Bool} {es : Nat} {ids : List Nat} (h1 : M ((fm.lookup i).getD i) = some ⟨c', rw', es⟩) (hc : cells.map (ren1 (idm fm)) = c')
    (hok : cells.all (okI ids) = true) (hD : ∀ i ∈ ids, Dm i) (h3 : rw = true → rw' = true) (h : WkI ids Dm fm M N) : WkI ids Dm fm M (Sim.upd N i ⟨cells, rw, es⟩) := WkM.ren ids h1 hc hok hD h3 h
theorem WkI.flat {Dm : Nat → Prop} {fm : List (Nat × Nat)} {M N : Mem} {i : Nat} {cells : List Value} {rw rw' : Bool} {es : Nat} {ids : List Nat} (h1 : M ((fm.lookup i).getD i) = some ⟨cells, rw', es⟩)
    (hf : ∀ v ∈ cells, flatV v = true) (h3 : rw = true → rw' = true) (h : WkI ids Dm fm M N) : WkI ids Dm fm M (Sim.upd N i ⟨cells, rw, es⟩) := WkM.flat h1 hf h3 h
theorem WkI.flatM {α : Type} {f : α → Value} {l l' : List α} {Dm : Nat → Prop} {fm : List (Nat × Nat)} {M N : Mem} {i : Nat} {rw rw' : Bool} {es : Nat} {ids : List Nat} (h1 : M ((fm.lookup i).getD i) = some ⟨l'.map f, rw', es⟩)
    (he : l = l') (hf : ∀ x, flatV (f x) = true) (h3 : rw = true → rw' = true) (h : WkI ids Dm fm M N) : WkI ids Dm fm M (Sim.upd N i ⟨l.map f, rw, es⟩) := WkM.flatM h1 he hf h3 h
theorem WkI.cloM {α : Type} {f : α → Value} {l l' : List α} {Dm : Nat → Prop} {fm : List (Nat × Nat)} {M N : Mem} {i : Nat} {rw rw' : Bool} {es : Nat} {ids : List Nat} (h1 : M ((fm.lookup i).getD i) = some ⟨l'.map f, rw', es⟩)
    (he : l = l') (hf : ∀ x, cloV (f x) = true) (h3 : rw = true → rw' = true) (h : WkI ids Dm fm M N) : WkI ids Dm fm M (Sim.upd N i ⟨l.map f, rw, es⟩) := WkM.cloM h1 he hf h3 h
theorem wk {m : Nat} {fm : List (Nat × Nat)} {σ : ASt} {F : Env} {N : Mem} (ids : List Nat)
    (hE : WkE (dom N) fm σ.env F := by
      repeat (first
        | exact WkE.emp
        | refine WkE.upd rfl (.slice _ _ _ 0 ⟨_, rfl⟩ (by simp) (by simp)) ?_
        | refine WkE.upd rfl (.ptr _ _ ⟨_, rfl⟩) ?_
        | refine WkE.upd rfl (VR.flat _ rfl) ?_
        | refine WkE.upd rfl (clo_refl (by simp) rfl) ?_
        | refine WkE.upd rfl (.nilS _ (by simp)) ?_
        | refine WkE.upd rfl (.deepN _ (by simp)) ?_
        | refine WkE.upd rfl (VR.pure rfl) ?_
        | refine WkE.upd rfl (VR.aggM flat_vi) ?_
        | refine WkE.upd rfl (VR.eqv (vp_succ _) rfl) ?_
        | refine WkE.upd rfl (VR.eqv (vp_succ _).symm rfl) ?_
        | refine WkE.upd rfl (VR.eqv (by first | rfl | (congr 1; omega) | (simp; done) | (simp; omega)) rfl) ?_))
    (hM : WkI ids (dom N) fm σ.mem N := by
      repeat (first
        | exact WkM.emp
        | refine WkI.flatM rfl rfl flat_vi (fun h => h) ?_
        | refine WkI.flatM rfl rfl (fun _ => rfl) (fun h => h) ?_
        | refine WkI.cloM rfl rfl (fun _ => rfl) (fun h => h) ?_
        | refine WkI.ren rfl rfl rfl (dom_all rfl) (fun h => h) ?_
        | refine WkI.flatM rfl (by first | assumption | simp) (fun _ => rfl) (fun h => h) ?_
        | refine WkI.flat rfl (by simp [flatV, flat_vi]) (fun h => h) ?_))
    (hids : ∀ i, dom N i → i ∈ ids := by
      repeat (refine dom_upd_mem (by decide) ?_)
      exact dom_emp)
    (hnd : (ids.map fun i => (fm.lookup i).getD i).Nodup := by decide) (hlow : ((List.range m).all fun i => (N i).isSome && (fm.lookup i).getD i == i) = true := by exact rfl) : Wk m fm σ ⟨F, N⟩ :=
  Wk.of ids hE hM hids hnd hlow
theorem rq {fn : Func} {e : Exit} {σ : ASt} {m : Nat} {rv vs : List Value} {Mo : List Blk} (nids : List Nat) (rvs : List ResultVar) (he : e = .ret ∨ e = .normal := by first | exact .inl rfl | exact .inr rfl)
    (hr : fn.results = rvs.toArray := by exact rfl)
    (hv : RVs Try.prog σ rvs vs := by
      repeat (first
        | exact .nil
        | (apply RVs.tmp; exact rfl)
        | (apply RVs.val; exact RVal.cell1 tbok rfl rfl rfl rfl)
        | (apply RVs.val; exact RVal.cellAll tbok rfl rfl rfl rfl (by first | (simp [*]; done) | rfl))))
    (hl : Mo.length = m + nids.length := by exact rfl)
    (hres : RelL (hmap m nids) Mo.length rv vs := by
      repeat (first
        | exact .nil
        | refine .pure (pure_aggM flat_vi) ?_
        | refine .pure (pure_aggM flat_bool) ?_
        | refine .cons rfl rfl ?_
        | refine .nilS ?_
        | refine .deepN ?_
        | refine .pure rfl ?_))
    (hb : OutL m nids σ.mem Mo.length 0 Mo := by
      repeat (first
        | exact trivial
        | refine OutL.flat rfl (flatM flat_vi) (by intro h; first | rfl | exact h.elim id fun h => absurd h.1 (by simp)) ?_
        | refine OutL.clo rfl (cloM fun _ => rfl) (by intro h; first | rfl | exact h.elim id fun h => absurd h.1 (by simp)) ?_
        | refine OutL.flat rfl (flatM flat_bool) (by intro h; first | rfl | exact h.elim id fun h => absurd h.1 (by simp)) ?_
        | refine OutL.flat rfl (by simp [flatV, flat_vi]; done) (by intro h; first | rfl | exact h.elim id fun h => absurd h.1 (by simp)) ?_
        | refine OutL.whole rfl rfl (OkL.all rfl) (by intro h; first | rfl | exact h.elim id fun h => absurd h.1 (by simp)) ?_))
    (hnd : nids.Nodup := by decide) (hfar : (nids.all fun i => Nat.ble m i) = true := by exact rfl) : RetQ Try.prog fn m (oneV rv) Mo e σ :=
  RetQ.gc vs nids rvs he hr hv hl hres hb hnd hfar
section
variable {P : Program} {ops : Array Oper} {n i : Nat} {os : List Oper} {E : Env} {M : Mem} {D : List Eff → Prop} {K : ASt → Prop}
  {d : Option Tmp} {ty : TypeId} {ps : String} {af : Array Edge} {gd : Option (Nat × Bool)} {f : FuncId} {aops : Array Operand} {tys : Array TypeId} {vals : List Value} {fop : Operand}
theorem yC {vs rv rv' : List Value} {M0 Mo : List Blk} (S : Ctr P f vs M0 (oneV rv) Mo) (hb : Bodied P f) (g : List (Nat × Nat)) (nids : List Nat) {new : List (Nat × Blk)} {fs cs : Array Value} {allv : List Value} {v : Value} {M' : Mem}
    (hr : AWo P ops n (i + 1) os ⟨putE E d v, M'⟩ (fun es => D (⟨g.map (·.1), new⟩ :: es)) K)
    (hf : aev E fop = some (.func (.func f) fs cs) := by exact rfl)
    (hx : Evs E aops.toList vals := by
      repeat (first | exact .nil | (apply Evs.cons; exact rfl)))
    (hall : fs.toList ++ vals ++ cs.toList = allv := by exact rfl)
    (hargs : RelL (gmap g nids) M0.length vs allv := by
      repeat (first
        | exact .nil
        | refine .pure (pure_aggM flat_vi) ?_
        | refine .pure (pure_aggM flat_bool) ?_
        | refine .cons rfl rfl ?_
        | refine .nilS ?_
        | refine .deepN ?_
        | refine .pure rfl ?_))
    (hfit : FitL (gmap g nids) M0.length M M0 g := by
      repeat (first
        | exact .nil
        | refine .flat rfl (flatM flat_vi) (by intro h; first | exact h | rfl) ?_
        | refine .clo rfl (cloM fun _ => rfl) (by intro h; first | exact h | rfl) ?_
        | refine .flat rfl (flatM flat_bool) (by intro h; first | exact h | rfl) ?_
        | refine .flat rfl (by simp [flatV, flat_vi]; done) (by intro h; first | exact h | rfl) ?_
        | refine .whole rfl rfl (OkL.all rfl) (by intro h; first | exact h | rfl) ?_))
    (hl : loneB M0 g = true := by exact rfl)
    (hnew : NewL (gmap g nids) Mo.length M0 Mo g nids new := by
      repeat (first
        | exact .nil
        | (apply NewL.keep; exact rfl)
        | (apply NewL.gone; exact rfl; exact rfl; exact OkL.flat (by simp; done))
        | (apply NewL.chg; exact rfl; exact rfl; exact flat_map_ren (flatM flat_vi); exact OkL.flat (flatM flat_vi))
        | (apply NewL.new; exact flat_map_ren (flatM flat_vi); exact OkL.flat (flatM flat_vi))
        | (apply NewL.new; exact clo_map_ren (cloM fun _ => rfl); exact OkL.clo (cloM fun _ => rfl))
        | (apply NewL.new; exact flat_map_ren (flatM flat_bool); exact OkL.flat (flatM flat_bool))
        | (apply NewL.new; exact rfl; exact OkL.all rfl)))
    (hfr : ∀ i ∈ nids, M i = none := by
      repeat (first | exact frN | refine frC rfl ?_))
    (hnd : nids.Nodup := by decide)
    (hrv : RelR (gmap g nids) Mo.length rv rv' := by
      repeat (first
        | exact .nil
        | (apply RelR.pure; exact pure_aggM flat_vi)
        | (apply RelR.pure; exact pure_aggM flat_bool)
        | (apply RelR.cons; exact rfl; exact rfl)
        | (apply RelR.pure; exact rfl)))
    (hv : oneV rv' = v := by exact rfl) (hM : upds M new = M' := by exact rfl)
    (hw : wantA ops E ⟨d, .call ⟨.value fop, aops, tys⟩, ty, ps, af, gd⟩ = some true := by exact rfl) (hd : dstB n d = true := by exact rfl) :
    AWo P ops n i (⟨d, .call ⟨.value fop, aops, tys⟩, ty, ps, af, gd⟩ :: os) ⟨E, M⟩ D K :=
  AWo.callX S hb g nids hf hx hall hargs hfit hl hnew hfr hnd hrv hv hM hw hd hr
end
end Go.Proofs.Yteeifahhejangaa
namespace Go.Proofs.Yteeifahhejangaa
open Go Sim
theorem add64_run (x y c : Nat) (hc : c ≤ 1) (w : World) : (callFunc 129 #[vi .u64 x, vi .u64 y, vi .u64 c]).run Try.prog w =
   .ok (.value (.tuple #[vi .u64 ((x + y + c) % 18446744073709551616), vi .u64 ((x + y + c) / 18446744073709551616)])) w := by
  simp only [vi]
  rw [run_callFunc_extern (fn := Try.f129) (by kernel_rfl) (by kernel_rfl) (by kernel_rfl) (by kernel_rfl) (e := add64Entry) (by kernel_rfl), run_add64 x y c (by omega) (by omega) (by omega) (by omega)]
  simp only [Result.andThen]
  congr 5 <;> omega
theorem add64 {aops : Array Operand} {tys : Array TypeId} {E : Env} {x y c : Nat} {fop : Operand} (hf : aev E fop = some (.func (.func 129) #[] #[])) (hv : aops.toList.map (aev E) = [some (vi .u64 x), some (vi .u64 y), some (vi .u64 c)]) (hc : c ≤ 1) :
    PureOp Try.prog (.call ⟨.value fop, aops, tys⟩) E (.tuple #[vi .u64 ((x + y + c) % 18446744073709551616), vi .u64 ((x + y + c) / 18446744073709551616)]) :=
  PureOp.extern (f := 129) (vals := [vi .u64 x, vi .u64 y, vi .u64 c]) hf hv rfl (.inr rfl) (add64_run x y c hc)
def sub64E : Array Value → Sem Value := fun args => do
  let (x, y, b) ← Extern.MathBitsCarry.three "Sub64" args
  pure (Extern.MathBitsCarry.pair ((x + Extern.MathBitsCarry.m64 - y - b) % Extern.MathBitsCarry.m64) (if x < y + b then 1 else 0))
theorem sub64_run (x y c : Nat) (hc : c ≤ 1) (w : World) : (callFunc 143 #[vi .u64 x, vi .u64 y, vi .u64 c]).run Try.prog w =
   .ok (.value (.tuple #[vi .u64 ((x + 18446744073709551616 - y - c) % 18446744073709551616), vi .u64 (if x < y + c then 1 else 0)])) w := by
  simp only [vi]
  rw [run_callFunc_extern (fn := Try.f143) (by kernel_rfl) (by kernel_rfl) (by kernel_rfl) (by kernel_rfl) (e := sub64E) (by kernel_rfl)]
  have : c = 0 ∨ c = 1 := by omega
  rcases this with rfl | rfl <;> rfl
theorem sub64 {aops : Array Operand} {tys : Array TypeId} {E : Env} {x y c : Nat} {fop : Operand} (hf : aev E fop = some (.func (.func 143) #[] #[])) (hv : aops.toList.map (aev E) = [some (vi .u64 x), some (vi .u64 y), some (vi .u64 c)]) (hc : c ≤ 1) :
    PureOp Try.prog (.call ⟨.value fop, aops, tys⟩) E (.tuple #[vi .u64 ((x + 18446744073709551616 - y - c) % 18446744073709551616), vi .u64 (if x < y + c then 1 else 0)]) :=
  PureOp.extern (f := 143) (vals := [vi .u64 x, vi .u64 y, vi .u64 c]) hf hv rfl (.inr rfl) (sub64_run x y c hc)
theorem and32 {P : Program} {E : Env} {t t' : TypeId} {x y : Operand} {a : Nat} (h1 : aev E x = some (vi .u64 a)) (h2 : aev E y = some (vi .u64 4294967295)) (ha : a < 18446744073709551616) : PureOp P (.binOp .and t x y t') E (vi .u64 (a % 4294967296)) :=
  (PureOp.andN 18446744073709551616 h1 h2 (by decide) (by decide) ha (by decide)).mono (by
    rw [show (4294967295 : Nat) = 2 ^ 32 - 1 by decide, Nat.and_two_pow_sub_one_eq_mod])
theorem prod_le (x y : Nat) (hx : x < 18446744073709551616) (hy : y < 18446744073709551616) : x % 4294967296 * (y % 4294967296) ≤ 18446744065119617025 ∧ x / 4294967296 * (y % 4294967296) ≤ 18446744065119617025 ∧
    x % 4294967296 * (y / 4294967296) ≤ 18446744065119617025 ∧ x / 4294967296 * (y / 4294967296) ≤ 18446744065119617025 ∧
    x * y = x / 4294967296 * (y / 4294967296) * 18446744073709551616 + x / 4294967296 * (y % 4294967296) * 4294967296 + x % 4294967296 * (y / 4294967296) * 4294967296 + x % 4294967296 * (y % 4294967296) := by
  have h1 : x % 4294967296 ≤ 4294967295 := by omega
  have h2 : x / 4294967296 ≤ 4294967295 := by omega
  have h3 : y % 4294967296 ≤ 4294967295 := by omega
  have h4 : y / 4294967296 ≤ 4294967295 := by omega
  refine ⟨Nat.mul_le_mul h1 h3, Nat.mul_le_mul h2 h3, Nat.mul_le_mul h1 h4, Nat.mul_le_mul h2 h4, ?_⟩
  have e1 : x = x / 4294967296 * 4294967296 + x % 4294967296 := by omega
  have e2 : y = y / 4294967296 * 4294967296 + y % 4294967296 := by omega
  conv => lhs; rw [e1, e2]
  generalize x / 4294967296 = a
  generalize x % 4294967296 = b
  generalize y / 4294967296 = c
  generalize y % 4294967296 = d
  grind
set_option maxRecDepth 10000 in
theorem mul64 {x y : Nat} (hx : x < 18446744073709551616) (hy : y < 18446744073709551616) : GC Try.prog 146 [vi .u64 (x), vi .u64 (y)] [] [vi .u64 (x * y / 18446744073709551616), vi .u64 (x * y % 18446744073709551616)] [] := by
  refine gi Try.func146 ?_
  have h1 := prod_le x y hx hy
  obtain ⟨h1, h2, h3, h4, h5⟩ := h1
  refine zS ?_
  refine yA ?_
  refine yA ?_
  refine zN (zS ?_)
  refine yM ?_
  refine yP (and32 rfl rfl hx) ?_
  refine yA ?_
  refine zN (zS ?_)
  refine yM ?_
  refine yP ((PureOp.shrN (b := 32) 64 rfl rfl rfl (by decide)).mono (v' := vi .u64 (x / 4294967296)) rfl) ?_
  refine yA ?_
  refine zN (zS ?_)
  refine yM ?_
  refine yP (and32 rfl rfl hy) ?_
  refine yA ?_
  refine zN (zS ?_)
  refine yM ?_
  refine yP ((PureOp.shrN (b := 32) 64 rfl rfl rfl (by decide)).mono (v' := vi .u64 (y / 4294967296)) rfl) ?_
  refine yA ?_
  refine zN (zS ?_)
  refine yM ?_
  refine yM ?_
  refine yP ((PureOp.mulU 18446744073709551616 rfl rfl rfl rfl).mono (v' := vi .u64 ((x % 4294967296) * (y % 4294967296))) (by rw [Nat.mod_eq_of_lt (by omega)])) ?_
  refine yA ?_
  refine zN (zS ?_)
  refine yM ?_
  refine yM ?_
  refine yP ((PureOp.mulU 18446744073709551616 rfl rfl rfl rfl).mono (v' := vi .u64 ((x / 4294967296) * (y % 4294967296))) (by rw [Nat.mod_eq_of_lt (by omega)])) ?_
  refine yM ?_
  refine yP ((PureOp.shrN (b := 32) 64 rfl rfl rfl (by decide)).mono (v' := vi .u64 ((x % 4294967296) * (y % 4294967296) / 4294967296)) rfl) ?_
  refine yP ((PureOp.addU 18446744073709551616 rfl rfl rfl rfl).mono (v' := vi .u64 ((x / 4294967296) * (y % 4294967296) + (x % 4294967296) * (y % 4294967296) / 4294967296)) (by rw [Nat.mod_eq_of_lt (by omega)])) ?_
  refine yA ?_
  refine zN (zS ?_)
  refine yM ?_
  refine yP (and32 rfl rfl (by omega)) ?_
  refine yA ?_
  refine zN (zS ?_)
  refine yM ?_
  refine yP ((PureOp.shrN (b := 32) 64 rfl rfl rfl (by decide)).mono (v' := vi .u64 (((x / 4294967296) * (y % 4294967296) + (x % 4294967296) * (y % 4294967296) / 4294967296) / 4294967296)) rfl) ?_
  refine yA ?_
  refine zN (zS ?_)
  refine yM ?_
  refine yM ?_
  refine yM ?_
  refine yP ((PureOp.mulU 18446744073709551616 rfl rfl rfl rfl).mono (v' := vi .u64 ((x % 4294967296) * (y / 4294967296))) (by rw [Nat.mod_eq_of_lt (by omega)])) ?_
  refine yP ((PureOp.addU 18446744073709551616 rfl rfl rfl rfl).mono (v' := vi .u64 (((x / 4294967296) * (y % 4294967296) + (x % 4294967296) * (y % 4294967296) / 4294967296) % 4294967296 + (x % 4294967296) * (y / 4294967296))) (by rw [Nat.mod_eq_of_lt (by omega)])) ?_
  refine yA ?_
  refine zN (zS ?_)
  refine yM ?_
  refine yM ?_
  refine yP ((PureOp.mulU 18446744073709551616 rfl rfl rfl rfl).mono (v' := vi .u64 ((x / 4294967296) * (y / 4294967296))) (by rw [Nat.mod_eq_of_lt (by omega)])) ?_
  refine yM ?_
  refine yP ((PureOp.addU 18446744073709551616 rfl rfl rfl rfl).mono (v' := vi .u64 ((x / 4294967296) * (y / 4294967296) + ((x / 4294967296) * (y % 4294967296) + (x % 4294967296) * (y % 4294967296) / 4294967296) / 4294967296)) (by rw [Nat.mod_eq_of_lt (by omega)])) ?_
  refine yM ?_
  refine yP ((PureOp.shrN (b := 32) 64 rfl rfl rfl (by decide)).mono (v' := vi .u64 ((((x / 4294967296) * (y % 4294967296) + (x % 4294967296) * (y % 4294967296) / 4294967296) % 4294967296 + (x % 4294967296) * (y / 4294967296)) / 4294967296)) rfl) ?_
  refine yP ((PureOp.addU 18446744073709551616 rfl rfl rfl rfl).mono (v' := vi .u64 (x * y / 18446744073709551616)) (by rw [Nat.mod_eq_of_lt (by omega)]; congr 1; omega)) ?_
  refine yA ?_
  refine zN (zS ?_)
  refine yM ?_
  refine yM ?_
  refine yP (PureOp.mulU 18446744073709551616 rfl rfl rfl rfl) ?_
  refine yA ?_
  refine zN (zE ?_)
  exact rq [] [.tmp 4, .tmp 5]
end Go.Proofs.Yteeifahhejangaa
namespace Go.Proofs.Yteeifahhejangaa
open Go Sim
def cmpI (a b : Nat) : Int := if a < b then -1 else if b < a then 1 else 0
section
variable {B : Nat}
theorem getD_ge {l : List Nat} {i : Nat} (h : l.length ≤ i) : l.getD i 0 = 0 := by
  rw [List.getD_eq_getElem?_getD, List.getElem?_eq_none h]; rfl
theorem top_lt {a c r : Nat} (h : a / B ^ (r + 1) = c / B ^ (r + 1)) (hd : a / B ^ r % B < c / B ^ r % B) : a < c := by
  rcases Nat.lt_or_ge a c with h1 | h1
  · exact h1
  · exfalso
    have h2 := Nat.div_le_div_right (c := B ^ r) h1
    rw [Nat.pow_succ, ← Nat.div_div_eq_div_mul, ← Nat.div_div_eq_div_mul] at h
    have e1 := Nat.div_add_mod (a / B ^ r) B
    have e2 := Nat.div_add_mod (c / B ^ r) B
    rw [h] at e1
    omega
theorem top_eq {a c r : Nat} (h : a / B ^ (r + 1) = c / B ^ (r + 1)) (hd : a / B ^ r % B = c / B ^ r % B) : a / B ^ r = c / B ^ r := by
  rw [Nat.pow_succ, ← Nat.div_div_eq_div_mul, ← Nat.div_div_eq_div_mul] at h
  have e1 := Nat.div_add_mod (a / B ^ r) B
  have e2 := Nat.div_add_mod (c / B ^ r) B
  rw [h, hd] at e1
  omega
theorem div_big {l : List Nat} (h : bd B l) (hB : 0 < B) {n : Nat} (hn : l.length ≤ n) : num B l / B ^ n = 0 :=
  Nat.div_eq_of_lt (Nat.lt_of_lt_of_le (num_lt h) (Nat.pow_le_pow_right hB hn))
theorem num_lt_pow {l : List Nat} (h : bd B l) (hB : 0 < B) {n : Nat} (hn : l.length ≤ n) : num B l < B ^ n := Nat.lt_of_lt_of_le (num_lt h) (Nat.pow_le_pow_right hB hn)
theorem add_step {l : List Nat} {i a b c x y : Nat} (hl : l.length = i) (h : num B l + B ^ i * c = a % B ^ i + b % B ^ i) (hx : x = a / B ^ i % B) (hy : y = b / B ^ i % B) :
    num B (l ++ [(x + y + c) % B]) + B ^ (i + 1) * ((x + y + c) / B) = a % B ^ (i + 1) + b % B ^ (i + 1) := by
  rw [num_append, hl, mod_succ a, mod_succ b, ← hx, ← hy]
  simp only [num, Nat.mul_zero, Nat.add_zero, Nat.pow_succ]
  have e := Nat.mod_add_div (x + y + c) B
  have e2 : B ^ i * ((x + y + c) % B) + B ^ i * B * ((x + y + c) / B) = B ^ i * (x + y + c) := by rw [Nat.mul_assoc, ← Nat.mul_add, e]
  have e3 : B ^ i * (x + y + c) = B ^ i * x + B ^ i * y + B ^ i * c := by rw [Nat.mul_add, Nat.mul_add]
  omega
theorem sub_step {l : List Nat} {i a b c x y : Nat} (hl : l.length = i) (h : num B l + b % B ^ i = a % B ^ i + B ^ i * c) (hx : x = a / B ^ i % B) (hy : y = b / B ^ i % B) (hyB : y < B) (hc : c ≤ 1) :
    num B (l ++ [(B + x - y - c) % B]) + b % B ^ (i + 1) = a % B ^ (i + 1) + B ^ (i + 1) * (1 - (B + x - y - c) / B) := by
  have hxB : x < B := by rw [hx]; exact Nat.mod_lt _ (by omega)
  rw [num_append, hl, mod_succ a, mod_succ b, ← hx, ← hy]
  simp only [num, Nat.mul_zero, Nat.add_zero, Nat.pow_succ]
  rcases Nat.lt_or_ge (B + x - y - c) B with h1 | h1
  · rw [Nat.mod_eq_of_lt h1, Nat.div_eq_of_lt h1]
    have e : B ^ i * (B + x - y - c) + B ^ i * y + B ^ i * c = B ^ i * B + B ^ i * x := by
      rw [← Nat.mul_add, ← Nat.mul_add, ← Nat.mul_add]; congr 1; omega
    simp only [Nat.sub_zero, Nat.mul_one]
    omega
  · have e1 : (B + x - y - c) % B = x - y - c := by rw [Nat.mod_eq_sub_mod h1, Nat.mod_eq_of_lt (by omega)]; omega
    have e2 : (B + x - y - c) / B = 1 := by
      rw [Nat.div_eq_of_lt_le (k := 1)] <;> omega
    rw [e1, e2]
    have e : B ^ i * (x - y - c) + B ^ i * y + B ^ i * c = B ^ i * x := by
      rw [← Nat.mul_add, ← Nat.mul_add]; congr 1; omega
    simp only [Nat.sub_self, Nat.mul_zero, Nat.add_zero]
    omega
theorem map_snoc (k : IntKind) (l : List Nat) (x : Nat) : l.map (vi k) ++ [vi k x] = (l ++ [x]).map (vi k) := by simp
theorem dpart (hB : 2 ≤ B) {k : IntKind} {l : List Nat} {v : Nat} (h : bd B l) (hv : num B l = v) : (l.map (vi k)).take ((D B v).map (vi k)).length = (D B v).map (vi k) := by
  subst hv
  rw [List.length_map, ← List.map_take, ← D_take hB h]
theorem dpart_len (hB : 2 ≤ B) {k : IntKind} {l : List Nat} {v : Nat} (h : bd B l) (hv : num B l = v) : ((D B v).map (vi k)).length ≤ (l.map (vi k)).length := by
  subst hv
  rw [List.length_map, List.length_map]
  exact (D_len_le hB _ _).2 (num_lt h)
theorem drop_zero_step {l : List Nat} {n : Nat} (h : num B (l.drop n) = 0) (hn : 0 < n) (hln : n ≤ l.length) (h0 : l.getD (n - 1) 0 = 0) : num B (l.drop (n - 1)) = 0 := by
  rw [List.drop_eq_getElem_cons (i := n - 1) (by omega)]
  have e : l[n - 1] = 0 := by
    rw [List.getD_eq_getElem?_getD, List.getElem?_eq_getElem (by omega)] at h0; exact h0
  simp only [num, e, Nat.zero_add]
  rw [show n - 1 + 1 = n by omega, h, Nat.mul_zero]
end
end Go.Proofs.Yteeifahhejangaa
namespace Go.Proofs.Yteeifahhejangaa
open Go Sim
set_option maxRecDepth 10000 in
theorem get_ctr {a : List Nat} {i : Nat} : GC Try.prog 121 [.slice (some ⟨0, 0, none⟩) a.length 0, vi .i64 (i)] [⟨a.map (vi .u64), false, 1⟩] [vi .u64 (a.getD i 0)] [⟨a.map (vi .u64), false, 1⟩] := by
 refine gi Try.func121 ?_
 refine zS ?_
 refine yA ?_
 refine zN (zQ (zS ?_))
 refine yM ?_
 refine yM ?_
 refine yP pL ?_
 refine yP pLt ?_
 refine zN ?_
 refine zA (fun hb0 => ?_) (fun hb0 => ?_)
 ·
  have hi : i < a.length := by simpa using hb0
  refine zS ?_
  refine yM ?_
  refine yM ?_
  refine yP pJ ?_
  refine yL 0 ?_
  refine yA ?_
  refine zN (zE (zU ?_))
  exact rq [] [.tmp 4] (hres := (.cons rfl (by rfl) .nil))
 ·
  have hi : a.length ≤ i := by simpa using hb0
  refine zK (zT (zS ?_))
  refine yA ?_
  refine zN (zE ?_)
  exact rq [] [.tmp 4] (hres := (.cons rfl (by exact congrArg (vi .u64) (getD_ge hi)) .nil))
set_option maxRecDepth 10000 in
theorem trim_ctr {a : List Nat} {v n : Nat} (h : bd 4294967296 a) (hv : num 4294967296 a = v) (hn : a.length = n) (hl : a.length < 1000000000) : GC Try.prog 80 [.slice (some ⟨0, 0, none⟩) n 0] [⟨a.map (vi .u64), false, 1⟩] [.slice (some ⟨0, 0, none⟩) (D 4294967296 v).length 0] [⟨a.map (vi .u64), false, 1⟩] := by
 refine gi Try.func80 ?_
 subst hn
 refine zS ?_
 refine yA ?_
 refine zN (zS ?_)
 refine yM ?_
 refine yP pL ?_
 refine yA ?_
 refine zN (zQ (zB ?_))
 refine AW.loopw (fun mm σ => ∃ k, (k ≤ a.length ∧ num 4294967296 (a.drop k) = 0) ∧ mm = 1 * k ∧ σ = ⟨(upd (upd emp 0 (.slice (some ⟨0, 0, none⟩) a.length 0)) 3 (vi .i64 k)), (upd emp 0 ⟨a.map (vi .u64), false, 1⟩)⟩) (fm := []) (wk [0]) ⟨a.length, ⟨Nat.le_refl _, by simp [num]⟩, rfl, rfl⟩ ?_
 rintro mm σ ⟨k, ⟨hn, h0⟩, rfl, rfl⟩
 refine zQ (zS ?_)
 refine yM ?_
 refine yB (pGt (b := 0)) (fun hb0 => ?_) (fun hb0 => ?_)
 ·
  have hp : 0 < k := by simpa using hb0
  refine yM ?_
  refine yM ?_
  refine yM ?_
  refine yP (pSub (b := 1)) ?_
  refine yP pJ ?_
  refine yL 0 ?_
  refine yP (pEq (b := 0)) ?_
  refine yP pT ?_
  refine zN ?_
  refine zA (fun hb1 => ?_) (fun hb1 => ?_)
  ·
   have hd : a.getD (k - 1) 0 = 0 := by simpa using hb1
   refine zK (zT (zB (zR ?_)))
   refine yM ?_
   refine yP (pSub (b := 1)) ?_
   refine yA ?_
   refine zN (zL (zT ?_))
   exact ⟨1 * (k - 1), [], _, by omega, wk [0], k - 1, ⟨by omega, drop_zero_step h0 (by omega) hn hd⟩, rfl, rfl⟩
  ·
   have hd : a.getD (k - 1) 0 ≠ 0 := by simpa using hb1
   have hst := D_stop (by decide) h hn h0 (.inr hd)
   rw [hv] at hst
   subst hst
   refine zX (zV (zV (zH (zT (zS ?_)))))
   refine yM ?_
   refine yM ?_
   refine AWo.sliceS tbok rfl .none (.some rfl) rfl rfl rfl rfl (by omega) (by omega) (.inl rfl) rfl rfl rfl ?_
   refine yA ?_
   refine zN (zE ?_)
   exact rq [] [.tmp 2]
 ·
  have hp : k = 0 := by simp at hb0; omega
  have hst := D_stop (by decide) h hn h0 (.inl hp)
  rw [hv] at hst
  subst hst
  refine yM ?_
  refine yK ?_
  refine yK ?_
  refine yK ?_
  refine yK ?_
  refine yK ?_
  refine yK ?_
  refine yP pE ?_
  refine zN (zF (zX (zV (zV (zH (zT (zS ?_)))))))
  refine yM ?_
  refine yM ?_
  refine AWo.sliceS tbok rfl .none (.some rfl) rfl rfl rfl rfl (by omega) (by omega) (.inl rfl) rfl rfl rfl ?_
  refine yA ?_
  refine zN (zE ?_)
  exact rq [] [.tmp 2]
set_option maxRecDepth 10000 in
theorem rcmp_ctr {a b : List Nat} (ha : bd 4294967296 a) (hb : bd 4294967296 b) (hla : a.length < 1000000000) (hlb : b.length < 1000000000) : GC Try.prog 78 [.slice (some ⟨0, 0, none⟩) a.length 0, .slice (some ⟨1, 0, none⟩) b.length 0] [⟨a.map (vi .u64), false, 1⟩, ⟨b.map (vi .u64), false, 1⟩] [.int .i64 (cmpI (num 4294967296 a) (num 4294967296 b))] [⟨a.map (vi .u64), false, 1⟩, ⟨b.map (vi .u64), false, 1⟩] := by
 refine gi Try.func78 ?_
 have ea := div_big ha (by decide) (show a.length ≤ a.length + b.length + 1 by omega)
 have eb := div_big hb (by decide) (show b.length ≤ a.length + b.length + 1 by omega)
 refine zS ?_
 refine yA ?_
 refine zN (zQ (zS ?_))
 refine yM ?_
 refine yP pL ?_
 refine yM ?_
 refine yP pL ?_
 refine yP pAdd ?_
 refine yA ?_
 refine zN (zB ?_)
 refine AW.loopw (fun mm σ => ∃ r, (r ≤ a.length + b.length + 1 ∧ num 4294967296 a / 4294967296 ^ r = num 4294967296 b / 4294967296 ^ r) ∧ mm = 1 * r ∧ σ = ⟨(upd (upd (upd emp 0 (.slice (some ⟨0, 0, none⟩) a.length 0)) 1 (.slice (some ⟨1, 0, none⟩) b.length 0)) 5 (vp r)), (upd (upd emp 0 ⟨a.map (vi .u64), false, 1⟩) 1 ⟨b.map (vi .u64), false, 1⟩)⟩) (fm := []) (wk [0, 1]) ⟨a.length + b.length + 1, ⟨Nat.le_refl _, ea.trans eb.symm⟩, rfl, rfl⟩ ?_
 rintro mm σ ⟨r, ⟨hr, he⟩, rfl, rfl⟩
 refine zQ (zS ?_)
 refine yM ?_
 refine yP (PureOp.geP rfl rfl) ?_
 refine zN ?_
 refine zA (fun hb0 => ?_) (fun hb0 => ?_)
 ·
  have hp0 : 0 < r := by simpa using hb0
  obtain ⟨r, rfl⟩ : ∃ q, r = q + 1 := ⟨r - 1, by omega⟩
  rw [vp_succ]
  have da := num_getD ha (by decide) r
  have db := num_getD hb (by decide) r
  refine zK (zT (zQ (zB (zQ (zS ?_)))))
  refine yM ?_
  refine yM ?_
  refine yC (get_ctr) bd121 [(0, 0)] [] ?_
  refine yM ?_
  refine yM ?_
  refine yC (get_ctr) bd121 [(1, 0)] [] ?_
  refine yP pLt ?_
  refine zN ?_
  refine zA (fun hb1 => ?_) (fun hb1 => ?_)
  ·
   have hlt : a.getD r 0 < b.getD r 0 := by simpa using hb1
   rw [da, db] at hlt
   have hab := top_lt he hlt
   refine zS ?_
   refine yA ?_
   refine zN (zE (zU (zI (zU (zU (zI (zU ?_)))))))
   exact rq [] [.tmp 4] (hres := (.cons rfl (congrArg (Value.int .i64) (by simp only [cmpI]; split <;> (try split) <;> omega)) .nil))
  ·
   have hge : ¬ a.getD r 0 < b.getD r 0 := by simpa using hb1
   refine zK (zT (zS ?_))
   refine yM ?_
   refine yM ?_
   refine yC (get_ctr) bd121 [(0, 0)] [] ?_
   refine yM ?_
   refine yM ?_
   refine yC (get_ctr) bd121 [(1, 0)] [] ?_
   refine yP pGt ?_
   refine zN ?_
   refine zA (fun hb2 => ?_) (fun hb2 => ?_)
   ·
    have hlt : b.getD r 0 < a.getD r 0 := by simpa using hb2
    rw [da, db] at hlt
    have hab := top_lt he.symm hlt
    refine zS ?_
    refine yA ?_
    refine zN (zE (zI (zU (zU (zI (zU ?_))))))
    exact rq [] [.tmp 4] (hres := (.cons rfl (congrArg (Value.int .i64) (by simp only [cmpI]; split <;> (try split) <;> omega)) .nil))
   ·
    have hge2 : ¬ b.getD r 0 < a.getD r 0 := by simpa using hb2
    rw [da, db] at hge hge2
    refine zK (zL (zT (zR ?_)))
    refine yM ?_
    refine yP (PureOp.subP rfl rfl (by omega)) ?_
    refine yA ?_
    refine zN (zT ?_)
    exact ⟨1 * r, [], _, by omega, wk [0, 1], r, ⟨by omega, top_eq he (by omega)⟩, rfl, rfl⟩
 ·
  obtain rfl : r = 0 := by simpa using hb0
  rw [Nat.pow_zero, Nat.div_one, Nat.div_one] at he
  refine zX (zV (zV (zH (zT (zS ?_)))))
  refine yA ?_
  refine zN (zE ?_)
  exact rq [] [.tmp 4] (hres := (.cons rfl (congrArg (Value.int .i64) (by simp only [cmpI]; split <;> (try split) <;> omega)) .nil))
end Go.Proofs.Yteeifahhejangaa
namespace Go.Proofs.Yteeifahhejangaa
open Go Sim
section
variable {B : Nat}
theorem digs_snoc (n v : Nat) : digs B (n + 1) v = digs B n v ++ [v / B ^ n % B] := by
  induction n generalizing v with
  | zero => simp [digs]
  | succ n ih =>
    rw [digs, ih, digs, List.cons_append, Nat.div_div_eq_div_mul, Nat.pow_succ, Nat.mul_comm (B ^ n) B]
theorem mul_step {l b : List Nat} {i j c p x s : Nat} (hk : i + j < l.length) (h : num B l + c * B ^ (i + j) = p + x * num B (b.take j) * B ^ i) (hs : s = l.getD (i + j) 0 + x * b.getD j 0 + c) :
    num B (l.set (i + j) (s % B)) + s / B * B ^ (i + (j + 1)) = p + x * num B (b.take (j + 1)) * B ^ i := by
  have h1 := num_set (B := B) (l := l) (k := i + j) (v := s % B) hk
  have h2 := Nat.mod_add_div s B
  rw [num_take_succ, ← Nat.add_assoc, Nat.pow_succ]
  rw [Nat.pow_add] at h h1 ⊢
  generalize B ^ i = u at *
  generalize B ^ j = v at *
  generalize num B (l.set (i + j) (s % B)) = z at *
  generalize num B (b.take j) = q at *
  generalize s % B = r at *
  generalize s / B = t at *
  generalize l.getD (i + j) 0 = e at *
  generalize b.getD j 0 = y at *
  have h3 : r * (u * v) + t * (u * v * B) = s * (u * v) := by rw [← h2]; grind
  subst hs
  grind
theorem getD_set {l : List Nat} {k j v : Nat} (h : k ≠ j) : (l.set k v).getD j 0 = l.getD j 0 := by
  rw [List.getD_eq_getElem?_getD, List.getElem?_set_ne h, ← List.getD_eq_getElem?_getD]
theorem getD_set_self {l : List Nat} {k v : Nat} (h : k < l.length) : (l.set k v).getD k 0 = v := by
  rw [List.getD_eq_getElem?_getD, List.getElem?_set_self h]; rfl
theorem take_all {l : List Nat} : l.take l.length = l := List.take_of_length_le (Nat.le_refl _)
theorem word_two (v i : Nat) (hB : 0 < B) : v / B ^ (2 * i) % B + v / B ^ (2 * i + 1) % B * B = v / (B * B) ^ i % (B * B) := by
  have e : (B * B) ^ i = B ^ (2 * i) := by rw [← Nat.pow_two, ← Nat.pow_mul]
  rw [e, Nat.pow_succ, ← Nat.div_div_eq_div_mul, Nat.mod_mul, Nat.mul_comm B]
theorem mad_lt {e x y c b : Nat} (he : e < b) (hx : x < b) (hy : y < b) (hc : c < b) : e + x * y + c < b * b := by
  have h1 : x * y ≤ (b - 1) * (b - 1) := Nat.mul_le_mul (by omega) (by omega)
  obtain ⟨d, rfl⟩ : ∃ d, b = d + 1 := ⟨b - 1, by omega⟩
  simp only [Nat.add_sub_cancel] at h1
  have h2 : (d + 1) * (d + 1) = d * d + 2 * d + 1 := by grind
  omega
end
end Go.Proofs.Yteeifahhejangaa
namespace Go.Proofs.Yteeifahhejangaa
open Go Sim
theorem rep_getD (n k : Nat) : (List.replicate n 0).getD k 0 = 0 := by
 rw [List.getD_eq_getElem?_getD]
 rcases Nat.lt_or_ge k n with h | h
 · rw [List.getElem?_eq_getElem (by simpa using h)]; simp
 · rw [List.getElem?_eq_none (by simpa using h)]; rfl
def OfbI (a : List Nat) (r : Nat) (l : List Nat) : Prop := (∀ k, k < r / 4 → l.getD k 0 = 0) ∧ l.getD (r / 4) 0 = num 256 ((a.drop r).take (4 - r % 4)) ∧
 ∀ k, r / 4 < k → l.getD k 0 = num 256 ((a.drop (4 * k)).take 4)
theorem num_dropcons {a : List Nat} {r n : Nat} (hr : r < a.length) : num 256 ((a.drop r).take (n + 1)) = a.getD r 0 + 256 * num 256 ((a.drop (r + 1)).take n) := by
 rw [List.drop_eq_getElem_cons hr, List.take_succ_cons, num, List.getD_eq_getElem?_getD, List.getElem?_eq_getElem hr]; rfl
theorem ofbI_init (a : List Nat) : OfbI a a.length (List.replicate (a.length / 4 + 1) 0) := by
 refine ⟨fun k _ => rep_getD _ _, ?_, fun k hk => ?_⟩
 · rw [rep_getD]; simp [num]
 · rw [rep_getD, List.drop_of_length_le (by omega)]; rfl
theorem ofbI_val {a l : List Nat} {r : Nat} (hr : r < a.length) (hI : OfbI a (r + 1) l) : l.getD (r / 4) 0 * 256 + a.getD r 0 = num 256 ((a.drop r).take (4 - r % 4)) := by
  obtain ⟨h1, h2, h3⟩ := hI
  rw [show 4 - r % 4 = (3 - r % 4) + 1 by omega, num_dropcons hr]
  rcases Nat.lt_or_ge (r % 4) 3 with h | h
  · rw [show (r + 1) / 4 = r / 4 by omega, show 4 - (r + 1) % 4 = 3 - r % 4 by omega] at h2
    rw [h2]; omega
  · rw [show 3 - r % 4 = 0 by omega, h1 (r / 4) (by omega)]
    simp [num]
theorem ofbI_bd {a l : List Nat} {r : Nat} (h : bd 256 a) (_ : l.length = a.length / 4 + 1) (hr : r < a.length) (hI : OfbI a (r + 1) l) : l.getD (r / 4) 0 * 256 + a.getD r 0 < 4294967296 := by
 rw [ofbI_val hr hI]
 exact num_lt_pow (B := 256) (bd_take (bd_drop h _) _) (by decide) (n := 4) (by simp; omega)
theorem ofbI_step {a l : List Nat} {r : Nat} (_ : bd 256 a) (hl : l.length = a.length / 4 + 1) (hr : r < a.length) (hI : OfbI a (r + 1) l) : OfbI a r (l.set (r / 4) (l.getD (r / 4) 0 * 256 + a.getD r 0)) := by
  have hv := ofbI_val hr hI
  obtain ⟨h1, h2, h3⟩ := hI
  refine ⟨fun k hk => ?_, ?_, fun k hk => ?_⟩
  · rw [getD_set (by omega)]; exact h1 k (by omega)
  · rw [getD_set_self (by omega)]; exact hv
  · rw [getD_set (by omega)]
    rcases Nat.lt_or_ge ((r + 1) / 4) k with h | h
    · exact h3 k h
    · obtain rfl : k = (r + 1) / 4 := by omega
      rw [h2, show 4 * ((r + 1) / 4) = r + 1 by omega, show 4 - (r + 1) % 4 = 4 by omega]
theorem num_fours (a : List Nat) : ∀ (n : Nat) (l : List Nat), l.length = n → (∀ k, k < n → l.getD k 0 = num 256 ((a.drop (4 * k)).take 4)) → a.length ≤ 4 * n → num 4294967296 l = num 256 a := by
  intro n
  induction n generalizing a with
  | zero =>
    intro l hl _ ha
    obtain rfl := List.length_eq_zero_iff.1 hl
    obtain rfl : a = [] := List.length_eq_zero_iff.1 (by omega)
    rfl
  | succ n ih =>
    intro l hl hk ha
    obtain ⟨x, r, rfl⟩ : ∃ x r, l = x :: r := by cases l with
      | nil => simp at hl
      | cons x r => exact ⟨x, r, rfl⟩
    have h0 := hk 0 (by omega)
    simp only [List.getD_cons_zero, Nat.mul_zero, List.drop_zero] at h0
    have hr := ih (a.drop 4) r (by simpa using hl) (fun k hk2 => by
      have := hk (k + 1) (by omega)
      rw [List.getD_cons_succ] at this
      rw [this, List.drop_drop, show 4 + 4 * k = 4 * (k + 1) by omega]) (by simp; omega)
    rw [num, hr, h0]
    rcases Nat.lt_or_ge a.length 4 with h | h
    · rw [List.take_of_length_le (by omega), List.drop_of_length_le (by omega)]; simp [num]
    · have := num_take_drop (B := 256) a 4 h
      rw [this]
theorem ofbI_end {a l : List Nat} (_ : bd 256 a) (hl : l.length = a.length / 4 + 1) (hI : OfbI a 0 l) : num 4294967296 l = num 256 a := by
 obtain ⟨_, h2, h3⟩ := hI
 refine num_fours a _ l hl (fun k hk => ?_) (by omega)
 rcases Nat.eq_zero_or_pos k with rfl | h
 · simpa using h2
 · exact h3 k (by omega)
set_option maxRecDepth 10000 in
theorem words_ctr {a : List Nat} {n : Nat} (h : bd 4294967296 a) (hn : n < 100000000) : GC Try.prog 117 [.slice (some ⟨0, 0, none⟩) a.length 0, vi .i64 (n)] [⟨a.map (vi .u64), false, 1⟩] [.slice (some ⟨1, 0, none⟩) (digs 18446744073709551616 n (num 4294967296 a)).length 0] [⟨a.map (vi .u64), false, 1⟩, ⟨(digs 18446744073709551616 n (num 4294967296 a)).map (vi .u64), true, 1⟩] := by
 refine gi Try.func117 ?_
 refine zS ?_
 refine yA ?_
 refine zN (zS ?_)
 refine yM ?_
 refine AWo.makeSliceC (n := 0) tbok 9000 ((List.replicate 0 0).map (vi .u64)) rfl rfl (by omega) rfl rfl (by decide) rfl rfl rfl rfl (by omega) (by omega) (by simp [vi]) rfl rfl rfl ?_
 refine yA ?_
 refine zN (zQ (zS ?_))
 refine yA ?_
 refine zN (zB ?_)
 refine AW.loopw (fun mm σ => ∃ i, (i ≤ n) ∧ mm = n - i ∧ σ = ⟨(upd (upd (upd (upd emp 0 (.slice (some ⟨0, 0, none⟩) a.length 0)) 1 (vi .i64 n)) 5 (.slice (some ⟨77000, 0, none⟩) i 0)) 6 (vi .i64 i)), (upd (upd emp 0 ⟨a.map (vi .u64), false, 1⟩) 77000 ⟨(digs 18446744073709551616 i (num 4294967296 a)).map (vi .u64), true, 1⟩)⟩) (fm := [(77000, 9000)]) (wk [0, 77000]) ⟨0, Nat.zero_le _, rfl, rfl⟩ ?_
 rintro mm σ ⟨i, hinv, rfl, rfl⟩
 have hx := bd_getD h (by decide) (2 * i)
 have hy := bd_getD h (by decide) (2 * i + 1)
 have hxy := word_two (B := 4294967296) (num 4294967296 a) i (by decide)
 rw [← num_getD h (by decide), ← num_getD h (by decide)] at hxy
 refine zQ (zS ?_)
 refine yM ?_
 refine yM ?_
 refine yP pLt ?_
 refine zN ?_
 refine zA (fun hb0 => ?_) (fun hb0 => ?_)
 ·
  have hi : i < n := by simpa using hb0
  refine zK (zT (zQ (zB (zR ?_))))
  refine yM ?_
  refine yM ?_
  refine yM ?_
  refine yP ((PureOp.mulI (a := 2) rfl rfl (by omega)).mono (v' := vi .i64 (2 * i)) rfl) ?_
  refine yC (get_ctr) bd121 [(0, 0)] [] ?_
  refine yM ?_
  refine yM ?_
  refine yP ((PureOp.mulI (a := 2) rfl rfl (by omega)).mono (v' := vi .i64 (2 * i)) rfl) ?_
  refine yP (pAdd (b := 1)) ?_
  refine yC (get_ctr) bd121 [(0, 0)] [] ?_
  refine yP ((PureOp.mulU (b := 4294967296) 18446744073709551616 rfl rfl rfl rfl).mono (v' := vi .u64 (a.getD (2 * i + 1) 0 * 4294967296)) (by rw [Nat.mod_eq_of_lt (by omega)])) ?_
  refine yP ((PureOp.addU 18446744073709551616 rfl rfl rfl rfl).mono (v' := vi .u64 (num 4294967296 a / 18446744073709551616 ^ i % 18446744073709551616)) (by rw [Nat.mod_eq_of_lt (by omega), hxy])) ?_
  refine AWo.buildSlice tbok 27000 [(0, vi .u64 (num 4294967296 a / 18446744073709551616 ^ i % 18446744073709551616))] (out := [vi .u64 (num 4294967296 a / 18446744073709551616 ^ i % 18446744073709551616)]) rfl rfl (by decide) rfl rfl rfl (by decide) rfl rfl rfl rfl rfl ?_
  refine AWo.append tbok (all := (digs 18446744073709551616 (i + 1) (num 4294967296 a)).map (vi .u64)) 28000 rfl rfl rfl rfl (by simp [digs_len]) rfl (by (simp; done)) (by decide) rfl rfl rfl (by decide) rfl rfl rfl (by omega) (by omega) rfl (by rw [digs_snoc, ← map_snoc]; rfl) rfl rfl ?_
  refine yA ?_
  refine zN (zL (zT (zR ?_)))
  refine yM ?_
  refine yP (pAdd (b := 1)) ?_
  refine yA ?_
  refine zN (zT ?_)
  exact ⟨n - (i + 1), [(77000, 28000)], _, by omega, wk [0, 77000], i + 1, by omega, rfl, rfl⟩
 ·
  have hi : i = n := by simp at hb0; omega
  subst hi
  refine zX (zV (zV (zH (zT (zS ?_)))))
  refine yM ?_
  refine yA ?_
  refine zN (zE ?_)
  exact rq [77000] [.tmp 4] (hres := (.cons rfl (by simp [ren, ren1, hmap, digs_len]) .nil))
set_option maxRecDepth 10000 in
theorem ofb_ctr {a : List Nat} (h : bd 256 a) (hla : a.length < 100000000) : GC Try.prog 52 [.slice (some ⟨0, 0, none⟩) a.length 0] [⟨a.map (vi .u8), false, 1⟩] [.slice (some ⟨1, 0, none⟩) (D 4294967296 (num 256 a)).length 0] [⟨a.map (vi .u8), false, 1⟩, ⟨(D 4294967296 (num 256 a)).map (vi .u64), true, 1⟩] := by
 refine gi Try.func52 ?_
 refine zS ?_
 refine yA ?_
 refine zN (zS ?_)
 refine yM ?_
 refine yP pL ?_
 refine yP (PureOp.quoN (b := 4) 9223372036854775808 rfl rfl (by decide) (by decide) (by decide) (by omega)) ?_
 refine yP (pAdd (b := 1)) ?_
 refine AWo.makeI tbok 10000 rfl rfl rfl rfl rfl rfl (by omega) (by omega) rfl rfl rfl ?_
 refine yA ?_
 refine zN (zQ (zS ?_))
 refine yM ?_
 refine yP pL ?_
 refine yP (PureOp.subP rfl rfl (by omega)) ?_
 refine yA ?_
 refine zN (zB ?_)
 refine AW.loopw (fun mm σ => ∃ r, ∃ (l : List Nat), (r ≤ a.length ∧ l.length = a.length / 4 + 1 ∧ bd 4294967296 l ∧ OfbI a r l) ∧ mm = 1 * r ∧ σ = ⟨(upd (upd (upd emp 0 (.slice (some ⟨0, 0, none⟩) a.length 0)) 3 (.slice (some ⟨77000, 0, none⟩) (a.length / 4 + 1) 0)) 4 (vp r)), (upd (upd emp 0 ⟨a.map (vi .u8), false, 1⟩) 77000 ⟨l.map (vi .u64), true, 1⟩)⟩) (fm := [(77000, 10000)]) (wk [0, 77000]) ⟨a.length, List.replicate (a.length / 4 + 1) 0, ⟨Nat.le_refl _, by simp, bd_replicate (by decide) _, ofbI_init a⟩, rfl, rfl⟩ ?_
 rintro mm σ ⟨r, l, ⟨hr, hl2, hbl, hI⟩, rfl, rfl⟩
 refine zQ (zS ?_)
 refine yM ?_
 refine yP (PureOp.geP rfl rfl) ?_
 refine zN ?_
 refine zA (fun hb0 => ?_) (fun hb0 => ?_)
 ·
  have hp0 : 0 < r := by simpa using hb0
  obtain ⟨r, rfl⟩ : ∃ q, r = q + 1 := ⟨r - 1, by omega⟩
  rw [vp_succ]
  have hx := bd_getD h (by decide) r
  have hs := ofbI_bd h hl2 (by omega) hI
  refine zK (zT (zQ (zB ?_)))
  refine AW.draw mixed ?_
  refine yM ?_
  refine yM ?_
  refine yP (PureOp.quoN (b := 4) 9223372036854775808 rfl rfl (by decide) (by decide) (by decide) (by omega)) ?_
  refine yM ?_
  refine yM ?_
  refine yP (PureOp.quoN (b := 4) 9223372036854775808 rfl rfl (by decide) (by decide) (by decide) (by omega)) ?_
  refine yP pJ ?_
  refine yL 0 ?_
  refine yP ((PureOp.mulU (b := 256) 18446744073709551616 rfl rfl rfl rfl).mono (v' := vi .u64 (l.getD (r / 4) 0 * 256)) (by rw [Nat.mod_eq_of_lt (by omega)])) ?_
  refine yM ?_
  refine yM ?_
  refine yP pJ ?_
  refine yL 0 ?_
  refine yP (PureOp.cvtN tbok 18446744073709551616 rfl rfl rfl (by decide) (by decide) (by omega)) ?_
  refine yP ((PureOp.addU 18446744073709551616 rfl rfl rfl rfl).mono (v' := vi .u64 (l.getD (r / 4) 0 * 256 + a.getD r 0)) (by rw [Nat.mod_eq_of_lt (by omega)])) ?_
  refine yP pJ ?_
  refine yS (vi .u64) ?_
  refine zD (zL (zT (zR ?_)))
  refine yM ?_
  refine yP (PureOp.subP rfl rfl (by omega)) ?_
  refine yA ?_
  refine zN (zT ?_)
  exact ⟨1 * r, [], _, by omega, wk [0, 77000], r, l.set (r / 4) (l.getD (r / 4) 0 * 256 + a.getD r 0), ⟨by omega, by simp [hl2], bd_set hbl hs, ofbI_step h hl2 (by omega) hI⟩, rfl, rfl⟩
 ·
  obtain rfl : r = 0 := by simpa using hb0
  have hv := ofbI_end h hl2 hI
  refine zX (zV (zV (zH (zT (zS ?_)))))
  refine yM ?_
  refine yC (trim_ctr (a := l) hbl hv hl2 (by omega)) bd80 [(77000, 0)] [] ?_
  refine yA ?_
  refine zN (zE ?_)
  exact rq [77000] [.tmp 2] (hb := (OutL.flat rfl (by exact flatM flat_vi) (by intro h; exact h.elim id fun h => absurd h.1 (by simp)) (OutL.part rfl (dpart (by decide) hbl hv) (flatM flat_vi) (fun _ => rfl) (dpart_len (by decide) hbl hv) trivial)))
end Go.Proofs.Yteeifahhejangaa
namespace Go.Proofs.Yteeifahhejangaa
open Go Sim
section
variable {B : Nat}
theorem take_set_succ {l : List Nat} {i v : Nat} (h : i < l.length) : (l.set i v).take (i + 1) = l.take i ++ [v] := by
 rw [List.take_succ_eq_append_getElem (by simpa using h), List.take_set_of_le (Nat.le_refl _)]
 simp
theorem sumL_end (hB : 0 < B) {l : List Nat} {n a b c : Nat} (hl : bd B l) (hln : l.length = n) (h : num B (l.take n) + B ^ n * c = a % B ^ n + b % B ^ n) (ha : a < B ^ n) (hb : b < B ^ n) :
  l = digs B n (a + b) ∧ c = (a + b) / B ^ n := by
 have h1 := num_lt hl
 rw [hln] at h1
 rw [← hln, take_all, hln, Nat.mod_eq_of_lt ha, Nat.mod_eq_of_lt hb] at h
 have hp : 0 < B ^ n := by omega
 have h2 : (a + b) / B ^ n = c := by rw [← h, Nat.add_mul_div_left _ _ hp, Nat.div_eq_of_lt h1, Nat.zero_add]
 refine ⟨?_, h2.symm⟩
 refine num_inj hl (digs_bd hB _ _) (by rw [digs_len, hln]) ?_
 rw [num_digs, ← h, Nat.add_mul_mod_self_left, Nat.mod_eq_of_lt h1]
theorem dif_step {l : List Nat} {i a b c x y : Nat} (hl : l.length = i) (h : num B l + b % B ^ i = a % B ^ i + B ^ i * c) (hx : x = a / B ^ i % B) (hy : y = b / B ^ i % B) (hxB : x < B) (hyB : y < B) (hc : c ≤ 1) :
  num B (l ++ [(x + B - y - c) % B]) + b % B ^ (i + 1) = a % B ^ (i + 1) + B ^ (i + 1) * (if x < y + c then 1 else 0) := by
 have h1 := sub_step hl h hx hy hyB hc
 rw [show x + B - y - c = B + x - y - c by omega, h1]
 congr 2
 split
 · rw [Nat.div_eq_of_lt (by omega)]
 · rw [Nat.div_eq_of_lt_le (k := 1)] <;> omega
theorem difL_end (hB : 0 < B) {l : List Nat} {n a b c : Nat} (hl : bd B l) (hln : l.length = n) (h : num B (l.take n) + b % B ^ n = a % B ^ n + B ^ n * c) (ha : a < B ^ n) (hb : b < B ^ n) (hc : c ≤ 1) :
    l = digs B n (a + B ^ n - b) ∧ c = if a < b then 1 else 0 := by
  have h1 := num_lt hl
  rw [hln] at h1
  rw [← hln, take_all, hln, Nat.mod_eq_of_lt ha, Nat.mod_eq_of_lt hb] at h
  rcases (by omega : c = 0 ∨ c = 1) with rfl | rfl
  · refine ⟨num_inj hl (digs_bd hB _ _) (by rw [digs_len, hln]) ?_, by rw [if_neg (by omega)]⟩
    rw [num_digs, show a + B ^ n - b = num B l + B ^ n by omega, Nat.add_mod_right, Nat.mod_eq_of_lt h1]
  · refine ⟨num_inj hl (digs_bd hB _ _) (by rw [digs_len, hln]) ?_, by rw [if_pos (by omega)]⟩
    rw [num_digs, show a + B ^ n - b = num B l by omega, Nat.mod_eq_of_lt h1]
end
set_option maxRecDepth 10000 in
theorem line_ctr {a x y c : Nat} (ha : a < 18446744073709551616) (hx : x < 18446744073709551616) (hy : y < 18446744073709551616) (hc : c < 18446744073709551616) : GC Try.prog 131 [vi .u64 (a), vi .u64 (x), vi .u64 (y), vi .u64 (c)] [] [vi .u64 ((a + x * y + c) % 18446744073709551616), vi .u64 ((a + x * y + c) / 18446744073709551616)] [] := by
 refine gi Try.func131 ?_
 have hp : x * y ≤ 18446744073709551615 * 18446744073709551615 := Nat.mul_le_mul (by omega) (by omega)
 refine zS ?_
 refine yA ?_
 refine yA ?_
 refine zN (zS ?_)
 refine yM ?_
 refine yM ?_
 refine AWo.callX (mul64 (by assumption) (by assumption)) bd146 [] [] rfl (.cons rfl (.cons rfl .nil)) rfl (.cons rfl rfl (.cons rfl rfl .nil)) .nil rfl .nil frN (by decide) (.cons rfl rfl (.cons rfl rfl .nil)) rfl rfl rfl rfl ?_
 refine yM ?_
 refine yP pX ?_
 refine yP pX ?_
 refine yA ?_
 refine yA ?_
 refine zN (zS ?_)
 refine yM ?_
 refine yM ?_
 refine yP (add64 (c := 0) rfl rfl (by decide)) ?_
 refine yM ?_
 refine yP pX ?_
 refine yP pX ?_
 refine yA ?_
 refine yA ?_
 refine zN (zS ?_)
 refine yM ?_
 refine yM ?_
 refine AWo.pure ((PureOp.addU 18446744073709551616 rfl rfl rfl rfl).mono (v' := vi .u64 (x * y / 18446744073709551616 + (x * y % 18446744073709551616 + a + 0) / 18446744073709551616)) (by congr 1; omega)) rfl rfl ?_
 refine yA ?_
 refine zN (zS ?_)
 refine yM ?_
 refine yM ?_
 refine yP (add64 (c := 0) rfl rfl (by decide)) ?_
 refine yM ?_
 refine yP pX ?_
 refine yP pX ?_
 refine yA ?_
 refine yA ?_
 refine AWo.nil trivial ?_
 refine AW.seqR ?_
 first | refine AWo.pure ((PureOp.move rfl).mono (v' := vi .u64 ((a + x * y + c) % 18446744073709551616)) (congrArg (vi .u64) (by omega))) rfl rfl ?_
 refine yM ?_
 refine yM ?_
 refine AWo.pure ((PureOp.addU 18446744073709551616 rfl rfl rfl rfl).mono (v' := vi .u64 ((a + x * y + c) / 18446744073709551616)) (by congr 1; omega)) rfl rfl ?_
 refine yA ?_
 refine yA ?_
 refine zN (zE ?_)
 exact rq [] [.tmp 8, .tmp 9]
end Go.Proofs.Yteeifahhejangaa
namespace Go.Proofs.Yteeifahhejangaa
open Go Sim
def blen (n : Nat) : Nat := if n = 0 then 0 else n.log2 + 1
theorem blen_top {n r : Nat} (h1 : 2 ^ r ≤ n) (h2 : n < 2 ^ (r + 1)) : blen n = r + 1 := by
 have hp : 0 < 2 ^ r := Nat.pow_pos (by decide)
 simp only [blen]
 rw [if_neg (by omega)]
 congr 1
 exact (Nat.log2_eq_iff (by omega)).2 ⟨h1, h2⟩
theorem blen_shift {n k : Nat} (h : n / 2 ^ k ≠ 0) : blen n = k + blen (n / 2 ^ k) := by
  have hp : 0 < 2 ^ k := Nat.pow_pos (by decide)
  obtain ⟨r, hr⟩ : ∃ r, r = (n / 2 ^ k).log2 := ⟨_, rfl⟩
  obtain ⟨h1, h2⟩ := (Nat.log2_eq_iff h).1 hr.symm
  rw [blen_top h1 h2, blen_top (r := k + r)]
  · omega
  · rw [Nat.pow_add]
    have := Nat.mul_le_mul_left (2 ^ k) h1
    have h4 := Nat.mul_div_le n (2 ^ k)
    omega
  · rw [Nat.add_assoc, Nat.pow_add]
    rw [Nat.mul_comm]; exact (Nat.div_lt_iff_lt_mul hp).1 h2
theorem shl_byte {x k : Nat} (hx : x < 256) (hk : k < 8) : x * 2 ^ (8 * k) % 18446744073709551616 = x * 256 ^ k ∧ x * 256 ^ k < 18446744073709551616 := by
 have e : 2 ^ (8 * k) = 256 ^ k := by rw [Nat.pow_mul]
 have h1 : 256 ^ k ≤ 256 ^ 7 := Nat.pow_le_pow_right (by decide) (by omega)
 have h2 : x * 256 ^ k < 18446744073709551616 := by
  have := Nat.mul_le_mul (show x ≤ 255 by omega) h1
  have h3 : 255 * 256 ^ 7 < 18446744073709551616 := by decide
  omega
 rw [e]
 exact ⟨Nat.mod_eq_of_lt h2, h2⟩
theorem or_add {e x k : Nat} (he : e < 256 ^ k) : e ||| x * 256 ^ k = e + x * 256 ^ k := by
 have e1 : (256 : Nat) ^ k = 2 ^ (8 * k) := by rw [Nat.pow_mul]
 rw [e1] at he ⊢
 have := Nat.two_pow_add_eq_or_of_lt (i := 8 * k) (b := e) he x
 rw [Nat.mul_comm x, Nat.or_comm, ← this, Nat.add_comm]
theorem W_256 (i : Nat) : 256 ^ i = 18446744073709551616 ^ (i / 8) * 256 ^ (i % 8) := by
 rw [show (18446744073709551616 : Nat) = 256 ^ 8 from by decide, ← Nat.pow_mul, ← Nat.pow_add, Nat.div_add_mod]
theorem words_low {a l : List Nat} {i : Nat} (h : bd 256 a) (hb : bd 18446744073709551616 l) (hn : num 18446744073709551616 l = num 256 (a.take i)) : l.getD (i / 8) 0 < 256 ^ (i % 8) := by
 rw [num_getD hb (by decide), hn]
 have h1 : num 256 (a.take i) < 256 ^ i := by
  have := num_lt (bd_take h i)
  exact Nat.lt_of_lt_of_le this (Nat.pow_le_pow_right (by decide) (by simp; omega))
 have h2 : num 256 (a.take i) / 18446744073709551616 ^ (i / 8) < 256 ^ (i % 8) := by
  rw [Nat.div_lt_iff_lt_mul (Nat.pow_pos (by decide)), Nat.mul_comm, ← W_256]
  exact h1
 exact Nat.lt_of_le_of_lt (Nat.mod_le _ _) h2
theorem words_bd {e x k : Nat} (hx : x < 256) (he : e < 256 ^ k) (hk : k < 8) : e + x * 256 ^ k < 18446744073709551616 := by
 have h1 : 256 ^ k ≤ 256 ^ 7 := Nat.pow_le_pow_right (by decide) (by omega)
 have h2 := Nat.mul_le_mul_right (256 ^ k) (show x + 1 ≤ 256 by omega)
 rw [Nat.add_mul, Nat.one_mul] at h2
 have h3 : 256 * 256 ^ 7 = 18446744073709551616 := by decide
 omega
theorem words_step {a l : List Nat} {i : Nat} (hi : i / 8 < l.length) (hn : num 18446744073709551616 l = num 256 (a.take i)) : num 18446744073709551616 (l.set (i / 8) (l.getD (i / 8) 0 + a.getD i 0 * 256 ^ (i % 8))) = num 256 (a.take (i + 1)) := by
 have h := num_set (B := 18446744073709551616) (l := l) (k := i / 8) (v := l.getD (i / 8) 0 + a.getD i 0 * 256 ^ (i % 8)) hi
 rw [num_take_succ, ← hn, W_256 i]
 rw [Nat.add_mul, Nat.mul_assoc, Nat.mul_comm (256 ^ (i % 8))] at h
 omega
theorem byte_at {a : List Nat} {i j : Nat} (h : bd 18446744073709551616 a) (_ : i < a.length) (hj : j < 8) : a.getD i 0 / 256 ^ j % 256 = num 18446744073709551616 a / 256 ^ (8 * i + j) % 256 := by
 rw [num_getD h (by decide), Nat.pow_add, Nat.pow_mul, show (256 : Nat) ^ 8 = 18446744073709551616 from by decide, ← Nat.div_div_eq_div_mul]
 generalize num 18446744073709551616 a / 18446744073709551616 ^ i = z
 have e : 18446744073709551616 = 256 ^ j * (256 * 256 ^ (7 - j)) := by
  rw [← Nat.mul_assoc, Nat.mul_right_comm, ← Nat.pow_add, show j + (7 - j) = 7 by omega]
 rw [e, Nat.mod_mul_right_div_self, Nat.mod_mul_right_mod]
set_option maxRecDepth 10000 in
theorem lwords_ctr {a : List Nat} (h : bd 256 a) (hl : a.length < 100000000) : GC Try.prog 88 [.slice (some ⟨0, 0, none⟩) a.length 0] [⟨a.map (vi .u8), false, 1⟩] [.slice (some ⟨1, 0, none⟩) ((a.length + 7) / 8) 0] [⟨a.map (vi .u8), false, 1⟩, ⟨(digs 18446744073709551616 ((a.length + 7) / 8) (num 256 a)).map (vi .u64), true, 1⟩] := by
 refine gi Try.func88 ?_
 refine zS ?_
 refine yA ?_
 refine zN (zS ?_)
 refine yM ?_
 refine yP pL ?_
 refine yP (pAdd (b := 7)) ?_
 refine yP (PureOp.quoN (b := 8) 9223372036854775808 rfl rfl (by decide) (by decide) (by decide) (by omega)) ?_
 refine AWo.makeI tbok 11000 rfl rfl rfl rfl rfl rfl (by omega) (by omega) rfl rfl rfl ?_
 refine yA ?_
 refine zN (zQ (zS ?_))
 refine yM ?_
 refine yP pL ?_
 refine yM ?_
 refine zN (zB ?_)
 refine AW.loopw (fun mm σ => ∃ i, ∃ (l : List Nat), (i ≤ a.length ∧ l.length = ((a.length + 7) / 8) ∧ bd 18446744073709551616 l ∧ num 18446744073709551616 l = num 256 (a.take i)) ∧ mm = a.length - i ∧ σ = ⟨(upd (upd (upd (upd (upd emp 0 (.slice (some ⟨0, 0, none⟩) a.length 0)) 3 (.slice (some ⟨77000, 0, none⟩) ((a.length + 7) / 8) 0)) 11 (.slice (some ⟨0, 0, none⟩) a.length 0)) 12 (vi .i64 a.length)) 13 (vi .i64 i)), (upd (upd emp 0 ⟨a.map (vi .u8), false, 1⟩) 77000 ⟨l.map (vi .u64), true, 1⟩)⟩) (fm := [(77000, 11000)]) (wk [0, 77000]) ⟨0, List.replicate ((a.length + 7) / 8) 0, ⟨Nat.zero_le _, by simp, bd_replicate (by decide) _, by simp [num, num_replicate]⟩, rfl, rfl⟩ ?_
 rintro mm σ ⟨i, l, ⟨hi0, hl2, hbl, hnl⟩, rfl, rfl⟩
 refine zS ?_
 refine yP pLt ?_
 refine zN (zQ ?_)
 refine zA (fun hb0 => ?_) (fun hb0 => ?_)
 ·
  have hi : i < a.length := by simpa using hb0
  have hx := bd_getD h (by decide) i
  obtain ⟨hb1, hb2⟩ := shl_byte hx (Nat.mod_lt i (show 0 < 8 by decide))
  have he := words_low h hbl hnl
  have hs2 := words_bd hx he (Nat.mod_lt i (show 0 < 8 by decide))
  have he64 := bd_getD hbl (by decide) (i / 8)
  refine zK (zT (zQ (zB (zS ?_))))
  refine yM ?_
  refine yP pJ ?_
  refine yL 0 ?_
  refine yA ?_
  refine yA ?_
  refine zN ?_
  refine AW.draw mixed ?_
  refine yM ?_
  refine yM ?_
  refine yP (PureOp.quoN (b := 8) 9223372036854775808 rfl rfl (by decide) (by decide) (by decide) (by omega)) ?_
  refine yP pJ ?_
  refine yL 0 ?_
  refine yM ?_
  refine yP (PureOp.cvtN tbok 18446744073709551616 rfl rfl rfl (by decide) (by decide) (by omega)) ?_
  refine yM ?_
  refine yP (PureOp.remN (b := 8) rfl rfl (by decide)) ?_
  refine yP (PureOp.mulI (a := 8) rfl rfl (by omega)) ?_
  refine yP ((PureOp.shlUge 18446744073709551616 rfl rfl rfl rfl).mono (v' := vi .u64 (a.getD i 0 * 256 ^ (i % 8))) (congrArg (vi .u64) hb1)) ?_
  refine yP ((PureOp.orN 18446744073709551616 rfl rfl (by decide) (by decide) he64 hb2).mono (v' := vi .u64 (l.getD (i / 8) 0 + a.getD i 0 * 256 ^ (i % 8))) (congrArg (vi .u64) (or_add he))) ?_
  refine yP pJ ?_
  refine yS (vi .u64) ?_
  refine zD (zL (zT (zR ?_)))
  refine yP (pAdd (b := 1)) ?_
  refine yM ?_
  refine zN (zT ?_)
  exact ⟨a.length - (i + 1), [], _, by omega, wk [0, 77000], i + 1, l.set (i / 8) (l.getD (i / 8) 0 + a.getD i 0 * 256 ^ (i % 8)), ⟨by omega, by simp [hl2], bd_set hbl hs2, words_step (by omega) hnl⟩, rfl, rfl⟩
 ·
  have hi : i = a.length := by simp at hb0; omega
  subst hi
  rw [take_all] at hnl
  obtain rfl : l = digs 18446744073709551616 ((a.length + 7) / 8) (num 256 a) := by rw [← hnl, ← hl2, digs_num hbl]
  refine zX (zV (zV (zH (zT (zS ?_)))))
  refine yM ?_
  refine yA ?_
  refine zN (zE ?_)
  exact rq [77000] [.tmp 2]
set_option maxRecDepth 10000 in
theorem rbytes_ctr {a : List Nat} (h : bd 18446744073709551616 a) (hl : a.length < 100000000) : GC Try.prog 116 [.slice (some ⟨0, 0, none⟩) a.length 0] [⟨a.map (vi .u64), false, 1⟩] [.slice (some ⟨1, 0, none⟩) (8 * a.length) 0] [⟨a.map (vi .u64), false, 1⟩, ⟨(digs 256 (8 * a.length) (num 18446744073709551616 a)).map (vi .u8), true, 1⟩] := by
 refine gi Try.func116 ?_
 refine zS ?_
 refine yA ?_
 refine zN (zS ?_)
 refine AWo.buildSlice tbok 8000 [] (out := []) rfl rfl (by decide) rfl rfl rfl (by decide) rfl rfl rfl rfl rfl ?_
 refine yA ?_
 refine zN (zQ (zS ?_))
 refine yA ?_
 refine zN (zB ?_)
 refine AW.loopw (fun mm σ => ∃ i, (i ≤ a.length) ∧ mm = a.length - i ∧ σ = ⟨(upd (upd (upd emp 0 (.slice (some ⟨0, 0, none⟩) a.length 0)) 3 (.slice (some ⟨77000, 0, none⟩) (8 * i) 0)) 4 (vi .i64 i)), (upd (upd emp 0 ⟨a.map (vi .u64), false, 1⟩) 77000 ⟨(digs 256 (8 * i) (num 18446744073709551616 a)).map (vi .u8), true, 1⟩)⟩) (fm := [(77000, 8000)]) (wk [0, 77000]) ⟨0, Nat.zero_le _, rfl, rfl⟩ ?_
 rintro mm σ ⟨i, hinv, rfl, rfl⟩
 refine zQ (zS ?_)
 refine yM ?_
 refine yM ?_
 refine yP pL ?_
 refine yP pLt ?_
 refine zN ?_
 refine zA (fun hb0 => ?_) (fun hb0 => ?_)
 ·
  have hi : i < a.length := by simpa using hb0
  have hx := bd_getD h (by decide) i
  refine zK (zT (zQ (zB (zS ?_))))
  refine yM ?_
  refine yM ?_
  refine yP pJ ?_
  refine yL 0 ?_
  refine yA ?_
  refine zN (zS ?_)
  refine yA ?_
  refine zN (zB ?_)
  refine AW.loopw (fun mm σ => ∃ j, (j ≤ 8) ∧ mm = 8 - j ∧ σ = ⟨(upd (upd (upd (upd (upd emp 0 (.slice (some ⟨0, 0, none⟩) a.length 0)) 3 (.slice (some ⟨77000, 0, none⟩) (8 * i + j) 0)) 4 (vi .i64 i)) 5 (vi .u64 (a.getD i 0 / 256 ^ j))) 6 (vi .i64 j)), (upd (upd emp 0 ⟨a.map (vi .u64), false, 1⟩) 77000 ⟨(digs 256 (8 * i + j) (num 18446744073709551616 a)).map (vi .u8), true, 1⟩)⟩) (fm := []) (wk [0, 77000]) ⟨0, Nat.zero_le _, rfl, rfl⟩ ?_
  rintro mm σ ⟨j, hj0, rfl, rfl⟩
  refine zQ (zS ?_)
  refine yM ?_
  refine yP (pLt (b := 8)) ?_
  refine zN ?_
  refine zA (fun hb1 => ?_) (fun hb1 => ?_)
  ·
   have hj : j < 8 := by simpa using hb1
   have hby := byte_at h hi hj
   refine zK (zT (zQ (zB (zS ?_))))
   refine yM ?_
   refine yM ?_
   refine yP (PureOp.remN (b := 256) rfl rfl (by decide)) ?_
   refine yP ((PureOp.cvtU tbok 256 rfl rfl rfl rfl rfl).mono (v' := vi .u8 (num 18446744073709551616 a / 256 ^ (8 * i + j) % 256)) (congrArg (vi .u8) (by rw [Nat.mod_mod]; exact hby))) ?_
   refine AWo.buildSlice tbok 27000 [(0, vi .u8 (num 18446744073709551616 a / 256 ^ (8 * i + j) % 256))] (out := [vi .u8 (num 18446744073709551616 a / 256 ^ (8 * i + j) % 256)]) rfl rfl (by decide) rfl rfl rfl (by decide) rfl rfl rfl rfl rfl ?_
   refine AWo.append tbok (all := (digs 256 (8 * i + j + 1) (num 18446744073709551616 a)).map (vi .u8)) 28000 rfl rfl rfl rfl (by simp [digs_len]) rfl (by (simp; done)) (by decide) rfl rfl rfl (by decide) rfl rfl rfl (by omega) (by omega) rfl (by rw [digs_snoc, ← map_snoc]; rfl) rfl rfl ?_
   refine yA ?_
   refine zN (zR ?_)
   refine yM ?_
   refine yP (PureOp.quoN (b := 256) 18446744073709551616 rfl rfl (by decide) (by decide) (by decide) (Nat.lt_of_le_of_lt (Nat.div_le_self _ _) hx)) ?_
   refine yA ?_
   refine zN (zL (zT (zR ?_)))
   refine yM ?_
   refine yP (pAdd (b := 1)) ?_
   refine yA ?_
   refine zN (zT ?_)
   refine ⟨8 - (j + 1), [(77000, 28000)], _, by omega, ?_, j + 1, by omega, rfl, rfl⟩
   refine Wk.of [0, 77000] ?_ ?_ ?_ (by decide) rfl
   ·
    refine WkE.upd rfl (by exact VR.flat _ rfl) ?_
    refine WkE.upd rfl (VR.eqv (by exact congrArg (vi .u64) (by rw [Nat.pow_succ, Nat.div_div_eq_div_mul])) rfl) ?_
    refine WkE.upd rfl (by exact VR.flat _ rfl) ?_
    refine WkE.upd rfl (.slice (77000) 0 _ 0 ⟨_, rfl⟩ (by simp) (by simp)) ?_
    refine WkE.upd rfl (.slice (0) 0 _ 0 ⟨_, rfl⟩ (by simp) (by simp)) ?_
    exact WkE.emp
   ·
    refine WkM.flatM rfl (by rfl) (fun _ => rfl) (fun h => h) ?_
    refine WkM.flatM rfl (by rfl) (fun _ => rfl) (fun h => h) ?_
    exact WkM.emp
   ·
    repeat (refine dom_upd_mem (by decide) ?_)
    exact dom_emp
  ·
   obtain rfl : j = 8 := by simp at hb1; omega
   refine zX (zV (zV (zH (zL (zT (zR ?_))))))
   refine yM ?_
   refine yP (pAdd (b := 1)) ?_
   refine yA ?_
   refine zN (zT ?_)
   exact ⟨a.length - (i + 1), [], _, by omega, wk [0, 77000], i + 1, by omega, rfl, rfl⟩
 ·
  have hi : i = a.length := by simp at hb0; omega
  subst hi
  refine zX (zV (zV (zH (zT (zS ?_)))))
  refine yM ?_
  refine yA ?_
  refine zN (zE ?_)
  exact rq [77000] [.tmp 2]
set_option maxRecDepth 10000 in
theorem lbytes_ctr {a : List Nat} (h : bd 18446744073709551616 a) (hl : a.length < 100000000) : GC Try.prog 123 [.slice (some ⟨0, 0, none⟩) a.length 0] [⟨a.map (vi .u64), false, 1⟩] [.slice (some ⟨1, 0, none⟩) (8 * a.length) 0] [⟨a.map (vi .u64), false, 1⟩, ⟨(digs 256 (8 * a.length) (num 18446744073709551616 a)).map (vi .u8), true, 1⟩] := by
 refine gi Try.func123 ?_
 refine zS ?_
 refine yA ?_
 refine zN (zS ?_)
 refine yA ?_
 refine zN (zQ (zS ?_))
 refine yM ?_
 refine yP pL ?_
 refine yM ?_
 refine zN (zB ?_)
 refine AW.ghost 77000 1 rfl ?_
 refine AW.loopw (fun mm σ => ∃ i, (i ≤ a.length) ∧ mm = a.length - i ∧ σ = ⟨(upd (upd (upd (upd (upd emp 0 (.slice (some ⟨0, 0, none⟩) a.length 0)) 3 (.slice (some ⟨77000, 0, none⟩) (8 * i) 0)) 8 (vi .i64 i)) 6 (.slice (some ⟨0, 0, none⟩) a.length 0)) 7 (vi .i64 a.length)), (upd (upd emp 0 ⟨a.map (vi .u64), false, 1⟩) 77000 ⟨(digs 256 (8 * i) (num 18446744073709551616 a)).map (vi .u8), true, 1⟩)⟩) (fm := []) (wk [0, 77000]) ⟨0, Nat.zero_le _, rfl, rfl⟩ ?_
 rintro mm σ ⟨i, hinv, rfl, rfl⟩
 refine zS ?_
 refine yP pLt ?_
 refine zN (zQ ?_)
 refine zA (fun hb0 => ?_) (fun hb0 => ?_)
 ·
  have hi : i < a.length := by simpa using hb0
  have hx := bd_getD h (by decide) i
  refine zK (zT (zQ (zB (zS ?_))))
  refine yP pJ ?_
  refine yL 0 ?_
  refine yA ?_
  refine zN (zS ?_)
  refine yM ?_
  refine zN (zB ?_)
  refine AW.loopw (fun mm σ => ∃ j, (j ≤ 8) ∧ mm = 8 - j ∧ σ = ⟨(upd (upd (upd (upd (upd (upd (upd emp 0 (.slice (some ⟨0, 0, none⟩) a.length 0)) 3 (.slice (some ⟨77000, 0, none⟩) (8 * i + j) 0)) 8 (vi .i64 i)) 6 (.slice (some ⟨0, 0, none⟩) a.length 0)) 7 (vi .i64 a.length)) 5 (vi .u64 (a.getD i 0 / 256 ^ j))) 12 (vi .i64 j)), (upd (upd emp 0 ⟨a.map (vi .u64), false, 1⟩) 77000 ⟨(digs 256 (8 * i + j) (num 18446744073709551616 a)).map (vi .u8), true, 1⟩)⟩) (fm := []) (wk [0, 77000]) ⟨0, Nat.zero_le _, rfl, rfl⟩ ?_
  rintro mm σ ⟨j, hj0, rfl, rfl⟩
  refine zS ?_
  refine yP (pLt (b := 8)) ?_
  refine zN (zQ ?_)
  refine zA (fun hb1 => ?_) (fun hb1 => ?_)
  ·
   have hj : j < 8 := by simpa using hb1
   have hby := byte_at h hi hj
   refine zK (zT (zQ (zB (zS ?_))))
   refine yM ?_
   refine yM ?_
   refine yP ((PureOp.cvtU tbok 256 rfl rfl rfl rfl rfl).mono (v' := vi .u8 (num 18446744073709551616 a / 256 ^ (8 * i + j) % 256)) (congrArg (vi .u8) hby)) ?_
   refine AWo.buildSlice tbok 18000 [(0, vi .u8 (num 18446744073709551616 a / 256 ^ (8 * i + j) % 256))] (out := [vi .u8 (num 18446744073709551616 a / 256 ^ (8 * i + j) % 256)]) rfl rfl (by decide) rfl rfl rfl (by decide) rfl rfl rfl rfl rfl ?_
   refine AWo.append tbok (all := (digs 256 (8 * i + j + 1) (num 18446744073709551616 a)).map (vi .u8)) 19000 rfl rfl rfl rfl (by simp [digs_len]) rfl (by (simp; done)) (by decide) rfl rfl rfl (by decide) rfl rfl rfl (by omega) (by omega) rfl (by rw [digs_snoc, ← map_snoc]; rfl) rfl rfl ?_
   refine yA ?_
   refine zN (zR ?_)
   refine yM ?_
   refine yP ((PureOp.shrN (b := 8) 64 rfl rfl rfl (by decide)).mono (v' := vi .u64 (a.getD i 0 / 256 ^ j / 256)) rfl) ?_
   refine yA ?_
   refine zN (zL (zT (zR ?_)))
   refine yP (pAdd (b := 1)) ?_
   refine yM ?_
   refine zN (zT ?_)
   refine ⟨8 - (j + 1), [(77000, 19000)], _, by omega, ?_, j + 1, by omega, rfl, rfl⟩
   refine Wk.of [0, 77000] ?_ ?_ ?_ (by decide) rfl
   ·
    refine WkE.upd rfl (by exact VR.flat _ rfl) ?_
    refine WkE.upd rfl (VR.eqv (by exact congrArg (vi .u64) (by rw [Nat.pow_succ, Nat.div_div_eq_div_mul])) rfl) ?_
    refine WkE.upd rfl (by exact VR.flat _ rfl) ?_
    refine WkE.upd rfl (.slice (0) 0 _ 0 ⟨_, rfl⟩ (by simp) (by simp)) ?_
    refine WkE.upd rfl (by exact VR.flat _ rfl) ?_
    refine WkE.upd rfl (.slice (77000) 0 _ 0 ⟨_, rfl⟩ (by simp) (by simp)) ?_
    refine WkE.upd rfl (.slice (0) 0 _ 0 ⟨_, rfl⟩ (by simp) (by simp)) ?_
    exact WkE.emp
   ·
    refine WkM.flatM rfl (by rfl) (fun _ => rfl) (fun h => h) ?_
    refine WkM.flatM rfl (by rfl) (fun _ => rfl) (fun h => h) ?_
    exact WkM.emp
   ·
    repeat (refine dom_upd_mem (by decide) ?_)
    exact dom_emp
  ·
   obtain rfl : j = 8 := by simp at hb1; omega
   refine zX (zV (zV (zH (zL (zT (zR ?_))))))
   refine yP (pAdd (b := 1)) ?_
   refine yM ?_
   refine zN (zT ?_)
   exact ⟨a.length - (i + 1), [], _, by omega, wk [0, 77000], i + 1, by omega, rfl, rfl⟩
 ·
  have hi : i = a.length := by simp at hb0; omega
  subst hi
  refine zX (zV (zV (zH (zT (zS ?_)))))
  refine yM ?_
  refine yA ?_
  refine zN (zE ?_)
  exact rq [77000] [.tmp 2]
end Go.Proofs.Yteeifahhejangaa
namespace Go.Proofs.Yteeifahhejangaa
open Go Sim
theorem blen_half {x k : Nat} (h : x / 2 ^ k ≠ 0) : blen x = k + blen (x / 2 ^ k) := blen_shift h
theorem blen_lt {x k : Nat} (h : x < 2 ^ k) : blen x ≤ k := by
  simp only [blen]
  split
  · omega
  · rename_i h0
    have := Nat.log2_lt h0 |>.2 h
    omega
theorem blen_le {x : Nat} {b : Nat} (h : x < b) : blen x ≤ b := by
  simp only [blen]
  split
  · omega
  · rename_i h0
    have := Nat.log2_self_le h0
    have h2 : x.log2 < 2 ^ x.log2 := Nat.lt_two_pow_self
    omega
def lenTabOk (s : ByteArray) : Bool := (List.range 256).all fun j => s[j]? == some (UInt8.ofNat (blen j))
theorem lenTab {P : Program} {E : Env} {t : TypeId} {x : Operand} {s : ByteArray} {y : Nat} (ht : P.underlying t = some .string) (hx : aev E (.const (.string s)) = some (.string s)) (hy : aev E x = some (vi .u8 y)) (hlt : y < 256) (hs : lenTabOk s = true) :
  PureOp P (.index t (.const (.string s)) x) E (vi .u8 (blen y)) := by
 have h := List.all_eq_true.1 hs y (List.mem_range.2 hlt)
 refine (PureOp.idxStr hx hy ht (eq_of_beq h)).mono (congrArg (vi .u8) ?_)
 have h8 : blen y ≤ 8 := blen_lt (k := 8) hlt
 simp
 omega
theorem word_next {a : List Nat} {r : Nat} (h : bd 18446744073709551616 a) (hlt : num 18446744073709551616 a < 18446744073709551616 ^ (r + 1)) (hz : a.getD r 0 = 0) : num 18446744073709551616 a < 18446744073709551616 ^ r := by
 rw [num_getD h (by decide)] at hz
 have hp : 0 < 18446744073709551616 ^ r := Nat.pow_pos (by decide)
 have h1 : num 18446744073709551616 a / 18446744073709551616 ^ r < 18446744073709551616 := by rw [Nat.div_lt_iff_lt_mul hp, Nat.mul_comm, ← Nat.pow_succ]; exact hlt
 rw [Nat.mod_eq_of_lt h1] at hz
 rcases Nat.div_eq_zero_iff.1 hz with h3 | h3
 · omega
 · exact h3
theorem word_top {a : List Nat} {r : Nat} (h : bd 18446744073709551616 a) (hlt : num 18446744073709551616 a < 18446744073709551616 ^ (r + 1)) (hz : a.getD r 0 ≠ 0) : blen (num 18446744073709551616 a) = 64 * r + blen (a.getD r 0) := by
 rw [num_getD h (by decide)] at hz ⊢
 have hp : 0 < 18446744073709551616 ^ r := Nat.pow_pos (by decide)
 have h1 : num 18446744073709551616 a / 18446744073709551616 ^ r < 18446744073709551616 := by rw [Nat.div_lt_iff_lt_mul hp, Nat.mul_comm, ← Nat.pow_succ]; exact hlt
 rw [Nat.mod_eq_of_lt h1] at hz ⊢
 have e : (18446744073709551616 : Nat) ^ r = 2 ^ (64 * r) := by rw [Nat.pow_mul]
 rw [e] at hz ⊢
 exact blen_shift hz
set_option maxRecDepth 10000 in
theorem len64_ctr {x : Nat} (hx : x < 18446744073709551616) : GC Try.prog 145 [vi .u64 (x)] [] [vi .i64 (blen x)] [] := by
 refine gi Try.func145 ?_
 refine zS ?_
 refine yA ?_
 refine zN (zQ (zS ?_))
 refine yM ?_
 refine yP (PureOp.geN (b := 4294967296) rfl rfl) ?_
 refine zN ?_
 refine AW.joinT (fun σ => ∃ m, ∃ y, (blen x = m + blen y ∧ y < 4294967296 ∧ m ≤ 32) ∧ σ = ⟨(upd (upd emp 0 (vi .u64 y)) 2 (vi .i64 m)), emp⟩) ?_ ?_
 ·
  refine zA (fun hb0 => ?_) (fun hb0 => ?_)
  ·
   have hge : 4294967296 ≤ x := by simpa using hb0
   refine zS ?_
   refine yM ?_
   refine yP (PureOp.shrN (b := 32) 64 rfl rfl rfl (by decide)) ?_
   refine yA ?_
   refine zN (zR ?_)
   refine yA ?_
   refine zN (zT ?_)
   refine ⟨[], _, ?_, (by exact ⟨32, x / 2 ^ 32, ⟨blen_half (by omega), by omega, by omega⟩, rfl⟩)⟩
   exact wk []
  ·
   have hge : ¬ 4294967296 ≤ x := by simpa using hb0
   refine zK (zT ?_)
   refine ⟨[], _, ?_, (by exact ⟨0, x, ⟨by omega, by omega, by omega⟩, rfl⟩)⟩
   exact wk []
 ·
  rintro σ ⟨m, y, ⟨he, hy, hm⟩, rfl⟩
  refine zQ (zS ?_)
  refine yM ?_
  refine yP (PureOp.geN (b := 65536) rfl rfl) ?_
  refine zN ?_
  refine AW.joinT (fun σ => ∃ m, ∃ y, (blen x = m + blen y ∧ y < 65536 ∧ m ≤ 48) ∧ σ = ⟨(upd (upd emp 0 (vi .u64 y)) 2 (vi .i64 m)), emp⟩) ?_ ?_
  ·
   refine zA (fun hb1 => ?_) (fun hb1 => ?_)
   ·
    have hge : 65536 ≤ y := by simpa using hb1
    refine zS ?_
    refine yM ?_
    refine yP (PureOp.shrN (b := 16) 64 rfl rfl rfl (by decide)) ?_
    refine yA ?_
    refine zN (zR ?_)
    refine yM ?_
    refine yP (pAdd (b := 16)) ?_
    refine yA ?_
    refine zN (zT ?_)
    refine ⟨[], _, ?_, (by exact ⟨m + 16, y / 2 ^ 16, ⟨by rw [he, blen_half (k := 16) (by omega)]; omega, by omega, by omega⟩, rfl⟩)⟩
    exact wk []
   ·
    have hge : ¬ 65536 ≤ y := by simpa using hb1
    refine zK (zT ?_)
    refine ⟨[], _, ?_, (by exact ⟨m, y, ⟨by omega, by omega, by omega⟩, rfl⟩)⟩
    exact wk []
  ·
   rintro σ ⟨m, y, ⟨he, hy, hm⟩, rfl⟩
   refine zQ (zS ?_)
   refine yM ?_
   refine yP (PureOp.geN (b := 256) rfl rfl) ?_
   refine zN ?_
   refine AW.joinT (fun σ => ∃ m, ∃ y, (blen x = m + blen y ∧ y < 256 ∧ m ≤ 56) ∧ σ = ⟨(upd (upd emp 0 (vi .u64 y)) 2 (vi .i64 m)), emp⟩) ?_ ?_
   ·
    refine zA (fun hb2 => ?_) (fun hb2 => ?_)
    ·
     have hge : 256 ≤ y := by simpa using hb2
     refine zS ?_
     refine yM ?_
     refine yP (PureOp.shrN (b := 8) 64 rfl rfl rfl (by decide)) ?_
     refine yA ?_
     refine zN (zR ?_)
     refine yM ?_
     refine yP (pAdd (b := 8)) ?_
     refine yA ?_
     refine zN (zT ?_)
     refine ⟨[], _, ?_, (by exact ⟨m + 8, y / 2 ^ 8, ⟨by rw [he, blen_half (k := 8) (by omega)]; omega, by omega, by omega⟩, rfl⟩)⟩
     exact wk []
    ·
     have hge : ¬ 256 ≤ y := by simpa using hb2
     refine zK (zT ?_)
     refine ⟨[], _, ?_, (by exact ⟨m, y, ⟨by omega, by omega, by omega⟩, rfl⟩)⟩
     exact wk []
   ·
    rintro σ ⟨m, y, ⟨he, hy, hm⟩, rfl⟩
    refine zS ?_
    refine yM ?_
    refine yM ?_
    refine yP ((PureOp.cvtU tbok 256 rfl rfl rfl rfl rfl).mono (v' := vi .u8 y) (congrArg (vi .u8) (Nat.mod_eq_of_lt hy))) ?_
    refine yP (lenTab Try.underlying9 rfl rfl hy (by kernel_rfl)) ?_
    refine yP (PureOp.cvtN tbok 9223372036854775808 rfl rfl rfl (by decide) (by decide) (by have := blen_le hy; omega)) ?_
    refine yP ((PureOp.addI rfl rfl (by have := blen_le hy; omega)).mono (v' := vi .i64 (blen x)) (congrArg (vi .i64) he.symm)) ?_
    refine yA ?_
    refine zN (zE ?_)
    exact rq [] [.tmp 2]
set_option maxRecDepth 10000 in
theorem lbits_ctr {a : List Nat} (h : bd 18446744073709551616 a) (hl : a.length < 100000000) : GC Try.prog 127 [.slice (some ⟨0, 0, none⟩) a.length 0] [⟨a.map (vi .u64), false, 1⟩] [vi .i64 (blen (num 18446744073709551616 a))] [⟨a.map (vi .u64), false, 1⟩] := by
 refine gi Try.func127 ?_
 refine zS ?_
 refine yA ?_
 refine zN (zQ (zS ?_))
 refine yM ?_
 refine yP pL ?_
 refine yP ((PureOp.subP rfl rfl (by omega)).mono (v' := vp a.length) (by rfl)) ?_
 refine yA ?_
 refine zN (zB ?_)
 refine AW.loopw (fun mm σ => ∃ r, (r ≤ a.length ∧ num 18446744073709551616 a < 18446744073709551616 ^ r) ∧ mm = 1 * r ∧ σ = ⟨(upd (upd emp 0 (.slice (some ⟨0, 0, none⟩) a.length 0)) 3 (vp r)), (upd emp 0 ⟨a.map (vi .u64), false, 1⟩)⟩) (fm := []) (wk [0]) ⟨a.length, ⟨Nat.le_refl _, num_lt h⟩, rfl, rfl⟩ ?_
 rintro mm σ ⟨r, ⟨hr, hlt⟩, rfl, rfl⟩
 refine zQ (zS ?_)
 refine yM ?_
 refine yP (PureOp.geP rfl rfl) ?_
 refine zN ?_
 refine zA (fun hb0 => ?_) (fun hb0 => ?_)
 ·
  have hp0 : 0 < r := by simpa using hb0
  obtain ⟨r, rfl⟩ : ∃ q, r = q + 1 := ⟨r - 1, by omega⟩
  rw [vp_succ]
  refine zK (zT (zQ (zB (zS ?_))))
  refine yM ?_
  refine yM ?_
  refine yP pJ ?_
  refine yL 0 ?_
  refine yP (pNe (b := 0)) ?_
  refine zN ?_
  refine zA (fun hb1 => ?_) (fun hb1 => ?_)
  ·
   have hnz : a.getD r 0 ≠ 0 := by simpa using hb1
   refine zS ?_
   refine yM ?_
   refine yP (PureOp.mulI (a := 64) rfl rfl (by omega)) ?_
   refine yM ?_
   refine yM ?_
   refine yP pJ ?_
   refine yL 0 ?_
   refine yC (len64_ctr (x := a.getD r 0) (bd_getD h (by decide) r)) bd145 [] [] ?_
   refine yP ((PureOp.addI rfl rfl (by have := blen_lt (k := 64) (bd_getD h (by decide) r); omega)).mono (v' := vi .i64 (blen (num 18446744073709551616 a))) (congrArg (vi .i64) (word_top h hlt hnz).symm)) ?_
   refine yA ?_
   refine zN (zE (zI (zU (zU (zI (zU ?_))))))
   exact rq [] [.tmp 2] (hres := (.cons rfl (by rfl) .nil))
  ·
   have hz : a.getD r 0 = 0 := by simpa using hb1
   refine zK (zL (zT (zR ?_)))
   refine yM ?_
   refine yP (PureOp.subP rfl rfl (by omega)) ?_
   refine yA ?_
   refine zN (zT ?_)
   exact ⟨1 * r, [], _, by omega, wk [0], r, ⟨by omega, word_next h hlt hz⟩, rfl, rfl⟩
 ·
  obtain rfl : r = 0 := by simpa using hb0
  have hz0 : num 18446744073709551616 a = 0 := by simpa using hlt
  refine zX (zV (zV (zH (zT (zS ?_)))))
  refine yA ?_
  refine zN (zE ?_)
  exact rq [] [.tmp 2] (hres := (.cons rfl (by exact congrArg (vi .i64) (by rw [hz0]; rfl)) .nil))
end Go.Proofs.Yteeifahhejangaa
namespace Go.Proofs.Yteeifahhejangaa
open Go Sim
section
variable {B : Nat}
theorem mad_step {l b : List Nat} {j c p x s : Nat} (hk : j < l.length) (h : num B l + c * B ^ j = p + x * num B (b.take j)) (hs : s = l.getD j 0 + x * b.getD j 0 + c) :
    num B (l.set j (s % B)) + s / B * B ^ (j + 1) = p + x * num B (b.take (j + 1)) := by
  have := mul_step (B := B) (l := l) (b := b) (i := 0) (j := j) (c := c) (p := p) (x := x) (s := s) (by omega) (by simpa using h) (by simpa using hs)
  simpa using this
theorem red_step {u q : List Nat} {j c k s t : Nat} (hj : 0 < j) (hju : j < u.length) (h : B * num B (u.take (j - 1)) + c * B ^ j = t % B ^ j + k * num B (q.take j)) (hs : s = u.getD j 0 + k * q.getD j 0 + c)
    (hu : u.getD j 0 = t / B ^ j % B) : B * num B ((u.set (j - 1) (s % B)).take j) + s / B * B ^ (j + 1) = t % B ^ (j + 1) + k * num B (q.take (j + 1)) := by
  obtain ⟨m, rfl⟩ : ∃ m, j = m + 1 := ⟨j - 1, by omega⟩
  simp only [Nat.add_sub_cancel] at h ⊢
  rw [take_set_succ (by omega), num_append, List.length_take, Nat.min_eq_left (by omega), mod_succ t, num_take_succ q, ← hu]
  simp only [num, Nat.mul_zero, Nat.add_zero]
  have h2 := Nat.mod_add_div s B
  generalize num B (u.take m) = a at *
  generalize num B (q.take (m + 1)) = b at *
  generalize t % B ^ (m + 1) = d at *
  generalize s % B = r at *
  generalize s / B = e at *
  generalize u.getD (m + 1) 0 = f at *
  generalize q.getD (m + 1) 0 = g at *
  rw [Nat.pow_succ B (m + 1)]
  rw [Nat.pow_succ] at h ⊢
  generalize B ^ m = v at *
  subst hs
  have h3 : r * (v * B) + e * (v * B * B) = (f + k * g + c) * (v * B) := by rw [← h2]; grind
  grind
theorem red_end {u : List Nat} {n c k t P : Nat} (hn : u.length = n + 2) (h : B * num B (u.take n) + c * B ^ (n + 1) = t % B ^ (n + 1) + k * P) (hu : u.getD (n + 1) 0 = t / B ^ (n + 1)) :
    B * num B ((u.set n ((u.getD (n + 1) 0 + c) % B)).set (n + 1) ((u.getD (n + 1) 0 + c) / B)) = t + k * P := by
  have e : (u.set n ((u.getD (n + 1) 0 + c) % B)).set (n + 1) ((u.getD (n + 1) 0 + c) / B) = u.take n ++ [(u.getD (n + 1) 0 + c) % B, (u.getD (n + 1) 0 + c) / B] := by
    have hl : ((u.set n ((u.getD (n + 1) 0 + c) % B)).set (n + 1) ((u.getD (n + 1) 0 + c) / B)).length = n + 1 + 1 := by simp [hn]
    rw [← List.take_of_length_le (Nat.le_of_eq hl), take_set_succ (by simp [hn]), take_set_succ (by omega), List.append_assoc]
    rfl
  rw [e, num_append, List.length_take, Nat.min_eq_left (by omega)]
  simp only [num, Nat.mul_zero, Nat.add_zero]
  rw [Nat.mod_add_div, hu]
  have h3 := Nat.mod_add_div t (B ^ (n + 1))
  rw [Nat.pow_succ] at h h3 ⊢
  generalize t / (B ^ n * B) = d at *
  generalize t % (B ^ n * B) = f at *
  generalize num B (u.take n) = a at *
  generalize B ^ n = v at *
  grind
theorem mont_lt {T x b k P T' : Nat} (h : B * T' = T + x * b + k * P) (hT : T < 2 * P) (hx : x < B) (hb : b < P) (hk : k < B) : T' < 2 * P := by
  have h1 : x * b ≤ (B - 1) * P := Nat.mul_le_mul (by omega) (by omega)
  have h2 : k * P ≤ (B - 1) * P := Nat.mul_le_mul (by omega) (Nat.le_refl _)
  obtain ⟨d, rfl⟩ : ∃ d, B = d + 1 := ⟨B - 1, by omega⟩
  simp only [Nat.add_sub_cancel] at h1 h2
  have h3 : (d + 1) * T' < (d + 1) * (2 * P) := by
    rw [h]
    have e : (d + 1) * (2 * P) = 2 * P + d * P + d * P := by grind
    rw [e]; omega
  exact Nat.lt_of_mul_lt_mul_left h3
theorem mont_mod {T x b k P T' i A : Nat} (h : B * T' = T + x * b + k * P) (hT : T * B ^ i % P = A * b % P) : T' * B ^ (i + 1) % P = (A + x * B ^ i) * b % P := by
  have e : T' * B ^ (i + 1) = T * B ^ i + x * B ^ i * b + k * B ^ i * P := by
    rw [Nat.pow_succ]
    have : B * T' * B ^ i = (T + x * b + k * P) * B ^ i := by rw [h]
    grind
  rw [e, Nat.add_mul_mod_self_right, Nat.add_mod, hT, ← Nat.add_mod, Nat.add_mul]
theorem mont_uniq {R P r r' : Nat} (hc : Nat.Coprime R P) (hr : r < P) (hr' : r' < P) (h : r * R % P = r' * R % P) : r = r' := by
  have key : ∀ {a b : Nat}, a ≤ b → b < P → a * R % P = b * R % P → a = b := by
    intro a b hab hb h
    have h1 : P ∣ (b - a) * R := by
      have h2 := Nat.dvd_of_mod_eq_zero (Nat.sub_mod_eq_zero_of_mod_eq h.symm)
      rwa [← Nat.sub_mul] at h2
    have h3 := (Nat.Coprime.symm hc).dvd_of_dvd_mul_right h1
    rcases Nat.eq_zero_or_pos (b - a) with h0 | h0
    · omega
    · have := Nat.le_of_dvd h0 h3
      omega
  rcases Nat.le_total r r' with h1 | h1
  · exact key h1 hr' h
  · exact (key h1 hr h.symm).symm
theorem mont_low {t k P inv : Nat} (hB : 0 < B) (hi : (P * inv + 1) % B = 0) (hk : k = t % B * inv % B) : (t % B + k * (P % B)) % B = 0 := by
  subst hk
  have e : (t % B + t % B * inv % B * (P % B)) % B = (t % B * (P * inv + 1)) % B := by
    rw [Nat.add_mod, ← Nat.mul_mod (t % B * inv) P B, ← Nat.add_mod, Nat.mul_add, Nat.mul_one, Nat.add_comm, Nat.mul_assoc, Nat.mul_comm inv P]
  rw [e, Nat.mul_mod, hi, Nat.mul_zero, Nat.zero_mod]
end
end Go.Proofs.Yteeifahhejangaa
namespace Go.Proofs.Yteeifahhejangaa
open Go Sim
def pinv : Nat → Nat
 | 0 => 1
 | i + 1 => pinv i * ((2 + (18446744073709551616 - 4891460686036598785 * pinv i % 18446744073709551616)) % 18446744073709551616) % 18446744073709551616
theorem pinv_lt (i : Nat) : pinv i < 18446744073709551616 := by
 cases i with
 | zero => decide
 | succ i => exact Nat.mod_lt _ (by decide)
theorem below_ge {a : List Nat} (_ : bd 18446744073709551616 a) (_ : a.length = 4) (h : 21888242871839275222246405745257275088548364400416034343698204186575808495617 ≤ num 18446744073709551616 a) (h2 : num 18446744073709551616 a < 2 * 21888242871839275222246405745257275088548364400416034343698204186575808495617) : digs 18446744073709551616 4 (num 18446744073709551616 a % 21888242871839275222246405745257275088548364400416034343698204186575808495617) = digs 18446744073709551616 4 (num 18446744073709551616 a + 18446744073709551616 ^ 4 - 21888242871839275222246405745257275088548364400416034343698204186575808495617) := by
 refine num_inj (digs_bd (by decide) _ _) (digs_bd (by decide) _ _) (by simp [digs_len]) ?_
 rw [num_digs, num_digs]
 omega
theorem below_lt {a : List Nat} (ha : bd 18446744073709551616 a) (hl : a.length = 4) (h : num 18446744073709551616 a < 21888242871839275222246405745257275088548364400416034343698204186575808495617) : digs 18446744073709551616 4 (num 18446744073709551616 a % 21888242871839275222246405745257275088548364400416034343698204186575808495617) = a := by
 rw [Nat.mod_eq_of_lt h, ← hl, digs_num ha]
set_option maxRecDepth 10000 in
theorem prime_ctr : GC Try.prog 84 [] [] [.agg ((digs 18446744073709551616 4 21888242871839275222246405745257275088548364400416034343698204186575808495617).map (vi .u64)).toArray] [] := by
 refine gi Try.func84 ?_
 refine zS ?_
 refine yN 1000 1 ((List.replicate 4 0).map (vi .u64)) ?_
 refine zN (zS ?_)
 refine yP ((PureOp.buildArr tbok [(0, .int .u64 4891460686036598785), (1, .int .u64 2896914383306846353), (2, .int .u64 13281191951274694749), (3, .int .u64 3486998266802970665)] rfl rfl rfl (by decide) rfl rfl).mono (v' := .agg ((digs 18446744073709551616 4 21888242871839275222246405745257275088548364400416034343698204186575808495617).map (vi .u64)).toArray) (by kernel_rfl)) ?_
 refine ySA ?_
 refine zN (zE ?_)
 exact rq [] [.cell 0 31]
set_option maxRecDepth 10000 in
theorem inverse_ctr : GC Try.prog 130 [] [] [vi .u64 (14042775128853446655)] [] := by
 refine gi Try.func130 ?_
 refine zS ?_
 refine yA ?_
 refine zN (zS ?_)
 refine yC (prime_ctr) bd84 [] [] ?_
 refine yP ((PureOp.idxVM (j := 0) tbok 0 rfl rfl rfl rfl rfl (by decide) (digs_len _ _)).mono (v' := vi .u64 4891460686036598785) (by kernel_rfl)) ?_
 refine yA ?_
 refine yA ?_
 refine zN (zQ (zS ?_))
 refine yM ?_
 refine zN (zB ?_)
 refine AW.loopw (fun mm σ => ∃ i, (i ≤ 6) ∧ mm = 6 - i ∧ σ = ⟨(upd (upd (upd emp 1 (vi .u64 4891460686036598785)) 2 (vi .u64 (pinv i))) 5 (vi .i64 i)), emp⟩) (fm := []) (wk []) ⟨0, by decide, rfl, rfl⟩ ?_
 rintro mm σ ⟨i, hinv, rfl, rfl⟩
 have hpv := pinv_lt i
 refine zS ?_
 refine yP (pLt (b := 6)) ?_
 refine zN (zQ ?_)
 refine zA (fun hb0 => ?_) (fun hb0 => ?_)
 ·
  have hi : i < 6 := by simpa using hb0
  refine zK (zT (zQ (zB (zR ?_))))
  refine yM ?_
  refine yM ?_
  refine yM ?_
  refine yP (PureOp.mulU 18446744073709551616 rfl rfl rfl rfl) ?_
  refine yP (PureOp.subU (a := 2) 18446744073709551616 rfl rfl rfl rfl (by omega)) ?_
  refine yP (PureOp.mulU 18446744073709551616 rfl rfl rfl rfl) ?_
  refine yA ?_
  refine zN (zL (zT (zR ?_)))
  refine yP (pAdd (b := 1)) ?_
  refine yM ?_
  refine zN (zT ?_)
  exact ⟨6 - (i + 1), [], _, by omega, wk [], i + 1, by omega, rfl, rfl⟩
 ·
  obtain rfl : i = 6 := by simp at hb0; omega
  refine zX (zV (zV (zH (zT (zS ?_)))))
  refine yM ?_
  first | refine AWo.pure ((PureOp.negU 18446744073709551616 rfl rfl rfl (by decide)).mono (v' := vi .u64 14042775128853446655) (by kernel_rfl)) rfl rfl ?_
  refine yA ?_
  refine zN (zE ?_)
  exact rq [] [.tmp 0]
set_option maxRecDepth 10000 in
theorem plus_ctr {a b : List Nat} (ha : bd 18446744073709551616 a) (hb : bd 18446744073709551616 b) (hla : a.length = 4) (hlb : b.length = 4) : GC Try.prog 92 [.agg ((a).map (vi .u64)).toArray, .agg ((b).map (vi .u64)).toArray] [] [.agg ((digs 18446744073709551616 4 (num 18446744073709551616 a + num 18446744073709551616 b)).map (vi .u64)).toArray] [] := by
 refine gi Try.func92 ?_
 have hpa := num_lt ha
 rw [hla] at hpa
 have hpb := num_lt hb
 rw [hlb] at hpb
 refine zS ?_
 refine yO 3000 1 (a.map (vi .u64)) ?_
 refine yO 4000 1 (b.map (vi .u64)) ?_
 refine yN 5000 1 ((List.replicate 4 0).map (vi .u64)) ?_
 refine zN (zS ?_)
 refine yA ?_
 refine zN (zQ (zS ?_))
 refine yM ?_
 refine zN (zB ?_)
 refine AW.loopw (fun mm σ => ∃ i, ∃ (l : List Nat), ∃ c, (i ≤ 4 ∧ l.length = 4 ∧ bd 18446744073709551616 l ∧ c ≤ 1 ∧ num 18446744073709551616 (l.take i) + 18446744073709551616 ^ i * c = num 18446744073709551616 a % 18446744073709551616 ^ i + num 18446744073709551616 b % 18446744073709551616 ^ i) ∧ mm = 4 - i ∧ σ = ⟨(upd (upd (upd (upd (upd emp 2 (.pointer (some ⟨3000, 0, none⟩))) 3 (.pointer (some ⟨4000, 0, none⟩))) 4 (.pointer (some ⟨5000, 0, none⟩))) 5 (vi .u64 c)) 7 (vi .i64 i)), (upd (upd (upd emp 3000 ⟨a.map (vi .u64), true, 1⟩) 4000 ⟨b.map (vi .u64), true, 1⟩) 5000 ⟨l.map (vi .u64), true, 1⟩)⟩) (fm := []) (wk [3000, 4000, 5000]) ⟨0, List.replicate 4 0, 0, ⟨Nat.zero_le _, by simp, bd_replicate (by decide) _, by omega, by simp [num, Nat.mod_one]⟩, rfl, rfl⟩ ?_
 rintro mm σ ⟨i, l, c, ⟨hi0, hl2, hbl, hc, hnl⟩, rfl, rfl⟩
 have hx := bd_getD ha (by decide) i
 have hy := bd_getD hb (by decide) i
 refine zS ?_
 refine yP (pLt (b := 4)) ?_
 refine zN (zQ ?_)
 refine zA (fun hb0 => ?_) (fun hb0 => ?_)
 ·
  have hi : i < 4 := by simpa using hb0
  refine zK (zT (zQ (zB (zS ?_))))
  refine yM ?_
  refine yA ?_
  refine zN ?_
  refine AW.draw mixed ?_
  refine yM ?_
  refine yM ?_
  refine yP pA ?_
  refine yL 0 ?_
  refine yM ?_
  refine yP pA ?_
  refine yL 0 ?_
  refine yM ?_
  refine yP (add64 rfl rfl (by omega)) ?_
  refine yM ?_
  refine yP pX ?_
  refine yP pX ?_
  refine yP pA ?_
  refine yS (vi .u64) ?_
  refine yA ?_
  refine zD (zL (zT (zR ?_)))
  refine yP (pAdd (b := 1)) ?_
  refine yM ?_
  refine zN (zT ?_)
  exact ⟨4 - (i + 1), [], _, by omega, wk [3000, 4000, 5000], i + 1, l.set i ((a.getD i 0 + b.getD i 0 + c) % 18446744073709551616), (a.getD i 0 + b.getD i 0 + c) / 18446744073709551616, ⟨by omega, by simp [hl2], bd_set hbl (Nat.mod_lt _ (by decide)), by omega, by rw [take_set_succ (by omega)]; exact add_step (by simp [hl2]; omega) hnl (num_getD ha (by decide) i) (num_getD hb (by decide) i)⟩, rfl, rfl⟩
 ·
  obtain rfl : i = 4 := by simp at hb0; omega
  obtain ⟨e1, e2⟩ := sumL_end (by decide) hbl hl2 hnl hpa hpb
  subst e1
  have hd4 := digs_len (B := 18446744073709551616) 4 (num 18446744073709551616 a + num 18446744073709551616 b)
  refine zX (zV (zV (zH (zT (zS ?_)))))
  refine yLA ?_
  refine ySA ?_
  refine zN (zE ?_)
  exact rq [] [.cell 4 31]
set_option maxRecDepth 10000 in
theorem borrow_ctr {a b : List Nat} (ha : bd 18446744073709551616 a) (hb : bd 18446744073709551616 b) (hla : a.length = 4) (hlb : b.length = 4) : GC Try.prog 120 [.agg ((a).map (vi .u64)).toArray, .agg ((b).map (vi .u64)).toArray] [] [.agg ((digs 18446744073709551616 4 (num 18446744073709551616 a + 18446744073709551616 ^ 4 - num 18446744073709551616 b)).map (vi .u64)).toArray, vi .u64 (if num 18446744073709551616 a < num 18446744073709551616 b then 1 else 0)] [] := by
 refine gi Try.func120 ?_
 have hpa := num_lt ha
 rw [hla] at hpa
 have hpb := num_lt hb
 rw [hlb] at hpb
 refine zS ?_
 refine yO 3000 1 (a.map (vi .u64)) ?_
 refine yO 4000 1 (b.map (vi .u64)) ?_
 refine yN 5000 1 ((List.replicate 4 0).map (vi .u64)) ?_
 refine yA ?_
 refine zN (zQ (zS ?_))
 refine yM ?_
 refine zN (zB ?_)
 refine AW.loopw (fun mm σ => ∃ i, ∃ (l : List Nat), ∃ c, (i ≤ 4 ∧ l.length = 4 ∧ bd 18446744073709551616 l ∧ c ≤ 1 ∧ num 18446744073709551616 (l.take i) + num 18446744073709551616 b % 18446744073709551616 ^ i = num 18446744073709551616 a % 18446744073709551616 ^ i + 18446744073709551616 ^ i * c) ∧ mm = 4 - i ∧ σ = ⟨(upd (upd (upd (upd (upd emp 2 (.pointer (some ⟨3000, 0, none⟩))) 3 (.pointer (some ⟨4000, 0, none⟩))) 4 (.pointer (some ⟨5000, 0, none⟩))) 5 (vi .u64 c)) 7 (vi .i64 i)), (upd (upd (upd emp 3000 ⟨a.map (vi .u64), true, 1⟩) 4000 ⟨b.map (vi .u64), true, 1⟩) 5000 ⟨l.map (vi .u64), true, 1⟩)⟩) (fm := []) (wk [3000, 4000, 5000]) ⟨0, List.replicate 4 0, 0, ⟨Nat.zero_le _, by simp, bd_replicate (by decide) _, by omega, by simp [num, Nat.mod_one]⟩, rfl, rfl⟩ ?_
 rintro mm σ ⟨i, l, c, ⟨hi0, hl2, hbl, hc, hnl⟩, rfl, rfl⟩
 have hx := bd_getD ha (by decide) i
 have hy := bd_getD hb (by decide) i
 refine zS ?_
 refine yP (pLt (b := 4)) ?_
 refine zN (zQ ?_)
 refine zA (fun hb0 => ?_) (fun hb0 => ?_)
 ·
  have hi : i < 4 := by simpa using hb0
  refine zK (zT (zQ (zB (zS ?_))))
  refine yM ?_
  refine yA ?_
  refine zN ?_
  refine AW.draw mixed ?_
  refine yM ?_
  refine yM ?_
  refine yP pA ?_
  refine yL 0 ?_
  refine yM ?_
  refine yP pA ?_
  refine yL 0 ?_
  refine yM ?_
  refine yP (sub64 rfl rfl (by omega)) ?_
  refine yM ?_
  refine yP pX ?_
  refine yP pX ?_
  refine yP pA ?_
  refine yS (vi .u64) ?_
  refine yA ?_
  refine zD (zL (zT (zR ?_)))
  refine yP (pAdd (b := 1)) ?_
  refine yM ?_
  refine zN (zT ?_)
  exact ⟨4 - (i + 1), [], _, by omega, wk [3000, 4000, 5000], i + 1, l.set i ((a.getD i 0 + 18446744073709551616 - b.getD i 0 - c) % 18446744073709551616), (if a.getD i 0 < b.getD i 0 + c then 1 else 0), ⟨by omega, by simp [hl2], bd_set hbl (Nat.mod_lt _ (by decide)), by split <;> omega, by rw [take_set_succ (by omega)]; exact dif_step (by simp [hl2]; omega) hnl (num_getD ha (by decide) i) (num_getD hb (by decide) i) hx hy hc⟩, rfl, rfl⟩
 ·
  obtain rfl : i = 4 := by simp at hb0; omega
  obtain ⟨e1, e2⟩ := difL_end (by decide) hbl hl2 hnl hpa hpb hc
  subst e1; subst e2
  have hd4 := digs_len (B := 18446744073709551616) 4 (num 18446744073709551616 a + 18446744073709551616 ^ 4 - num 18446744073709551616 b)
  refine zX (zV (zV (zH (zT (zS ?_)))))
  refine yLA ?_
  refine yM ?_
  refine ySA ?_
  refine yA ?_
  refine zN (zE ?_)
  exact rq [] [.cell 4 31, .tmp 5]
set_option maxRecDepth 10000 in
theorem below_ctr {a : List Nat} (ha : bd 18446744073709551616 a) (hla : a.length = 4) (hlt2 : num 18446744073709551616 a < 2 * 21888242871839275222246405745257275088548364400416034343698204186575808495617) : GC Try.prog 91 [.agg ((a).map (vi .u64)).toArray] [] [.agg ((digs 18446744073709551616 4 (num 18446744073709551616 a % 21888242871839275222246405745257275088548364400416034343698204186575808495617)).map (vi .u64)).toArray] [] := by
 refine gi Try.func91 ?_
 have hpa := num_lt ha
 rw [hla] at hpa
 have hnp : num 18446744073709551616 (digs 18446744073709551616 4 21888242871839275222246405745257275088548364400416034343698204186575808495617) = 21888242871839275222246405745257275088548364400416034343698204186575808495617 := num_digs_lt (by decide)
 have hbp := digs_bd (B := 18446744073709551616) (by decide) 4 21888242871839275222246405745257275088548364400416034343698204186575808495617
 have hlp := digs_len (B := 18446744073709551616) 4 21888242871839275222246405745257275088548364400416034343698204186575808495617
 have hd4 := digs_len (B := 18446744073709551616) 4 (num 18446744073709551616 a + 18446744073709551616 ^ 4 - 21888242871839275222246405745257275088548364400416034343698204186575808495617)
 refine zS ?_
 refine yO 2000 1 (a.map (vi .u64)) ?_
 refine yN 3000 1 ((List.replicate 4 0).map (vi .u64)) ?_
 refine zN (zQ ?_)
 refine AW.seqD mixed ?_
 refine yLA ?_
 refine yC (prime_ctr) bd84 [] [] ?_
 refine yC (borrow_ctr (b := digs 18446744073709551616 4 21888242871839275222246405745257275088548364400416034343698204186575808495617) ha hbp hla hlp) bd120 [] [] ?_
 refine yM ?_
 first | refine AWo.pure ((PureOp.extract rfl rfl).mono (v' := .agg ((digs 18446744073709551616 4 (num 18446744073709551616 a + 18446744073709551616 ^ 4 - 21888242871839275222246405745257275088548364400416034343698204186575808495617)).map (vi .u64)).toArray) (by rw [hnp]; rfl)) rfl rfl ?_
 first | refine AWo.pure ((PureOp.extract rfl rfl).mono (v' := vi .u64 (if num 18446744073709551616 a < 21888242871839275222246405745257275088548364400416034343698204186575808495617 then 1 else 0)) (by rw [hnp]; rfl)) rfl rfl ?_
 refine yN 4000 1 ((List.replicate 4 0).map (vi .u64)) ?_
 refine ySA ?_
 refine yA ?_
 refine zD (zS ?_)
 refine yM ?_
 refine yP (pEq (b := 0)) ?_
 refine zN ?_
 refine zA (fun hb0 => ?_) (fun hb0 => ?_)
 ·
  have hge : 21888242871839275222246405745257275088548364400416034343698204186575808495617 ≤ num 18446744073709551616 a := by
   rcases Nat.lt_or_ge (num 18446744073709551616 a) 21888242871839275222246405745257275088548364400416034343698204186575808495617 with h | h
   · rw [if_pos h] at hb0; simp at hb0
   · exact h
  refine zS ?_
  refine yLA ?_
  refine ySA ?_
  refine zN (zE (zU ?_))
  rw [below_ge ha hla hge hlt2]
  exact rq [] [.cell 2 31]
 ·
  have hlt : num 18446744073709551616 a < 21888242871839275222246405745257275088548364400416034343698204186575808495617 := by
   rcases Nat.lt_or_ge (num 18446744073709551616 a) 21888242871839275222246405745257275088548364400416034343698204186575808495617 with h | h
   · exact h
   · rw [if_neg (by omega)] at hb0; simp at hb0
  refine zK (zT (zS ?_))
  refine yLA ?_
  refine ySA ?_
  refine zN (zE ?_)
  rw [below_lt ha hla hlt]
  exact rq [] [.cell 2 31]
end Go.Proofs.Yteeifahhejangaa
namespace Go.Proofs.Yteeifahhejangaa
open Go Sim
theorem mont_init {l q : List Nat} {k : Nat} (hl : bd 18446744073709551616 l) (hq : bd 18446744073709551616 q) (hi : (num 18446744073709551616 q * 14042775128853446655 + 1) % 18446744073709551616 = 0) (hk : k = l.getD 0 0 * 14042775128853446655 % 18446744073709551616) :
  18446744073709551616 * num 18446744073709551616 (l.take (1 - 1)) + (l.getD 0 0 + k * q.getD 0 0 + 0) / 18446744073709551616 * 18446744073709551616 ^ 1 = num 18446744073709551616 l % 18446744073709551616 ^ 1 + k * num 18446744073709551616 (q.take 1) := by
 have e1 : l.getD 0 0 = num 18446744073709551616 l % 18446744073709551616 := by rw [num_getD hl (by decide)]; simp
 have e2 : q.getD 0 0 = num 18446744073709551616 q % 18446744073709551616 := by rw [num_getD hq (by decide)]; simp
 have e3 : num 18446744073709551616 (q.take 1) = num 18446744073709551616 q % 18446744073709551616 := by rw [num_take hq, Nat.pow_one]
 have h := mont_low (by decide) hi (t := num 18446744073709551616 l) (k := k) (by rw [hk, e1])
 rw [e3, e1, e2, Nat.pow_one, Nat.add_zero]
 have h2 := Nat.mod_add_div (num 18446744073709551616 l % 18446744073709551616 + k * (num 18446744073709551616 q % 18446744073709551616)) 18446744073709551616
 rw [h, Nat.zero_add] at h2
 simp only [Nat.sub_self, List.take_zero, num, Nat.mul_zero, Nat.zero_add]
 rw [Nat.mul_comm]
 exact h2
set_option maxRecDepth 10000 in
theorem product_ctr {a b : List Nat} {r : Nat} (ha : bd 18446744073709551616 a) (hb : bd 18446744073709551616 b) (hla : a.length = 4) (hlb : b.length = 4) (hpb : num 18446744073709551616 b < 21888242871839275222246405745257275088548364400416034343698204186575808495617) (hr : r < 21888242871839275222246405745257275088548364400416034343698204186575808495617) (h : r * 18446744073709551616 ^ 4 % 21888242871839275222246405745257275088548364400416034343698204186575808495617 = num 18446744073709551616 a * num 18446744073709551616 b % 21888242871839275222246405745257275088548364400416034343698204186575808495617) : GC Try.prog 93 [.agg ((a).map (vi .u64)).toArray, .agg ((b).map (vi .u64)).toArray] [] [.agg ((digs 18446744073709551616 4 r).map (vi .u64)).toArray] [] := by
 refine gi Try.func93 ?_
 have hbp := digs_bd (B := 18446744073709551616) (by decide) 4 21888242871839275222246405745257275088548364400416034343698204186575808495617
 have hlp := digs_len (B := 18446744073709551616) 4 21888242871839275222246405745257275088548364400416034343698204186575808495617
 have hnp : num 18446744073709551616 (digs 18446744073709551616 4 21888242871839275222246405745257275088548364400416034343698204186575808495617) = 21888242871839275222246405745257275088548364400416034343698204186575808495617 := num_digs_lt (by decide)
 have hd4 := digs_len (B := 18446744073709551616) 4 r
 have hq4 : (digs 18446744073709551616 4 21888242871839275222246405745257275088548364400416034343698204186575808495617).take 4 = digs 18446744073709551616 4 21888242871839275222246405745257275088548364400416034343698204186575808495617 := List.take_of_length_le (by rw [digs_len]; exact Nat.le_refl _)
 have hb4 : b.take 4 = b := List.take_of_length_le (by rw [hlb]; exact Nat.le_refl _)
 refine zS ?_
 refine yO 3000 1 (a.map (vi .u64)) ?_
 refine yO 4000 1 (b.map (vi .u64)) ?_
 refine yN 5000 1 ((List.replicate 4 0).map (vi .u64)) ?_
 refine zN (zS ?_)
 refine yC (prime_ctr) bd84 [] [] ?_
 refine yC (inverse_ctr) bd130 [] [] ?_
 refine yN 6000 1 ((List.replicate 4 0).map (vi .u64)) ?_
 refine ySA ?_
 refine yA ?_
 refine zN (zS ?_)
 refine yN 8000 1 ((List.replicate 5 0).map (vi .u64)) ?_
 refine zN (zQ (zS ?_))
 refine yLA ?_
 refine yM ?_
 refine zN (zB ?_)
 refine AW.loopw (fun mm σ => ∃ i, ∃ (l : List Nat), (i ≤ 4 ∧ l.length = 5 ∧ bd 18446744073709551616 l ∧ num 18446744073709551616 l < 2 * 21888242871839275222246405745257275088548364400416034343698204186575808495617 ∧ num 18446744073709551616 l * 18446744073709551616 ^ i % 21888242871839275222246405745257275088548364400416034343698204186575808495617 = num 18446744073709551616 (a.take i) * num 18446744073709551616 b % 21888242871839275222246405745257275088548364400416034343698204186575808495617) ∧ mm = 4 - i ∧ σ = ⟨(upd (upd (upd (upd (upd (upd (upd (upd emp 2 (.pointer (some ⟨3000, 0, none⟩))) 3 (.pointer (some ⟨4000, 0, none⟩))) 4 (.pointer (some ⟨5000, 0, none⟩))) 5 (.pointer (some ⟨6000, 0, none⟩))) 6 (vi .u64 14042775128853446655)) 7 (.pointer (some ⟨8000, 0, none⟩))) 17 (.agg (a.map (vi .u64)).toArray)) 18 (vi .i64 i)), (upd (upd (upd (upd (upd emp 3000 ⟨a.map (vi .u64), true, 1⟩) 4000 ⟨b.map (vi .u64), true, 1⟩) 5000 ⟨(List.replicate 4 0).map (vi .u64), true, 1⟩) 6000 ⟨(digs 18446744073709551616 4 21888242871839275222246405745257275088548364400416034343698204186575808495617).map (vi .u64), true, 1⟩) 8000 ⟨l.map (vi .u64), true, 1⟩)⟩) (fm := []) (wk [3000, 4000, 5000, 6000, 8000]) ⟨0, List.replicate 5 0, ⟨Nat.zero_le _, by simp, bd_replicate (by decide) _, by rw [num_replicate]; decide, by simp [num, num_replicate]⟩, rfl, rfl⟩ ?_
 rintro mm σ ⟨i, l, ⟨hi0, hl2, hbl, hT, hTm⟩, rfl, rfl⟩
 refine zS ?_
 refine yP (pLt (b := 4)) ?_
 refine zN (zQ ?_)
 refine zA (fun hb0 => ?_) (fun hb0 => ?_)
 ·
  have hi : i < 4 := by simpa using hb0
  have hxa := bd_getD ha (by decide) i
  refine zK (zT (zQ (zB (zS ?_))))
  refine yP (PureOp.idxVM tbok 0 rfl rfl rfl rfl rfl (by omega) (by (simp [*]; done))) ?_
  refine yA ?_
  refine zN (zS ?_)
  refine yA ?_
  refine zN (zQ (zS ?_))
  refine yLA ?_
  refine yM ?_
  refine zN (zB ?_)
  refine AW.loopw (fun mm σ => ∃ j, ∃ (l2 : List Nat), ∃ c, (j ≤ 4 ∧ l2.length = 5 ∧ bd 18446744073709551616 l2 ∧ c < 18446744073709551616 ∧ num 18446744073709551616 l2 + c * 18446744073709551616 ^ j = num 18446744073709551616 l + a.getD i 0 * num 18446744073709551616 (b.take j) ∧ (∀ k, j ≤ k → l2.getD k 0 = l.getD k 0)) ∧ mm = 4 - j ∧ σ = ⟨(upd (upd (upd (upd (upd (upd (upd (upd (upd (upd (upd (upd emp 2 (.pointer (some ⟨3000, 0, none⟩))) 3 (.pointer (some ⟨4000, 0, none⟩))) 4 (.pointer (some ⟨5000, 0, none⟩))) 5 (.pointer (some ⟨6000, 0, none⟩))) 6 (vi .u64 14042775128853446655)) 7 (.pointer (some ⟨8000, 0, none⟩))) 17 (.agg (a.map (vi .u64)).toArray)) 18 (vi .i64 i)) 9 (vi .u64 (a.getD i 0))) 10 (vi .u64 c)) 21 (.agg (b.map (vi .u64)).toArray)) 22 (vi .i64 j)), (upd (upd (upd (upd (upd emp 3000 ⟨a.map (vi .u64), true, 1⟩) 4000 ⟨b.map (vi .u64), true, 1⟩) 5000 ⟨(List.replicate 4 0).map (vi .u64), true, 1⟩) 6000 ⟨(digs 18446744073709551616 4 21888242871839275222246405745257275088548364400416034343698204186575808495617).map (vi .u64), true, 1⟩) 8000 ⟨l2.map (vi .u64), true, 1⟩)⟩) (fm := []) (wk [3000, 4000, 5000, 6000, 8000]) ⟨0, l, 0, ⟨by omega, hl2, hbl, by decide, by simp [num], fun _ _ => rfl⟩, rfl, rfl⟩ ?_
  rintro mm σ ⟨j, l2, c, ⟨hj0, hk2, hbk, hc, hnk, hzk⟩, rfl, rfl⟩
  have hx := bd_getD ha (by decide) i
  have hy := bd_getD hb (by decide) j
  have he := bd_getD hbk (by decide) j
  have hlt := mad_lt he hx hy hc
  refine zS ?_
  refine yP (pLt (b := 4)) ?_
  refine zN (zQ ?_)
  refine zA (fun hb1 => ?_) (fun hb1 => ?_)
  ·
   have hj : j < 4 := by simpa using hb1
   refine zK (zT (zQ (zB (zS ?_))))
   refine yM ?_
   refine yP (PureOp.idxVM tbok 0 rfl rfl rfl rfl rfl (by omega) (by (simp [*]; done))) ?_
   refine yA ?_
   refine yA ?_
   refine zN (zR ?_)
   refine yM ?_
   refine yM ?_
   refine yP pA ?_
   refine yL 0 ?_
   refine yM ?_
   refine yM ?_
   refine yM ?_
   refine AWo.callX (line_ctr (by assumption) (by assumption) (by assumption) (by assumption)) bd131 [] [] rfl (.cons rfl (.cons rfl (.cons rfl (.cons rfl .nil)))) rfl (.cons rfl rfl (.cons rfl rfl (.cons rfl rfl (.cons rfl rfl .nil)))) .nil rfl .nil frN (by decide) (.cons rfl rfl (.cons rfl rfl .nil)) rfl rfl rfl rfl ?_
   refine yM ?_
   refine yP pX ?_
   refine yP pX ?_
   refine yP pA ?_
   refine yS (vi .u64) ?_
   refine yA ?_
   refine zN (zL (zT (zR ?_)))
   refine yP (pAdd (b := 1)) ?_
   refine yM ?_
   refine zN (zT ?_)
   refine ⟨4 - (j + 1), [], _, by omega, ?_, j + 1, l2.set j ((l2.getD j 0 + a.getD i 0 * b.getD j 0 + c) % 18446744073709551616), (l2.getD j 0 + a.getD i 0 * b.getD j 0 + c) / 18446744073709551616, ⟨by omega, by simp [hk2], bd_set hbk (Nat.mod_lt _ (by decide)), Nat.div_lt_of_lt_mul hlt, mad_step (by omega) hnk rfl, fun k hk => by rw [getD_set (by omega)]; exact hzk k (by omega)⟩, rfl, rfl⟩
   exact wk [3000, 4000, 5000, 6000, 8000]
  ·
   obtain rfl : j = 4 := by simp at hb1; omega
   rw [hb4] at hnk
   have h40 : l2.getD 4 0 = 0 := by
    rw [hzk 4 (Nat.le_refl _), num_getD hbl (by decide), Nat.div_eq_of_lt (by omega)]
   refine zX (zV (zV (zH (zT (zS ?_)))))
   refine yP (pA (j := 4)) ?_
   refine yL 0 ?_
   refine yM ?_
   refine yP ((PureOp.addU 18446744073709551616 rfl rfl rfl rfl).mono (v' := vi .u64 c) (congrArg (vi .u64) (by rw [h40, Nat.zero_add, Nat.mod_eq_of_lt hc]))) ?_
   refine yP (pA (j := 4)) ?_
   refine yS (vi .u64) ?_
   refine zN ?_
   obtain ⟨l3, hl3⟩ : ∃ l3, l3 = l2.set 4 c := ⟨_, rfl⟩
   rw [← hl3]
   have hb3 : bd 18446744073709551616 l3 := by rw [hl3]; exact bd_set hbk hc
   have hk3 : l3.length = 5 := by rw [hl3]; simp [hk2]
   have hS : num 18446744073709551616 l3 = num 18446744073709551616 l + a.getD i 0 * num 18446744073709551616 b := by
    have := num_set (B := 18446744073709551616) (l := l2) (k := 4) (v := c) (by omega)
    rw [h40, Nat.zero_mul, Nat.add_zero] at this
    rw [hl3, this, hnk]
   refine zS ?_
   refine yP (pA (j := 0)) ?_
   refine yL 0 ?_
   refine yM ?_
   refine yP (PureOp.mulU 18446744073709551616 rfl rfl rfl rfl) ?_
   refine yA ?_
   refine zN ?_
   obtain ⟨k, hkk⟩ : ∃ k, k = l3.getD 0 0 * 14042775128853446655 % 18446744073709551616 := ⟨_, rfl⟩
   rw [← hkk]
   have hk : k < 18446744073709551616 := by rw [hkk]; exact Nat.mod_lt _ (by decide)
   refine zS ?_
   refine yP (pA (j := 0)) ?_
   refine yL 0 ?_
   refine yM ?_
   refine yP (pA (j := 0)) ?_
   refine yL 0 ?_
   refine yC (line_ctr (c := 0) (bd_getD hb3 (by decide) 0) hk (bd_getD hbp (by decide) 0) (by decide)) bd131 [] [] ?_
   refine yM ?_
   refine yP pX ?_
   refine yP pX ?_
   refine yA ?_
   refine zN (zQ (zS ?_))
   refine yA ?_
   refine zN (zB ?_)
   refine AW.loopw (fun mm σ => ∃ j, ∃ (u : List Nat), ∃ c, ((1 ≤ j ∧ j ≤ 4) ∧ u.length = 5 ∧ bd 18446744073709551616 u ∧ c < 18446744073709551616 ∧ 18446744073709551616 * num 18446744073709551616 (u.take (j - 1)) + c * 18446744073709551616 ^ j = num 18446744073709551616 l3 % 18446744073709551616 ^ j + k * num 18446744073709551616 ((digs 18446744073709551616 4 21888242871839275222246405745257275088548364400416034343698204186575808495617).take j) ∧ (∀ m, j ≤ m → u.getD m 0 = num 18446744073709551616 l3 / 18446744073709551616 ^ m % 18446744073709551616)) ∧ mm = 4 - j ∧ σ = ⟨(upd (upd (upd (upd (upd (upd (upd (upd (upd (upd (upd emp 2 (.pointer (some ⟨3000, 0, none⟩))) 3 (.pointer (some ⟨4000, 0, none⟩))) 4 (.pointer (some ⟨5000, 0, none⟩))) 5 (.pointer (some ⟨6000, 0, none⟩))) 6 (vi .u64 14042775128853446655)) 7 (.pointer (some ⟨8000, 0, none⟩))) 17 (.agg (a.map (vi .u64)).toArray)) 18 (vi .i64 i)) 10 (vi .u64 c)) 13 (vi .u64 k)) 14 (vi .i64 j)), (upd (upd (upd (upd (upd emp 3000 ⟨a.map (vi .u64), true, 1⟩) 4000 ⟨b.map (vi .u64), true, 1⟩) 5000 ⟨(List.replicate 4 0).map (vi .u64), true, 1⟩) 6000 ⟨(digs 18446744073709551616 4 21888242871839275222246405745257275088548364400416034343698204186575808495617).map (vi .u64), true, 1⟩) 8000 ⟨u.map (vi .u64), true, 1⟩)⟩) (fm := []) (wk [3000, 4000, 5000, 6000, 8000]) ⟨1, l3, (l3.getD 0 0 + k * (digs 18446744073709551616 4 21888242871839275222246405745257275088548364400416034343698204186575808495617).getD 0 0 + 0) / 18446744073709551616, ⟨⟨by omega, by omega⟩, hk3, hb3, Nat.div_lt_of_lt_mul (mad_lt (bd_getD hb3 (by decide) 0) hk (bd_getD hbp (by decide) 0) (by decide)), mont_init hb3 hbp (by rw [hnp]) hkk, fun m _ => num_getD hb3 (by decide) m⟩, rfl, rfl⟩ ?_
   rintro mm σ ⟨j, u, c, ⟨⟨hj1, hj0⟩, hku, hbu, hc, hred, hum⟩, rfl, rfl⟩
   have he := bd_getD hbu (by decide) j
   have hq := bd_getD hbp (by decide) j
   have hlt2 := mad_lt he hk hq hc
   have hu4 := bd_getD hbu (by decide) 4
   refine zQ (zS ?_)
   refine yM ?_
   refine yP (pLt (b := 4)) ?_
   refine zN ?_
   refine zA (fun hb2 => ?_) (fun hb2 => ?_)
   ·
    have hj : j < 4 := by simpa using hb2
    refine zK (zT (zQ (zB ?_)))
    refine AW.draw mixed ?_
    refine yM ?_
    refine yP (pSub (b := 1)) ?_
    refine yM ?_
    refine yP pA ?_
    refine yL 0 ?_
    refine yM ?_
    refine yM ?_
    refine yP pA ?_
    refine yL 0 ?_
    refine yM ?_
    refine AWo.callX (line_ctr (by assumption) (by assumption) (by assumption) (by assumption)) bd131 [] [] rfl (.cons rfl (.cons rfl (.cons rfl (.cons rfl .nil)))) rfl (.cons rfl rfl (.cons rfl rfl (.cons rfl rfl (.cons rfl rfl .nil)))) .nil rfl .nil frN (by decide) (.cons rfl rfl (.cons rfl rfl .nil)) rfl rfl rfl rfl ?_
    refine yM ?_
    refine yP pX ?_
    refine yP pX ?_
    refine yP pA ?_
    refine yS (vi .u64) ?_
    refine yA ?_
    refine zD (zL (zT (zR ?_)))
    refine yM ?_
    refine yP (pAdd (b := 1)) ?_
    refine yA ?_
    refine zN (zT ?_)
    refine ⟨4 - (j + 1), [], _, by omega, ?_, j + 1, u.set (j - 1) ((u.getD j 0 + k * (digs 18446744073709551616 4 21888242871839275222246405745257275088548364400416034343698204186575808495617).getD j 0 + c) % 18446744073709551616), (u.getD j 0 + k * (digs 18446744073709551616 4 21888242871839275222246405745257275088548364400416034343698204186575808495617).getD j 0 + c) / 18446744073709551616, ⟨⟨by omega, by omega⟩, by simp [hku], bd_set hbu (Nat.mod_lt _ (by decide)), Nat.div_lt_of_lt_mul hlt2, red_step (by omega) (by omega) hred rfl (hum j (Nat.le_refl _)), fun m hm => by rw [getD_set (by omega)]; exact hum m (by omega)⟩, rfl, rfl⟩
    exact wk [3000, 4000, 5000, 6000, 8000]
   ·
    obtain rfl : j = 4 := by simp at hb2; omega
    rw [hq4, hnp] at hred
    have hfin := red_end (n := 3) hku hred (by
     rw [hum 4 (Nat.le_refl _), Nat.mod_eq_of_lt]
     have := num_lt hb3
     rw [hk3] at this
     omega)
    rw [hS] at hfin
    have hdv : (u.getD 4 0 + c) / 18446744073709551616 < 18446744073709551616 := Nat.div_lt_of_lt_mul (Nat.lt_of_lt_of_le (Nat.add_lt_add hu4 hc) (by decide))
    refine zX (zV (zV (zH (zT (zS ?_)))))
    refine yP (pA (j := 4)) ?_
    refine yL 0 ?_
    refine yM ?_
    refine yP (add64 (c := 0) rfl rfl (by decide)) ?_
    refine yM ?_
    refine yP pX ?_
    refine yP pX ?_
    refine yP (pA (j := 3)) ?_
    refine yS (vi .u64) ?_
    refine yA ?_
    refine zN (zR ?_)
    refine yM ?_
    refine yP (pA (j := 4)) ?_
    refine AWo.storeM (f := (vi .u64)) tbok rfl rfl rfl rfl (by simp [hku]) rfl rfl ?_
    refine zN (zL (zT (zR ?_)))
    refine yP (pAdd (b := 1)) ?_
    refine yM ?_
    refine zN (zT ?_)
    exact ⟨4 - (i + 1), [], _, by omega, wk [3000, 4000, 5000, 6000, 8000], i + 1, (u.set 3 ((u.getD 4 0 + c) % 18446744073709551616)).set 4 ((u.getD 4 0 + c) / 18446744073709551616), ⟨by omega, by simp [hku], bd_set (bd_set hbu (Nat.mod_lt _ (by decide))) hdv, mont_lt hfin hT hxa hpb hk, by rw [num_take_succ]; exact mont_mod hfin hTm⟩, rfl, rfl⟩
 ·
  obtain rfl : i = 4 := by simp at hb0; omega
  refine zX (zV (zV (zH (zT ?_))))
  have hT4 : num 18446744073709551616 (l.take 4) = num 18446744073709551616 l := by rw [num_take hbl, Nat.mod_eq_of_lt (by omega)]
  have hres : num 18446744073709551616 (l.take 4) % 21888242871839275222246405745257275088548364400416034343698204186575808495617 = r := by
   rw [hT4]
   refine mont_uniq (R := 18446744073709551616 ^ 4) (by decide) (Nat.mod_lt _ (by decide)) hr ?_
   rw [Nat.mod_mul_mod, hTm, h, ← hla, take_all]
  refine zS ?_
  refine AWo.sliceA tbok rfl .none (.some rfl) rfl rfl rfl rfl (by decide) (by decide) (.inl rfl) (by (simp; omega)) rfl rfl rfl ?_
  refine yP (PureOp.toArrT tbok rfl rfl (by decide) (by decide)) ?_
  refine AWo.loadAgg tbok (vs := (l.take 4).map (vi .u64)) rfl rfl rfl rfl (by simp [hl2]) (by simp [List.map_take]) rfl rfl ?_
  refine yC (below_ctr (a := l.take 4) (bd_take hbl 4) (by simp [hl2]) (by rw [hT4]; exact hT)) bd91 [] [] ?_
  refine ySA ?_
  refine zN (zE ?_)
  rw [hres]
  exact rq [] [.cell 4 31]
end Go.Proofs.Yteeifahhejangaa
namespace Go.Proofs.Yteeifahhejangaa
open Go Sim
def fel (v : Nat) : List Nat := digs 18446744073709551616 4 (v * 18446744073709551616 ^ 4 % 21888242871839275222246405745257275088548364400416034343698204186575808495617)
theorem fel_len (v : Nat) : (fel v).length = 4 := digs_len _ _
theorem bd_fel (v : Nat) : bd 18446744073709551616 (fel v) := digs_bd (by decide) _ _
theorem num_fel (v : Nat) : num 18446744073709551616 (fel v) = v * 18446744073709551616 ^ 4 % 21888242871839275222246405745257275088548364400416034343698204186575808495617 := num_digs_lt (Nat.lt_of_lt_of_le (Nat.mod_lt _ (by decide)) (by decide))
theorem fel_lt (v : Nat) : num 18446744073709551616 (fel v) < 21888242871839275222246405745257275088548364400416034343698204186575808495617 := by rw [num_fel]; exact Nat.mod_lt _ (by decide)
theorem fel_mod (v : Nat) : fel (v % 21888242871839275222246405745257275088548364400416034343698204186575808495617) = fel v := by simp only [fel]; rw [Nat.mod_mul_mod]
theorem fel_zero : fel 0 = List.replicate 4 0 := by kernel_rfl
theorem fel_inj {u v : Nat} (hu : u < 21888242871839275222246405745257275088548364400416034343698204186575808495617) (hv : v < 21888242871839275222246405745257275088548364400416034343698204186575808495617) (h : fel u = fel v) : u = v := by
 refine mont_uniq (R := 18446744073709551616 ^ 4) (by decide) hu hv ?_
 rw [← num_fel, ← num_fel, h]
theorem ld4 {l : List Nat} (h : l.length = 4) : ((l.map (vi .u64)).drop 0).take 4 = l.map (vi .u64) := List.take_of_length_le (by simp [h])
theorem four_nat : ∀ {l : List Nat}, l.length = 4 → ∃ a b c d, l = [a, b, c, d]
 | [a, b, c, d], _ => ⟨a, b, c, d, rfl⟩
theorem build50 {E : Env} {x : Operand} {l : List Nat} (hl : l.length = 4) (h : aev E x = some (.agg (l.map (vi .u64)).toArray)) : PureOp Try.prog (.build 33 #[(0, x)]) E (.agg (l.map (vi .u64)).toArray) := by
 obtain ⟨a, b, c, d, rfl⟩ := four_nat hl
 exact PureOp.buildStruct [(0, .agg ([a, b, c, d].map (vi .u64)).toArray)] pl33.choose_spec.1 zr33 (by decide) pl33.choose_spec.2 (by simp [h]) rfl
theorem elemEq {E : Env} {x y : Operand} {a b : List Nat} {s' : TypeId} (h1 : aev E x = some (.agg (a.map (vi .u64)).toArray)) (h2 : aev E y = some (.agg (b.map (vi .u64)).toArray)) (ha : a.length = 4) (hb : b.length = 4) :
  PureOp Try.prog (.binOp .eql 33 x y s') E (.bool (decide (a = b))) :=
 PureOp.eqSt h1 h2 Try.underlying33 (by decide) rfl rfl Try.stoodInHeld33 Try.eqGuardType33 Try.underlying31 Try.underlying29 (tbok.sz 29 _ rfl) (tbok.sz 31 _ rfl) (by kernel_rfl) ha hb
def sq2 : Nat → Nat
 | 0 => 1
 | i + 1 => 2 * sq2 i % 21888242871839275222246405745257275088548364400416034343698204186575808495617
theorem sq2_lt (i : Nat) : sq2 i < 21888242871839275222246405745257275088548364400416034343698204186575808495617 := by
 cases i with
 | zero => decide
 | succ i => exact Nat.mod_lt _ (by decide)
theorem sq2_pow (i : Nat) : sq2 i = 2 ^ i % 21888242871839275222246405745257275088548364400416034343698204186575808495617 := by
 induction i with
 | zero => rfl
 | succ i ih => rw [sq2, ih, Nat.pow_succ, Nat.mul_mod_mod, Nat.mul_comm]
theorem pow_512 (a b c : Nat) : 2 ^ (a * (b + c)) = (2 ^ a) ^ b * (2 ^ a) ^ c := by rw [Nat.pow_mul, Nat.pow_add]
theorem sq2_512 {i : Nat} (h : i = 512) : sq2 i = 18446744073709551616 ^ 4 * 18446744073709551616 ^ 4 % 21888242871839275222246405745257275088548364400416034343698204186575808495617 := by
 have h2 : i = 64 * (4 + 4) := by omega
 have e : 2 ^ i = (2 ^ 64) ^ 4 * (2 ^ 64) ^ 4 := (congrArg (fun n => 2 ^ n) h2).trans (pow_512 64 4 4)
 exact (sq2_pow i).trans (congrArg (fun n => n % 21888242871839275222246405745257275088548364400416034343698204186575808495617) e)
theorem dbl_pre (i : Nat) : bd 18446744073709551616 (digs 18446744073709551616 4 (num 18446744073709551616 (digs 18446744073709551616 4 (sq2 i)) + num 18446744073709551616 (digs 18446744073709551616 4 (sq2 i)))) ∧ (digs 18446744073709551616 4 (num 18446744073709551616 (digs 18446744073709551616 4 (sq2 i)) + num 18446744073709551616 (digs 18446744073709551616 4 (sq2 i)))).length = 4 ∧
  num 18446744073709551616 (digs 18446744073709551616 4 (num 18446744073709551616 (digs 18446744073709551616 4 (sq2 i)) + num 18446744073709551616 (digs 18446744073709551616 4 (sq2 i)))) < 2 * 21888242871839275222246405745257275088548364400416034343698204186575808495617 := by
 have h := sq2_lt i
 have e : num 18446744073709551616 (digs 18446744073709551616 4 (sq2 i)) = sq2 i := num_digs_lt (by omega)
 refine ⟨digs_bd (by decide) _ _, digs_len _ _, ?_⟩
 rw [e, num_digs_lt (by omega)]
 omega
theorem dbl_step (i : Nat) : digs 18446744073709551616 4 (sq2 (i + 1)) = digs 18446744073709551616 4 (num 18446744073709551616 (digs 18446744073709551616 4 (num 18446744073709551616 (digs 18446744073709551616 4 (sq2 i)) + num 18446744073709551616 (digs 18446744073709551616 4 (sq2 i)))) % 21888242871839275222246405745257275088548364400416034343698204186575808495617) := by
 have h := sq2_lt i
 have e : num 18446744073709551616 (digs 18446744073709551616 4 (sq2 i)) = sq2 i := num_digs_lt (by omega)
 rw [e, num_digs_lt (by omega), sq2]
 congr 2
 omega
theorem rsq_num : num 18446744073709551616 (digs 18446744073709551616 4 (18446744073709551616 ^ 4 * 18446744073709551616 ^ 4 % 21888242871839275222246405745257275088548364400416034343698204186575808495617)) = 18446744073709551616 ^ 4 * 18446744073709551616 ^ 4 % 21888242871839275222246405745257275088548364400416034343698204186575808495617 := num_digs_lt (Nat.lt_of_lt_of_le (Nat.mod_lt _ (by decide)) (by decide))
theorem enter_modG (a w p : Nat) : a * w % p * w % p = a * (w * w % p) % p := by
 rw [Nat.mod_mul_mod, Nat.mul_mod_mod, Nat.mul_assoc]
theorem enter_mod (a : Nat) : a * 18446744073709551616 ^ 4 % 21888242871839275222246405745257275088548364400416034343698204186575808495617 * 18446744073709551616 ^ 4 % 21888242871839275222246405745257275088548364400416034343698204186575808495617 = a * num 18446744073709551616 (digs 18446744073709551616 4 (18446744073709551616 ^ 4 * 18446744073709551616 ^ 4 % 21888242871839275222246405745257275088548364400416034343698204186575808495617)) % 21888242871839275222246405745257275088548364400416034343698204186575808495617 := by
 have h := enter_modG a (18446744073709551616 ^ 4) 21888242871839275222246405745257275088548364400416034343698204186575808495617
 have e := rsq_num
 generalize num 18446744073709551616 (digs 18446744073709551616 4 (18446744073709551616 ^ 4 * 18446744073709551616 ^ 4 % 21888242871839275222246405745257275088548364400416034343698204186575808495617)) = z at *
 rw [h, e]
theorem mul_modG (u v w p : Nat) : u * v * w % p * w % p = u * w % p * (v * w % p) % p := by
 rw [Nat.mod_mul_mod, ← Nat.mul_mod]
 congr 1
 grind
theorem mul_mod (u v : Nat) : u * v * 18446744073709551616 ^ 4 % 21888242871839275222246405745257275088548364400416034343698204186575808495617 * 18446744073709551616 ^ 4 % 21888242871839275222246405745257275088548364400416034343698204186575808495617 = num 18446744073709551616 (fel u) * num 18446744073709551616 (fel v) % 21888242871839275222246405745257275088548364400416034343698204186575808495617 := by
 rw [num_fel, num_fel]
 exact mul_modG u v (18446744073709551616 ^ 4) 21888242871839275222246405745257275088548364400416034343698204186575808495617
set_option maxRecDepth 10000 in
theorem enter_ctr {a : List Nat} (ha : bd 18446744073709551616 a) (hla : a.length = 4) (_ : num 18446744073709551616 a < 21888242871839275222246405745257275088548364400416034343698204186575808495617) : GC Try.prog 86 [.agg ((a).map (vi .u64)).toArray] [] [.agg ((fel (num 18446744073709551616 a)).map (vi .u64)).toArray] [] := by
 refine gi Try.func86 ?_
 have hd4 := fel_len (num 18446744073709551616 a)
 refine zS ?_
 refine yO 2000 1 ((a).map (vi .u64)) ?_
 refine yN 3000 1 _ ?_
 refine zN (zS ?_)
 refine yP ((PureOp.buildArr tbok [(0, .int .u64 1)] rfl rfl rfl (by decide) rfl rfl).mono (v' := .agg ((digs 18446744073709551616 4 (sq2 0)).map (vi .u64)).toArray) (by kernel_rfl)) ?_
 refine yN 4000 1 ((List.replicate 4 0).map (vi .u64)) ?_
 refine ySA ?_
 refine zN (zQ (zS ?_))
 refine yM ?_
 refine zN (zB ?_)
 refine AW.loopw (fun mm σ => ∃ i, (i ≤ 512) ∧ mm = 512 - i ∧ σ = ⟨(upd (upd (upd (upd emp 1 (.pointer (some ⟨2000, 0, none⟩))) 2 (.pointer (some ⟨3000, 0, none⟩))) 3 (.pointer (some ⟨4000, 0, none⟩))) 5 (vi .i64 i)), (upd (upd (upd emp 2000 ⟨a.map (vi .u64), true, 1⟩) 3000 ⟨(List.replicate 4 0).map (vi .u64), true, 1⟩) 4000 ⟨(digs 18446744073709551616 4 (sq2 i)).map (vi .u64), true, 1⟩)⟩) (fm := []) (wk [2000, 3000, 4000]) ⟨0, by decide, rfl, rfl⟩ ?_
 rintro mm σ ⟨i, hinv, rfl, rfl⟩
 have hb2 := digs_bd (B := 18446744073709551616) (by decide) 4 (sq2 i)
 have hl2 := digs_len (B := 18446744073709551616) 4 (sq2 i)
 obtain ⟨hb3, hl3, hn3⟩ := dbl_pre i
 have hl4 := digs_len (B := 18446744073709551616) 4 (num 18446744073709551616 (digs 18446744073709551616 4 (num 18446744073709551616 (digs 18446744073709551616 4 (sq2 i)) + num 18446744073709551616 (digs 18446744073709551616 4 (sq2 i)))) % 21888242871839275222246405745257275088548364400416034343698204186575808495617)
 refine zS ?_
 refine yP (pLt (b := 512)) ?_
 refine zN (zQ ?_)
 refine zA (fun hb0 => ?_) (fun hb0 => ?_)
 ·
  have hi : i < 512 := by simpa using hb0
  refine zK (zT (zQ (zB (zR ?_))))
  refine yLA ?_
  refine yLA ?_
  refine yC (plus_ctr hb2 hb2 hl2 hl2) bd92 [] [] ?_
  refine yC (below_ctr hb3 hl3 hn3) bd91 [] [] ?_
  refine ySA ?_
  refine zN (zL (zT (zR ?_)))
  refine yP (pAdd (b := 1)) ?_
  refine yM ?_
  refine zN (zT ?_)
  refine ⟨512 - (i + 1), [], _, by omega, ?_, i + 1, by omega, rfl, rfl⟩
  refine Wk.of [2000, 3000, 4000] ?_ ?_ ?_ (by decide) rfl
  ·
   refine WkE.upd rfl (by exact VR.flat _ rfl) ?_
   refine WkE.upd rfl (.ptr (4000) 0 ⟨_, rfl⟩) ?_
   refine WkE.upd rfl (.ptr (3000) 0 ⟨_, rfl⟩) ?_
   refine WkE.upd rfl (.ptr (2000) 0 ⟨_, rfl⟩) ?_
   exact WkE.emp
  ·
   refine WkM.flatM rfl (by exact dbl_step i) flat_vi (fun h => h) ?_
   refine WkM.flat rfl (flatM flat_vi) (fun h => h) ?_
   refine WkM.flatM rfl (by rfl) (fun _ => rfl) (fun h => h) ?_
   exact WkM.emp
  ·
   repeat (refine dom_upd_mem (by decide) ?_)
   exact dom_emp
 ·
  have hi : i = 512 := by simp at hb0; omega
  have hsq := sq2_512 hi
  rw [hsq] at hb2 hl2
  rw [hsq]
  refine zX (zV (zV (zH (zT (zS ?_)))))
  refine yLA ?_
  refine yLA ?_
  refine yC (product_ctr (r := num 18446744073709551616 a * 18446744073709551616 ^ 4 % 21888242871839275222246405745257275088548364400416034343698204186575808495617) ha hb2 hla hl2 (by rw [rsq_num]; exact Nat.mod_lt _ (by decide)) (Nat.mod_lt _ (by decide)) (enter_mod _)) bd93 [] [] ?_
  refine yP (build50 (by exact digs_len _ _) rfl) ?_
  refine ySA ?_
  refine zN (zE ?_)
  exact rq [] [.cell 2 33]
set_option maxRecDepth 10000 in
theorem leave_ctr {v : Nat} (hv : v < 21888242871839275222246405745257275088548364400416034343698204186575808495617) : GC Try.prog 122 [.agg ((fel v).map (vi .u64)).toArray] [] [.agg ((digs 18446744073709551616 4 v).map (vi .u64)).toArray] [] := by
 refine gi Try.func122 ?_
 have hd4 := fel_len v
 have hd5 := digs_len (B := 18446744073709551616) 4 v
 refine zS ?_
 refine yO 2000 1 ((fel v).map (vi .u64)) ?_
 refine yN 3000 1 ((List.replicate 4 0).map (vi .u64)) ?_
 refine zN (zS ?_)
 refine yP pF ?_
 refine AWo.loadAgg tbok (vs := (fel v).map (vi .u64)) rfl rfl rfl rfl (by simp [fel_len]) (ld4 (fel_len _)) rfl rfl ?_
 refine yP ((PureOp.buildArr tbok [(0, .int .u64 1)] rfl rfl rfl (by decide) rfl rfl).mono (v' := .agg ((digs 18446744073709551616 4 1).map (vi .u64)).toArray) (by kernel_rfl)) ?_
 refine yC (product_ctr (r := v) (bd_fel v) (digs_bd (by decide) 4 1) (fel_len v) (digs_len 4 1) (by decide) hv (by rw [num_fel, show num 18446744073709551616 (digs 18446744073709551616 4 1) = 1 from by kernel_rfl, Nat.mul_one, Nat.mod_mod])) bd93 [] [] ?_
 refine ySA ?_
 refine zN (zE ?_)
 exact rq [] [.cell 2 31]
set_option maxRecDepth 10000 in
theorem ebytes_ctr {v : Nat} (hv : v < 21888242871839275222246405745257275088548364400416034343698204186575808495617) : GC Try.prog 81 [.agg ((fel v).map (vi .u64)).toArray] [] [.agg ((digs 256 32 v).map (vi .u8)).toArray] [] := by
 refine gi Try.func81 ?_
 have hd4 := fel_len v
 have hd5 := digs_len (B := 18446744073709551616) 4 v
 have hn5 : num 18446744073709551616 (digs 18446744073709551616 4 v) = v := num_digs_lt (by omega)
 have hb5 := digs_bd (B := 18446744073709551616) (by decide) 4 v
 have hd6 := digs_len (B := 256) (8 * (digs 18446744073709551616 4 v).length) (num 18446744073709551616 (digs 18446744073709551616 4 v))
 have hd7 := digs_len (B := 256) 32 v
 refine zS ?_
 refine yO 2000 1 ((fel v).map (vi .u64)) ?_
 refine yN 3000 1 ((List.replicate 32 0).map (vi .u8)) ?_
 refine zN (zS ?_)
 refine yLA ?_
 refine yC (leave_ctr (by assumption)) bd122 [] [] ?_
 refine yN 4000 1 ((List.replicate 4 0).map (vi .u64)) ?_
 refine ySA ?_
 refine zN (zS ?_)
 refine AWo.sliceA tbok (h := 4) rfl .none .none rfl rfl rfl rfl (by decide) (by decide) (.inl rfl) (by simp [digs_len]) rfl rfl rfl ?_
 refine yC (lbytes_ctr hb5 (by rw [hd5]; decide)) bd123 [(4000, 0)] [8000] ?_
 refine yP (PureOp.toArrT tbok rfl rfl (by rw [hd5]; decide) (by rw [hd5]; decide)) ?_
 refine AWo.loadAgg tbok (vs := (digs 256 32 v).map (vi .u8)) rfl rfl rfl rfl (by show 0 + 32 ≤ _; simp [digs_len]) (by rw [hd5, hn5]; exact List.take_of_length_le (by simp [digs_len])) rfl rfl ?_
 refine ySA ?_
 refine zN (zE ?_)
 exact rq [] [.cell 2 111]
set_option maxRecDepth 10000 in
theorem equal_ctr {a b : List Nat} (hla : a.length = 4) (hlb : b.length = 4) : GC Try.prog 19 [.agg ((a).map (vi .u64)).toArray, .agg ((b).map (vi .u64)).toArray] [] [.bool (decide (a = b))] [] := by
 refine gi Try.func19 ?_
 refine zS ?_
 refine yO 3000 1 ((a).map (vi .u64)) ?_
 refine yO 4000 1 ((b).map (vi .u64)) ?_
 refine yA ?_
 refine zN (zS ?_)
 refine yLA ?_
 refine yLA ?_
 refine yP (elemEq rfl rfl hla hlb) ?_
 refine yA ?_
 refine zN (zE ?_)
 exact rq [] [.tmp 4]
set_option maxRecDepth 10000 in
theorem iszero_ctr {a : List Nat} (hla : a.length = 4) : GC Try.prog 46 [.agg ((a).map (vi .u64)).toArray] [] [.bool (decide (a = List.replicate 4 0))] [] := by
 refine gi Try.func46 ?_
 refine zS ?_
 refine yO 2000 1 ((a).map (vi .u64)) ?_
 refine yA ?_
 refine zN (zS ?_)
 refine yLA ?_
 refine yP ((PureOp.buildStruct [] pl33.choose_spec.1 zr33 (by decide) pl33.choose_spec.2 rfl rfl).mono (v' := .agg ((List.replicate 4 0).map (vi .u64)).toArray) (by rfl)) ?_
 refine yP (elemEq rfl rfl hla (by simp)) ?_
 refine yA ?_
 refine zN (zE ?_)
 exact rq [] [.tmp 2]
set_option maxRecDepth 10000 in
theorem emul_ctr {u v : Nat} : GC Try.prog 35 [.agg ((fel u).map (vi .u64)).toArray, .agg ((fel v).map (vi .u64)).toArray] [] [.agg ((fel (u * v)).map (vi .u64)).toArray] [] := by
 refine gi Try.func35 ?_
 have hd4 := fel_len (u * v)
 have hd1 := fel_len u
 have hd2 := fel_len v
 refine zS ?_
 refine yO 3000 1 ((fel u).map (vi .u64)) ?_
 refine yO 4000 1 ((fel v).map (vi .u64)) ?_
 refine yN 5000 1 _ ?_
 refine zN (zS ?_)
 refine yP pF ?_
 refine AWo.loadAgg tbok (vs := (fel u).map (vi .u64)) rfl rfl rfl rfl (by simp [fel_len]) (ld4 (fel_len _)) rfl rfl ?_
 refine yP pF ?_
 refine AWo.loadAgg tbok (vs := (fel v).map (vi .u64)) rfl rfl rfl rfl (by simp [fel_len]) (ld4 (fel_len _)) rfl rfl ?_
 refine yC (product_ctr (r := u * v * 18446744073709551616 ^ 4 % 21888242871839275222246405745257275088548364400416034343698204186575808495617) (bd_fel u) (bd_fel v) (fel_len u) (fel_len v) (fel_lt v) (Nat.mod_lt _ (by decide)) (mul_mod _ _)) bd93 [] [] ?_
 refine yP (build50 (by exact digs_len _ _) rfl) ?_
 refine ySA ?_
 refine zN (zE ?_)
 exact rq [] [.cell 4 33]
set_option maxRecDepth 10000 in
theorem fbok_ctr {b : List Nat} (hb : bd 256 b) (hlb : b.length = 32) (hlt : num 256 b < 21888242871839275222246405745257275088548364400416034343698204186575808495617) : GC Try.prog 73 [.slice (some ⟨0, 0, none⟩) b.length 0] [⟨b.map (vi .u8), false, 1⟩] [.agg ((fel (num 256 b)).map (vi .u64)).toArray, .int .i64 0] [⟨b.map (vi .u8), false, 1⟩] := by
 refine gi Try.func73 ?_
 have hl4 : (b.length + 7) / 8 = 4 := by rw [hlb]
 have hnb := num_lt hb
 rw [hlb] at hnb
 have hd4 := fel_len (num 256 b)
 have hd5 := digs_len (B := 18446744073709551616) 4 (num 256 b)
 have hn5 : num 18446744073709551616 (digs 18446744073709551616 4 (num 256 b)) = num 256 b := num_digs_lt (by omega)
 have hb5 := digs_bd (B := 18446744073709551616) (by decide) 4 (num 256 b)
 have hnp : num 18446744073709551616 (digs 18446744073709551616 4 21888242871839275222246405745257275088548364400416034343698204186575808495617) = 21888242871839275222246405745257275088548364400416034343698204186575808495617 := num_digs_lt (by decide)
 have hbp := digs_bd (B := 18446744073709551616) (by decide) 4 21888242871839275222246405745257275088548364400416034343698204186575808495617
 have hlp := digs_len (B := 18446744073709551616) 4 21888242871839275222246405745257275088548364400416034343698204186575808495617
 have hd6 := digs_len (B := 18446744073709551616) 4 (num 18446744073709551616 (digs 18446744073709551616 4 (num 256 b)) + 18446744073709551616 ^ 4 - num 18446744073709551616 (digs 18446744073709551616 4 21888242871839275222246405745257275088548364400416034343698204186575808495617))
 refine zS ?_
 refine yN 3000 1 _ ?_
 refine yA ?_
 refine zN (zQ (zS ?_))
 refine yM ?_
 refine yP pL ?_
 refine yP ((PureOp.neN (b := 32) rfl rfl).mono (v' := .bool false) (by rw [hlb]; rfl)) ?_
 refine zN (zF (zK (zT (zS ?_))))
 refine yM ?_
 refine yC (lwords_ctr hb (by omega)) bd88 [(0, 0)] [13000] ?_
 refine yP (PureOp.toArrT tbok rfl rfl (by rw [hl4]; decide) (by rw [hl4]; decide)) ?_
 rw [hl4]
 refine AWo.loadAgg tbok (vs := (digs 18446744073709551616 4 (num 256 b)).map (vi .u64)) rfl rfl rfl rfl (by show 0 + 4 ≤ _; simp [digs_len]) (ld4 hd5) rfl rfl ?_
 refine yN 5000 1 ((List.replicate 4 0).map (vi .u64)) ?_
 refine ySA ?_
 refine zN (zQ ?_)
 refine AW.seqD mixed ?_
 refine yLA ?_
 refine yC (prime_ctr) bd84 [] [] ?_
 refine yC (borrow_ctr hb5 hbp hd5 hlp) bd120 [] [] ?_
 refine yM ?_
 refine yP pX ?_
 refine yP pX ?_
 refine yN 6000 1 ((List.replicate 4 0).map (vi .u64)) ?_
 refine ySA ?_
 refine yA ?_
 refine zD (zS ?_)
 refine yM ?_
 refine yP ((PureOp.eqN (b := 0) rfl rfl).mono (v' := .bool false) (by rw [hn5, hnp, if_pos hlt]; rfl)) ?_
 refine zN (zF (zK (zT (zS ?_))))
 refine yLA ?_
 refine yC (enter_ctr hb5 hd5 (by rw [hn5]; exact hlt)) bd86 [] [] ?_
 refine ySA ?_
 refine yA ?_
 refine zN (zE ?_)
 rw [hn5]
 exact rq [] [.cell 2 33, .tmp 3]
set_option maxRecDepth 10000 in
theorem fbcanon_ctr {b : List Nat} (hb : bd 256 b) (hlb : b.length = 32) (hge : 21888242871839275222246405745257275088548364400416034343698204186575808495617 ≤ num 256 b) : GC Try.prog 73 [.slice (some ⟨0, 0, none⟩) b.length 0] [⟨b.map (vi .u8), false, 1⟩] [.agg ((List.replicate 4 0).map (vi .u64)).toArray, .int .i64 4] [⟨b.map (vi .u8), false, 1⟩] := by
 refine gi Try.func73 ?_
 have hl4 : (b.length + 7) / 8 = 4 := by rw [hlb]
 have hnb := num_lt hb
 rw [hlb] at hnb
 have hd4 := fel_len (num 256 b)
 have hd5 := digs_len (B := 18446744073709551616) 4 (num 256 b)
 have hn5 : num 18446744073709551616 (digs 18446744073709551616 4 (num 256 b)) = num 256 b := num_digs_lt (by omega)
 have hb5 := digs_bd (B := 18446744073709551616) (by decide) 4 (num 256 b)
 have hnp : num 18446744073709551616 (digs 18446744073709551616 4 21888242871839275222246405745257275088548364400416034343698204186575808495617) = 21888242871839275222246405745257275088548364400416034343698204186575808495617 := num_digs_lt (by decide)
 have hbp := digs_bd (B := 18446744073709551616) (by decide) 4 21888242871839275222246405745257275088548364400416034343698204186575808495617
 have hlp := digs_len (B := 18446744073709551616) 4 21888242871839275222246405745257275088548364400416034343698204186575808495617
 have hd6 := digs_len (B := 18446744073709551616) 4 (num 18446744073709551616 (digs 18446744073709551616 4 (num 256 b)) + 18446744073709551616 ^ 4 - num 18446744073709551616 (digs 18446744073709551616 4 21888242871839275222246405745257275088548364400416034343698204186575808495617))
 refine zS ?_
 refine yN 3000 1 _ ?_
 refine yA ?_
 refine zN (zQ (zS ?_))
 refine yM ?_
 refine yP pL ?_
 refine yP ((PureOp.neN (b := 32) rfl rfl).mono (v' := .bool false) (by rw [hlb]; rfl)) ?_
 refine zN (zF (zK (zT (zS ?_))))
 refine yM ?_
 refine yC (lwords_ctr hb (by omega)) bd88 [(0, 0)] [13000] ?_
 refine yP (PureOp.toArrT tbok rfl rfl (by rw [hl4]; decide) (by rw [hl4]; decide)) ?_
 rw [hl4]
 refine AWo.loadAgg tbok (vs := (digs 18446744073709551616 4 (num 256 b)).map (vi .u64)) rfl rfl rfl rfl (by show 0 + 4 ≤ _; simp [digs_len]) (ld4 hd5) rfl rfl ?_
 refine yN 5000 1 ((List.replicate 4 0).map (vi .u64)) ?_
 refine ySA ?_
 refine zN (zQ ?_)
 refine AW.seqD mixed ?_
 refine yLA ?_
 refine yC (prime_ctr) bd84 [] [] ?_
 refine yC (borrow_ctr hb5 hbp hd5 hlp) bd120 [] [] ?_
 refine yM ?_
 refine yP pX ?_
 refine yP pX ?_
 refine yN 6000 1 ((List.replicate 4 0).map (vi .u64)) ?_
 refine ySA ?_
 refine yA ?_
 refine zD (zS ?_)
 refine yM ?_
 refine yP ((PureOp.eqN (b := 0) rfl rfl).mono (v' := .bool true) (by rw [hn5, hnp, if_neg (by omega)]; rfl)) ?_
 refine zN (zC (zS ?_))
 refine yP ((PureOp.buildStruct [] pl33.choose_spec.1 zr33 (by decide) pl33.choose_spec.2 rfl rfl).mono (v' := .agg ((List.replicate 4 0).map (vi .u64)).toArray) (by rfl)) ?_
 refine ySA ?_
 refine yA ?_
 refine zN (zE (zU ?_))
 exact rq [] [.cell 2 33, .tmp 3]
set_option maxRecDepth 10000 in
theorem fbarg_ctr {b : List Nat} (hlb : b.length ≠ 32) : GC Try.prog 73 [.slice (some ⟨0, 0, none⟩) b.length 0] [⟨b.map (vi .u8), false, 1⟩] [.agg ((List.replicate 4 0).map (vi .u64)).toArray, .int .i64 1] [⟨b.map (vi .u8), false, 1⟩] := by
 refine gi Try.func73 ?_
 refine zS ?_
 refine yN 3000 1 _ ?_
 refine yA ?_
 refine zN (zQ (zS ?_))
 refine yM ?_
 refine yP pL ?_
 refine yP ((PureOp.neN (b := 32) rfl rfl).mono (v' := .bool true) (congrArg Value.bool (by simpa using hlb))) ?_
 refine zN (zC (zS ?_))
 refine yP ((PureOp.buildStruct [] pl33.choose_spec.1 zr33 (by decide) pl33.choose_spec.2 rfl rfl).mono (v' := .agg ((List.replicate 4 0).map (vi .u64)).toArray) (by rfl)) ?_
 refine ySA ?_
 refine yA ?_
 refine zN (zE (zU ?_))
 exact rq [] [.cell 2 33, .tmp 3]
end Go.Proofs.Yteeifahhejangaa
namespace Go.Proofs.Yteeifahhejangaa
open Go Sim
section
variable {B : Nat}
theorem lt_of_cmp {a b : Nat} (h : cmpI a b < 0) : a < b := by
  simp only [cmpI] at h
  split at h
  · assumption
  · split at h <;> omega
theorem ge_of_cmp {a b : Nat} (h : 0 ≤ cmpI a b) : b ≤ a := by
  simp only [cmpI] at h
  split at h
  · omega
  · omega
end
theorem num_lt_blen (n : Nat) : n / 2 ^ blen n = 0 := by
 refine Nat.div_eq_of_lt ?_
 simp only [blen]
 split
 · rename_i h; rw [h]; decide
 · exact Nat.lt_log2_self
theorem bit64_at {a : List Nat} (h : bd 18446744073709551616 a) (i : Nat) : a.getD (i / 64) 0 / 2 ^ (i % 64) % 2 = num 18446744073709551616 a / 2 ^ i % 2 := by
 rw [num_getD h (by decide)]
 have e1 : (2 : Nat) ^ i = 18446744073709551616 ^ (i / 64) * 2 ^ (i % 64) := by
  rw [show (18446744073709551616 : Nat) = 2 ^ 64 from by decide, ← Nat.pow_mul, ← Nat.pow_add, Nat.div_add_mod]
 rw [e1, ← Nat.div_div_eq_div_mul]
 generalize num 18446744073709551616 a / 18446744073709551616 ^ (i / 64) = z
 have hk : i % 64 < 64 := Nat.mod_lt _ (by decide)
 generalize i % 64 = k at hk
 have e : 18446744073709551616 = 2 ^ k * (2 * 2 ^ (63 - k)) := by
  rw [← Nat.mul_assoc, Nat.mul_right_comm, ← Nat.pow_add, show k + (63 - k) = 63 by omega]
 rw [e, Nat.mod_mul_right_div_self, Nat.mod_mul_right_mod]
theorem bit_len {a : List Nat} {r : Nat} (h : bd 18446744073709551616 a) (hr : r < blen (num 18446744073709551616 a)) : r / 64 < a.length := by
 have h1 := num_lt h
 rw [show (18446744073709551616 : Nat) = 2 ^ 64 from by decide, ← Nat.pow_mul] at h1
 have h2 := blen_lt h1
 rw [show (2 : Nat) ^ 64 = 18446744073709551616 from by decide] at h2
 omega
theorem blen_words {a : List Nat} (h : bd 18446744073709551616 a) : blen (num 18446744073709551616 a) ≤ 64 * a.length := by
 have h1 := num_lt h
 rw [show (18446744073709551616 : Nat) = 2 ^ 64 from by decide, ← Nat.pow_mul] at h1
 have h2 := blen_lt h1
 rwa [show (2 : Nat) ^ 64 = 18446744073709551616 from by decide] at h2
end Go.Proofs.Yteeifahhejangaa
namespace Go.Proofs.Yteeifahhejangaa
open Go Sim
theorem pow_odd {a b r : Nat} (h : b / 2 ^ r % 2 = 1) : a ^ (b / 2 ^ r) = a ^ (b / 2 ^ (r + 1)) * a ^ (b / 2 ^ (r + 1)) * a := by
 have e : b / 2 ^ r = b / 2 ^ (r + 1) + b / 2 ^ (r + 1) + 1 := by
  rw [Nat.pow_succ, ← Nat.div_div_eq_div_mul]; omega
 conv => lhs; rw [e]
 rw [Nat.pow_succ, Nat.pow_add]
theorem pow_even {a b r : Nat} (h : ¬ b / 2 ^ r % 2 = 1) : a ^ (b / 2 ^ r) = a ^ (b / 2 ^ (r + 1)) * a ^ (b / 2 ^ (r + 1)) := by
 have e : b / 2 ^ r = b / 2 ^ (r + 1) + b / 2 ^ (r + 1) := by
  rw [Nat.pow_succ, ← Nat.div_div_eq_div_mul]; omega
 conv => lhs; rw [e]
 rw [Nat.pow_add]
end Go.Proofs.Yteeifahhejangaa
namespace Go.Proofs.Yteeifahhejangaa
open Go Sim
theorem cmpD_ctr {x y : Nat} (hlx : (D 4294967296 x).length < 100000000) (hly : (D 4294967296 y).length < 100000000) : GC Try.prog 78 [.slice (some ⟨0, 0, none⟩) (D 4294967296 x).length 0, .slice (some ⟨1, 0, none⟩) (D 4294967296 y).length 0] [⟨(D 4294967296 x).map (vi .u64), false, 1⟩, ⟨(D 4294967296 y).map (vi .u64), false, 1⟩] [.int .i64 (cmpI x y)] [⟨(D 4294967296 x).map (vi .u64), false, 1⟩, ⟨(D 4294967296 y).map (vi .u64), false, 1⟩] := by
 have h := rcmp_ctr (a := D 4294967296 x) (b := D 4294967296 y) (bd_D (by decide) _) (bd_D (by decide) _) (Nat.lt_trans hlx (by decide)) (Nat.lt_trans hly (by decide))
 simp only [num_D (show 2 ≤ 4294967296 by decide)] at h
 exact h
end Go.Proofs.Yteeifahhejangaa
namespace Go.Proofs.Yteeifahhejangaa
open Go Sim
theorem wordsD_ctr {x n : Nat} (hn : n < 100000000) : GC Try.prog 117 [.slice (some ⟨0, 0, none⟩) (D 4294967296 x).length 0, vi .i64 (n)] [⟨(D 4294967296 x).map (vi .u64), false, 1⟩] [.slice (some ⟨1, 0, none⟩) n 0] [⟨(D 4294967296 x).map (vi .u64), false, 1⟩, ⟨(digs 18446744073709551616 n x).map (vi .u64), true, 1⟩] := by
 have h := words_ctr (a := D 4294967296 x) (n := n) (bd_D (by decide) _) hn
 simp only [num_D (show 2 ≤ 4294967296 by decide), digs_len] at h
 exact h
theorem exp_odd {x y z r N : Nat} (hz : z = x ^ (y / 2 ^ (r + 1)) % N) (hb : y / 2 ^ r % 2 = 1) : z * z % N * (x % N) % N = x ^ (y / 2 ^ r) % N := by
 rw [pow_odd hb, hz]
 generalize x ^ (y / 2 ^ (r + 1)) = p
 rw [← Nat.mul_mod p p N, ← Nat.mul_mod]
theorem exp_even {x y z r N : Nat} (hz : z = x ^ (y / 2 ^ (r + 1)) % N) (hb : ¬ y / 2 ^ r % 2 = 1) : z * z % N = x ^ (y / 2 ^ r) % N := by
 rw [pow_even hb, hz, ← Nat.mul_mod]
end Go.Proofs.Yteeifahhejangaa
namespace Go.Proofs.Yteeifahhejangaa
open Go Sim
theorem p02_digs : D 4294967296 21888242871839275222246405745257275088548364400416034343698204186575808495617 = [4026531841, 1138881939, 2042196113, 674490440, 2172737629, 3092268470, 3778125865, 811880050] := by kernel_rfl
section
variable {P : Program} {T : Tab} (H : TabOk P T) {E : Env} {M : Mem} {n' i' : Nat} {ty : TypeId} {ps : String} {af : Array Edge} {g : Option (Nat × Bool)} {ops : Array Oper} {os : List Oper} {D : List Eff → Prop} {K : ASt → Prop}
include H
end
theorem lenP : (D 4294967296 21888242871839275222246405745257275088548364400416034343698204186575808495617).length < 100000000 := by rw [p02_digs]; decide
set_option maxRecDepth 10000 in
theorem p02D_ctr : GC Try.prog 79 [] [] [.slice (some ⟨0, 0, none⟩) (D 4294967296 (21888242871839275222246405745257275088548364400416034343698204186575808495617)).length 0] [⟨(D 4294967296 (21888242871839275222246405745257275088548364400416034343698204186575808495617)).map (vi .u64), true, 1⟩] := by
 refine gi Try.func79 ?_
 refine zS ?_
 refine yA ?_
 refine zN (zS ?_)
 refine AWo.buildSlice tbok 2000 [(0, vi .u64 4026531841), (1, vi .u64 1138881939), (2, vi .u64 2042196113), (3, vi .u64 674490440), (4, vi .u64 2172737629), (5, vi .u64 3092268470), (6, vi .u64 3778125865), (7, vi .u64 811880050)] (out := [vi .u64 4026531841, vi .u64 1138881939, vi .u64 2042196113, vi .u64 674490440, vi .u64 2172737629, vi .u64 3092268470, vi .u64 3778125865, vi .u64 811880050]) rfl rfl (by decide) rfl rfl rfl (by decide) rfl rfl rfl rfl rfl ?_
 refine yA ?_
 refine zN (zE ?_)
 rw [p02_digs]
 exact rq [2000] [.tmp 0]
theorem rb4_ctr {x : Nat} (hx : x < 18446744073709551616 ^ 4) : GC Try.prog 116 [.slice (some ⟨0, 0, none⟩) 4 0] [⟨(digs 18446744073709551616 4 x).map (vi .u64), false, 1⟩] [.slice (some ⟨1, 0, none⟩) 32 0] [⟨(digs 18446744073709551616 4 x).map (vi .u64), false, 1⟩, ⟨(digs 256 32 x).map (vi .u8), true, 1⟩] := by
 have h := rbytes_ctr (a := digs 18446744073709551616 4 x) (digs_bd (by decide) _ _) (by rw [digs_len]; decide)
 rw [digs_len, num_digs_lt hx] at h
 exact h
set_option maxRecDepth 10000 in
theorem bytes02_ctr {x : Nat} (hx : x < 18446744073709551616 ^ 4) : GC Try.prog 65 [.slice (some ⟨0, 0, none⟩) (D 4294967296 x).length 0] [⟨(D 4294967296 x).map (vi .u64), false, 1⟩] [.slice (some ⟨1, 0, none⟩) 32 0] [⟨(D 4294967296 x).map (vi .u64), false, 1⟩, ⟨(digs 256 32 x).map (vi .u8), true, 1⟩] := by
 refine gi Try.func65 ?_
 refine zS ?_
 refine yA ?_
 refine zN (zS ?_)
 refine yM ?_
 refine yC (wordsD_ctr (x := x) (n := 4) (by decide)) bd117 [(0, 0)] [5000] ?_
 refine yC (rb4_ctr hx) bd116 [(5000, 0)] [6000] ?_
 refine yA ?_
 refine zN (zE ?_)
 exact rq [6000] [.tmp 2]
end Go.Proofs.Yteeifahhejangaa
namespace Go.Proofs.Yteeifahhejangaa
open Go Sim
theorem inv_words {e : Nat} (he : e = 21888242871839275222246405745257275088548364400416034343698204186575808495617 - 2) : (digs 18446744073709551616 4 21888242871839275222246405745257275088548364400416034343698204186575808495617).set 0 4891460686036598783 = digs 18446744073709551616 4 e := by subst he; kernel_rfl
theorem emulP_ctr {u v : Nat} : GC Try.prog 35 [.agg ((fel u).map (vi .u64)).toArray, .agg ((fel v).map (vi .u64)).toArray] [] [.agg ((fel (u * v % 21888242871839275222246405745257275088548364400416034343698204186575808495617)).map (vi .u64)).toArray] [] := by
 have h := emul_ctr (u := u) (v := v)
 rw [← fel_mod (u * v)] at h
 exact h
theorem add_fel {u v : Nat} : digs 18446744073709551616 4 (num 18446744073709551616 (digs 18446744073709551616 4 (num 18446744073709551616 (fel u) + num 18446744073709551616 (fel v))) % 21888242871839275222246405745257275088548364400416034343698204186575808495617) = fel ((u + v) % 21888242871839275222246405745257275088548364400416034343698204186575808495617) := by
 have h1 := fel_lt u
 have h2 := fel_lt v
 rw [num_digs_lt (by omega), num_fel, num_fel, fel_mod, fel, ← Nat.add_mod, Nat.add_mul]
theorem sub_fel {u v : Nat} (hv : v < 21888242871839275222246405745257275088548364400416034343698204186575808495617) : (u + (21888242871839275222246405745257275088548364400416034343698204186575808495617 - v)) * 18446744073709551616 ^ 4 % 21888242871839275222246405745257275088548364400416034343698204186575808495617 = (num 18446744073709551616 (fel u) + (21888242871839275222246405745257275088548364400416034343698204186575808495617 - num 18446744073709551616 (fel v))) % 21888242871839275222246405745257275088548364400416034343698204186575808495617 := by
 have h1 := fel_lt u
 have h2 := fel_lt v
 have h3 : ((u + (21888242871839275222246405745257275088548364400416034343698204186575808495617 - v)) * 18446744073709551616 ^ 4 % 21888242871839275222246405745257275088548364400416034343698204186575808495617 + num 18446744073709551616 (fel v)) % 21888242871839275222246405745257275088548364400416034343698204186575808495617 = num 18446744073709551616 (fel u) := by
  rw [num_fel, num_fel, ← Nat.add_mod, ← Nat.add_mul, show u + (21888242871839275222246405745257275088548364400416034343698204186575808495617 - v) + v = u + 21888242871839275222246405745257275088548364400416034343698204186575808495617 by omega, Nat.add_mul, Nat.add_mul_mod_self_left]
 have h4 := Nat.mod_lt ((u + (21888242871839275222246405745257275088548364400416034343698204186575808495617 - v)) * 18446744073709551616 ^ 4) (show 0 < 21888242871839275222246405745257275088548364400416034343698204186575808495617 by decide)
 omega
theorem sub_fel_ge {u v : Nat} (hv : v < 21888242871839275222246405745257275088548364400416034343698204186575808495617) (h : num 18446744073709551616 (fel v) ≤ num 18446744073709551616 (fel u)) : digs 18446744073709551616 4 (num 18446744073709551616 (fel u) + 18446744073709551616 ^ 4 - num 18446744073709551616 (fel v)) = fel ((u + (21888242871839275222246405745257275088548364400416034343698204186575808495617 - v)) % 21888242871839275222246405745257275088548364400416034343698204186575808495617) := by
 have h1 := fel_lt u
 refine num_inj (digs_bd (by decide) _ _) (bd_fel _) (by rw [digs_len, fel_len]) ?_
 rw [num_digs, num_fel ((u + (21888242871839275222246405745257275088548364400416034343698204186575808495617 - v)) % 21888242871839275222246405745257275088548364400416034343698204186575808495617), Nat.mod_mul_mod, sub_fel hv]
 omega
theorem sub_fel_lt {u v : Nat} (hv : v < 21888242871839275222246405745257275088548364400416034343698204186575808495617) (h : num 18446744073709551616 (fel u) < num 18446744073709551616 (fel v)) : digs 18446744073709551616 4 (num 18446744073709551616 (digs 18446744073709551616 4 (num 18446744073709551616 (fel u) + 18446744073709551616 ^ 4 - num 18446744073709551616 (fel v))) + num 18446744073709551616 (digs 18446744073709551616 4 21888242871839275222246405745257275088548364400416034343698204186575808495617)) = fel ((u + (21888242871839275222246405745257275088548364400416034343698204186575808495617 - v)) % 21888242871839275222246405745257275088548364400416034343698204186575808495617) := by
 have h1 := fel_lt u
 have h2 := fel_lt v
 refine num_inj (digs_bd (by decide) _ _) (bd_fel _) (by rw [digs_len, fel_len]) ?_
 rw [num_digs, num_fel ((u + (21888242871839275222246405745257275088548364400416034343698204186575808495617 - v)) % 21888242871839275222246405745257275088548364400416034343698204186575808495617), Nat.mod_mul_mod, sub_fel hv, num_digs, num_digs]
 omega
theorem one_word {x : Nat} (hx : x < 18446744073709551616) : digs 18446744073709551616 4 x = [x, 0, 0, 0] := by
 simp only [digs, Nat.mod_eq_of_lt hx, Nat.div_eq_of_lt hx]
set_option maxRecDepth 10000 in
theorem eaddP_ctr {u v : Nat} : GC Try.prog 33 [.agg ((fel u).map (vi .u64)).toArray, .agg ((fel v).map (vi .u64)).toArray] [] [.agg ((fel ((u + v) % 21888242871839275222246405745257275088548364400416034343698204186575808495617)).map (vi .u64)).toArray] [] := by
 refine gi Try.func33 ?_
 have hd1 := fel_len u
 have hd2 := fel_len v
 have hd3 := fel_len ((u + v) % 21888242871839275222246405745257275088548364400416034343698204186575808495617)
 have h1 := fel_lt u
 have h2 := fel_lt v
 have hds := digs_len (B := 18446744073709551616) 4 (num 18446744073709551616 (fel u) + num 18446744073709551616 (fel v))
 refine zS ?_
 refine yO 3000 1 ((fel u).map (vi .u64)) ?_
 refine yO 4000 1 ((fel v).map (vi .u64)) ?_
 refine yN 5000 1 _ ?_
 refine zN (zS ?_)
 refine yP pF ?_
 refine AWo.loadAgg tbok (vs := (fel u).map (vi .u64)) rfl rfl rfl rfl (by simp [fel_len]) (ld4 (fel_len _)) rfl rfl ?_
 refine yP pF ?_
 refine AWo.loadAgg tbok (vs := (fel v).map (vi .u64)) rfl rfl rfl rfl (by simp [fel_len]) (ld4 (fel_len _)) rfl rfl ?_
 refine yC (plus_ctr (bd_fel u) (bd_fel v) (fel_len u) (fel_len v)) bd92 [] [] ?_
 refine yC (below_ctr (a := digs 18446744073709551616 4 (num 18446744073709551616 (fel u) + num 18446744073709551616 (fel v))) (digs_bd (by decide) _ _) (digs_len _ _) (by rw [num_digs_lt (by omega)]; omega)) bd91 [] [] ?_
 rw [add_fel]
 refine yP (build50 (by exact digs_len _ _) rfl) ?_
 refine ySA ?_
 refine zN (zE ?_)
 exact rq [] [.cell 4 33]
set_option maxRecDepth 10000 in
theorem esubP_ctr {u v : Nat} (hv : v < 21888242871839275222246405745257275088548364400416034343698204186575808495617) : GC Try.prog 96 [.agg ((fel u).map (vi .u64)).toArray, .agg ((fel v).map (vi .u64)).toArray] [] [.agg ((fel ((u + (21888242871839275222246405745257275088548364400416034343698204186575808495617 - v)) % 21888242871839275222246405745257275088548364400416034343698204186575808495617)).map (vi .u64)).toArray] [] := by
 refine gi Try.func96 ?_
 have hd1 := fel_len u
 have hd2 := fel_len v
 have hd3 := fel_len ((u + (21888242871839275222246405745257275088548364400416034343698204186575808495617 - v)) % 21888242871839275222246405745257275088548364400416034343698204186575808495617)
 have hd4 := digs_len (B := 18446744073709551616) 4 (num 18446744073709551616 (fel u) + 18446744073709551616 ^ 4 - num 18446744073709551616 (fel v))
 have hd5 := digs_len (B := 18446744073709551616) 4 (num 18446744073709551616 (digs 18446744073709551616 4 (num 18446744073709551616 (fel u) + 18446744073709551616 ^ 4 - num 18446744073709551616 (fel v))) + num 18446744073709551616 (digs 18446744073709551616 4 21888242871839275222246405745257275088548364400416034343698204186575808495617))
 have hsub := sub_fel (u := u) hv
 refine zS ?_
 refine yO 3000 1 ((fel u).map (vi .u64)) ?_
 refine yO 4000 1 ((fel v).map (vi .u64)) ?_
 refine yN 5000 1 _ ?_
 refine zN (zS ?_)
 refine yP pF ?_
 refine AWo.loadAgg tbok (vs := (fel u).map (vi .u64)) rfl rfl rfl rfl (by simp [fel_len]) (ld4 (fel_len _)) rfl rfl ?_
 refine yP pF ?_
 refine AWo.loadAgg tbok (vs := (fel v).map (vi .u64)) rfl rfl rfl rfl (by simp [fel_len]) (ld4 (fel_len _)) rfl rfl ?_
 refine yC (borrow_ctr (bd_fel u) (bd_fel v) (fel_len u) (fel_len v)) bd120 [] [] ?_
 refine yM ?_
 refine yP pX ?_
 refine yP pX ?_
 refine yN 6000 1 ((List.replicate 4 0).map (vi .u64)) ?_
 refine ySA ?_
 refine yA ?_
 refine zN (zQ (zS ?_))
 refine yM ?_
 refine yP (pNe (b := 0)) ?_
 refine zN ?_
 refine zA (fun hb0 => ?_) (fun hb0 => ?_)
 ·
  have hlt : num 18446744073709551616 (fel u) < num 18446744073709551616 (fel v) := by
   rcases Nat.lt_or_ge (num 18446744073709551616 (fel u)) (num 18446744073709551616 (fel v)) with h | h
   · exact h
   · rw [if_neg (by omega)] at hb0; simp at hb0
  refine AW.draw mixed ?_
  refine AWo.loadAgg tbok (vs := (digs 18446744073709551616 4 (num 18446744073709551616 (fel u) + 18446744073709551616 ^ 4 - num 18446744073709551616 (fel v))).map (vi .u64)) rfl rfl rfl rfl (by simp [digs_len]) (ld4 (digs_len _ _)) rfl rfl ?_
  refine yC (prime_ctr) bd84 [] [] ?_
  refine yC (plus_ctr (a := digs 18446744073709551616 4 (num 18446744073709551616 (fel u) + 18446744073709551616 ^ 4 - num 18446744073709551616 (fel v))) (b := digs 18446744073709551616 4 21888242871839275222246405745257275088548364400416034343698204186575808495617) (digs_bd (by decide) _ _) (digs_bd (by decide) _ _) (digs_len _ _) (digs_len _ _)) bd92 [] [] ?_
  rw [sub_fel_lt hv hlt]
  refine ySA ?_
  refine zD (zT (zS ?_))
  refine AWo.loadAgg tbok (vs := (fel ((u + (21888242871839275222246405745257275088548364400416034343698204186575808495617 - v)) % 21888242871839275222246405745257275088548364400416034343698204186575808495617)).map (vi .u64)) rfl rfl rfl rfl (by simp [fel_len]) (ld4 (fel_len _)) rfl rfl ?_
  refine yP (build50 (by exact digs_len _ _) rfl) ?_
  refine ySA ?_
  refine zN (zE ?_)
  exact rq [] [.cell 4 33]
 ·
  have hge : num 18446744073709551616 (fel v) ≤ num 18446744073709551616 (fel u) := by
   rcases Nat.lt_or_ge (num 18446744073709551616 (fel u)) (num 18446744073709551616 (fel v)) with h | h
   · rw [if_pos h] at hb0; simp at hb0
   · exact h
  rw [sub_fel_ge hv hge]
  refine zK (zT (zS ?_))
  refine AWo.loadAgg tbok (vs := (fel ((u + (21888242871839275222246405745257275088548364400416034343698204186575808495617 - v)) % 21888242871839275222246405745257275088548364400416034343698204186575808495617)).map (vi .u64)) rfl rfl rfl rfl (by simp [fel_len]) (ld4 (fel_len _)) rfl rfl ?_
  refine yP (build50 (by exact digs_len _ _) rfl) ?_
  refine ySA ?_
  refine zN (zE ?_)
  exact rq [] [.cell 4 33]
set_option maxRecDepth 10000 in
theorem enegP_ctr {v : Nat} (hv : v < 21888242871839275222246405745257275088548364400416034343698204186575808495617) : GC Try.prog 45 [.agg ((fel v).map (vi .u64)).toArray] [] [.agg ((fel ((0 + (21888242871839275222246405745257275088548364400416034343698204186575808495617 - v)) % 21888242871839275222246405745257275088548364400416034343698204186575808495617)).map (vi .u64)).toArray] [] := by
 refine gi Try.func45 ?_
 have hd1 := fel_len v
 have hd2 := fel_len ((0 + (21888242871839275222246405745257275088548364400416034343698204186575808495617 - v)) % 21888242871839275222246405745257275088548364400416034343698204186575808495617)
 refine zS ?_
 refine yO 2000 1 ((fel v).map (vi .u64)) ?_
 refine yN 3000 1 _ ?_
 refine zN (zS ?_)
 refine yP ((PureOp.buildStruct [] pl33.choose_spec.1 zr33 (by decide) pl33.choose_spec.2 rfl rfl).mono (v' := .agg ((fel 0).map (vi .u64)).toArray) (by rw [fel_zero]; rfl)) ?_
 refine AWo.loadAgg tbok (vs := (fel v).map (vi .u64)) rfl rfl rfl rfl (by simp [fel_len]) (ld4 (fel_len _)) rfl rfl ?_
 refine yC (esubP_ctr (u := 0) (v := v) hv) bd96 [] [] ?_
 refine ySA ?_
 refine zN (zE ?_)
 exact rq [] [.cell 2 33]
set_option maxRecDepth 10000 in
theorem esqP_ctr {v : Nat} : GC Try.prog 147 [.agg ((fel v).map (vi .u64)).toArray] [] [.agg ((fel (v * v % 21888242871839275222246405745257275088548364400416034343698204186575808495617)).map (vi .u64)).toArray] [] := by
 refine gi Try.func147 ?_
 have hd1 := fel_len v
 have hd2 := fel_len (v * v % 21888242871839275222246405745257275088548364400416034343698204186575808495617)
 refine zS ?_
 refine yO 2000 1 ((fel v).map (vi .u64)) ?_
 refine yN 3000 1 _ ?_
 refine zN (zS ?_)
 refine AWo.loadAgg tbok (vs := (fel v).map (vi .u64)) rfl rfl rfl rfl (by simp [fel_len]) (ld4 (fel_len _)) rfl rfl ?_
 refine AWo.loadAgg tbok (vs := (fel v).map (vi .u64)) rfl rfl rfl rfl (by simp [fel_len]) (ld4 (fel_len _)) rfl rfl ?_
 refine yC (emulP_ctr (u := v) (v := v)) bd35 [] [] ?_
 refine ySA ?_
 refine zN (zE ?_)
 exact rq [] [.cell 2 33]
set_option maxRecDepth 10000 in
theorem fromuP_ctr {x : Nat} (hx : x < 18446744073709551616) : GC Try.prog 37 [vi .u64 (x)] [] [.agg ((fel x).map (vi .u64)).toArray] [] := by
 refine gi Try.func37 ?_
 have hd1 := fel_len (num 18446744073709551616 (digs 18446744073709551616 4 x))
 have hd2 := fel_len x
 have h4 : x < 18446744073709551616 ^ 4 := Nat.lt_of_lt_of_le hx (by decide)
 refine zS ?_
 refine yN 3000 1 _ ?_
 refine zN (zS ?_)
 refine yM ?_
 refine yP ((PureOp.buildArr tbok [(0, vi .u64 x)] rfl rfl rfl (by decide) rfl rfl).mono (v' := .agg ((digs 18446744073709551616 4 x).map (vi .u64)).toArray) (by rw [one_word hx]; rfl)) ?_
 refine yC (enter_ctr (a := digs 18446744073709551616 4 x) (digs_bd (by decide) _ _) (digs_len _ _) (by rw [num_digs_lt h4]; exact Nat.lt_trans hx (by decide))) bd86 [] [] ?_
 rw [num_digs_lt h4]
 refine ySA ?_
 refine zN (zE ?_)
 exact rq [] [.cell 2 33]
set_option maxRecDepth 10000 in
theorem eexp_ctr {v : Nat} {e : List Nat} (hv : v < 21888242871839275222246405745257275088548364400416034343698204186575808495617) (he : bd 18446744073709551616 e) (hle : e.length ≤ 1000) : GC Try.prog 132 [.agg ((fel v).map (vi .u64)).toArray, .slice (some ⟨0, 0, none⟩) e.length 0] [⟨e.map (vi .u64), false, 1⟩] [.agg ((fel (v ^ num 18446744073709551616 e % 21888242871839275222246405745257275088548364400416034343698204186575808495617)).map (vi .u64)).toArray] [⟨e.map (vi .u64), false, 1⟩] := by
 refine gi Try.func132 ?_
 have hbw := blen_words he
 have hle2 : e.length ≤ 1000 := hle
 have hd4 := fel_len v
 refine zS ?_
 refine yO 3000 1 ((fel v).map (vi .u64)) ?_
 refine yN 5000 1 _ ?_
 refine zN (zS ?_)
 refine yC (fromuP_ctr (x := 1) (by decide)) bd37 [] [] ?_
 refine yN 6000 1 _ ?_
 refine ySA ?_
 refine zN (zQ (zS ?_))
 refine yM ?_
 refine yC (lbits_ctr he (by omega)) bd127 [(0, 0)] [] ?_
 refine yP ((PureOp.subP rfl rfl (by omega)).mono (v' := vp (blen (num 18446744073709551616 e))) (by rfl)) ?_
 refine yA ?_
 refine zN (zB ?_)
 refine AW.loopw (fun mm σ => ∃ z, ∃ r, (r ≤ blen (num 18446744073709551616 e) ∧ z = v ^ (num 18446744073709551616 e / 2 ^ r) % 21888242871839275222246405745257275088548364400416034343698204186575808495617) ∧ mm = 1 * r ∧ σ = ⟨(upd (upd (upd (upd (upd emp 1 (.slice (some ⟨0, 0, none⟩) e.length 0)) 2 (.pointer (some ⟨3000, 0, none⟩))) 4 (.pointer (some ⟨5000, 0, none⟩))) 5 (.pointer (some ⟨6000, 0, none⟩))) 6 (vp r)), (upd (upd (upd (upd emp 0 ⟨(e).map (vi .u64), false, 1⟩) 3000 ⟨(fel v).map (vi .u64), true, 1⟩) 5000 ⟨(List.replicate 4 0).map (vi .u64), true, 1⟩) 6000 ⟨(fel z).map (vi .u64), true, 1⟩)⟩) (fm := []) (wk [0, 3000, 5000, 6000]) ⟨1, blen (num 18446744073709551616 e), ⟨Nat.le_refl _, by rw [num_lt_blen]; rfl⟩, rfl, rfl⟩ ?_
 rintro mm σ ⟨z, r, ⟨hr0, hz⟩, rfl, rfl⟩
 have hdz := fel_len z
 have hdz2 := fel_len (z * z % 21888242871839275222246405745257275088548364400416034343698204186575808495617)
 have hdz3 := fel_len (z * z % 21888242871839275222246405745257275088548364400416034343698204186575808495617 * v % 21888242871839275222246405745257275088548364400416034343698204186575808495617)
 refine zQ (zS ?_)
 refine yM ?_
 refine yP (PureOp.geP rfl rfl) ?_
 refine zN ?_
 refine zA (fun hb0 => ?_) (fun hb0 => ?_)
 ·
  have hp0 : 0 < r := by simpa using hb0
  obtain ⟨r, rfl⟩ : ∃ q, r = q + 1 := ⟨r - 1, by omega⟩
  rw [vp_succ]
  have hal := bit_len he (show r < blen (num 18446744073709551616 e) by omega)
  refine zK (zT (zQ (zB (zS ?_))))
  refine AWo.loadAgg tbok (vs := (fel z).map (vi .u64)) rfl rfl rfl rfl (by simp [fel_len]) (ld4 (fel_len _)) rfl rfl ?_
  refine yC (esqP_ctr (v := z)) bd147 [] [] ?_
  refine ySA ?_
  refine zN (zS ?_)
  refine yM ?_
  refine yM ?_
  refine yP ((PureOp.quoN (b := 64) 9223372036854775808 rfl rfl (by decide) (by decide) (by decide) (by omega)).mono (v' := vi .i64 (r / 64)) rfl) ?_
  refine yP pJ ?_
  refine yL 0 ?_
  refine yM ?_
  refine yP ((PureOp.remN (b := 64) rfl rfl (by decide)).mono (v' := vi .i64 (r % 64)) rfl) ?_
  refine yP (PureOp.shrN (b := r % 64) 64 rfl rfl rfl (by omega)) ?_
  refine yP ((PureOp.andN 18446744073709551616 rfl rfl (by decide) (by decide) (Nat.lt_of_le_of_lt (Nat.div_le_self _ _) (bd_getD he (by decide) _)) (by decide)).mono (v' := vi .u64 (num 18446744073709551616 e / 2 ^ r % 2)) (congrArg (vi .u64) ((Nat.and_one_is_mod _).trans (bit64_at he r)))) ?_
  refine yP (pEq (b := 1)) ?_
  refine zN ?_
  refine zA (fun hb1 => ?_) (fun hb1 => ?_)
  ·
   have hb2 : num 18446744073709551616 e / 2 ^ r % 2 = 1 := by simpa using hb1
   refine zR ?_
   refine AWo.loadAgg tbok (vs := (fel (z * z % 21888242871839275222246405745257275088548364400416034343698204186575808495617)).map (vi .u64)) rfl rfl rfl rfl (by simp [fel_len]) (ld4 (fel_len _)) rfl rfl ?_
   refine AWo.loadAgg tbok (vs := (fel v).map (vi .u64)) rfl rfl rfl rfl (by simp [fel_len]) (ld4 (fel_len _)) rfl rfl ?_
   refine yC (emulP_ctr (u := z * z % 21888242871839275222246405745257275088548364400416034343698204186575808495617) (v := v)) bd35 [] [] ?_
   refine ySA ?_
   refine zN (zL (zT (zR ?_)))
   refine yM ?_
   refine yP (PureOp.subP rfl rfl (by omega)) ?_
   refine yA ?_
   refine zN (zT ?_)
   exact ⟨1 * r, [], _, by omega, wk [0, 3000, 5000, 6000], z * z % 21888242871839275222246405745257275088548364400416034343698204186575808495617 * v % 21888242871839275222246405745257275088548364400416034343698204186575808495617, r, ⟨by omega, by rw [← exp_odd hz hb2, Nat.mod_eq_of_lt hv]⟩, rfl, rfl⟩
  ·
   have hb2 : ¬ num 18446744073709551616 e / 2 ^ r % 2 = 1 := by simpa using hb1
   refine zK (zL (zT (zR ?_)))
   refine yM ?_
   refine yP (PureOp.subP rfl rfl (by omega)) ?_
   refine yA ?_
   refine zN (zT ?_)
   exact ⟨1 * r, [], _, by omega, wk [0, 3000, 5000, 6000], z * z % 21888242871839275222246405745257275088548364400416034343698204186575808495617, r, ⟨by omega, exp_even hz hb2⟩, rfl, rfl⟩
 ·
  obtain rfl : r = 0 := by simpa using hb0
  rw [Nat.pow_zero, Nat.div_one] at hz
  rw [← hz]
  refine zX (zV (zV (zH (zT (zS ?_)))))
  refine AWo.loadAgg tbok (vs := (fel z).map (vi .u64)) rfl rfl rfl rfl (by simp [fel_len]) (ld4 (fel_len _)) rfl rfl ?_
  refine ySA ?_
  refine zN (zE ?_)
  exact rq [] [.cell 4 33]
theorem eexp_ctrN {e : List Nat} {ne xe : Nat} (hne : e.length = ne) (hxe : num 18446744073709551616 e = xe) {v : Nat} (hv : v < 21888242871839275222246405745257275088548364400416034343698204186575808495617) (he : bd 18446744073709551616 e) (hle : e.length ≤ 1000) : GC Try.prog 132 [.agg ((fel v).map (vi .u64)).toArray, .slice (some ⟨0, 0, none⟩) ne 0] [⟨e.map (vi .u64), false, 1⟩] [.agg ((fel (v ^ xe % 21888242871839275222246405745257275088548364400416034343698204186575808495617)).map (vi .u64)).toArray] [⟨e.map (vi .u64), false, 1⟩] := by
 subst hne hxe
 exact eexp_ctr hv he hle
set_option maxRecDepth 10000 in
theorem einv_ctr {v e : Nat} (he : e = 21888242871839275222246405745257275088548364400416034343698204186575808495617 - 2) (hv : v < 21888242871839275222246405745257275088548364400416034343698204186575808495617) : GC Try.prog 95 [.agg ((fel v).map (vi .u64)).toArray] [] [.agg ((fel (v ^ e % 21888242871839275222246405745257275088548364400416034343698204186575808495617)).map (vi .u64)).toArray] [] := by
 refine gi Try.func95 ?_
 have hd4 := fel_len v
 refine zS ?_
 refine yO 2000 1 ((fel v).map (vi .u64)) ?_
 refine yN 3000 1 _ ?_
 refine zN (zS ?_)
 refine yC (prime_ctr) bd84 [] [] ?_
 refine yN 4000 1 ((List.replicate 4 0).map (vi .u64)) ?_
 refine ySA ?_
 refine zN (zS ?_)
 refine yP (pA (j := 0)) ?_
 refine AWo.load tbok (v := vi .u64 4891460686036598785) rfl rfl rfl (by kernel_rfl) rfl rfl ?_
 refine yP ((PureOp.subU (b := 2) 18446744073709551616 rfl rfl rfl rfl (by decide)).mono (v' := vi .u64 4891460686036598783) (congrArg (vi .u64) (by decide))) ?_
 refine yP (pA (j := 0)) ?_
 refine AWo.storeM (f := (vi .u64)) (y := 4891460686036598783) tbok rfl rfl rfl rfl (by rw [digs_len]; decide) rfl rfl ?_
 rw [inv_words he]
 refine zN ?_
 refine AW.seqD mixed ?_
 refine AWo.loadAgg tbok (vs := (fel v).map (vi .u64)) rfl rfl rfl rfl (by simp [fel_len]) (ld4 (fel_len _)) rfl rfl ?_
 refine AWo.sliceA tbok (h := 4) rfl .none .none rfl rfl rfl rfl (by decide) (by decide) (.inl rfl) (by simp [digs_len]) rfl rfl rfl ?_
 refine yC (eexp_ctrN (v := v) (e := digs 18446744073709551616 4 e) (ne := 4) (xe := e) (digs_len _ _) (num_digs_lt (by rw [he]; decide)) hv (digs_bd (by decide) _ _) (by rw [digs_len]; decide)) bd132 [(4000, 0)] [] ?_
 refine ySA ?_
 refine zD (zE ?_)
 exact rq [] [.cell 2 33]
set_option maxRecDepth 10000 in
theorem isT_ctr {v : Nat} (hv : v < 21888242871839275222246405745257275088548364400416034343698204186575808495617) : GC Try.prog 22 [.agg ((fel v).map (vi .u64)).toArray, .slice (some ⟨0, 0, none⟩) (D 4294967296 v).length 0] [⟨(D 4294967296 v).map (vi .u64), false, 1⟩] [.bool true] [⟨(D 4294967296 v).map (vi .u64), false, 1⟩] := by
 refine gi Try.func22 ?_
 have hd4 := fel_len v
 have hd7 := digs_len (B := 256) 32 v
 refine zS ?_
 refine yO 3000 1 ((fel v).map (vi .u64)) ?_
 refine yA ?_
 refine zN (zS ?_)
 refine AWo.loadAgg tbok (vs := (fel v).map (vi .u64)) rfl rfl rfl rfl (by simp [fel_len]) (ld4 (fel_len _)) rfl rfl ?_
 refine yC (ebytes_ctr hv) bd81 [] [] ?_
 refine yN 6000 1 ((List.replicate 32 0).map (vi .u8)) ?_
 refine ySA ?_
 refine zN ?_
 refine AW.seqD mixed ?_
 refine AWo.sliceA tbok (h := 32) rfl .none .none rfl rfl rfl rfl (by decide) (by decide) (.inl rfl) (by simp [digs_len]) rfl rfl rfl ?_
 refine AWo.bytesStr tbok (digs 256 32 v) rfl rfl (List.take_of_length_le (by simp [digs_len])) (digs_len _ _) rfl Try.underlying5 Try.underlying9 rfl rfl ?_
 refine yM ?_
 refine yC (bytes02_ctr (Nat.lt_trans hv (by decide))) bd65 [(0, 0)] [12000] ?_
 refine AWo.bytesStr tbok (digs 256 32 v) rfl rfl (List.take_of_length_le (by simp [digs_len])) (digs_len _ _) rfl Try.underlying5 Try.underlying9 rfl rfl ?_
 refine yP (PureOp.sameStr rfl rfl) ?_
 refine yA ?_
 refine zD (zE ?_)
 exact rq [] [.tmp 4]
end Go.Proofs.Yteeifahhejangaa
namespace Go.Proofs.Yteeifahhejangaa
open Go Sim
def rdV (b : List Nat) : Nat := if b.length = 32 ∧ num 256 b < 21888242871839275222246405745257275088548364400416034343698204186575808495617 then num 256 b else 0
def rdC (b : List Nat) : Int := if b.length = 32 then (if num 256 b < 21888242871839275222246405745257275088548364400416034343698204186575808495617 then 0 else 4) else 1
theorem rd_len {b : List Nat} (h : b.length ≠ 32) : rdV b = 0 ∧ rdC b = 1 := ⟨if_neg fun h1 => h h1.1, if_neg h⟩
theorem rd_ge {b : List Nat} (h : b.length = 32) (h2 : 21888242871839275222246405745257275088548364400416034343698204186575808495617 ≤ num 256 b) : rdV b = 0 ∧ rdC b = 4 := ⟨if_neg fun h1 => by have := h1.2; omega, by rw [rdC, if_pos h, if_neg (by omega)]⟩
theorem rd_ok {b : List Nat} (h : b.length = 32) (h2 : num 256 b < 21888242871839275222246405745257275088548364400416034343698204186575808495617) : rdV b = num 256 b ∧ rdC b = 0 := ⟨if_pos ⟨h, h2⟩, by rw [rdC, if_pos h, if_pos h2]⟩
theorem rdV_lt (b : List Nat) : rdV b < 21888242871839275222246405745257275088548364400416034343698204186575808495617 := by
  simp only [rdV]
  split
  · rename_i h; exact h.2
  · decide
theorem fbX_ctr {b : List Nat} (hb : bd 256 b) : GC Try.prog 73 [.slice (some ⟨0, 0, none⟩) b.length 0] [⟨b.map (vi .u8), false, 1⟩] [.agg ((fel (rdV b)).map (vi .u64)).toArray, .int .i64 (rdC b)] [⟨b.map (vi .u8), false, 1⟩] := by
  by_cases h1 : b.length = 32
  · by_cases h2 : num 256 b < 21888242871839275222246405745257275088548364400416034343698204186575808495617
    · rw [(rd_ok h1 h2).1, (rd_ok h1 h2).2]; exact fbok_ctr hb h1 h2
    · rw [(rd_ge h1 (by omega)).1, (rd_ge h1 (by omega)).2, fel_zero]; exact fbcanon_ctr hb h1 (by omega)
  · rw [(rd_len h1).1, (rd_len h1).2, fel_zero]; exact fbarg_ctr h1
set_option maxRecDepth 10000 in
theorem read02_ctr {b : List Nat} (hb : bd 256 b) : GC Try.prog 83 [.slice (some ⟨0, 0, none⟩) b.length 0] [⟨b.map (vi .u8), false, 1⟩] [.slice (some ⟨1, 0, none⟩) (D 4294967296 (rdV b)).length 0, .int .i64 (rdC b)] [⟨b.map (vi .u8), false, 1⟩, ⟨(D 4294967296 (rdV b)).map (vi .u64), true, 1⟩] := by
 refine gi Try.func83 ?_
 refine AW.ghost 99000 1 rfl ?_
 refine zS ?_
 refine yA ?_
 refine yA ?_
 refine zN (zQ (zS ?_))
 refine yM ?_
 refine yP pL ?_
 refine yP (pNe (b := 32)) ?_
 refine zN ?_
 refine zA (fun hb0 => ?_) (fun hb0 => ?_)
 ·
  have hl : b.length ≠ 32 := by simpa using hb0
  rw [(rd_len hl).1, (rd_len hl).2]
  refine zS ?_
  refine yA ?_
  refine yA ?_
  refine zN (zE (zU ?_))
  exact rq [99000] [.tmp 2, .tmp 3]
 ·
  have hl : b.length = 32 := by simpa using hb0
  have hnb := num_lt hb
  rw [hl] at hnb
  have hlx : (D 4294967296 (num 256 b)).length ≤ 9 := (D_len_le (by decide) _ _).2 (Nat.lt_of_lt_of_le hnb (by decide))
  refine zK (zT (zS ?_))
  refine yM ?_
  refine yC (ofb_ctr hb (by omega)) bd52 [(0, 0)] [10000] ?_
  refine yA ?_
  refine zN (zQ (zS ?_))
  refine yM ?_
  refine yC (p02D_ctr) bd79 [] [12000] ?_
  refine yC (cmpD_ctr (x := num 256 b) (y := 21888242871839275222246405745257275088548364400416034343698204186575808495617) (by omega) lenP) bd78 [(10000, 0), (12000, 0)] [] ?_
  refine yP (PureOp.bin rfl rfl rfl) ?_
  refine zN ?_
  refine zA (fun hb1 => ?_) (fun hb1 => ?_)
  ·
   have hge : 21888242871839275222246405745257275088548364400416034343698204186575808495617 ≤ num 256 b := ge_of_cmp (by simpa using hb1)
   rw [(rd_ge hl hge).1, (rd_ge hl hge).2]
   refine zS ?_
   refine yA ?_
   refine yA ?_
   refine zN (zE (zU ?_))
   exact rq [99000] [.tmp 2, .tmp 3]
  ·
   have hlt : num 256 b < 21888242871839275222246405745257275088548364400416034343698204186575808495617 := lt_of_cmp (by simpa using hb1)
   rw [(rd_ok hl hlt).1, (rd_ok hl hlt).2]
   refine zK (zT (zS ?_))
   refine yM ?_
   refine yA ?_
   refine yA ?_
   refine zN (zE ?_)
   exact rq [10000] [.tmp 2, .tmp 3]
end Go.Proofs.Yteeifahhejangaa
namespace Go.Proofs.Yteeifahhejangaa
def Irr (p : Nat) : Prop := 2 ≤ p ∧ ∀ d, d ∣ p → d = 1 ∨ d = p
theorem Irr.pos {p : Nat} (h : Irr p) : 0 < p := by have := h.1; omega
theorem Irr.coprime {p a : Nat} (h : Irr p) (ha : ¬ p ∣ a) : Nat.Coprime p a := by
  rcases h.2 (Nat.gcd p a) (Nat.gcd_dvd_left p a) with h1 | h1
  · exact h1
  · exact absurd (h1 ▸ Nat.gcd_dvd_right p a) ha
theorem Irr.euclid {p a b : Nat} (h : Irr p) (hd : p ∣ a * b) : p ∣ a ∨ p ∣ b := by
  by_cases ha : p ∣ a
  · exact .inl ha
  · exact .inr ((h.coprime ha).dvd_of_dvd_mul_left hd)
theorem exists_irr : ∀ {n : Nat}, 2 ≤ n → ∃ p, Irr p ∧ p ∣ n := by
  intro n
  induction n using Nat.strongRecOn with
  | _ n ih =>
    intro hn
    by_cases h : ∃ d, d ∣ n ∧ d ≠ 1 ∧ d ≠ n
    · obtain ⟨d, hd, h1, h2⟩ := h
      have hle := Nat.le_of_dvd (by omega) hd
      have h0 : d ≠ 0 := fun e => by subst e; have := Nat.eq_zero_of_zero_dvd hd; omega
      obtain ⟨p, hp, hpd⟩ := ih d (by omega) (by omega)
      exact ⟨p, hp, Nat.dvd_trans hpd hd⟩
    · refine ⟨n, ⟨hn, fun d hd => ?_⟩, Nat.dvd_refl n⟩
      by_cases h1 : d = 1
      · exact .inl h1
      · by_cases h2 : d = n
        · exact .inr h2
        · exact absurd ⟨d, hd, h1, h2⟩ h
theorem irr_of_small {n : Nat} (hn : 2 ≤ n) (h : ∀ p, Irr p → p ∣ n → n < p * p) : Irr n := by
  refine ⟨hn, fun d hd => ?_⟩
  obtain ⟨e, he⟩ := hd
  by_cases h1 : d = 1
  · exact .inl h1
  by_cases h2 : e = 1
  · subst h2; exact .inr (by omega)
  have hd0 : d ≠ 0 := fun e' => by subst e'; omega
  have he0 : e ≠ 0 := fun e' => by subst e'; omega
  obtain ⟨p, hp, a, rfl⟩ := exists_irr (n := d) (by omega)
  obtain ⟨q, hq, b, rfl⟩ := exists_irr (n := e) (by omega)
  exfalso
  have g1 := h p hp ⟨a * (q * b), by rw [he, Nat.mul_assoc]⟩
  have g2 := h q hq ⟨p * a * b, by rw [he]; simp [Nat.mul_comm, Nat.mul_left_comm]⟩
  have ha : a ≠ 0 := fun e' => by subst e'; simp at hd0
  have hb : b ≠ 0 := fun e' => by subst e'; simp at he0
  have g3 : p * q ≤ n := by
    rw [he]
    have : p * q * 1 ≤ p * q * (a * b) := Nat.mul_le_mul_left _ (Nat.mul_pos (by omega) (by omega))
    calc p * q = p * q * 1 := (Nat.mul_one _).symm
      _ ≤ p * q * (a * b) := this
      _ = p * a * (q * b) := by simp [Nat.mul_comm, Nat.mul_left_comm]
  rcases Nat.le_total p q with hle | hle
  · have := Nat.mul_le_mul_left p hle
    omega
  · have := Nat.mul_le_mul_right q hle
    omega
theorem pow_one_mod {a n k : Nat} (h : a % n = 1 % n) : a ^ k % n = 1 % n := by
  rw [Nat.pow_mod, h, ← Nat.pow_mod, Nat.one_pow]
theorem mul_mod_one {a b n : Nat} (ha : a % n = 1 % n) : a * b % n = b % n := by
  rw [Nat.mul_mod, ha, ← Nat.mul_mod, Nat.one_mul]
theorem pow_sub_mod {a n m k : Nat} (hk : a ^ k % n = 1 % n) (hm : a ^ m % n = 1 % n) : a ^ (m % k) % n = 1 % n := by
  have h : a ^ m = (a ^ k) ^ (m / k) * a ^ (m % k) := by
    rw [← Nat.pow_mul, ← Nat.pow_add, Nat.div_add_mod]
  rw [h, mul_mod_one (pow_one_mod hk)] at hm
  exact hm
theorem pow_gcd_mod {a n : Nat} : ∀ (k m : Nat), a ^ k % n = 1 % n → a ^ m % n = 1 % n → a ^ Nat.gcd k m % n = 1 % n := by
  intro k
  induction k using Nat.strongRecOn with
  | _ k ih =>
    intro m hk hm
    by_cases h0 : k = 0
    · subst h0; simpa using hm
    · rw [Nat.gcd_rec]
      exact ih (m % k) (Nat.mod_lt _ (by omega)) k (pow_sub_mod hk hm) hk
theorem dvd_pow_irr {q : Nat} (hq : Irr q) : ∀ {e d : Nat}, d ∣ q ^ e → ∃ j, j ≤ e ∧ d = q ^ j
  | 0, d, h => ⟨0, Nat.le_refl _, by simpa using h⟩
  | e + 1, d, h => by
    by_cases hd : q ∣ d
    · obtain ⟨c, rfl⟩ := hd
      rw [Nat.pow_succ, Nat.mul_comm (q ^ e) q] at h
      obtain ⟨j, hj, rfl⟩ := dvd_pow_irr hq (Nat.dvd_of_mul_dvd_mul_left hq.pos h)
      exact ⟨j + 1, by omega, by rw [Nat.pow_succ, Nat.mul_comm]⟩
    · have hc : Nat.Coprime d q := (hq.coprime hd).symm
      rw [Nat.pow_succ] at h
      obtain ⟨j, hj, rfl⟩ := dvd_pow_irr hq (hc.dvd_of_dvd_mul_right h)
      exact ⟨j, by omega, rfl⟩
def prodL : List Nat → Nat
  | [] => 1
  | x :: l => x * prodL l
theorem prodL_perm {l m : List Nat} (h : l.Perm m) : prodL l = prodL m := by
  induction h with
  | nil => rfl
  | cons x _ ih => simp [prodL, ih]
  | swap x y l => simp [prodL, Nat.mul_left_comm]
  | trans _ _ ih1 ih2 => exact ih1.trans ih2
theorem prodL_map_mod (a p : Nat) : ∀ l : List Nat, prodL (l.map fun i => a * i % p) % p = a ^ l.length * prodL l % p
  | [] => by simp [prodL]
  | x :: l => by
    simp only [List.map_cons, prodL, List.length_cons]
    rw [Nat.mul_mod, prodL_map_mod a p l, Nat.mod_mod, ← Nat.mul_mod, Nat.pow_succ]
    rw [Nat.mul_comm (a ^ l.length) a, Nat.mul_assoc, Nat.mul_assoc, Nat.mul_left_comm x]
theorem nodup_sub_perm {l m : List Nat} (hl : l.Nodup) (hs : ∀ x ∈ l, x ∈ m) (hlen : m.length ≤ l.length) : l.Perm m := by
  induction l generalizing m with
  | nil =>
    have : m = [] := List.length_eq_zero_iff.1 (by simpa using hlen)
    subst this; exact .nil
  | cons x l ih =>
    have hx := hs x (List.mem_cons_self ..)
    have hp := List.perm_cons_erase hx
    refine List.Perm.trans (.cons x (ih (List.nodup_cons.1 hl).2 (fun y hy => ?_) ?_)) hp.symm
    · have hne : y ≠ x := fun e => (List.nodup_cons.1 hl).1 (e ▸ hy)
      exact (List.mem_erase_of_ne hne).2 (hs y (List.mem_cons_of_mem _ hy))
    · rw [List.length_erase_of_mem hx]
      simp only [List.length_cons] at hlen
      omega
theorem prodL_not_dvd {p : Nat} (hp : Irr p) : ∀ {l : List Nat}, (∀ x ∈ l, ¬ p ∣ x) → ¬ p ∣ prodL l
  | [], _ => fun h => by have := Nat.le_of_dvd (by decide) h; have := hp.1; simp [prodL] at *; omega
  | x :: l, h => fun hd => by
    rcases hp.euclid hd with h1 | h1
    · exact h x (List.mem_cons_self ..) h1
    · exact prodL_not_dvd hp (fun y hy => h y (List.mem_cons_of_mem _ hy)) h1
theorem dvd_sub_of_mod {p a b : Nat} (h : a % p = b % p) : p ∣ b - a :=
  Nat.dvd_of_mod_eq_zero (Nat.sub_mod_eq_zero_of_mod_eq h.symm)
theorem mod_of_dvd_sub {p a b : Nat} (hle : a ≤ b) (h : p ∣ b - a) : a % p = b % p := by
  obtain ⟨c, hc⟩ := h
  rw [show b = a + p * c by omega, Nat.add_mul_mod_self_left]
theorem mod_cancel_le {p a b c : Nat} (hc : Nat.Coprime p c) (hab : a ≤ b) (h : c * a % p = c * b % p) : a % p = b % p := by
  have h1 := dvd_sub_of_mod h
  rw [← Nat.mul_sub] at h1
  exact mod_of_dvd_sub hab (hc.dvd_of_dvd_mul_left h1)
theorem mod_cancel {p a b c : Nat} (hc : Nat.Coprime p c) (h : c * a % p = c * b % p) : a % p = b % p := by
  rcases Nat.le_total a b with hab | hab
  · exact mod_cancel_le hc hab h
  · exact (mod_cancel_le hc hab h.symm).symm
theorem fermat {p a : Nat} (hp : Irr p) (ha : ¬ p ∣ a) : a ^ (p - 1) % p = 1 % p := by
  have h2 := hp.1
  let l := List.range' 1 (p - 1)
  have hl : ∀ x ∈ l, 1 ≤ x ∧ x < p := fun x hx => by
    have := List.mem_range'_1.1 hx
    omega
  have hnd : ∀ x ∈ l, ¬ p ∣ x := fun x hx hd => by
    have := Nat.le_of_dvd (by have := hl x hx; omega) hd
    have := hl x hx
    omega
  have hinj : (l.map fun i => a * i % p).Nodup := by
    rw [List.nodup_iff_pairwise_ne, List.pairwise_map]
    refine List.Pairwise.imp_of_mem (fun {x y} hx hy hne he => hne ?_) (List.nodup_iff_pairwise_ne.1 List.nodup_range')
    have := mod_cancel (hp.coprime ha) he
    rwa [Nat.mod_eq_of_lt (hl x hx).2, Nat.mod_eq_of_lt (hl y hy).2] at this
  have hperm : (l.map fun i => a * i % p).Perm l := by
    refine nodup_sub_perm hinj (fun x hx => ?_) (by simp)
    obtain ⟨i, hi, rfl⟩ := List.mem_map.1 hx
    refine List.mem_range'_1.2 ⟨?_, ?_⟩
    · rcases Nat.eq_zero_or_pos (a * i % p) with h0 | h0
      · rcases hp.euclid (Nat.dvd_of_mod_eq_zero h0) with h1 | h1
        · exact absurd h1 ha
        · exact absurd h1 (hnd i hi)
      · omega
    · have := Nat.mod_lt (a * i) hp.pos
      omega
  have h1 := prodL_map_mod a p l
  rw [prodL_perm hperm, List.length_range'] at h1
  have h3 : prodL l * 1 % p = prodL l * a ^ (p - 1) % p := by rw [Nat.mul_one, h1, Nat.mul_comm]
  exact (mod_cancel (hp.coprime (prodL_not_dvd hp hnd)) h3).symm
theorem pock_step {N p q e a : Nat} (hN : 2 ≤ N) (hp : Irr p) (hpN : p ∣ N) (hq : Irr q) (he : 0 < e) (hF : q ^ e ∣ N - 1) (h1 : a ^ (N - 1) % N = 1 % N)
    (h2 : Nat.gcd (a ^ ((N - 1) / q) % N + (N - 1)) N = 1) : q ^ e ∣ p - 1 := by
  have down : ∀ {x : Nat}, x % N = 1 % N → x % p = 1 % p := fun {x} h => by
    rw [← Nat.mod_mod_of_dvd x hpN, h, Nat.mod_mod_of_dvd _ hpN]
  obtain ⟨m, hm⟩ := hF
  have hqe : q ^ e = q * q ^ (e - 1) := by rw [← Nat.pow_succ', Nat.succ_eq_add_one, Nat.sub_add_cancel he]
  have ha : ¬ p ∣ a := fun hd => by
    have h3 := down h1
    have h4 : p ∣ a ^ (N - 1) := Nat.dvd_trans hd ⟨a ^ (N - 2), by rw [← Nat.pow_succ', show (N - 2).succ = N - 1 by omega]⟩
    rw [Nat.mod_eq_zero_of_dvd h4, Nat.mod_eq_of_lt hp.1] at h3
    cases h3
  have hb1 : (a ^ m) ^ (q ^ e) % p = 1 % p := by
    rw [← Nat.pow_mul, Nat.mul_comm, ← hm]
    exact down h1
  have hb2 : (a ^ m) ^ (p - 1) % p = 1 % p := by
    rw [← Nat.pow_mul, Nat.mul_comm, Nat.pow_mul]
    exact pow_one_mod (fermat hp ha)
  have hg := pow_gcd_mod _ _ hb1 hb2
  obtain ⟨j, hj, hgj⟩ := dvd_pow_irr hq (Nat.gcd_dvd_left (q ^ e) (p - 1))
  by_cases hje : j = e
  · subst hje
    exact hgj ▸ Nat.gcd_dvd_right _ _
  · exfalso
    have hdv : q ^ j ∣ q ^ (e - 1) := Nat.pow_dvd_pow q (by omega)
    obtain ⟨c, hc⟩ := hdv
    have h5 : (a ^ m) ^ (q ^ (e - 1)) % p = 1 % p := by
      rw [hc, Nat.pow_mul, ← hgj]
      exact pow_one_mod hg
    have h6 : (N - 1) / q = m * q ^ (e - 1) := by
      rw [hm, hqe, Nat.mul_assoc, Nat.mul_div_cancel_left _ hq.pos, Nat.mul_comm]
    rw [← Nat.pow_mul, ← h6] at h5
    have h7 : p ∣ a ^ ((N - 1) / q) % N + (N - 1) := by
      apply Nat.dvd_of_mod_eq_zero
      rw [Nat.add_mod, Nat.mod_mod_of_dvd _ hpN, h5]
      have : (N - 1) % p = p - 1 := by
        obtain ⟨c', rfl⟩ := hpN
        have hp1 := hp.1
        cases c' with
        | zero => omega
        | succ c' =>
          rw [Nat.mul_succ, Nat.add_sub_assoc (by omega), Nat.mul_add_mod, Nat.mod_eq_of_lt (by omega)]
      rw [this, Nat.mod_eq_of_lt hp.1, Nat.add_sub_cancel' (by have := hp.1; omega), Nat.mod_self]
    have h8 := Nat.dvd_gcd h7 hpN
    rw [h2] at h8
    have := Nat.le_of_dvd (by decide) h8
    have := hp.1
    omega
theorem coprime_pow_irr {p q : Nat} (hp : Irr p) (hq : Irr q) (h : p ≠ q) (e f : Nat) : Nat.Coprime (p ^ e) (q ^ f) := by
  apply Nat.Coprime.pow
  apply hp.coprime
  intro hd
  rcases hq.2 p hd with h1 | h1
  · have := hp.1; omega
  · exact h h1
def powm (n : Nat) : Nat → Nat → Nat → Nat
  | 0, _, _ => 1 % n
  | f + 1, a, e => if e = 0 then 1 % n else
      if e % 2 = 1 then a * powm n f (a * a % n) (e / 2) % n else powm n f (a * a % n) (e / 2)
theorem powm_eq (n : Nat) : ∀ (f a e : Nat), e < 2 ^ f → powm n f a e = a ^ e % n
  | 0, a, e, h => by
    have : e = 0 := by simpa using h
    subst this; simp [powm]
  | f + 1, a, e, h => by
    simp only [powm]
    split
    · rename_i h0; subst h0; simp
    · have h1 := powm_eq n f (a * a % n) (e / 2) (by rw [Nat.pow_succ] at h; omega)
      have h2 : (a * a % n) ^ (e / 2) % n = a ^ (2 * (e / 2)) % n := by
        rw [← Nat.pow_mod, Nat.pow_mul, Nat.pow_two]
      split
      · rename_i ho
        rw [h1, h2, Nat.mul_mod, Nat.mod_mod, ← Nat.mul_mod, ← Nat.pow_succ']
        rw [show (2 * (e / 2)).succ = e by omega]
      · rw [h1, h2, show 2 * (e / 2) = e by omega]
def noDiv (n : Nat) : Nat → Nat → Bool
  | 0, _ => true
  | f + 1, d => n % d != 0 && noDiv n f (d + 1)
theorem noDiv_spec {n : Nat} : ∀ {f d : Nat}, noDiv n f d = true → ∀ k, d ≤ k → k < d + f → ¬ k ∣ n
  | 0, d, _, k, h1, h2 => by omega
  | f + 1, d, h, k, h1, h2 => by
    simp only [noDiv, Bool.and_eq_true, bne_iff_ne, ne_eq] at h
    by_cases hk : k = d
    · subst hk; exact fun hd => h.1 (Nat.mod_eq_zero_of_dvd hd)
    · exact noDiv_spec h.2 k (by omega) (by omega)
theorem irr_trial {n f : Nat} (hn : 2 ≤ n) (hf : n < (f + 2) * (f + 2)) (h : noDiv n f 2 = true) : Irr n :=
  irr_of_small hn fun p hp hpd => by
    rcases Nat.lt_or_ge p (2 + f) with h1 | h1
    · exact absurd hpd (noDiv_spec h p hp.1 h1)
    · exact Nat.lt_of_lt_of_le hf (Nat.mul_le_mul (by omega) (by omega))
def pockB (N : Nat) (c : Nat × Nat × Nat) : Bool :=
  Nat.blt 0 c.2.1 && (N - 1) % c.1 ^ c.2.1 == 0 && powm N 800 c.2.2 (N - 1) == 1 % N && Nat.gcd (powm N 800 c.2.2 ((N - 1) / c.1) + (N - 1)) N == 1
def factL : List (Nat × Nat × Nat) → Nat
  | [] => 1
  | c :: l => c.1 ^ c.2.1 * factL l
theorem factL_coprime {q f : Nat} (hq : Irr q) : ∀ {l : List (Nat × Nat × Nat)}, (∀ c ∈ l, Irr c.1 ∧ q ≠ c.1) → Nat.Coprime (q ^ f) (factL l)
  | [], _ => Nat.coprime_one_right _
  | c :: l, h => by
    have h1 := h c (List.mem_cons_self ..)
    exact Nat.Coprime.mul_right (coprime_pow_irr hq h1.1 h1.2 f c.2.1) (factL_coprime hq fun d hd => h d (List.mem_cons_of_mem _ hd))
theorem factL_dvd {m : Nat} : ∀ {l : List (Nat × Nat × Nat)}, (∀ c ∈ l, Irr c.1 ∧ c.1 ^ c.2.1 ∣ m) → (l.map (·.1)).Nodup → factL l ∣ m
  | [], _, _ => Nat.one_dvd _
  | c :: l, h, hn => by
    have h1 := h c (List.mem_cons_self ..)
    rw [List.map_cons, List.nodup_cons] at hn
    refine Nat.Coprime.mul_dvd_of_dvd_of_dvd (factL_coprime h1.1 fun d hd => ⟨(h d (List.mem_cons_of_mem _ hd)).1, fun e => hn.1 ?_⟩) h1.2 (factL_dvd (fun d hd => h d (List.mem_cons_of_mem _ hd)) hn.2)
    rw [e]
    exact List.mem_map.2 ⟨d, hd, rfl⟩
theorem pock {N : Nat} (l : List (Nat × Nat × Nat)) (hN : Nat.ble 2 N = true) (hb : Nat.blt N (2 ^ 800) = true) (hc : l.all (pockB N) = true) (hF : Nat.blt N ((factL l + 1) * (factL l + 1)) = true)
    (hn : (l.map (·.1)).Nodup) (hq : ∀ c ∈ l, Irr c.1) : Irr N := by
  have hN' := Nat.le_of_ble_eq_true hN
  have hb' : N < 2 ^ 800 := Nat.le_of_ble_eq_true hb
  refine irr_of_small hN' fun p hp hpd => ?_
  have hd : factL l ∣ p - 1 := factL_dvd (fun c hm => ⟨hq c hm, ?_⟩) hn
  · have h1 := Nat.le_of_dvd (by have := hp.1; omega) hd
    have h2 : N < (factL l + 1) * (factL l + 1) := Nat.le_of_ble_eq_true hF
    exact Nat.lt_of_lt_of_le h2 (Nat.mul_le_mul (by have := hp.1; omega) (by have := hp.1; omega))
  · have h3 := List.all_eq_true.1 hc c hm
    simp only [pockB, Bool.and_eq_true, beq_iff_eq] at h3
    obtain ⟨⟨⟨g1, g2⟩, g3⟩, g4⟩ := h3
    rw [powm_eq N 800 _ _ (by omega)] at g3
    rw [powm_eq N 800 _ _ (Nat.lt_of_le_of_lt (Nat.div_le_self _ _) (by omega))] at g4
    exact pock_step hN' hp hpd (hq c hm) (Nat.le_of_ble_eq_true g1) (Nat.dvd_of_mod_eq_zero g2) g3 g4
end Go.Proofs.Yteeifahhejangaa
namespace Go.Proofs.Yteeifahhejangaa
theorem irr_2 : Irr 2 := irr_trial (f := 0) (by decide) (by decide) (by kernel_rfl)
theorem irr_3 : Irr 3 := irr_trial (f := 0) (by decide) (by decide) (by kernel_rfl)
theorem irr_13 : Irr 13 := irr_trial (f := 2) (by decide) (by decide) (by kernel_rfl)
theorem irr_29 : Irr 29 := irr_trial (f := 4) (by decide) (by decide) (by kernel_rfl)
theorem irr_983 : Irr 983 := irr_trial (f := 30) (by decide) (by decide) (by kernel_rfl)
theorem irr_11003 : Irr 11003 := irr_trial (f := 103) (by decide) (by decide) (by kernel_rfl)
theorem irr_237073 : Irr 237073 := irr_trial (f := 485) (by decide) (by decide) (by kernel_rfl)
theorem irr_11 : Irr 11 := irr_trial (f := 2) (by decide) (by decide) (by kernel_rfl)
theorem irr_3691 : Irr 3691 := irr_trial (f := 59) (by decide) (by decide) (by kernel_rfl)
theorem irr_405928799 : Irr 405928799 := pock [(2, 1, 11), (11, 1, 2), (3691, 1, 2)] (by kernel_rfl) (by kernel_rfl) (by kernel_rfl) (by kernel_rfl) (by decide) (List.forall_mem_cons.2 ⟨irr_2, List.forall_mem_cons.2 ⟨irr_11, List.forall_mem_cons.2 ⟨irr_3691, fun _ h => absurd h List.not_mem_nil⟩⟩⟩)
theorem irr_107 : Irr 107 := irr_trial (f := 9) (by decide) (by decide) (by kernel_rfl)
theorem irr_7 : Irr 7 := irr_trial (f := 1) (by decide) (by decide) (by kernel_rfl)
theorem irr_661 : Irr 661 := irr_trial (f := 24) (by decide) (by decide) (by kernel_rfl)
theorem irr_12048837557 : Irr 12048837557 := pock [(2, 2, 2), (7, 2, 2), (661, 1, 2)] (by kernel_rfl) (by kernel_rfl) (by kernel_rfl) (by kernel_rfl) (by decide) (List.forall_mem_cons.2 ⟨irr_2, List.forall_mem_cons.2 ⟨irr_7, List.forall_mem_cons.2 ⟨irr_661, fun _ h => absurd h List.not_mem_nil⟩⟩⟩)
theorem irr_5156902474397 : Irr 5156902474397 := pock [(2, 2, 2), (107, 1, 2), (12048837557, 1, 2)] (by kernel_rfl) (by kernel_rfl) (by kernel_rfl) (by kernel_rfl) (by decide) (List.forall_mem_cons.2 ⟨irr_2, List.forall_mem_cons.2 ⟨irr_107, List.forall_mem_cons.2 ⟨irr_12048837557, fun _ h => absurd h List.not_mem_nil⟩⟩⟩)
theorem irr_1670836401704629 : Irr 1670836401704629 := pock [(2, 2, 2), (3, 4, 2), (5156902474397, 1, 2)] (by kernel_rfl) (by kernel_rfl) (by kernel_rfl) (by kernel_rfl) (by decide) (List.forall_mem_cons.2 ⟨irr_2, List.forall_mem_cons.2 ⟨irr_3, List.forall_mem_cons.2 ⟨irr_5156902474397, fun _ h => absurd h List.not_mem_nil⟩⟩⟩)
theorem irr_p : Irr 21888242871839275222246405745257275088548364400416034343698204186575808495617 := pock [(2, 28, 5), (3, 2, 3), (13, 1, 5), (29, 1, 2), (983, 1, 2), (11003, 1, 2), (237073, 1, 2), (405928799, 1, 2), (1670836401704629, 1, 2)] (by kernel_rfl) (by kernel_rfl) (by kernel_rfl) (by kernel_rfl) (by decide) (List.forall_mem_cons.2 ⟨irr_2, List.forall_mem_cons.2 ⟨irr_3, List.forall_mem_cons.2 ⟨irr_13, List.forall_mem_cons.2 ⟨irr_29, List.forall_mem_cons.2 ⟨irr_983, List.forall_mem_cons.2 ⟨irr_11003, List.forall_mem_cons.2 ⟨irr_237073, List.forall_mem_cons.2 ⟨irr_405928799, List.forall_mem_cons.2 ⟨irr_1670836401704629, fun _ h => absurd h List.not_mem_nil⟩⟩⟩⟩⟩⟩⟩⟩⟩)
end Go.Proofs.Yteeifahhejangaa
namespace Go.Proofs.Yteeifahhejangaa.Rg
variable {n : Nat} [NeZero n] {x y z u v w : Fin n}
theorem add_comm (x y : Fin n) : x + y = y + x := by grind
theorem mul_comm (x y : Fin n) : x * y = y * x := by grind
theorem mul_assoc (x y z : Fin n) : x * (y * z) = x * y * z := by grind
theorem mul_add (x y z : Fin n) : x * (y + z) = x * y + x * z := by grind
theorem mul_one (x : Fin n) : x * 1 = x := by grind
theorem one_mul (x : Fin n) : 1 * x = x := by grind
theorem sub_self (x : Fin n) : x - x = 0 := by grind
theorem zero_mul (x : Fin n) : 0 * x = 0 := by grind
theorem mul_zero (x : Fin n) : x * 0 = 0 := by grind
theorem add_zero (x : Fin n) : x + 0 = x := by grind
theorem zero_add (x : Fin n) : 0 + x = x := by grind
theorem add_assoc (x y z : Fin n) : x + y + z = x + (y + z) := by grind
end Go.Proofs.Yteeifahhejangaa.Rg
namespace Go.Proofs.Yteeifahhejangaa
open Go Sim
abbrev Fp := Fin 21888242871839275222246405745257275088548364400416034343698204186575808495617
def fe (x : Fp) : List Nat := fel x.val
def fp (v : Nat) : Fp := ⟨v % 21888242871839275222246405745257275088548364400416034343698204186575808495617, Nat.mod_lt _ (by decide)⟩
@[irreducible] def fpw (x : Fp) (k : Nat) : Fp := ⟨x.val ^ k % 21888242871839275222246405745257275088548364400416034343698204186575808495617, Nat.mod_lt _ (by decide)⟩
@[irreducible] def finv (x : Fp) : Fp := fpw x (21888242871839275222246405745257275088548364400416034343698204186575808495617 - 2)
@[simp] theorem fe_len (x : Fp) : (fe x).length = 4 := fel_len _
theorem fe_inj {x y : Fp} (h : fe x = fe y) : x = y := Fin.ext (fel_inj x.isLt y.isLt h)
theorem fe_eq {x y : Fp} : fe x = fe y ↔ x = y := ⟨fe_inj, fun h => by rw [h]⟩
theorem fe_zero : fe 0 = List.replicate 4 0 := fel_zero
theorem fp_val (v : Nat) : (fp v).val = v % 21888242871839275222246405745257275088548364400416034343698204186575808495617 := rfl
theorem fpw_val (x : Fp) (k : Nat) : (fpw x k).val = x.val ^ k % 21888242871839275222246405745257275088548364400416034343698204186575808495617 := by unfold fpw; rfl
theorem addF_ctr {x y : Fp} : GC Try.prog 33 [.agg ((fe x).map (vi .u64)).toArray, .agg ((fe y).map (vi .u64)).toArray] [] [.agg ((fe (x + y)).map (vi .u64)).toArray] [] := eaddP_ctr (u := x.val) (v := y.val)
theorem subF_ctr {x y : Fp} : GC Try.prog 96 [.agg ((fe x).map (vi .u64)).toArray, .agg ((fe y).map (vi .u64)).toArray] [] [.agg ((fe (x - y)).map (vi .u64)).toArray] [] := by
  have h := esubP_ctr (u := x.val) (v := y.val) y.isLt
  rwa [Nat.add_comm x.val] at h
theorem negF_ctr {x : Fp} : GC Try.prog 45 [.agg ((fe x).map (vi .u64)).toArray] [] [.agg ((fe (-x)).map (vi .u64)).toArray] [] := by
  have h := enegP_ctr (v := x.val) x.isLt
  rwa [Nat.zero_add] at h
theorem mulF_ctr {x y : Fp} : GC Try.prog 35 [.agg ((fe x).map (vi .u64)).toArray, .agg ((fe y).map (vi .u64)).toArray] [] [.agg ((fe (x * y)).map (vi .u64)).toArray] [] := emulP_ctr (u := x.val) (v := y.val)
theorem invF_ctr {x : Fp} : GC Try.prog 95 [.agg ((fe x).map (vi .u64)).toArray] [] [.agg ((fe (finv x)).map (vi .u64)).toArray] [] := by
  obtain ⟨e, he⟩ : ∃ e, e = 21888242871839275222246405745257275088548364400416034343698204186575808495617 - 2 := ⟨_, rfl⟩
  have h := einv_ctr (v := x.val) (e := e) he x.isLt
  have h2 : x.val ^ e % 21888242871839275222246405745257275088548364400416034343698204186575808495617 = (finv x).val := by unfold finv; rw [fpw_val, he]
  rwa [h2] at h
theorem equalF_ctr {x y : Fp} : GC Try.prog 19 [.agg ((fe x).map (vi .u64)).toArray, .agg ((fe y).map (vi .u64)).toArray] [] [.bool (decide (x = y))] [] := by
  have h := equal_ctr (a := fe x) (b := fe y) (fe_len x) (fe_len y)
  rwa [show decide (fe x = fe y) = decide (x = y) from decide_eq_decide.2 fe_eq] at h
theorem iszeroF_ctr {x : Fp} : GC Try.prog 46 [.agg ((fe x).map (vi .u64)).toArray] [] [.bool (decide (x = 0))] [] := by
  have h := iszero_ctr (a := fe x) (fe_len x)
  rwa [show decide (fe x = List.replicate 4 0) = decide (x = 0) from decide_eq_decide.2 (by rw [← fe_zero, fe_eq])] at h
theorem bytesF_ctr {x : Fp} : GC Try.prog 81 [.agg ((fe x).map (vi .u64)).toArray] [] [.agg ((digs 256 32 x.val).map (vi .u8)).toArray] [] := ebytes_ctr x.isLt
theorem fromuF_ctr {v : Nat} (hv : v < 18446744073709551616) : GC Try.prog 37 [vi .u64 (v)] [] [.agg ((fe (fp v)).map (vi .u64)).toArray] [] := by
  have h := fromuP_ctr hv
  rwa [← fel_mod] at h
theorem isF_ctr {x : Fp} : GC Try.prog 22 [.agg ((fe x).map (vi .u64)).toArray, .slice (some ⟨0, 0, none⟩) (D 4294967296 x.val).length 0] [⟨(D 4294967296 x.val).map (vi .u64), false, 1⟩] [.bool true] [⟨(D 4294967296 x.val).map (vi .u64), false, 1⟩] := isT_ctr x.isLt
theorem mul_finv {x : Fp} (hx : x ≠ 0) : x * finv x = 1 := by
  apply Fin.ext
  obtain ⟨k, hk⟩ : ∃ k, k = 21888242871839275222246405745257275088548364400416034343698204186575808495617 - 2 := ⟨_, rfl⟩
  have h0 : ¬ 21888242871839275222246405745257275088548364400416034343698204186575808495617 ∣ x.val := fun hd => hx (Fin.ext (Nat.eq_zero_of_dvd_of_lt hd x.isLt))
  have h := fermat irr_p h0
  have hf : finv x = fpw x k := by unfold finv; rw [hk]
  rw [hf, Fin.val_mul, fpw_val, Nat.mul_mod_mod, ← Nat.pow_succ']
  rw [show k.succ = 21888242871839275222246405745257275088548364400416034343698204186575808495617 - 1 by omega, h]
  rfl
section
variable {ops : Array Oper} {n i : Nat} {os : List Oper} {E : Env} {M : Mem} {D : List Eff → Prop} {K : ASt → Prop}
  {d : Tmp} {ty : TypeId} {ps : String} {af : Array Edge} {g : Option (Nat × Bool)} {t : TypeId} {a : Operand}
theorem yLE {x : Fp} {id sz : Nat} {rw : Bool} {es : Nat} (hr : AWo Try.prog ops n (i + 1) os ⟨upd E d (.agg ((fe x).map (vi .u64)).toArray), M⟩ (fun es => D (⟨[id], []⟩ :: es)) K)
    (ha : aev E a = some (.pointer (some ⟨id, 0, none⟩)) := by exact rfl) (hb : M id = some ⟨(fe x).map (vi .u64), rw, es⟩ := by exact rfl)
    (ht : Tb.agg.lookup t = some true := by exact rfl) (hs : Tb.sz.lookup t = some sz := by exact rfl) (hl : 4 = sz := by exact rfl) (hw : wantA ops E ⟨some d, .load t a, ty, ps, af, g⟩ = some true := by exact rfl) (hd : Nat.blt d n = true := by exact rfl) :
    AWo Try.prog ops n i (⟨some d, .load t a, ty, ps, af, g⟩ :: os) ⟨E, M⟩ D K := AWo.loadAll tbok ha hb ht hs (by simpa using hl) hw hd hr
theorem yLEi {xs : List Fp} {id j sz : Nat} {rw : Bool} {es : Nat} (hr : AWo Try.prog ops n (i + 1) os ⟨upd E d (.agg ((fe (xs.getD j 0)).map (vi .u64)).toArray), M⟩ (fun es => D (⟨[id], []⟩ :: es)) K)
    (ha : aev E a = some (.pointer (some ⟨id, 0 + j * 4, none⟩)) := by exact rfl) (hb : M id = some ⟨((xs.map fe).flatten).map (vi .u64), rw, es⟩ := by exact rfl) (hj : j < xs.length := by first | decide | omega)
    (ht : Tb.agg.lookup t = some true := by exact rfl) (hs : Tb.sz.lookup t = some sz := by exact rfl) (hl : 4 = sz := by exact rfl) (hw : wantA ops E ⟨some d, .load t a, ty, ps, af, g⟩ = some true := by exact rfl) (hd : Nat.blt d n = true := by exact rfl) :
    AWo Try.prog ops n i (⟨some d, .load t a, ty, ps, af, g⟩ :: os) ⟨E, M⟩ D K := by
  subst hl
  have hlen : ∀ x ∈ xs.map fe, x.length = 4 := fun x hx => by obtain ⟨y, _, rfl⟩ := List.mem_map.1 hx; exact fe_len y
  refine AWo.loadAgg tbok (vs := (fe (xs.getD j 0)).map (vi .u64)) ha hb ht hs ?_ ?_ hw hd hr
  · rw [List.length_map, flat_len hlen, List.length_map]; omega
  · rw [Nat.zero_add, flat_take_map hlen (by rw [List.length_map]; exact hj)]
    congr 1
    rw [List.getD_eq_getElem?_getD, List.getElem?_map, List.getElem?_eq_getElem hj, List.getD_eq_getElem?_getD, List.getElem?_eq_getElem hj]
    rfl
end
end Go.Proofs.Yteeifahhejangaa
namespace Go.Proofs.Yteeifahhejangaa
open Go Sim
abbrev dd (v : Nat) : Value := deep (D 4294967296 v).length 1 ((D 4294967296 v).map (vi .u64))
abbrev dv (x : Fp) : Value := dd x.val
abbrev db (b : List Nat) : Value := deep b.length 1 (b.map (vi .u8))
theorem cloA {α : Type} {f : α → Value} {l : List α} (hf : ∀ x, flatV (f x) = true) : cloV (.agg (l.map f).toArray) = true := by
  simp only [cloV, List.all_eq_true]
  intro x hx
  obtain ⟨y, _, rfl⟩ := List.mem_map.1 (by simpa using hx)
  simp [clo1, hf y]
theorem isFd {x : Fp} : GC Try.prog 22 [.agg ((fe x).map (vi .u64)).toArray, dv x] [] [.bool true] [] := GC.deepen (isF_ctr (x := x)) (.pure (cloA flat_vi) (.deep .nil)) (.pure rfl .nil)
end Go.Proofs.Yteeifahhejangaa
namespace Go.Proofs.Yteeifahhejangaa
open Go Sim
def blk (L : List (List Nat)) (c : Nat) : List Nat := L.getD (c % L.length) []
end Go.Proofs.Yteeifahhejangaa
namespace Go.Proofs.Yteeifahhejangaa
open Go Sim
theorem setL_eq : ∀ (vs cells : List Value) (o : Nat), o + vs.length ≤ cells.length → setL cells o vs = cells.take o ++ vs ++ cells.drop (o + vs.length) := by
 intro vs
 induction vs with
 | nil => intro cells o _; simp [setL]
 | cons v vs ih =>
  intro cells o h
  simp only [List.length_cons] at h
  simp only [setL]
  rw [ih (cells.set o v) (o + 1) (by simp; omega), List.drop_set_of_lt (by omega)]
  have h1 : (cells.set o v).take (o + 1) = cells.take o ++ [v] := by
   rw [List.take_add_one, List.take_set_of_le (by omega), List.getElem?_set_self (by omega)]
   rfl
  rw [h1]
  simp [Nat.add_assoc, Nat.add_comm 1]
theorem fillB1 {b : List Nat} {c : Value} {k : IntKind} {n : Nat} (h : b.length = n) : fillL (fun i => some (i * n, n)) (List.replicate (1 * n) c) [(0, .agg (b.map (vi k)).toArray)] = some ([b].flatten.map (vi k)) := by
 simp only [fillL]
 rw [if_neg (by simp [Value.cells, h])]
 simp only [Value.cells]
 rw [setL_eq _ _ _ (by simp [h])]
 simp [h]
end Go.Proofs.Yteeifahhejangaa
namespace Go.Proofs.Yteeifahhejangaa
open Go Sim
attribute [local simp] digs_len
def bstr (xs : List Fp) (i : Nat) : Nat := (digs 256 32 (xs.getD (i / 31 % xs.length) 0).val).getD (i % 31) 0
def bts (xs : List Fp) (n : Nat) : List Nat := (List.range n).map (bstr xs)
@[simp] theorem bts_len (xs : List Fp) (n : Nat) : (bts xs n).length = n := by simp [bts]
theorem bts_step {xs : List Fp} {k n : Nat} (h : 31 * k < n) : bts xs (min (31 * k) n) ++ (digs 256 32 (xs.getD (k % xs.length) 0).val).take (min 31 (n - min (31 * k) n)) = bts xs (min (31 * (k + 1)) n) := by
  have h1 : min (31 * k) n = 31 * k := by omega
  rw [h1]
  obtain ⟨m, hm⟩ : ∃ m, m = min 31 (n - 31 * k) := ⟨_, rfl⟩
  rw [← hm, show min (31 * (k + 1)) n = 31 * k + m by omega]
  apply List.ext_getElem?
  intro i
  have hl : ((digs 256 32 (xs.getD (k % xs.length) 0).val).take m).length = m := by rw [List.length_take, digs_len]; omega
  rcases Nat.lt_or_ge i (31 * k) with hi | hi
  · rw [List.getElem?_append_left (by simpa using hi)]
    simp only [bts, List.getElem?_map, List.getElem?_range hi, List.getElem?_range (show i < 31 * k + m by omega)]
  · rw [List.getElem?_append_right (by simpa using hi), bts_len]
    rcases Nat.lt_or_ge i (31 * k + m) with hj | hj
    · simp only [bts, List.getElem?_map, List.getElem?_range hj, Option.map_some, bstr]
      rw [List.getElem?_take, if_pos (by omega), List.getElem?_eq_getElem (by rw [digs_len]; omega), show i / 31 = k by omega, show i % 31 = i - 31 * k by omega, List.getD_eq_getElem?_getD (i := i - 31 * k), List.getElem?_eq_getElem (by rw [digs_len]; omega)]
      rfl
    · rw [List.getElem?_eq_none (by omega), List.getElem?_eq_none (by simpa using hj)]
end Go.Proofs.Yteeifahhejangaa
namespace Go.Proofs.Yteeifahhejangaa
open Go Sim
theorem fe_flat (xs : List Fp) : ((xs.map fe).flatten).length = xs.length * 4 := by
 have := flat_len (L := xs.map fe) (n := 4) (fun x hx => by obtain ⟨y, _, rfl⟩ := List.mem_map.1 hx; exact fe_len y)
 rwa [List.length_map] at this
end Go.Proofs.Yteeifahhejangaa
namespace Go.Proofs.Yteeifahhejangaa
open Go Sim
abbrev FF (xs : List Fp) : List Value := ((xs.map fe).flatten).map (vi .u64)
theorem FF_len (xs : List Fp) : (FF xs).length = xs.length * 4 := by rw [List.length_map, fe_flat]
theorem FF_app (xs ys : List Fp) : FF (xs ++ ys) = FF xs ++ FF ys := by simp
theorem FF_cons (x : Fp) (xs : List Fp) : FF (x :: xs) = (fe x).map (vi .u64) ++ FF xs := by simp
theorem FF_drop (xs : List Fp) (j : Nat) : (FF xs).drop (j * 4) = FF (xs.drop j) := by
  by_cases h : j ≤ xs.length
  · have e : FF xs = FF (xs.take j) ++ FF (xs.drop j) := by rw [← FF_app, List.take_append_drop]
    have hl : (FF (xs.take j)).length = j * 4 := by rw [FF_len, List.length_take, Nat.min_eq_left h]
    rw [e, ← hl, List.drop_left]
  · rw [List.drop_eq_nil_of_le (by rw [FF_len]; omega), List.drop_eq_nil_of_le (by omega)]; rfl
theorem FF_take (xs : List Fp) (j : Nat) : (FF xs).take (j * 4) = FF (xs.take j) := by
  by_cases h : j ≤ xs.length
  · have e : FF xs = FF (xs.take j) ++ FF (xs.drop j) := by rw [← FF_app, List.take_append_drop]
    have hl : (FF (xs.take j)).length = j * 4 := by rw [FF_len, List.length_take, Nat.min_eq_left h]
    rw [e, ← hl, List.take_left]
  · rw [List.take_of_length_le (by rw [FF_len]; omega), List.take_of_length_le (by omega)]
theorem setL_app : ∀ (a b c : List Value) (o : Nat), setL c o (a ++ b) = setL (setL c o a) (o + a.length) b
  | [], b, c, o => rfl
  | v :: a, b, c, o => by
    show setL (c.set o v) (o + 1) (a ++ b) = setL (setL (c.set o v) (o + 1) a) (o + (a.length + 1)) b
    rw [setL_app a b, show o + 1 + a.length = o + (a.length + 1) by omega]
theorem setL_FF {xs : List Fp} {j : Nat} {x : Fp} (h : j < xs.length) : setL (FF xs) (j * 4) ((fe x).map (vi .u64)) = FF (xs.set j x) := by
  rw [setL_eq _ _ _ (by rw [List.length_map, fe_len, FF_len]; omega), List.length_map, fe_len, show j * 4 + 4 = (j + 1) * 4 by omega, FF_drop, FF_take, List.set_eq_take_append_cons_drop, if_pos h, FF_app, FF_cons, List.append_assoc]
def setE (xs : List Fp) (j : Nat) : List Fp → List Fp
  | [] => xs
  | v :: vs => setE (xs.set j v) (j + 1) vs
theorem setE_len : ∀ (vs xs : List Fp) (j : Nat), (setE xs j vs).length = xs.length
  | [], _, _ => rfl
  | v :: vs, xs, j => by rw [setE, setE_len vs, List.length_set]
theorem setL_FFs : ∀ (vs xs : List Fp) (j : Nat), j + vs.length ≤ xs.length → setL (FF xs) (j * 4) (FF vs) = FF (setE xs j vs)
  | [], _, _, _ => rfl
  | v :: vs, xs, j, h => by
    simp only [List.length_cons] at h
    rw [FF_cons, setL_app, setL_FF (by omega), List.length_map, fe_len, show j * 4 + 4 = (j + 1) * 4 by omega, setL_FFs vs _ _ (by rw [List.length_set]; omega)]
    rfl
theorem setL_at {A vs : List Value} {c : Value} {k : Nat} : setL (A ++ List.replicate (vs.length + k) c) A.length vs = (A ++ vs) ++ List.replicate k c := by
  rw [setL_eq _ _ _ (by simp), List.take_left, List.drop_append, List.drop_of_length_le (by omega), List.nil_append, List.drop_replicate, show vs.length + k - (A.length + vs.length - A.length) = k by omega]
theorem fill4 {c : Value} {x : Fp} {A : List Value} {i k n : Nat} {vals : List (Nat × Value)} {out : List Value} (hA : A.length = i * 4) (hk : n = 4 + k) (h : fillL (fun i => some (i * 4, 4)) ((A ++ (fe x).map (vi .u64)) ++ List.replicate k c) vals = some out) :
    fillL (fun i => some (i * 4, 4)) (A ++ List.replicate n c) ((i, .agg ((fe x).map (vi .u64)).toArray) :: vals) = some out := by
  subst hk
  simp only [fillL]
  have hl : ((fe x).map (vi .u64)).length = 4 := by rw [List.length_map, fe_len]
  rw [if_neg (by
    simp only [Value.cells, List.size_toArray, hl, List.length_append, List.length_replicate, hA]
    intro hh
    rcases hh with hh | hh <;> omega)]
  have := setL_at (A := A) (vs := (fe x).map (vi .u64)) (c := c) (k := k)
  rw [hl, hA] at this
  simp only [Value.cells]
  rw [this]; exact h
theorem zeroFF (n : Nat) : FF (List.replicate n 0) = List.replicate (n * 4) (vi .u64 0) := by
  induction n with
  | zero => rfl
  | succ n ih => rw [List.replicate_succ, FF_cons, ih, fe_zero, List.map_replicate, List.replicate_append_replicate, show 4 + n * 4 = (n + 1) * 4 by omega]
theorem ptr_off {E : Env} {a : Operand} {id o o' : Nat} (h : aev E a = some (.pointer (some ⟨id, o, none⟩))) (e : o = o') : aev E a = some (.pointer (some ⟨id, o', none⟩)) := e ▸ h
section
variable {ops : Array Oper} {n i : Nat} {os : List Oper} {E : Env} {M : Mem} {D : List Eff → Prop} {K : ASt → Prop}
  {d : Tmp} {ty : TypeId} {ps : String} {af : Array Edge} {g : Option (Nat × Bool)} {t : TypeId} {a x : Operand}
theorem yLJ {xs : List Fp} {id sz o : Nat} {rw : Bool} {es : Nat} (j : Nat) (hr : AWo Try.prog ops n (i + 1) os ⟨upd E d (.agg ((fe (xs.getD j 0)).map (vi .u64)).toArray), M⟩ (fun es => D (⟨[id], []⟩ :: es)) K)
        (ha : aev E a = some (.pointer (some ⟨id, o, none⟩)) := by exact rfl) (hb : M id = some ⟨((xs.map fe).flatten).map (vi .u64), rw, es⟩ := by exact rfl)
    (ht : Tb.agg.lookup t = some true := by exact rfl) (hs : Tb.sz.lookup t = some sz := by exact rfl) (hl : 4 = sz := by exact rfl) (hw : wantA ops E ⟨some d, .load t a, ty, ps, af, g⟩ = some true := by exact rfl) (hd : Nat.blt d n = true := by exact rfl) (hj : j < xs.length := by first | decide | omega | (simp only [List.length_cons, List.length_nil]; omega)) (ho : o = j * 4 := by omega) :
    AWo Try.prog ops n i (⟨some d, .load t a, ty, ps, af, g⟩ :: os) ⟨E, M⟩ D K :=
  yLEi (xs := xs) (j := j) hr (ptr_off ha (by omega)) hb hj ht hs hl hw hd
theorem ySE {xs vs : List Fp} {id o sz es : Nat} (j : Nat) (hr' : AWo Try.prog ops n (i + 1) os ⟨E, upd M id ⟨(((setE xs j vs).map fe).flatten).map (vi .u64), true, es⟩⟩ (fun es' => D (⟨[id], [(id, ⟨(((setE xs j vs).map fe).flatten).map (vi .u64), true, es⟩)]⟩ :: es')) K)
        (ha : aev E a = some (.pointer (some ⟨id, o, none⟩)) := by exact rfl) (hx : aev E x = some (.agg (((vs.map fe).flatten).map (vi .u64)).toArray) := by exact rfl) (hb : M id = some ⟨((xs.map fe).flatten).map (vi .u64), true, es⟩ := by exact rfl)
    (hs : Tb.sz.lookup t = some sz := by exact rfl) (hl : vs.length * 4 = sz := by exact rfl) (hw : wantA ops E ⟨none, .store t a x, ty, ps, af, g⟩ = some true := by exact rfl) (hj : j + vs.length ≤ xs.length := by first | decide | omega | (simp only [List.length_cons, List.length_nil, List.length_replicate, List.length_set, setE_len]; omega)) (ho : o = j * 4 := by omega) :
    AWo Try.prog ops n i (⟨none, .store t a x, ty, ps, af, g⟩ :: os) ⟨E, M⟩ D K := by
  subst ho
  have hl2 : (FF vs).length = sz := by rw [FF_len]; exact hl
  refine AWo.store tbok ha hx hb rfl (by show Tb.sz.lookup t = some (FF vs).toArray.size; rw [List.size_toArray, hl2]; exact hs) ?_ (by show (FF vs).all _ = true; exact oneM (fun _ => rfl) _) (setL_FFs vs xs j hj) hw hr'
  show j * 4 + (FF vs).toArray.size ≤ (FF xs).length
  rw [List.size_toArray, FF_len, FF_len]; omega
theorem ySJ {xs : List Fp} {y : Fp} {id o sz es : Nat} (j : Nat) (hr' : AWo Try.prog ops n (i + 1) os ⟨E, upd M id ⟨(((xs.set j y).map fe).flatten).map (vi .u64), true, es⟩⟩ (fun es' => D (⟨[id], [(id, ⟨(((xs.set j y).map fe).flatten).map (vi .u64), true, es⟩)]⟩ :: es')) K)
        (ha : aev E a = some (.pointer (some ⟨id, o, none⟩)) := by exact rfl) (hx : aev E x = some (.agg ((fe y).map (vi .u64)).toArray) := by exact rfl) (hb : M id = some ⟨((xs.map fe).flatten).map (vi .u64), true, es⟩ := by exact rfl)
    (hs : Tb.sz.lookup t = some sz := by exact rfl) (hl : 4 = sz := by exact rfl) (hw : wantA ops E ⟨none, .store t a x, ty, ps, af, g⟩ = some true := by exact rfl) (hj : j < xs.length := by first | decide | omega | (simp only [List.length_cons, List.length_nil, List.length_replicate, List.length_set, setE_len]; omega)) (ho : o = j * 4 := by omega) :
    AWo Try.prog ops n i (⟨none, .store t a x, ty, ps, af, g⟩ :: os) ⟨E, M⟩ D K :=
  ySE (vs := [y]) j hr' ha (by rw [hx]; simp) hb hs hl hw (by simp only [List.length_cons, List.length_nil]; omega) ho
end
end Go.Proofs.Yteeifahhejangaa
namespace Go.Proofs.Yteeifahhejangaa
open Go Sim Go.RowKit
def backQ (bx id n : Nat) (xs : List Fp) (M : Mem) : Prop := (∃ rw es, M bx = some ⟨[.slice (some ⟨id, 0, none⟩) n 0], rw, es⟩) ∧ ∃ rw es, M id = some ⟨((xs.map fe).flatten).map (vi .u64), rw, es⟩
def backE (xs : List Fp) (n k : Nat) : List Value := [vi .i64 (n - 1 - k), .agg ((fe (xs.getD (n - 1 - k) 0)).map (vi .u64)).toArray]
theorem Sim.Rep.sub {C : Ctx} {ρ : Rho} {E E' : Env} {M : Mem} {a : Act} {w : World} (h : Rep C ρ ⟨E, M⟩ a w) (hE : ∀ t v, E' t = some v → E t = some v) : Rep C ρ ⟨E', M⟩ a w :=
  ⟨h.size, h.defers, fun t v ht => h.env t v (hE t v ht), h.mem, h.agree, h.low, h.own, h.frame, h.im, h.imsub, h.imnew⟩
theorem sub2 {E : Env} {i j : Nat} {x y : Value} (h1 : E i = some x) (h2 : E j = some y) : ∀ t v, Sim.upd (Sim.upd (fun _ => none) i x) j y t = some v → E t = some v := by
  intro t v ht
  simp only [Sim.upd] at ht
  split at ht
  · rename_i e; subst e; rw [h2]; exact ht
  · split at ht
    · rename_i e; subst e; rw [h1]; exact ht
    · cases ht
set_option maxRecDepth 100000 in
theorem back_p {xs : List Fp} {bx id n m : Nat} (hb : bx < m) (hn : n ≤ xs.length) (hx : n < 4611686018427387904) : IterA Try.prog 128 [.pointer (some ⟨bx, 0, none⟩)] m (backQ bx id n xs) n (backE xs n) := by
  intro C hm l Inv Ext Jx hq hExt hY ρ M w rcaps hM h0 hw hc
  obtain ⟨u, rfl⟩ : ∃ u, rcaps = [u] := by
    have := hc.1
    match rcaps, this with
    | [u], _ => exact ⟨u, rfl⟩
  have hu : VR .real (fun i => i < C.m) C.ρ0 (.pointer (some ⟨bx, 0, none⟩)) u := by rw [hm]; exact hc.2 0 _ _ rfl rfl
  refine callsIn_of_wp (F := GF none) Try.func128 rfl trivial ?_ rfl
  obtain ⟨ax, hM⟩ := hM
  have hR := hM.reframe (C := { C with n := ax.tmps.size }) (n := 19) (E := Sim.upd (fun _ => none) 1 (.pointer (some ⟨bx, 0, none⟩))) (a := { tmps := (#[.func (.yield l) #[] #[]] ++ [u].toArray) ++ Array.replicate 17 undef, defers := [] }) (by simp) rfl (fun t v ht => by
    simp only [Sim.upd] at ht
    split at ht
    · rename_i e; subst e; cases ht
      exact ⟨u, by simp, VR.up (C := { C with n := ax.tmps.size }) hM hu⟩
    · cases ht)
  have hT : TS [(0, .func (.yield l) #[] #[]), (1, u)] { tmps := (#[.func (.yield l) #[] #[]] ++ [u].toArray) ++ Array.replicate 17 undef, defers := [] } := by
    intro p hp
    simp only [List.mem_cons, List.not_mem_nil, or_false] at hp
    rcases hp with rfl | rfl <;> simp
  obtain ⟨⟨rw0, es0, hbx⟩, _⟩ := hq 0 M h0
  refine wpIn_seq (wpIn_regionX hR rfl hT (K := fun σ => σ.mem = M ∧ σ.env 1 = some (.pointer (some ⟨bx, 0, none⟩)) ∧ σ.env 3 = some (vp n)) ?_ rfl rfl ?_)
  · refine yL1 ?_ rfl hbx
    refine yP (pL (k := n)) ?_
    refine yP (PureOp.subP (a := n) rfl rfl (by omega)) ?_
    refine yA ?_
    exact AWo.nil trivial ⟨rfl, rfl, rfl⟩
  intro ρ1 E1 M1 a1 w1 hR1 hK1 hT1
  obtain ⟨hm1, he1, he3⟩ := hK1
  have hm1 : M1 = M := hm1
  subst hm1
  have hE1 := hExt _ _ hw (hR.others hR1)
  refine wpIn_block (wpIn_loopK (I := fun r a w => r ≤ n ∧ ∃ ρ M, Rep { C with n := 19 } ρ ⟨(Sim.upd (Sim.upd (fun _ => none) 1 (.pointer (some ⟨bx, 0, none⟩))) 3 (vp r)), M⟩ a w ∧ Inv (n - r) M ∧ Ext w ∧ TS [(0, .func (.yield l) #[] #[]), (1, u)] a) ?_
    (k := n) ⟨Nat.le_refl _, ρ1, M1, ((hR.unbase (Nat.le_refl _) hR1).sub (sub2 he1 he3)), by rw [Nat.sub_self]; exact h0, hE1, hT1⟩)
  rintro r a w ⟨hr, ρ, M, hR, hi, hw, hT⟩
  refine wpIn_seq (wpIn_seq (wpIn_regionX hR rfl hT (K := fun σ => σ.mem = M ∧ σ.env 1 = some (.pointer (some ⟨bx, 0, none⟩)) ∧ σ.env 3 = some (vp r) ∧ σ.env 8 = some (.bool (decide (0 < r)))) ?_ rfl rfl ?_))
  · refine yM ?_
    refine yP (PureOp.geP (r := r) rfl rfl) ?_
    exact AWo.nil trivial ⟨rfl, rfl, rfl, rfl⟩
  rintro ρ1 E1 M1 a1 w1 hR1 ⟨hm1, he1, he3, he8⟩ hT1
  have hm1 : M1 = M := hm1
  subst hm1
  have hE1 := hExt _ _ hw (hR.others hR1)
  have hRc := hR.unbase (Nat.le_refl _) hR1
  obtain ⟨⟨rw0, es0, hbx⟩, ⟨rw1, es1, hid⟩⟩ := hq _ _ hi
  refine wpIn_cond_split (t := decide (0 < r)) (flat_inv (hRc.eval (x := .tmp 8) he8) rfl) (fun h0r => ?_) (fun h0r => ?_)
  · have h0r : 0 < r := of_decide_eq_true h0r
    obtain ⟨q, rfl⟩ : ∃ q, r = q + 1 := ⟨r - 1, by omega⟩
    rw [vp_succ] at he3
    refine wpIn_skip ?_
    have hk : backE xs n (n - (q + 1)) = [vi .i64 q, .agg ((fe (xs.getD q 0)).map (vi .u64)).toArray] := by simp only [backE, show n - 1 - (n - (q + 1)) = q by omega]
    refine wpIn_seq (wpIn_block (wpIn_seq (wpIn_yield (os := [_, _, _, _, _]) (n := 19) (d0 := 11) (dc := 17) (dn := 18) (l := l) (Ext := Ext) (Jx := Jx) (Nx := Inv (n - (q + 1) + 1)) (vs := [vi .i64 q, .agg ((fe (xs.getD q 0)).map (vi .u64)).toArray]) (E2 := (Sim.upd (Sim.upd (fun _ => none) 1 (.pointer (some ⟨bx, 0, none⟩))) 3 (vi .i64 q)))
      (hRc.sub (sub2 he1 he3)) rfl hT1 hE1 hExt rfl (by decide) rfl (by simp) (by decide) ?_ rfl rfl (fun ρ' w' rv h1 h2 h3 => hY _ ρ' M1 w' rv (by omega) h1 hi h2 (by rw [hk]; exact h3)) ?_ ?_)))
    · refine yM ?_
      refine yL1 ?_ rfl hbx
      refine yM ?_
      refine yP (pI (j := q) (n := n)) ?_
      refine yLJ (xs := xs) q ?_ rfl hid
      refine AWo.nil trivial ⟨rfl, rfl, fun t v ht => ?_⟩
      simp only [Sim.upd] at ht
      split at ht
      · rename_i e; subst e; cases ht
        exact ⟨by decide, by decide, .inl ⟨rfl, rfl⟩⟩
      · split at ht
        · rename_i e; subst e; cases ht
          exact ⟨by decide, by decide, .inr ⟨u, by simp, hu⟩⟩
        · cases ht
    · intro ρ2 M2 a2 w2 hnx hE2 hR2 hT2
      refine wpIn_cond_false (flat_inv (hR2.eval (x := .tmp 18) rfl) rfl) (wpIn_skip ?_)
      refine wpIn_regionX hR2 rfl hT2 (K := fun σ => σ.mem = M2 ∧ σ.env 1 = some (.pointer (some ⟨bx, 0, none⟩)) ∧ σ.env 3 = some (vp q)) ?_ rfl rfl ?_
      · refine yM ?_
        refine yP (PureOp.subP (a := q) rfl rfl (by omega)) ?_
        refine yA ?_
        exact AWo.nil trivial ⟨rfl, rfl, rfl⟩
      rintro ρ3 E3 M3 a3 w3 hR3 ⟨hm3, he13, he33⟩ hT3
      have hm3 : M3 = M2 := hm3
      subst hm3
      exact ⟨q, Nat.lt_succ_self q, by omega, ρ3, M3, (hR2.unbase (Nat.le_refl _) hR3).sub (sub2 he13 he33), by rw [show n - q = n - (q + 1) + 1 by omega]; exact hnx, hExt _ _ hE2 (hR2.others hR3), hT3⟩
    · intro a2 w2 hj h18 hd
      refine wpIn_cond_true (eval_of h18) (wpIn_ret ?_)
      exact ⟨hd, _, results_none rfl _ _ _, ⟨_, rfl⟩, .inr hj⟩
  · have h0r : r = 0 := by have := of_decide_eq_false h0r; omega
    subst h0r
    refine wpIn_exit ?_
    exact ⟨hRc.defers, _, results_none rfl _ _ _, ⟨_, rfl⟩, .inl ⟨ρ1, M1, hRc.toM, by simpa using hi, hE1⟩⟩
set_option maxRecDepth 100000 in
theorem back_e {xs : List Fp} {bx id n m : Nat} (hb : bx < m) (hn : n ≤ xs.length) (hx : n < 4611686018427387904) : IterA Try.prog 133 [.pointer (some ⟨bx, 0, none⟩)] m (backQ bx id n xs) n (backE xs n) := by
  intro C hm l Inv Ext Jx hq hExt hY ρ M w rcaps hM h0 hw hc
  obtain ⟨u, rfl⟩ : ∃ u, rcaps = [u] := by
    have := hc.1
    match rcaps, this with
    | [u], _ => exact ⟨u, rfl⟩
  have hu : VR .real (fun i => i < C.m) C.ρ0 (.pointer (some ⟨bx, 0, none⟩)) u := by rw [hm]; exact hc.2 0 _ _ rfl rfl
  refine callsIn_of_wp (F := GF none) Try.func133 rfl trivial ?_ rfl
  obtain ⟨ax, hM⟩ := hM
  have hR := hM.reframe (C := { C with n := ax.tmps.size }) (n := 19) (E := Sim.upd (fun _ => none) 1 (.pointer (some ⟨bx, 0, none⟩))) (a := { tmps := (#[.func (.yield l) #[] #[]] ++ [u].toArray) ++ Array.replicate 17 undef, defers := [] }) (by simp) rfl (fun t v ht => by
    simp only [Sim.upd] at ht
    split at ht
    · rename_i e; subst e; cases ht
      exact ⟨u, by simp, VR.up (C := { C with n := ax.tmps.size }) hM hu⟩
    · cases ht)
  have hT : TS [(0, .func (.yield l) #[] #[]), (1, u)] { tmps := (#[.func (.yield l) #[] #[]] ++ [u].toArray) ++ Array.replicate 17 undef, defers := [] } := by
    intro p hp
    simp only [List.mem_cons, List.not_mem_nil, or_false] at hp
    rcases hp with rfl | rfl <;> simp
  obtain ⟨⟨rw0, es0, hbx⟩, _⟩ := hq 0 M h0
  refine wpIn_seq (wpIn_regionX hR rfl hT (K := fun σ => σ.mem = M ∧ σ.env 1 = some (.pointer (some ⟨bx, 0, none⟩)) ∧ σ.env 3 = some (vp n)) ?_ rfl rfl ?_)
  · refine yL1 ?_ rfl hbx
    refine yP (pL (k := n)) ?_
    refine yP (PureOp.subP (a := n) rfl rfl (by omega)) ?_
    refine yA ?_
    exact AWo.nil trivial ⟨rfl, rfl, rfl⟩
  intro ρ1 E1 M1 a1 w1 hR1 hK1 hT1
  obtain ⟨hm1, he1, he3⟩ := hK1
  have hm1 : M1 = M := hm1
  subst hm1
  have hE1 := hExt _ _ hw (hR.others hR1)
  refine wpIn_block (wpIn_loopK (I := fun r a w => r ≤ n ∧ ∃ ρ M, Rep { C with n := 19 } ρ ⟨(Sim.upd (Sim.upd (fun _ => none) 1 (.pointer (some ⟨bx, 0, none⟩))) 3 (vp r)), M⟩ a w ∧ Inv (n - r) M ∧ Ext w ∧ TS [(0, .func (.yield l) #[] #[]), (1, u)] a) ?_
    (k := n) ⟨Nat.le_refl _, ρ1, M1, ((hR.unbase (Nat.le_refl _) hR1).sub (sub2 he1 he3)), by rw [Nat.sub_self]; exact h0, hE1, hT1⟩)
  rintro r a w ⟨hr, ρ, M, hR, hi, hw, hT⟩
  refine wpIn_seq (wpIn_seq (wpIn_regionX hR rfl hT (K := fun σ => σ.mem = M ∧ σ.env 1 = some (.pointer (some ⟨bx, 0, none⟩)) ∧ σ.env 3 = some (vp r) ∧ σ.env 8 = some (.bool (decide (0 < r)))) ?_ rfl rfl ?_))
  · refine yM ?_
    refine yP (PureOp.geP (r := r) rfl rfl) ?_
    exact AWo.nil trivial ⟨rfl, rfl, rfl, rfl⟩
  rintro ρ1 E1 M1 a1 w1 hR1 ⟨hm1, he1, he3, he8⟩ hT1
  have hm1 : M1 = M := hm1
  subst hm1
  have hE1 := hExt _ _ hw (hR.others hR1)
  have hRc := hR.unbase (Nat.le_refl _) hR1
  obtain ⟨⟨rw0, es0, hbx⟩, ⟨rw1, es1, hid⟩⟩ := hq _ _ hi
  refine wpIn_cond_split (t := decide (0 < r)) (flat_inv (hRc.eval (x := .tmp 8) he8) rfl) (fun h0r => ?_) (fun h0r => ?_)
  · have h0r : 0 < r := of_decide_eq_true h0r
    obtain ⟨q, rfl⟩ : ∃ q, r = q + 1 := ⟨r - 1, by omega⟩
    rw [vp_succ] at he3
    refine wpIn_skip ?_
    have hk : backE xs n (n - (q + 1)) = [vi .i64 q, .agg ((fe (xs.getD q 0)).map (vi .u64)).toArray] := by simp only [backE, show n - 1 - (n - (q + 1)) = q by omega]
    refine wpIn_seq (wpIn_block (wpIn_seq (wpIn_yield (os := [_, _, _, _, _]) (n := 19) (d0 := 11) (dc := 17) (dn := 18) (l := l) (Ext := Ext) (Jx := Jx) (Nx := Inv (n - (q + 1) + 1)) (vs := [vi .i64 q, .agg ((fe (xs.getD q 0)).map (vi .u64)).toArray]) (E2 := (Sim.upd (Sim.upd (fun _ => none) 1 (.pointer (some ⟨bx, 0, none⟩))) 3 (vi .i64 q)))
      (hRc.sub (sub2 he1 he3)) rfl hT1 hE1 hExt rfl (by decide) rfl (by simp) (by decide) ?_ rfl rfl (fun ρ' w' rv h1 h2 h3 => hY _ ρ' M1 w' rv (by omega) h1 hi h2 (by rw [hk]; exact h3)) ?_ ?_)))
    · refine yM ?_
      refine yL1 ?_ rfl hbx
      refine yM ?_
      refine yP (pI (j := q) (n := n)) ?_
      refine yLJ (xs := xs) q ?_ rfl hid
      refine AWo.nil trivial ⟨rfl, rfl, fun t v ht => ?_⟩
      simp only [Sim.upd] at ht
      split at ht
      · rename_i e; subst e; cases ht
        exact ⟨by decide, by decide, .inl ⟨rfl, rfl⟩⟩
      · split at ht
        · rename_i e; subst e; cases ht
          exact ⟨by decide, by decide, .inr ⟨u, by simp, hu⟩⟩
        · cases ht
    · intro ρ2 M2 a2 w2 hnx hE2 hR2 hT2
      refine wpIn_cond_false (flat_inv (hR2.eval (x := .tmp 18) rfl) rfl) (wpIn_skip ?_)
      refine wpIn_regionX hR2 rfl hT2 (K := fun σ => σ.mem = M2 ∧ σ.env 1 = some (.pointer (some ⟨bx, 0, none⟩)) ∧ σ.env 3 = some (vp q)) ?_ rfl rfl ?_
      · refine yM ?_
        refine yP (PureOp.subP (a := q) rfl rfl (by omega)) ?_
        refine yA ?_
        exact AWo.nil trivial ⟨rfl, rfl, rfl⟩
      rintro ρ3 E3 M3 a3 w3 hR3 ⟨hm3, he13, he33⟩ hT3
      have hm3 : M3 = M2 := hm3
      subst hm3
      exact ⟨q, Nat.lt_succ_self q, by omega, ρ3, M3, (hR2.unbase (Nat.le_refl _) hR3).sub (sub2 he13 he33), by rw [show n - q = n - (q + 1) + 1 by omega]; exact hnx, hExt _ _ hE2 (hR2.others hR3), hT3⟩
    · intro a2 w2 hj h18 hd
      refine wpIn_cond_true (eval_of h18) (wpIn_ret ?_)
      exact ⟨hd, _, results_none rfl _ _ _, ⟨_, rfl⟩, .inr hj⟩
  · have h0r : r = 0 := by have := of_decide_eq_false h0r; omega
    subst h0r
    refine wpIn_exit ?_
    exact ⟨hRc.defers, _, results_none rfl _ _ _, ⟨_, rfl⟩, .inl ⟨ρ1, M1, hRc.toM, by simpa using hi, hE1⟩⟩
end Go.Proofs.Yteeifahhejangaa
namespace Go.Proofs.Yteeifahhejangaa
open Go Sim
theorem backwp_ctr {xs : List Fp} {n : Nat} : GC Try.prog 90 [.slice (some ⟨0, 0, none⟩) n 0] [⟨((xs.map fe).flatten).map (vi .u64), false, 4⟩] [.func (.func 128) #[] #[.pointer (some ⟨1, 0, none⟩)]]
    [⟨((xs.map fe).flatten).map (vi .u64), false, 4⟩, ⟨[.slice (some ⟨0, 0, none⟩) n 0], true, 1⟩] := by
  refine GC.intro Try.func90 rfl (by show 1 ≤ 4; decide) (Nat.le_succ _) ?_
  refine AW.seqR ?_
  refine yO 2000 1 _ ?_
  refine yA ?_
  refine zN ?_
  refine AW.seqR ?_
  refine yP (PureOp.makeFunc (xs := #[]) (ys := #[.pointer (some ⟨2000, 0, none⟩)]) rfl (by simp) (by simp [aev, Sim.upd]) ) ?_
  refine yA ?_
  refine zN ?_
  refine AW.ret ?_
  exact rq [2000] [.tmp 2] (hres := .cons rfl rfl .nil) (hb := OutL.flat rfl (flatM flat_vi) (by intro h; first | exact h | rfl | exact h.elim id fun h => absurd h.1 (by simp)) (OutL.whole rfl rfl (OkL.all rfl) (fun _ => rfl) trivial))
theorem backwe_ctr {xs : List Fp} {n : Nat} : GC Try.prog 97 [.slice (some ⟨0, 0, none⟩) n 0] [⟨((xs.map fe).flatten).map (vi .u64), false, 4⟩] [.func (.func 133) #[] #[.pointer (some ⟨1, 0, none⟩)]]
    [⟨((xs.map fe).flatten).map (vi .u64), false, 4⟩, ⟨[.slice (some ⟨0, 0, none⟩) n 0], true, 1⟩] := by
  refine GC.intro Try.func97 rfl (by show 1 ≤ 4; decide) (Nat.le_succ _) ?_
  refine AW.seqR ?_
  refine yO 2000 1 _ ?_
  refine yA ?_
  refine zN ?_
  refine AW.seqR ?_
  refine yP (PureOp.makeFunc (xs := #[]) (ys := #[.pointer (some ⟨2000, 0, none⟩)]) rfl (by simp) (by simp [aev, Sim.upd]) ) ?_
  refine yA ?_
  refine zN ?_
  refine AW.ret ?_
  exact rq [2000] [.tmp 2] (hres := .cons rfl rfl .nil) (hb := OutL.flat rfl (flatM flat_vi) (by intro h; first | exact h | rfl | exact h.elim id fun h => absurd h.1 (by simp)) (OutL.whole rfl rfl (OkL.all rfl) (fun _ => rfl) trivial))
def hiN (xs : List Fp) : Nat → Nat
  | 0 => 0
  | n + 1 => if xs.getD n 0 = 0 then hiN xs n else n + 1
def dgM (xs : List Fp) (n : Nat) (v : Value) : Mem := Sim.upd (Sim.upd (Sim.upd (fun _ => none) 0 ⟨((xs.map fe).flatten).map (vi .u64), false, 4⟩) 1 ⟨[v], true, 1⟩) 2 ⟨[.slice (some ⟨0, 0, none⟩) n 0], true, 1⟩
theorem encE2 {E : Env} {i j : Tmp} {x y : Value} : encE E [i, j] [x, y] = Sim.upd (Sim.upd E i x) j y := rfl
theorem degree_ctr {xs : List Fp} {n : Nat} (hn : n ≤ xs.length) (hx : n < 4611686018427387904) : GC Try.prog 36 [.slice (some ⟨0, 0, none⟩) n 0] [⟨((xs.map fe).flatten).map (vi .u64), false, 4⟩] [vp (hiN xs n)]
    [⟨((xs.map fe).flatten).map (vi .u64), false, 4⟩] := by
  refine GC.introD Try.func36 rfl (by show 1 ≤ 13; decide) (Nat.le_refl _) ?_
  refine AWd.firstR ?_
  refine yN 1 1 _ ?_
  refine zN ?_
  refine AWd.seq ?_
  refine AWd.firstR ?_
  refine yM ?_
  refine yC (backwp_ctr (xs := xs) (n := n)) bd90 [(0, 0)] [2] ?_
  refine zN ?_
  refine AWd.block (AWd.weaken (fm := []) (τ := ⟨Sim.upd (Sim.upd (fun _ => none) 2 (.pointer (some ⟨1, 0, none⟩))) 6 (.func (.func 128) #[] #[.pointer (some ⟨2, 0, none⟩)]), dgM xs n (vi .i64 0)⟩)
    (wk [0, 1, 2] (hE := WkE.upd rfl (okVI_rel (ids := [2]) (by simp) rfl (dom_all rfl) rfl) (WkE.upd rfl (.ptr _ _ ⟨_, rfl⟩) WkE.emp))) ?_)
  refine AWd.range (back_p (xs := xs) (bx := 2) (id := 0) (n := n) (m := 3) (by omega) hn hx) (Sim.upd (fun _ => none) 2 (.pointer (some ⟨1, 0, none⟩)))
    (fun k M => M = dgM xs n (vi .i64 0) ∧ hiN xs n = hiN xs (n - k)) (fun M => ∃ i, M = dgM xs n (vi .i64 i) ∧ hiN xs n = i + 1)
    (by show 1 ≤ 3; decide) rfl ?_ ?_ (fun args w => run_callFunc bd128 args w) ?_ (fun _ => rfl) (by decide) ⟨rfl, rfl⟩ ?_ ?_ ?_ ?_
  · intro v hv
    simp only [List.mem_cons, List.not_mem_nil, or_false] at hv
    subst hv; exact Low.ptr (by decide)
  · intro i hi
    match i, hi with
    | 0, _ => exact ⟨_, rfl⟩
    | 1, _ => exact ⟨_, rfl⟩
    | 2, _ => exact ⟨_, rfl⟩
  · intro t v ht
    simp only [Sim.upd] at ht
    split at ht
    · rename_i e; subst e; cases ht
      exact ⟨rfl, Low.ptr (by decide)⟩
    · cases ht
  · rintro k M ⟨rfl, _⟩
    exact ⟨⟨_, _, rfl⟩, ⟨_, _, rfl⟩⟩
  · rintro k M hk ⟨rfl, hh⟩
    obtain ⟨q, hq⟩ : ∃ q, q = n - 1 - k := ⟨_, rfl⟩
    have he : backE xs n k = [vi .i64 q, .agg ((fe (xs.getD q 0)).map (vi .u64)).toArray] := by rw [hq]; rfl
    rw [he, show n - k = q + 1 by omega] at *
    rw [encE2]
    refine AWX.seqR ?_
    refine yA ?_
    refine zN ?_
    refine AWX.region ?_
    refine yN 5000 1 _ ?_
    refine ySA ?_
    refine zN ?_
    refine AWX.block (AWX.seqR ?_)
    refine yLE ?_
    refine yC (iszeroF_ctr (x := xs.getD q 0)) bd46 [] [] ?_
    refine yP (PureOp.not rfl) ?_
    refine zN ?_
    refine AWX.cond rfl (fun h => ?_) (fun h => ?_)
    · have hz : ¬ xs.getD q 0 = 0 := by simpa using h
      refine AWX.seqR ?_
      refine yM ?_
      refine AWo.store1 tbok rfl rfl rfl rfl rfl (by simp) rfl rfl ?_
      refine zN ?_
      refine AWX.ret ?_
      exact ⟨[], ⟨fun _ => none, dgM xs n (vi .i64 q)⟩, wk [0, 1, 2], .inr ⟨rfl, q, rfl, by rw [hh, hiN, if_neg hz]⟩⟩
    · have hz : xs.getD q 0 = 0 := by simpa using h
      refine AWX.skip ?_
      exact ⟨[], ⟨fun _ => none, dgM xs n (vi .i64 0)⟩, wk [0, 1, 2], .inl ⟨rfl, rfl, by rw [hh, hiN, if_pos hz, show n - (k + 1) = q by omega]⟩⟩
  · rintro M ⟨rfl, hh⟩
    rw [Nat.sub_self] at hh
    refine AWd.ofX (AWX.seqR ?_)
    refine AWo.store1 tbok rfl rfl rfl rfl rfl (by simp) rfl rfl ?_
    refine zN ?_
    refine AWX.ret ?_
    rw [hh]
    exact rq [] [.cell 2 3]
  · rintro M ⟨i, rfl, hh⟩
    rw [hh, vp_succ]
    exact rq [] [.cell 2 3]
end Go.Proofs.Yteeifahhejangaa
namespace Go.Proofs.Yteeifahhejangaa
open Go Sim
theorem FF_cut {xs : List Fp} {n : Nat} : ((FF xs).drop 0).take (n * 4) = FF (xs.take n) := by rw [List.drop_zero, FF_take]
theorem clonep_ctr {xs : List Fp} {n : Nat} (hn : n ≤ xs.length) (hx : n < 1000000) : GC Try.prog 98 [.slice (some ⟨0, 0, none⟩) n 0] [⟨((xs.map fe).flatten).map (vi .u64), false, 4⟩] [.slice (some ⟨1, 0, none⟩) n 0]
    [⟨((xs.map fe).flatten).map (vi .u64), false, 4⟩, ⟨(((xs.take n).map fe).flatten).map (vi .u64), true, 4⟩] := by
  refine GC.intro Try.func98 rfl (by show 1 ≤ 8; decide) (Nat.le_succ _) ?_
  by_cases h0 : n = 0
  · subst h0
    refine AW.nilCase (t := 0) rfl ?_ ?_
    · refine AW.ghost 9000 4 rfl ?_
      refine zS ?_
      refine yA ?_
      refine zN (zQ (zS ?_))
      refine yM ?_
      refine yP (PureOp.nilEqNilS Try.underlying48 rfl) ?_
      refine zN (zC (zS ?_))
      refine yA ?_
      refine zN (zE ?_)
      exact rq [9000] [.tmp 2]
    · refine zS ?_
      refine yA ?_
      refine zN (zQ (zS ?_))
      refine yM ?_
      refine yP (PureOp.slEqDead Try.underlying48 rfl) ?_
      refine zN (zF (zK (zT (zS ?_))))
      refine AWo.buildSlice tbok 6000 [] (out := []) rfl rfl (by decide) rfl rfl rfl (by decide) rfl rfl rfl rfl rfl ?_
      refine yM ?_
      refine yP (PureOp.append0 Try.underlying48 (tbok.sz _ _ rfl) rfl rfl) ?_
      refine yA ?_
      refine zN (zE ?_)
      exact rq [6000] [.tmp 2]
  · refine zS ?_
    refine yA ?_
    refine zN (zQ (zS ?_))
    refine yM ?_
    refine yP (PureOp.slEqNil Try.underlying48 rfl h0) ?_
    refine zN (zF (zK (zT (zS ?_))))
    refine AWo.buildSlice tbok 6000 [] (out := []) rfl rfl (by decide) rfl rfl rfl (by decide) rfl rfl rfl rfl rfl ?_
    refine yM ?_
    refine AWo.append tbok (all := FF (xs.take n)) (news := FF (xs.take n)) 8000 rfl rfl rfl rfl rfl FF_cut (by rw [Nat.zero_add]; show n * 4 ≤ (FF xs).length; rw [FF_len]; omega) (by decide) rfl rfl rfl (by decide) rfl rfl rfl (by omega) (by omega) (oneM (fun _ => rfl) _) rfl rfl rfl ?_
    refine yA ?_
    refine zN (zE ?_)
    exact rq [8000] [.tmp 2] (hres := (.cons rfl (by simp [ren, ren1, hmap]) .nil))
end Go.Proofs.Yteeifahhejangaa
